/- The walk of the document's Send at places that are there, in order. -/
import Derived.Test.YtooikmialpfdkaaFH
import Derived.Deep.LoopGhost
import Derived.Test.YtooikmialpfdkaaFr
namespace Go.Proofs.Ytooikmialpfdkaa
open Go.RowKit
set_option linter.unusedVariables false
set_option linter.unusedSimpArgs false
theorem str_app (a b : List Int) : strOfNums (a ++ b) = strOfNums a ++ strOfNums b := by apply ByteArray.ext; simp [strOfNums]
theorem conv1 (W : World) (y : Int) (B : Nat) (hB : W.heap.size = B) : (convert 45 9 (.slice (some ⟨B, 0, none⟩) 1 1)).run Try.prog (W.alloc (.cells #[.int .u8 y] 5)) = .ok (.string (strOfNums [y])) (W.alloc (.cells #[.int .u8 y] 5)) := by
  subst hB
  refine run_convert_bytes_arg _ 45 5 Try.underlying45 Try.underlying5 W.heap.size 0 1 1 [y] rfl (fun i hi => ?_) 9 Try.underlying9
  obtain rfl : i = 0 := by omega
  simp [go_sem]
/-- What is sent ahead of column c of row r. -/
def partOut (G : Grid) (fr fc tr tc r c : Nat) : List Int := sendRows G fr fc tr tc (r - fr) ++ (rowOut (G.gd r) (G.gl r) (beginOf fr fc r) (c - beginOf fr fc r)).1
def partSent (G : Grid) (fr fc r c : Nat) : Bool := (rowOut (G.gd r) (G.gl r) (beginOf fr fc r) (c - beginOf fr fc r)).2
theorem part_skip {G : Grid} {fr fc tr tc r c : Nat} (hb : beginOf fr fc r ≤ c) (g : G.gd r c = true) : partOut G fr fc tr tc r (c + 1) = partOut G fr fc tr tc r c ∧ partSent G fr fc r (c + 1) = partSent G fr fc r c := by
  have e : c + 1 - beginOf fr fc r = (c - beginOf fr fc r) + 1 := by omega
  unfold partOut partSent
  rw [e, rowOut_skip _ _ _ _ (by rw [show beginOf fr fc r + (c - beginOf fr fc r) = c by omega]; exact g)]
  exact ⟨rfl, rfl⟩
theorem part_add {G : Grid} {fr fc tr tc r c : Nat} (hb : beginOf fr fc r ≤ c) (g : G.gd r c = false) (hs : partSent G fr fc r c = true → G.gd r (c - 1) = false) :
    partOut G fr fc tr tc r (c + 1) = partOut G fr fc tr tc r c ++ [byteOf (G.gl r c)] ∧ partSent G fr fc r (c + 1) = true := by
  have e : c + 1 - beginOf fr fc r = (c - beginOf fr fc r) + 1 := by omega
  have e2 : beginOf fr fc r + (c - beginOf fr fc r) = c := by omega
  unfold partOut partSent at *
  rw [e, rowOut_add _ _ _ _ (by rw [e2]; exact g) (by rw [e2]; exact hs), e2]
  exact ⟨by simp, rfl⟩
theorem part_sep {G : Grid} {fr fc tr tc r c : Nat} (hb : beginOf fr fc r ≤ c) (g : G.gd r c = false) (hs : partSent G fr fc r c = true) (h1 : G.gd r (c - 1) = true) :
    partOut G fr fc tr tc r (c + 1) = (partOut G fr fc tr tc r c ++ [28]) ++ [byteOf (G.gl r c)] ∧ partSent G fr fc r (c + 1) = true := by
  have e : c + 1 - beginOf fr fc r = (c - beginOf fr fc r) + 1 := by omega
  have e2 : beginOf fr fc r + (c - beginOf fr fc r) = c := by omega
  unfold partOut partSent at *
  rw [e, rowOut_sep _ _ _ _ (by rw [e2]; exact g) hs (by rw [e2]; exact h1), e2]
  exact ⟨by simp, rfl⟩
theorem part_sent {G : Grid} {fr fc r c : Nat} (h : partSent G fr fc r c = true) : 1 ≤ c := by
  have := rowOut_sent _ _ _ _ h
  omega
theorem part_row {G : Grid} {fr fc tr tc r : Nat} (h0 : fr ≤ r) (h1 : r < tr) (hm : 1 ≤ G.len 0) (hb : beginOf fr fc r ≤ G.len 0) :
    partOut G fr fc tr tc (r + 1) 0 = partOut G fr fc tr tc r (G.len 0) ++ [31] ∧ partSent G fr fc (r + 1) 0 = false := by
  have e : r + 1 - fr = (r - fr) + 1 := by omega
  have e2 : fr + (r - fr) = r := by omega
  have e3 : beginOf fr fc (r + 1) = 0 := by unfold beginOf; rw [if_neg (by omega)]
  have e4 : endOf (G.len 0) tr tc r = G.len 0 - 1 := by unfold endOf; rw [if_neg (by omega)]
  unfold partOut partSent
  rw [e, e3, sendRows, e2, if_pos h1, e4, show G.len 0 - 1 + 1 - beginOf fr fc r = G.len 0 - beginOf fr fc r by omega]
  exact ⟨by simp [rowOut], rfl⟩
theorem part_end {G : Grid} {fr fc tr tc : Nat} (h0 : fr ≤ tr) : sendOut G fr fc tr tc = partOut G fr fc tr tc tr (tc + 1) := by
  unfold sendOut partOut
  have e4 : endOf (G.len 0) tr tc tr = tc := by unfold endOf; rw [if_pos rfl]
  rw [show tr + 1 - fr = (tr - fr) + 1 by omega, sendRows, show fr + (tr - fr) = tr by omega, e4, if_neg (by omega)]
  simp
theorem part_start {G : Grid} {fr fc tr tc : Nat} : partOut G fr fc tr tc fr fc = [] ∧ partSent G fr fc fr fc = false := by
  have e3 : beginOf fr fc fr = fc := by unfold beginOf; rw [if_pos rfl]
  unfold partOut partSent
  rw [e3, Nat.sub_self, Nat.sub_self]
  exact ⟨by simp [sendRows, rowOut], rfl⟩
theorem part_len {G : Grid} {fr fc tr tc r c : Nat} (hm : G.len 0 ≤ 255) (htc : tc ≤ 255) (hr : r ≤ 255) (hc : c ≤ 255) : (partOut G fr fc tr tc r c).length ≤ 300000 := by
  have h1 := sendRows_len G fr fc tr tc hm htc (r - fr)
  have h2 := rowOut_len (G.gd r) (G.gl r) (beginOf fr fc r) (c - beginOf fr fc r)
  unfold partOut
  simp only [List.length_append]
  omega
set_option maxRecDepth 100000 in
set_option maxHeartbeats 8000000 in
theorem rsend_ok (G : Grid) (fr fc tr tc : Nat) (w : World) (h : G.In w.heap.size w) (hok : G.Ok) (hf : G.thereP fr fc) (ht : G.thereP tr tc) (hle : fr < tr ∨ (fr = tr ∧ fc ≤ tc)) :
    Fn w 16 #[G.v, posV fr fc, posV tr tc] (.tuple #[.string (strOfNums (sendOut G fr fc tr tc)), .int .i64 0]) := by
  have HC : ∀ W, Below w.heap.size w W → Fn W 17 #[G.v] (.bool true) := fun W hW => by
    have := right_any G W (h.later hW hW.size)
    rwa [okB_yes hok] at this
  have HT : ∀ W, Below w.heap.size w W → ∀ r c, Fn W 10 #[G.v, .agg #[.int .i64 r, .int .i64 c]] (.bool (G.thereB r c)) := fun W hW r c => by
    have := rthere_any G r c W (h.later hW hW.size)
    rwa [okB_yes hok, Bool.true_and] at this
  have HO : ∀ W, Below w.heap.size w W → ∀ r c : Nat, G.thereP r c → Fn W 25 #[G.v, .agg #[.int .i64 r, .int .i64 c]] (.bool (!G.gd r c)) := fun W hW r c ht => ropen_yes G r c W (h.later hW hW.size) hok ht
  have bf := thereB_iff.2 hf
  have bt := thereB_iff.2 ht
  have hn : 0 < G.n := hok.1
  unfold Fn Grid.v posV at *
  obtain ⟨b, off, ea, hb, hc⟩ := h.rows hn
  rw [ea] at HC HT HO ⊢
  have HC' := Lib.hid HC
  have HT' := Lib.hid HT
  have HO' := Lib.hid HO
  have H := Lib.hid h
  have Hok := Lib.hid hok
  have Hc := Lib.hid hc
  have Hf := Lib.hid hf
  have Ht := Lib.hid ht
  have Hle := Lib.hid hle
  have g1 : ¬ (tr : Int) < (fr : Int) := by omega
  have g1n : ¬ tr < fr := by omega
  clear HC HT HO h hok hc hf ht hle ea
  go_enter Try.func16, Try.ntmps16
  go_wp2_with fail
  refine (HC'.out _ (bel_alloc (bel_alloc (Below.refl _ _) _) _)).mono ?_
  rintro e w1 ⟨rfl, hb1⟩
  have B1 : Below w.heap.size w w1 := bel_call (bel_alloc (bel_alloc (Below.refl _ _) _) _) hb1
  have hz := hb1.size
  simp at hz
  have k0 := hb1.cell (p := ⟨w.heap.size, 0, none⟩) (by simp; omega)
  have k1 := hb1.cell (p := ⟨w.heap.size, 1, none⟩) (by simp; omega)
  have k2 := hb1.cell (p := ⟨w.heap.size + 1, 0, none⟩) (by simp)
  have k3 := hb1.cell (p := ⟨w.heap.size + 1, 1, none⟩) (by simp)
  simp [go_sem] at k0 k1 k2 k3
  have hz1 : w.heap.size + 1 < w1.heap.size := by omega
  clear hz hb1 HC'
  go_wp2_with fail
  refine (HT'.out _ B1 _ _).mono ?_
  rintro e w2 ⟨rfl, hb2⟩
  have B2 := bel_call B1 hb2
  have k0' := (hb2.cell (p := ⟨w.heap.size, 0, none⟩) (by simp; omega)).trans k0
  have k1' := (hb2.cell (p := ⟨w.heap.size, 1, none⟩) (by simp; omega)).trans k1
  have k2' := (hb2.cell (p := ⟨w.heap.size + 1, 0, none⟩) hz1).trans k2
  have k3' := (hb2.cell (p := ⟨w.heap.size + 1, 1, none⟩) hz1).trans k3
  have hz2 : w.heap.size + 1 < w2.heap.size := by have := hb2.size; omega
  clear k0 k1 k2 k3 hb2
  go_wp2_with fail
  refine (HT'.out _ B2 _ _).mono ?_
  rintro e w3 ⟨rfl, hb3⟩
  have B3 := bel_call B2 hb3
  have k0 := (hb3.cell (p := ⟨w.heap.size, 0, none⟩) (by simp; omega)).trans k0'
  have k1 := (hb3.cell (p := ⟨w.heap.size, 1, none⟩) (by simp; omega)).trans k1'
  have k2 := (hb3.cell (p := ⟨w.heap.size + 1, 0, none⟩) hz2).trans k2'
  have k3 := (hb3.cell (p := ⟨w.heap.size + 1, 1, none⟩) hz2).trans k3'
  have hz3 : w.heap.size + 1 < w3.heap.size := by have := hb3.size; omega
  clear k0' k1' k2' k3' hb3 B1 B2
  rcases Hle.out with h1 | ⟨h1, h2⟩
  case' inl => (
    have q2 : ((tr : Int) == (fr : Int)) = false := by (simp; omega)
    have q2n : ¬ tr = fr := by omega
    clear h1
    go_wp2_with fail)
  case' inr => (
    have q3 : ¬ (tc : Int) < (fc : Int) := by omega
    have q3n : ¬ tc < fc := by omega
    have q2 : ((tr : Int) == (fr : Int)) = true := by (simp; omega)
    have q2n : decide (tr = fr) = true := by (simp; omega)
    clear h1 h2
    go_wp2_with fail)
  all_goals (
    have hlf : fr ≤ tr := by rcases Hle.out with h | h <;> omega
    clear q2 q2n g1 g1n
    try clear q3 q3n
    go_loopg [8, 9, 10] ((tr - fr) * 300 + (300 - fc)) (fun k o f p wr => ∃ r c : Nat, fr ≤ r ∧ r ≤ tr ∧ beginOf fr fc r ≤ c ∧ c ≤ endOf (G.len 0) tr tc r ∧ (tr - r) * 300 + (300 - c) = k ∧ o = .string (strOfNums (partOut G fr fc tr tc r c)) ∧ f = .bool (!partSent G fr fc r c) ∧
      (∃ bp, w3.heap.size ≤ bp ∧ p = .pointer (some ⟨bp, 0, none⟩) ∧ wr.cell? ⟨bp, 0, none⟩ = some (.int .i64 (r : Int)) ∧ wr.cell? ⟨bp, 1, none⟩ = some (.int .i64 (c : Int)) ∧ wr.frozen? ⟨bp, 0, none⟩ = false ∧ wr.frozen? ⟨bp, 1, none⟩ = false) ∧ Below w3.heap.size w3 wr)
    case atStart =>
      refine ⟨fr, fc, Nat.le_refl _, hlf, by simp [beginOf], ?_, rfl, by rw [(part_start (G := G) (fr := fr) (fc := fc) (tr := tr) (tc := tc)).1]; rfl, by rw [(part_start (G := G) (fr := fr) (fc := fc) (tr := tr) (tc := tc)).2]; rfl, ⟨w3.heap.size, Nat.le_refl _, rfl, by simp [go_sem], by simp [go_sem], by simp [go_sem], by simp [go_sem]⟩, bel_alloc (Below.refl _ _) _⟩
      unfold endOf
      split
      · rcases Hle.out with h | h <;> omega
      · have := Hf.out.2.2.2; omega
    case round =>
      obtain ⟨r, c, hr1, hr2, hc1, hc2, hk, rfl, rfl, ⟨bp, hbp, rfl, p0, p1, z0, z1⟩, hbr⟩ := hrel
      have HK := Lib.hid hk
      clear hk
      obtain ⟨n1, n2, hg⟩ := Hok.out
      obtain ⟨_, t1, _, t3⟩ := Ht.out
      have hrn : r < G.n := by omega
      obtain ⟨m1, m2, m3⟩ := hg r hrn
      have m2' := m2
      rw [m3] at m1 m2
      have hcl : c < G.len 0 := by
        have : endOf (G.len 0) tr tc r ≤ G.len 0 - 1 := by unfold endOf; split <;> omega
        omega
      have crw := Hc.out r hrn
      obtain ⟨rb, ro, er, hrb, hcc⟩ := H.out.cells r hrn (by omega)
      rw [er, m3] at crw
      rw [m3] at hcc
      have BX : Below w.heap.size w wr := bel_call B3 hbr
      have hO := HO'.out wr BX r c ⟨by omega, by omega, by omega, by omega⟩
      obtain ⟨q, hq⟩ : ∃ q, (!G.gd r c) = q := ⟨_, rfl⟩
      rw [hq] at hO
      have HQ := Lib.hid hq
      clear hq
      have hLn := part_len (G := G) (fr := fr) (fc := fc) (tr := tr) (tc := tc) (r := r) (c := c) m2 (by omega) (by omega) (by omega)
      have hAs : (strOfNums (partOut G fr fc tr tc r c)).size ≤ 300000 := by rw [strOfNums_size]; exact hLn
      have Hcc := Lib.hid hcc
      have HO2 := Lib.hid hO
      have M := Lib.hid (show 1 ≤ G.len 0 ∧ G.len 0 ≤ 255 ∧ r < 255 from ⟨m1, m2, by omega⟩)
      have hbpr : bp < wr.heap.size := (cell_at p0).2
      have Hr := Lib.hid (show fr ≤ r ∧ r ≤ tr ∧ beginOf fr fc r ≤ c ∧ c ≤ endOf (G.len 0) tr tc r from ⟨hr1, hr2, hc1, hc2⟩)
      have hgl := Lib.hid (H.out.glyphs r hrn c (by omega))
      clear hcc hO er m3 m2' m1 m2 n1 n2 hg hLn t1 t3 hr1 hr2 hc1 hc2
      generalize hA : strOfNums (partOut G fr fc tr tc r c) = A at *
      have HA := Lib.hid hA
      clear hA
      generalize hS : partSent G fr fc r c = sv at *
      have HSV := Lib.hid hS
      clear hS
      go_upto_if 48 with (refine (HO2.out).mono ?_; rintro e w5 ⟨rfl, hb5⟩)
      have x0 := (hb5.cell (p := ⟨bp, 0, none⟩) hbpr).trans p0
      have x1 := (hb5.cell (p := ⟨bp, 1, none⟩) hbpr).trans p1
      have y0 := (hb5.frozen (p := ⟨bp, 0, none⟩) hbpr).trans z0
      have y1 := (hb5.frozen (p := ⟨bp, 1, none⟩) hbpr).trans z1
      have B5 : Below w3.heap.size w3 w5 := hbr.trans (hb5.mono hbr.size)
      have hz5 : w3.heap.size ≤ w5.heap.size := B5.size
      have hbp5 : bp < w5.heap.size := by have := hb5.size; omega
      have hs3 : w.heap.size ≤ w3.heap.size := B3.size
      have r5 := ((B3.trans (B5.mono B3.size)).cell (p := ⟨b, off + r, none⟩) hb).trans crw
      have Crw := Lib.hid crw
      clear p0 p1 z0 z1 hb5 HO2 BX crw
      go_cut [8, 9] from 49 to 85 (fun o f wx => o = .string (strOfNums (partOut G fr fc tr tc r (c + 1))) ∧ f = .bool (!partSent G fr fc r (c + 1)) ∧ Below w5.heap.size w5 wx)
      case first =>
        cases q
        · have g : G.gd r c = true := by simpa using HQ.out
          obtain ⟨e1, e2⟩ := part_skip (tr := tr) (tc := tc) Hr.out.2.2.1 g
          have E := Lib.hid (show partOut G fr fc tr tc r (c + 1) = _ ∧ partSent G fr fc r (c + 1) = _ from ⟨e1, e2⟩)
          clear e1 e2 g
          go_wp2_with fail
          go_meet
          exact ⟨by rw [E.out.1, HA.out], by rw [E.out.2, HSV.out], Below.refl _ _⟩
        · have Gf := Lib.hid (show G.gd r c = false by simpa using HQ.out)
          have KB : ∀ W : World, Below w5.heap.size w5 W → (W.cell? ⟨bp, 0, none⟩ = some (.int .i64 (r : Int)) ∧ W.cell? ⟨bp, 1, none⟩ = some (.int .i64 (c : Int)) ∧ W.cell? ⟨b, off + r, none⟩ = some (.slice (some ⟨rb, ro, none⟩) (G.len 0) (G.rc r)) ∧ W.cell? ⟨rb, ro + c * 4, none⟩ = some (.int .i32 (G.gl r c))) ∧ Below w5.heap.size w5 W := fun W hW =>
            ⟨⟨(hW.cell (p := ⟨bp, 0, none⟩) hbp5).trans x0, (hW.cell (p := ⟨bp, 1, none⟩) hbp5).trans x1, (hW.cell (p := ⟨b, off + r, none⟩) (by simp; omega)).trans r5,
              (hW.cell (p := ⟨rb, ro + c * 4, none⟩) (by simp; omega)).trans (((B3.trans (B5.mono B3.size)).cell (p := ⟨rb, ro + c * 4, none⟩) hrb).trans (Hcc.out c hcl).1)⟩, hW⟩
          have HKB := Lib.hid KB
          have HB := Lib.hid (fun W => byte_any (G.gl r c) W hgl.out.1 hgl.out.2)
          unfold Fn at HB
          obtain ⟨Y, hY⟩ : ∃ Y, strOfNums [byteOf (G.gl r c)] = Y := ⟨_, rfl⟩
          have hYs : Y.size = 1 := by rw [← hY, strOfNums_size]; rfl
          have HY := Lib.hid hY
          have hcl' : (c : Int) < (G.len 0 : Int) := by omega
          have hrn' : (r : Int) < (G.n : Int) := by omega
          clear KB hY
          cases sv
          · obtain ⟨e1, e2⟩ := part_add (tr := tr) (tc := tc) Hr.out.2.2.1 Gf.out (fun e => by rw [HSV.out] at e; cases e)
            have E := Lib.hid (show partOut G fr fc tr tc r (c + 1) = _ ∧ partSent G fr fc r (c + 1) = _ from ⟨e1, e2⟩)
            have hsz : ¬ 9223372036854775807 < A.size + Y.size := by omega
            have hsz2 : ¬ 9223372036854775807 < A.size + 1 := by omega
            clear e1 e2
            go_wp2_with fail
            go_quiet (fail)
            go_wp2_with fail
            refine wp_region_held_drew (S := (fun W => (W.cell? ⟨bp, 0, none⟩ = some (.int .i64 (r : Int)) ∧ W.cell? ⟨bp, 1, none⟩ = some (.int .i64 (c : Int)) ∧ W.cell? ⟨b, off + r, none⟩ = some (.slice (some ⟨rb, ro, none⟩) (G.len 0) (G.rc r)) ∧ W.cell? ⟨rb, ro + c * 4, none⟩ = some (.int .i32 (G.gl r c))) ∧ Below w5.heap.size w5 W)) (by kernel_rfl) (HKB.out _ (by first | exact (Below.refl _ _).drew | exact (bel_drewN (Below.refl _ _) _).drew)) (fun hHeld => ?_)
            refine wpAnyH_step (i := 0) (d := some 71) (v := ?_) rfl rfl (by kernel_rfl) (by kernel_rfl) (by kernel_rfl) (fun _ _ _ h => h) (Or.inl ⟨by rfl, ?_⟩) (by assumption) ?_
            rotate_left
            · intro w hSw; (try dsimp only at hSw); go_simp; (try with_reducible rfl)
            try simp only [Act.put, List.setIfInBounds_toArray, List.set_cons_zero, List.set_cons_succ]
            refine wpAnyH_step (i := 1) (d := some 72) (v := ?_) rfl rfl (by kernel_rfl) (by kernel_rfl) (by kernel_rfl) (fun _ _ _ h => h) (Or.inl ⟨by rfl, ?_⟩) (by assumption) ?_
            rotate_left
            · intro w hSw; (try dsimp only at hSw); go_simp; (try with_reducible rfl)
            try simp only [Act.put, List.setIfInBounds_toArray, List.set_cons_zero, List.set_cons_succ]
            refine wpAnyH_step (i := 2) (d := some 73) (v := ?_) rfl rfl (by kernel_rfl) (by kernel_rfl) (by kernel_rfl) (fun _ _ _ h => h) (Or.inl ⟨by rfl, ?_⟩) (by assumption) ?_
            rotate_left
            · intro w hSw; (try dsimp only at hSw); go_simp; (try with_reducible rfl)
            try simp only [Act.put, List.setIfInBounds_toArray, List.set_cons_zero, List.set_cons_succ]
            refine wpAnyH_step (i := 3) (d := some 74) (v := ?_) rfl rfl (by kernel_rfl) (by kernel_rfl) (by kernel_rfl) (fun _ _ _ h => h) (Or.inl ⟨by rfl, ?_⟩) (by assumption) ?_
            rotate_left
            · intro w hSw; (try dsimp only at hSw); go_simp; (try with_reducible rfl)
            try simp only [Act.put, List.setIfInBounds_toArray, List.set_cons_zero, List.set_cons_succ]
            refine wpAnyH_step (i := 4) (d := some 75) (v := ?_) rfl rfl (by kernel_rfl) (by kernel_rfl) (by kernel_rfl) (fun _ _ _ h => h) (Or.inl ⟨by rfl, ?_⟩) (by assumption) ?_
            rotate_left
            · intro w hSw; (try dsimp only at hSw); go_simp; (try with_reducible rfl)
            try simp only [Act.put, List.setIfInBounds_toArray, List.set_cons_zero, List.set_cons_succ]
            refine wpAnyH_step (i := 5) (d := some 76) (v := ?_) rfl rfl (by kernel_rfl) (by kernel_rfl) (by kernel_rfl) (fun _ _ _ h => h) (Or.inl ⟨by rfl, ?_⟩) (by assumption) ?_
            rotate_left
            · intro w hSw; (try dsimp only at hSw); go_simp; (try with_reducible rfl)
            try simp only [Act.put, List.setIfInBounds_toArray, List.set_cons_zero, List.set_cons_succ]
            refine wpAnyH_step (i := 6) (d := some 77) (v := ?_) rfl rfl (by kernel_rfl) (by kernel_rfl) (by kernel_rfl) (fun _ _ _ h => h) (Or.inl ⟨by rfl, ?_⟩) (by assumption) ?_
            rotate_left
            · intro w hSw; (try dsimp only at hSw); go_simp; (try with_reducible rfl)
            try simp only [Act.put, List.setIfInBounds_toArray, List.set_cons_zero, List.set_cons_succ]
            refine wpAnyH_step (i := 7) (d := some 78) (v := ?_) rfl rfl (by kernel_rfl) (by kernel_rfl) (by kernel_rfl) (fun _ _ _ h => h) (Or.inl ⟨by rfl, ?_⟩) (by assumption) ?_
            rotate_left
            · intro w hSw; (try dsimp only at hSw); go_simp; (try with_reducible rfl)
            try simp only [Act.put, List.setIfInBounds_toArray, List.set_cons_zero, List.set_cons_succ]
            refine wpAnyH_step (i := 8) (d := some 79) (v := ?_) rfl rfl (by kernel_rfl) (by kernel_rfl) (by kernel_rfl) (fun _ _ _ h => h) (Or.inl ⟨by rfl, ?_⟩) (by assumption) ?_
            rotate_left
            · intro w hSw; (try dsimp only at hSw); go_simp; (try with_reducible rfl)
            try simp only [Act.put, List.setIfInBounds_toArray, List.set_cons_zero, List.set_cons_succ]
            refine wpAnyH_step (i := 9) (d := some 80) (v := ?_) rfl rfl (by kernel_rfl) (by kernel_rfl) (by kernel_rfl) (fun _ _ _ h => h) (Or.inl ⟨by rfl, ?_⟩) (by assumption) ?_
            rotate_left
            · intro w hSw; (try dsimp only at hSw); go_simp; (try with_reducible rfl)
            try simp only [Act.put, List.setIfInBounds_toArray, List.set_cons_zero, List.set_cons_succ]
            refine wpAnyH_step (i := 10) (d := some 81) (v := ?_) rfl rfl (by kernel_rfl) (by kernel_rfl) (by kernel_rfl) (fun _ _ _ h => h) (Or.inl ⟨by rfl, ?_⟩) (by assumption) ?_
            rotate_left
            · intro w hSw; (try dsimp only at hSw); go_simp; (try with_reducible rfl)
            try simp only [Act.put, List.setIfInBounds_toArray, List.set_cons_zero, List.set_cons_succ]
            refine wpAnyH_ready (rs := [11]) (by kernel_rfl) (by simp) ?_
            refine AllReadyH.cons rfl (fun K hK => ?_) AllReadyH.nil
            go_simp
            refine (HB.out _).mono ?_
            rintro e w6 ⟨rfl, hb6⟩
            (try go_wp2_with fail)
            refine hK.out _ _ ?_ (fun hHeld => ?_)
            · exact HKB.out _ (bel_call hHeld.2 hb6)
            clear hK K
            try simp only [Act.put, List.setIfInBounds_toArray, List.set_cons_zero, List.set_cons_succ]
            refine wpAnyH_ready (rs := [12]) (by kernel_rfl) (by simp) ?_
            refine AllReadyH.cons rfl (fun K hK => ?_) AllReadyH.nil
            go_simp
            have cv := conv1 w6 (byteOf (G.gl r c)) _ rfl
            rw [HY.out] at cv
            (try go_wp2_with fail)
            refine hK.out _ _ ?_ (fun hHeld => ?_)
            · exact HKB.out _ (bel_alloc hHeld.2 _)
            clear hK K
            try simp only [Act.put, List.setIfInBounds_toArray, List.set_cons_zero, List.set_cons_succ]
            refine wpAnyH_ready (rs := [13]) (by kernel_rfl) (by simp) ?_
            refine AllReadyH.cons rfl (fun K hK => ?_) AllReadyH.nil
            go_simp
            skip
            (try go_wp2_with fail)
            refine hK.out _ _ ?_ (fun hHeld => ?_)
            · exact hHeld
            clear hK K
            try simp only [Act.put, List.setIfInBounds_toArray, List.set_cons_zero, List.set_cons_succ]
            refine wpAnyH_step (i := 14) (d := some 85) (v := ?_) rfl rfl (by kernel_rfl) (by kernel_rfl) (by kernel_rfl) (fun _ _ _ h => h) (Or.inl ⟨by rfl, ?_⟩) (by assumption) ?_
            rotate_left
            · intro w hSw; (try dsimp only at hSw); go_simp; (try with_reducible rfl)
            try simp only [Act.put, List.setIfInBounds_toArray, List.set_cons_zero, List.set_cons_succ]
            refine wpAnyH_step (i := 15) (d := some 8) (v := ?_) rfl rfl (by kernel_rfl) (by kernel_rfl) (by kernel_rfl) (fun _ _ _ h => h) (Or.inl ⟨by rfl, ?_⟩) (by assumption) ?_
            rotate_left
            · intro w hSw; (try dsimp only at hSw); go_simp; (try with_reducible rfl)
            try simp only [Act.put, List.setIfInBounds_toArray, List.set_cons_zero, List.set_cons_succ]
            refine wpAnyH_done (by kernel_rfl) ?_ _
            have BF := hHeld.2
            go_wp2_with fail
            go_meet
            exact ⟨by rw [E.out.1, str_app, HA.out, HY.out], by rw [E.out.2]; rfl, BF⟩
          · have hk1 := part_sent HSV.out
            have q2 : (0 : Int) < (c : Int) := by omega
            have q2m : 0 < c := by omega
            have q2k : ¬ c = 0 := by omega
            have m255 := M.out.2.1
            have hw : IntKind.i64.wrap ((c : Int) - 1) = (c : Int) - 1 := IntWalk.i64_in _ (by omega)
            have q5 : (c : Int) - 1 < (G.len 0 : Int) := by omega
            clear m255
            have q3 : (1 : Int) ≤ (c : Int) := by omega
            have cd1 := ((B3.trans (B5.mono B3.size)).cell (p := ⟨rb, ro + (c - 1) * 4 + 2, none⟩) hrb).trans (Hcc.out (c - 1) (by omega)).2.2.1
            obtain ⟨q', hq'⟩ : ∃ q', G.gd r (c - 1) = q' := ⟨_, rfl⟩
            rw [hq'] at cd1
            cases q'
            · obtain ⟨e1, e2⟩ := part_add (tr := tr) (tc := tc) Hr.out.2.2.1 Gf.out (fun _ => hq')
              have E := Lib.hid (show partOut G fr fc tr tc r (c + 1) = _ ∧ partSent G fr fc r (c + 1) = _ from ⟨e1, e2⟩)
              have hsz : ¬ 9223372036854775807 < A.size + Y.size := by omega
              have hsz2 : ¬ 9223372036854775807 < A.size + 1 := by omega
              clear e1 e2 hq'
              go_wp2_with fail
              go_quiet (fail)
              go_wp2_with fail
              refine wp_region_held_drew (S := (fun W => (W.cell? ⟨bp, 0, none⟩ = some (.int .i64 (r : Int)) ∧ W.cell? ⟨bp, 1, none⟩ = some (.int .i64 (c : Int)) ∧ W.cell? ⟨b, off + r, none⟩ = some (.slice (some ⟨rb, ro, none⟩) (G.len 0) (G.rc r)) ∧ W.cell? ⟨rb, ro + c * 4, none⟩ = some (.int .i32 (G.gl r c))) ∧ Below w5.heap.size w5 W)) (by kernel_rfl) (HKB.out _ (by first | exact (Below.refl _ _).drew | exact (bel_drewN (Below.refl _ _) _).drew)) (fun hHeld => ?_)
              refine wpAnyH_step (i := 0) (d := some 71) (v := ?_) rfl rfl (by kernel_rfl) (by kernel_rfl) (by kernel_rfl) (fun _ _ _ h => h) (Or.inl ⟨by rfl, ?_⟩) (by assumption) ?_
              rotate_left
              · intro w hSw; (try dsimp only at hSw); go_simp; (try with_reducible rfl)
              try simp only [Act.put, List.setIfInBounds_toArray, List.set_cons_zero, List.set_cons_succ]
              refine wpAnyH_step (i := 1) (d := some 72) (v := ?_) rfl rfl (by kernel_rfl) (by kernel_rfl) (by kernel_rfl) (fun _ _ _ h => h) (Or.inl ⟨by rfl, ?_⟩) (by assumption) ?_
              rotate_left
              · intro w hSw; (try dsimp only at hSw); go_simp; (try with_reducible rfl)
              try simp only [Act.put, List.setIfInBounds_toArray, List.set_cons_zero, List.set_cons_succ]
              refine wpAnyH_step (i := 2) (d := some 73) (v := ?_) rfl rfl (by kernel_rfl) (by kernel_rfl) (by kernel_rfl) (fun _ _ _ h => h) (Or.inl ⟨by rfl, ?_⟩) (by assumption) ?_
              rotate_left
              · intro w hSw; (try dsimp only at hSw); go_simp; (try with_reducible rfl)
              try simp only [Act.put, List.setIfInBounds_toArray, List.set_cons_zero, List.set_cons_succ]
              refine wpAnyH_step (i := 3) (d := some 74) (v := ?_) rfl rfl (by kernel_rfl) (by kernel_rfl) (by kernel_rfl) (fun _ _ _ h => h) (Or.inl ⟨by rfl, ?_⟩) (by assumption) ?_
              rotate_left
              · intro w hSw; (try dsimp only at hSw); go_simp; (try with_reducible rfl)
              try simp only [Act.put, List.setIfInBounds_toArray, List.set_cons_zero, List.set_cons_succ]
              refine wpAnyH_step (i := 4) (d := some 75) (v := ?_) rfl rfl (by kernel_rfl) (by kernel_rfl) (by kernel_rfl) (fun _ _ _ h => h) (Or.inl ⟨by rfl, ?_⟩) (by assumption) ?_
              rotate_left
              · intro w hSw; (try dsimp only at hSw); go_simp; (try with_reducible rfl)
              try simp only [Act.put, List.setIfInBounds_toArray, List.set_cons_zero, List.set_cons_succ]
              refine wpAnyH_step (i := 5) (d := some 76) (v := ?_) rfl rfl (by kernel_rfl) (by kernel_rfl) (by kernel_rfl) (fun _ _ _ h => h) (Or.inl ⟨by rfl, ?_⟩) (by assumption) ?_
              rotate_left
              · intro w hSw; (try dsimp only at hSw); go_simp; (try with_reducible rfl)
              try simp only [Act.put, List.setIfInBounds_toArray, List.set_cons_zero, List.set_cons_succ]
              refine wpAnyH_step (i := 6) (d := some 77) (v := ?_) rfl rfl (by kernel_rfl) (by kernel_rfl) (by kernel_rfl) (fun _ _ _ h => h) (Or.inl ⟨by rfl, ?_⟩) (by assumption) ?_
              rotate_left
              · intro w hSw; (try dsimp only at hSw); go_simp; (try with_reducible rfl)
              try simp only [Act.put, List.setIfInBounds_toArray, List.set_cons_zero, List.set_cons_succ]
              refine wpAnyH_step (i := 7) (d := some 78) (v := ?_) rfl rfl (by kernel_rfl) (by kernel_rfl) (by kernel_rfl) (fun _ _ _ h => h) (Or.inl ⟨by rfl, ?_⟩) (by assumption) ?_
              rotate_left
              · intro w hSw; (try dsimp only at hSw); go_simp; (try with_reducible rfl)
              try simp only [Act.put, List.setIfInBounds_toArray, List.set_cons_zero, List.set_cons_succ]
              refine wpAnyH_step (i := 8) (d := some 79) (v := ?_) rfl rfl (by kernel_rfl) (by kernel_rfl) (by kernel_rfl) (fun _ _ _ h => h) (Or.inl ⟨by rfl, ?_⟩) (by assumption) ?_
              rotate_left
              · intro w hSw; (try dsimp only at hSw); go_simp; (try with_reducible rfl)
              try simp only [Act.put, List.setIfInBounds_toArray, List.set_cons_zero, List.set_cons_succ]
              refine wpAnyH_step (i := 9) (d := some 80) (v := ?_) rfl rfl (by kernel_rfl) (by kernel_rfl) (by kernel_rfl) (fun _ _ _ h => h) (Or.inl ⟨by rfl, ?_⟩) (by assumption) ?_
              rotate_left
              · intro w hSw; (try dsimp only at hSw); go_simp; (try with_reducible rfl)
              try simp only [Act.put, List.setIfInBounds_toArray, List.set_cons_zero, List.set_cons_succ]
              refine wpAnyH_step (i := 10) (d := some 81) (v := ?_) rfl rfl (by kernel_rfl) (by kernel_rfl) (by kernel_rfl) (fun _ _ _ h => h) (Or.inl ⟨by rfl, ?_⟩) (by assumption) ?_
              rotate_left
              · intro w hSw; (try dsimp only at hSw); go_simp; (try with_reducible rfl)
              try simp only [Act.put, List.setIfInBounds_toArray, List.set_cons_zero, List.set_cons_succ]
              refine wpAnyH_ready (rs := [11]) (by kernel_rfl) (by simp) ?_
              refine AllReadyH.cons rfl (fun K hK => ?_) AllReadyH.nil
              go_simp
              refine (HB.out _).mono ?_
              rintro e w6 ⟨rfl, hb6⟩
              (try go_wp2_with fail)
              refine hK.out _ _ ?_ (fun hHeld => ?_)
              · exact HKB.out _ (bel_call hHeld.2 hb6)
              clear hK K
              try simp only [Act.put, List.setIfInBounds_toArray, List.set_cons_zero, List.set_cons_succ]
              refine wpAnyH_ready (rs := [12]) (by kernel_rfl) (by simp) ?_
              refine AllReadyH.cons rfl (fun K hK => ?_) AllReadyH.nil
              go_simp
              have cv := conv1 w6 (byteOf (G.gl r c)) _ rfl
              rw [HY.out] at cv
              (try go_wp2_with fail)
              refine hK.out _ _ ?_ (fun hHeld => ?_)
              · exact HKB.out _ (bel_alloc hHeld.2 _)
              clear hK K
              try simp only [Act.put, List.setIfInBounds_toArray, List.set_cons_zero, List.set_cons_succ]
              refine wpAnyH_ready (rs := [13]) (by kernel_rfl) (by simp) ?_
              refine AllReadyH.cons rfl (fun K hK => ?_) AllReadyH.nil
              go_simp
              skip
              (try go_wp2_with fail)
              refine hK.out _ _ ?_ (fun hHeld => ?_)
              · exact hHeld
              clear hK K
              try simp only [Act.put, List.setIfInBounds_toArray, List.set_cons_zero, List.set_cons_succ]
              refine wpAnyH_step (i := 14) (d := some 85) (v := ?_) rfl rfl (by kernel_rfl) (by kernel_rfl) (by kernel_rfl) (fun _ _ _ h => h) (Or.inl ⟨by rfl, ?_⟩) (by assumption) ?_
              rotate_left
              · intro w hSw; (try dsimp only at hSw); go_simp; (try with_reducible rfl)
              try simp only [Act.put, List.setIfInBounds_toArray, List.set_cons_zero, List.set_cons_succ]
              refine wpAnyH_step (i := 15) (d := some 8) (v := ?_) rfl rfl (by kernel_rfl) (by kernel_rfl) (by kernel_rfl) (fun _ _ _ h => h) (Or.inl ⟨by rfl, ?_⟩) (by assumption) ?_
              rotate_left
              · intro w hSw; (try dsimp only at hSw); go_simp; (try with_reducible rfl)
              try simp only [Act.put, List.setIfInBounds_toArray, List.set_cons_zero, List.set_cons_succ]
              refine wpAnyH_done (by kernel_rfl) ?_ _
              have BF := hHeld.2
              go_wp2_with fail
              go_meet
              exact ⟨by rw [E.out.1, str_app, HA.out, HY.out], by rw [E.out.2]; rfl, BF⟩
            · obtain ⟨e1, e2⟩ := part_sep (tr := tr) (tc := tc) Hr.out.2.2.1 Gf.out HSV.out hq'
              have E := Lib.hid (show partOut G fr fc tr tc r (c + 1) = _ ∧ partSent G fr fc r (c + 1) = _ from ⟨e1, e2⟩)
              have hsz : ¬ 9223372036854775807 < A.size + 1 + Y.size := by omega
              have hsz2 : ¬ 9223372036854775807 < A.size + 1 + 1 := by omega
              have hsz1 : ¬ 9223372036854775807 < A.size + 1 := by omega
              clear e1 e2 hq'
              go_wp2_with fail
              go_quiet (fail)
              go_wp2_with fail
              refine wp_region_held_drew (S := (fun W => (W.cell? ⟨bp, 0, none⟩ = some (.int .i64 (r : Int)) ∧ W.cell? ⟨bp, 1, none⟩ = some (.int .i64 (c : Int)) ∧ W.cell? ⟨b, off + r, none⟩ = some (.slice (some ⟨rb, ro, none⟩) (G.len 0) (G.rc r)) ∧ W.cell? ⟨rb, ro + c * 4, none⟩ = some (.int .i32 (G.gl r c))) ∧ Below w5.heap.size w5 W)) (by kernel_rfl) (HKB.out _ (by first | exact (Below.refl _ _).drew | exact (bel_drewN (Below.refl _ _) _).drew)) (fun hHeld => ?_)
              refine wpAnyH_step (i := 0) (d := some 71) (v := ?_) rfl rfl (by kernel_rfl) (by kernel_rfl) (by kernel_rfl) (fun _ _ _ h => h) (Or.inl ⟨by rfl, ?_⟩) (by assumption) ?_
              rotate_left
              · intro w hSw; (try dsimp only at hSw); go_simp; (try with_reducible rfl)
              try simp only [Act.put, List.setIfInBounds_toArray, List.set_cons_zero, List.set_cons_succ]
              refine wpAnyH_step (i := 1) (d := some 72) (v := ?_) rfl rfl (by kernel_rfl) (by kernel_rfl) (by kernel_rfl) (fun _ _ _ h => h) (Or.inl ⟨by rfl, ?_⟩) (by assumption) ?_
              rotate_left
              · intro w hSw; (try dsimp only at hSw); go_simp; (try with_reducible rfl)
              try simp only [Act.put, List.setIfInBounds_toArray, List.set_cons_zero, List.set_cons_succ]
              refine wpAnyH_step (i := 2) (d := some 73) (v := ?_) rfl rfl (by kernel_rfl) (by kernel_rfl) (by kernel_rfl) (fun _ _ _ h => h) (Or.inl ⟨by rfl, ?_⟩) (by assumption) ?_
              rotate_left
              · intro w hSw; (try dsimp only at hSw); go_simp; (try with_reducible rfl)
              try simp only [Act.put, List.setIfInBounds_toArray, List.set_cons_zero, List.set_cons_succ]
              refine wpAnyH_step (i := 3) (d := some 74) (v := ?_) rfl rfl (by kernel_rfl) (by kernel_rfl) (by kernel_rfl) (fun _ _ _ h => h) (Or.inl ⟨by rfl, ?_⟩) (by assumption) ?_
              rotate_left
              · intro w hSw; (try dsimp only at hSw); go_simp; (try with_reducible rfl)
              try simp only [Act.put, List.setIfInBounds_toArray, List.set_cons_zero, List.set_cons_succ]
              refine wpAnyH_step (i := 4) (d := some 75) (v := ?_) rfl rfl (by kernel_rfl) (by kernel_rfl) (by kernel_rfl) (fun _ _ _ h => h) (Or.inl ⟨by rfl, ?_⟩) (by assumption) ?_
              rotate_left
              · intro w hSw; (try dsimp only at hSw); go_simp; (try with_reducible rfl)
              try simp only [Act.put, List.setIfInBounds_toArray, List.set_cons_zero, List.set_cons_succ]
              refine wpAnyH_step (i := 5) (d := some 76) (v := ?_) rfl rfl (by kernel_rfl) (by kernel_rfl) (by kernel_rfl) (fun _ _ _ h => h) (Or.inl ⟨by rfl, ?_⟩) (by assumption) ?_
              rotate_left
              · intro w hSw; (try dsimp only at hSw); go_simp; (try with_reducible rfl)
              try simp only [Act.put, List.setIfInBounds_toArray, List.set_cons_zero, List.set_cons_succ]
              refine wpAnyH_step (i := 6) (d := some 77) (v := ?_) rfl rfl (by kernel_rfl) (by kernel_rfl) (by kernel_rfl) (fun _ _ _ h => h) (Or.inl ⟨by rfl, ?_⟩) (by assumption) ?_
              rotate_left
              · intro w hSw; (try dsimp only at hSw); go_simp; (try with_reducible rfl)
              try simp only [Act.put, List.setIfInBounds_toArray, List.set_cons_zero, List.set_cons_succ]
              refine wpAnyH_step (i := 7) (d := some 78) (v := ?_) rfl rfl (by kernel_rfl) (by kernel_rfl) (by kernel_rfl) (fun _ _ _ h => h) (Or.inl ⟨by rfl, ?_⟩) (by assumption) ?_
              rotate_left
              · intro w hSw; (try dsimp only at hSw); go_simp; (try with_reducible rfl)
              try simp only [Act.put, List.setIfInBounds_toArray, List.set_cons_zero, List.set_cons_succ]
              refine wpAnyH_step (i := 8) (d := some 79) (v := ?_) rfl rfl (by kernel_rfl) (by kernel_rfl) (by kernel_rfl) (fun _ _ _ h => h) (Or.inl ⟨by rfl, ?_⟩) (by assumption) ?_
              rotate_left
              · intro w hSw; (try dsimp only at hSw); go_simp; (try with_reducible rfl)
              try simp only [Act.put, List.setIfInBounds_toArray, List.set_cons_zero, List.set_cons_succ]
              refine wpAnyH_step (i := 9) (d := some 80) (v := ?_) rfl rfl (by kernel_rfl) (by kernel_rfl) (by kernel_rfl) (fun _ _ _ h => h) (Or.inl ⟨by rfl, ?_⟩) (by assumption) ?_
              rotate_left
              · intro w hSw; (try dsimp only at hSw); go_simp; (try with_reducible rfl)
              try simp only [Act.put, List.setIfInBounds_toArray, List.set_cons_zero, List.set_cons_succ]
              refine wpAnyH_step (i := 10) (d := some 81) (v := ?_) rfl rfl (by kernel_rfl) (by kernel_rfl) (by kernel_rfl) (fun _ _ _ h => h) (Or.inl ⟨by rfl, ?_⟩) (by assumption) ?_
              rotate_left
              · intro w hSw; (try dsimp only at hSw); go_simp; (try with_reducible rfl)
              try simp only [Act.put, List.setIfInBounds_toArray, List.set_cons_zero, List.set_cons_succ]
              refine wpAnyH_ready (rs := [11]) (by kernel_rfl) (by simp) ?_
              refine AllReadyH.cons rfl (fun K hK => ?_) AllReadyH.nil
              go_simp
              refine (HB.out _).mono ?_
              rintro e w6 ⟨rfl, hb6⟩
              (try go_wp2_with fail)
              refine hK.out _ _ ?_ (fun hHeld => ?_)
              · exact HKB.out _ (bel_call hHeld.2 hb6)
              clear hK K
              try simp only [Act.put, List.setIfInBounds_toArray, List.set_cons_zero, List.set_cons_succ]
              refine wpAnyH_ready (rs := [12]) (by kernel_rfl) (by simp) ?_
              refine AllReadyH.cons rfl (fun K hK => ?_) AllReadyH.nil
              go_simp
              have cv := conv1 w6 (byteOf (G.gl r c)) _ rfl
              rw [HY.out] at cv
              (try go_wp2_with fail)
              refine hK.out _ _ ?_ (fun hHeld => ?_)
              · exact HKB.out _ (bel_alloc hHeld.2 _)
              clear hK K
              try simp only [Act.put, List.setIfInBounds_toArray, List.set_cons_zero, List.set_cons_succ]
              refine wpAnyH_ready (rs := [13]) (by kernel_rfl) (by simp) ?_
              refine AllReadyH.cons rfl (fun K hK => ?_) AllReadyH.nil
              go_simp
              skip
              (try go_wp2_with fail)
              refine hK.out _ _ ?_ (fun hHeld => ?_)
              · exact hHeld
              clear hK K
              try simp only [Act.put, List.setIfInBounds_toArray, List.set_cons_zero, List.set_cons_succ]
              refine wpAnyH_step (i := 14) (d := some 85) (v := ?_) rfl rfl (by kernel_rfl) (by kernel_rfl) (by kernel_rfl) (fun _ _ _ h => h) (Or.inl ⟨by rfl, ?_⟩) (by assumption) ?_
              rotate_left
              · intro w hSw; (try dsimp only at hSw); go_simp; (try with_reducible rfl)
              try simp only [Act.put, List.setIfInBounds_toArray, List.set_cons_zero, List.set_cons_succ]
              refine wpAnyH_step (i := 15) (d := some 8) (v := ?_) rfl rfl (by kernel_rfl) (by kernel_rfl) (by kernel_rfl) (fun _ _ _ h => h) (Or.inl ⟨by rfl, ?_⟩) (by assumption) ?_
              rotate_left
              · intro w hSw; (try dsimp only at hSw); go_simp; (try with_reducible rfl)
              try simp only [Act.put, List.setIfInBounds_toArray, List.set_cons_zero, List.set_cons_succ]
              refine wpAnyH_done (by kernel_rfl) ?_ _
              have BF := hHeld.2
              go_wp2_with fail
              go_meet
              exact ⟨by rw [E.out.1, str_app, str_app, HA.out, HY.out]; rfl, by rw [E.out.2]; rfl, BF⟩
      case rest =>
        obtain ⟨rfl, rfl, hbx⟩ := hcut
        have BX5 : Below w3.heap.size w3 wc := B5.trans (hbx.mono hz5)
        have e0 := (hbx.cell (p := ⟨bp, 0, none⟩) hbp5).trans x0
        have e1 := (hbx.cell (p := ⟨bp, 1, none⟩) hbp5).trans x1
        have f0 := (hbx.frozen (p := ⟨bp, 0, none⟩) hbp5).trans y0
        have f1 := (hbx.frozen (p := ⟨bp, 1, none⟩) hbp5).trans y1
        have d0 := (BX5.cell (p := ⟨w.heap.size + 1, 0, none⟩) hz3).trans k2
        have d1 := (BX5.cell (p := ⟨w.heap.size + 1, 1, none⟩) hz3).trans k3
        clear x0 x1 y0 y1 r5
        by_cases hend : r = tr ∧ c = tc
        · obtain ⟨rfl, rfl⟩ := hend
          have Hend := Lib.hid (part_end (G := G) (fr := fr) (fc := fc) (tr := r) (tc := c) Hr.out.1)
          go_wp2_with fail
          go_ret2
          exact ⟨ret2_nums Hend.out.symm, bel_call B3 BX5⟩
        · have m255 := M.out.2.1
          have hc255 : (c : Int) < 255 := by omega
          have hr255 : (r : Int) < 255 := by have := M.out.2.2; omega
          have hE2 := Lib.hid hend
          by_cases hrt : r = tr
          case' pos =>
            have n1 : ((r : Int) == (tr : Int)) = true := by simp; omega
            have n2 : ¬ c = tc := fun e => hend ⟨hrt, e⟩
            have n3 : ((c : Int) == (tc : Int)) = false := by simp; omega
            have n4 : decide (r = tr) = true := by simp; omega
            clear hend hrt m255
            go_wp2_with fail
          case' neg =>
            have n1 : ((r : Int) == (tr : Int)) = false := by simp; omega
            clear hend m255
            go_wp2_with fail
          all_goals (
            have BXw : Below w.heap.size w wc := bel_call B3 BX5
            have hn0 := hn
            have c0 := (BXw.cell (p := ⟨b, off + 0, none⟩) hb).trans (Hc.out 0 hn0)
            have hbne : b ≠ bp := by omega
            have hb7 := BX5.setCell (p := ⟨bp, 1, none⟩) hbp (.int .i64 ((c : Int) + 1))
            have g0 : (wc.setCell ⟨bp, 1, none⟩ (.int .i64 ((c : Int) + 1))).cell? ⟨bp, 0, none⟩ = some (.int .i64 (r : Int)) := (World.cell?_setCell_other _ _ _ _ (by simp)).trans e0
            have g1 : (wc.setCell ⟨bp, 1, none⟩ (.int .i64 ((c : Int) + 1))).cell? ⟨bp, 1, none⟩ = some (.int .i64 ((c : Int) + 1)) := World.cell?_setCell_same' _ _ _ (by rw [e1]; rfl)
            have g2 : (wc.setCell ⟨bp, 1, none⟩ (.int .i64 ((c : Int) + 1))).cell? ⟨b, off, none⟩ = some (.slice (G.ra 0) (G.len 0) (G.rc 0)) := (World.cell?_setCell_other _ _ _ _ (fun e => by injection e; omega)).trans c0
            have g3 : (wc.setCell ⟨bp, 1, none⟩ (.int .i64 ((c : Int) + 1))).frozen? ⟨bp, 0, none⟩ = false := by simpa [go_sem] using f0
            have g4 : (wc.setCell ⟨bp, 1, none⟩ (.int .i64 ((c : Int) + 1))).frozen? ⟨bp, 1, none⟩ = false := by simpa [go_sem] using f1
            generalize wc.setCell ⟨bp, 1, none⟩ (.int .i64 ((c : Int) + 1)) = w7 at *
            have hn' : (0 : Int) < (G.n : Int) := by omega
            clear e0 e1 f0 f1 d0 d1 c0 hbx BXw BX5
            by_cases hl : c + 1 = G.len 0
            · have l1 : ((c : Int) + 1 == (G.len 0 : Int)) = true := by simp; omega
              have hrt2 : r < tr := by
                rcases Nat.lt_or_ge r tr with h | h
                · exact h
                · exfalso
                  have e : r = tr := by have := Hr.out.2.1; omega
                  have h4 := Hr.out.2.2.2
                  have := Ht.out.2.2.2
                  unfold endOf at h4
                  rw [if_pos e] at h4
                  exact hE2.out ⟨e, by omega⟩
              obtain ⟨e1, e2⟩ := part_row (G := G) (fr := fr) (fc := fc) (tr := tr) (tc := tc) Hr.out.1 hrt2 M.out.1 (by have := Hr.out.2.2.1; omega)
              have E := Lib.hid (show partOut G fr fc tr tc (r + 1) 0 = _ ∧ partSent G fr fc (r + 1) 0 = false from ⟨e1, e2⟩)
              have HL := Lib.hid hl
              have hA2 : (strOfNums (partOut G fr fc tr tc r (c + 1))).size ≤ 300000 := by rw [strOfNums_size]; exact part_len M.out.2.1 (by have := Ht.out.2.2.2; have := M.out.2.1; omega) (by omega) (by omega)
              generalize hA' : strOfNums (partOut G fr fc tr tc r (c + 1)) = A' at *
              have HA' := Lib.hid hA'
              have hsz : ¬ 9223372036854775807 < A'.size + 1 := by omega
              clear hl e1 e2 hA'
              go_quiet (fail)
              obtain ⟨w8, hw8⟩ : ∃ w8, w7.drewN nq = w8 := ⟨_, rfl⟩
              rw [hw8]
              have b8 : Below w3.heap.size w3 w8 := by rw [← hw8]; exact bel_drewN hb7 _
              have h0 : w8.cell? ⟨bp, 0, none⟩ = some (.int .i64 (r : Int)) := by rw [← hw8]; exact g0
              have h1 : w8.cell? ⟨bp, 1, none⟩ = some (.int .i64 ((c : Int) + 1)) := by rw [← hw8]; exact g1
              have h3 : w8.frozen? ⟨bp, 0, none⟩ = false := by rw [← hw8]; exact g3
              have h4 : w8.frozen? ⟨bp, 1, none⟩ = false := by rw [← hw8]; exact g4
              clear g0 g1 g2 g3 g4 hw8 hb7 w7
              go_upto_region 20 with (fail)
              have b9 := (b8.setCell (p := ⟨bp, 0, none⟩) hbp (.int .i64 ((r : Int) + 1))).setCell (p := ⟨bp, 1, none⟩) hbp (.int .i64 0)
              have i0 : ((w8.setCell ⟨bp, 0, none⟩ (.int .i64 ((r : Int) + 1))).setCell ⟨bp, 1, none⟩ (.int .i64 0)).cell? ⟨bp, 0, none⟩ = some (.int .i64 ((r : Int) + 1)) :=
                (World.cell?_setCell_other _ _ _ _ (by simp)).trans (World.cell?_setCell_same' _ _ _ (by rw [h0]; rfl))
              have i1 : ((w8.setCell ⟨bp, 0, none⟩ (.int .i64 ((r : Int) + 1))).setCell ⟨bp, 1, none⟩ (.int .i64 0)).cell? ⟨bp, 1, none⟩ = some (.int .i64 0) :=
                World.cell?_setCell_same' _ _ _ (by rw [World.cell?_setCell_other _ _ _ _ (by simp), h1]; rfl)
              generalize (w8.setCell ⟨bp, 0, none⟩ (.int .i64 ((r : Int) + 1))).setCell ⟨bp, 1, none⟩ (.int .i64 0) = w9 at *
              clear h0 h1 h3 h4 b8
              go_wp2_with fail
              go_roundg ((tr - (r + 1)) * 300 + (300 - 0))
              case measure => have := HK.out; omega
              case rel =>
                exact ⟨r + 1, 0, by have := Hr.out.1; omega, by omega, (by have h9 := Hr.out.1; unfold beginOf; rw [if_neg (by omega)]; exact Nat.le_refl _), Nat.zero_le _, rfl, by rw [E.out.1, str_app, ← HL.out, HA'.out]; rfl, by rw [E.out.2]; rfl,
                  ⟨w9.heap.size, b9.size, rfl, by simp [go_sem], by simp [go_sem], by simp [go_sem], by simp [go_sem]⟩, bel_alloc b9 _⟩
            · have l1 : ((c : Int) + 1 == (G.len 0 : Int)) = false := by simp; omega
              have HL := Lib.hid hl
              clear hl
              go_quiet (fail)
              obtain ⟨w8, hw8⟩ : ∃ w8, w7.drewN nq = w8 := ⟨_, rfl⟩
              rw [hw8]
              have b8 : Below w3.heap.size w3 w8 := by rw [← hw8]; exact bel_drewN hb7 _
              have h0 : w8.cell? ⟨bp, 0, none⟩ = some (.int .i64 (r : Int)) := by rw [← hw8]; exact g0
              have h1 : w8.cell? ⟨bp, 1, none⟩ = some (.int .i64 ((c : Int) + 1)) := by rw [← hw8]; exact g1
              have h3 : w8.frozen? ⟨bp, 0, none⟩ = false := by rw [← hw8]; exact g3
              have h4 : w8.frozen? ⟨bp, 1, none⟩ = false := by rw [← hw8]; exact g4
              clear g0 g1 g2 g3 g4 hw8 hb7 w7
              go_wp2_with fail
              go_roundg ((tr - r) * 300 + (300 - (c + 1)))
              case measure => have := HK.out; omega
              case rel =>
                refine ⟨r, c + 1, Hr.out.1, Hr.out.2.1, by have := Hr.out.2.2.1; omega, ?_, rfl, rfl, rfl, ⟨w8.heap.size, b8.size, rfl, by simp [go_sem], by simp [go_sem], by simp [go_sem], by simp [go_sem]⟩, bel_alloc b8 _⟩
                have h9 := Hr.out.2.2.2
                have h8 := HL.out
                have h7 := hE2.out
                unfold endOf at h9 ⊢
                split
                · next e => rw [if_pos e] at h9; rcases Nat.lt_or_ge c tc with h | h <;> first | omega | exact absurd ⟨e, by omega⟩ h7
                · omega))
end Go.Proofs.Ytooikmialpfdkaa
