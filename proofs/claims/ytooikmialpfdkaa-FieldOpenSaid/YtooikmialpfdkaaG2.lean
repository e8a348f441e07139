/- FieldOpen: the law's walk. -/
import Derived.Test.YtooikmialpfdkaaG1
import Derived.Test.YtooikmialpfdkaaFI
namespace Go.Proofs.Ytooikmialpfdkaa
open Go.RowKit
set_option linter.unusedVariables false
set_option linter.unusedSimpArgs false
set_option maxRecDepth 100000
set_option maxHeartbeats 1000000
theorem partOut_open (G : Grid) (v : Value) (rows : List Value) (tr tc i j : Nat) : partOut (openGrid G v rows) 0 0 tr tc i j = partOut (openGrid G (.slice none 0 0) []) 0 0 tr tc i j := by
  have e : ∀ k, sendRows (openGrid G v rows) 0 0 tr tc k = sendRows (openGrid G (.slice none 0 0) []) 0 0 tr tc k := by
    intro k
    induction k with
    | zero => rfl
    | succ k ih => simp only [sendRows, ih]; rfl
  unfold partOut
  rw [e]
  rfl
theorem opens_out (G : Grid) (r c : Int) (W : World) (h : G.In W.heap.size W) (b1 b2 b3 : Bool) (h1 : G.fewB = b1) (h2 : G.okB = b2) (h3 : G.thereB r c = b3) (hb : (b1 && b2 && b3) = false) : Fn W 5 #[G.v, posV r c] (.bool true) := by
  have HF : ∀ w, Below W.heap.size W w → Fn w 9 #[G.v] (.bool b1) := fun w hw => by
    have := few_any G w (h.later hw hw.size)
    rwa [h1] at this
  have HR : ∀ w, Below W.heap.size W w → Fn w 17 #[G.v] (.bool b2) := fun w hw => by
    have := right_any G w (h.later hw hw.size)
    rwa [h2] at this
  have HT : ∀ w, Below W.heap.size W w → Fn w 10 #[G.v, posV r c] (.bool (b2 && b3)) := fun w hw => by
    have := rthere_any G r c w (h.later hw hw.size)
    rwa [h2, h3] at this
  have HA : ∀ w, Fn w 11 #[] (.bool true) := awake_any
  unfold Fn posV at *
  unfold Grid.v at *
  have HF' := Lib.hid HF
  have HR' := Lib.hid HR
  have HT' := Lib.hid HT
  have HA' := Lib.hid HA
  clear HF HR HT HA h h1 h2 h3
  go_enter Try.func5, Try.ntmps5
  cases b1
  · go_wp2_with fail
    refine (HF'.out _ (bel_alloc (Below.refl _ _) _)).mono ?_
    rintro e w1 ⟨rfl, hb1⟩
    have B1 := bel_call (bel_alloc (Below.refl _ _) _) hb1
    go_wp2_with fail
    refine (HA'.out _).mono ?_
    rintro e w2 ⟨rfl, hb2⟩
    go_wp2
    go_ret
    exact ⟨rfl, bel_call B1 hb2⟩
  · cases b2
    · go_wp2_with fail
      refine (HF'.out _ (bel_alloc (Below.refl _ _) _)).mono ?_
      rintro e w1 ⟨rfl, hb1⟩
      have B1 := bel_call (bel_alloc (Below.refl _ _) _) hb1
      go_wp2_with fail
      refine (HR'.out _ B1).mono ?_
      rintro e w2 ⟨rfl, hb2⟩
      have B2 := bel_call B1 hb2
      go_wp2_with fail
      refine (HA'.out _).mono ?_
      rintro e w3 ⟨rfl, hb3⟩
      go_wp2
      go_ret
      exact ⟨rfl, bel_call B2 hb3⟩
    · cases b3
      · go_wp2_with fail
        refine (HF'.out _ (bel_alloc (Below.refl _ _) _)).mono ?_
        rintro e w1 ⟨rfl, hb1⟩
        have B1 := bel_call (bel_alloc (Below.refl _ _) _) hb1
        have k0 := hb1.cell (p := ⟨W.heap.size, 0, none⟩) (by simp)
        have k1 := hb1.cell (p := ⟨W.heap.size, 1, none⟩) (by simp)
        simp [go_sem] at k0 k1
        have hz : W.heap.size < w1.heap.size := by have := hb1.size; simp at this; omega
        have Hz := Lib.hid hz
        clear hz hb1
        go_wp2_with fail
        refine (HR'.out _ B1).mono ?_
        rintro e w2 ⟨rfl, hb2⟩
        have B2 := bel_call B1 hb2
        have k0' := (hb2.cell (p := ⟨W.heap.size, 0, none⟩) Hz.out).trans k0
        have k1' := (hb2.cell (p := ⟨W.heap.size, 1, none⟩) Hz.out).trans k1
        clear k0 k1
        go_wp2_with fail
        refine (HT'.out _ B2).mono ?_
        rintro e w3 ⟨rfl, hb3⟩
        have B3 := bel_call B2 hb3
        go_wp2_with fail
        refine (HA'.out _).mono ?_
        rintro e w4 ⟨rfl, hb4⟩
        go_wp2
        go_ret
        exact ⟨rfl, bel_call B3 hb4⟩
      · cases hb
set_option maxHeartbeats 2000000 in
theorem opens_main (G : Grid) (r c : Nat) (W : World) (h : G.In W.heap.size W) (hf : G.Few) (hok : G.Ok) (ht : G.thereP r c) : Fn W 5 #[G.v, posV r c] (.bool true) := by
  have HF : ∀ w, Below W.heap.size W w → Fn w 9 #[G.v] (.bool true) := fun w hw => by
    have := few_any G w (h.later hw hw.size)
    rwa [fewB_yes hf] at this
  have HR : ∀ w, Below W.heap.size W w → Fn w 17 #[G.v] (.bool true) := fun w hw => by
    have := right_any G w (h.later hw hw.size)
    rwa [okB_yes hok] at this
  have HT : ∀ w, Below W.heap.size W w → Fn w 10 #[G.v, posV r c] (.bool true) := fun w hw => by
    have := rthere_any G r c w (h.later hw hw.size)
    rwa [okB_yes hok, thereB_iff.2 ht] at this
  have HA : ∀ w, Fn w 11 #[] (.bool true) := awake_any
  have HY : ∀ i j, i < G.n → j < G.len 0 → ∀ w, Fn w 13 #[.int .i32 (G.gl i j)] (.int .u8 (byteOf (G.gl i j))) := fun i j hi hj w => by
    obtain ⟨a, b⟩ := h.glyphs i hi j (by rw [(hok.2.2 i hi).2.2]; exact hj)
    exact byte_any _ w a b
  obtain ⟨n1, n2, hgood⟩ := id hok
  obtain ⟨m1, m2, _⟩ := hgood 0 n1
  have nf : G.n ≤ 30 := hf.1
  have mf : G.len 0 ≤ 40 := hf.2 0 n1
  obtain ⟨t0, t1, t2, t3⟩ := ht
  -- what the law asks of the rows that it made
  have HG : ∀ w v rows, Below W.heap.size W w → OwnR w W.heap.size v rows → rows.length = G.n → (∀ i (hi : i < rows.length), RowOk w (rowC G i (G.len 0)) rows[i]) → ∃ ad cap, v = .slice ad G.n cap ∧
      (Calls Try.prog 14 #[.slice ad G.n cap] w fun e w' => ∃ v1, e = .returned (.tuple #[v1, .bool true]) ∧ OwnF 39 w' w.heap.size v1 ((List.range G.n).map fun i => (i, 0, G.len 0 - 1)) ∧ Below w.heap.size w w') ∧
      (∀ w', Below w.heap.size w w' → Fn w' 12 #[.slice ad G.n cap, posV 0 0, posV ((G.n : Int) - 1) ((G.len 0 : Int) - 1), .func (.func 13) #[] #[]] (.tuple #[.string (strOfNums (partOut (openGrid G v rows) 0 0 (G.n - 1) (G.len 0 - 1) (G.n - 1) (G.len 0))), .int .i64 0])) ∧
      (∀ w', Below w.heap.size w w' → Fn w' 18 #[.slice ad G.n cap, posV r c] (.tuple #[posV r c, .bool true])) ∧
      (∀ w', Below w.heap.size w w' → Fn w' 19 #[.slice ad G.n cap, posV r c] (.tuple #[posV r c, .bool true])) := by
    intro w v rows hw ho hl hr
    have hin := openGrid_in hok (h.later hw (Nat.le_refl _)) ho hl hr
    have hok' : (openGrid G v rows).Ok := openGrid_ok hok v rows
    have hv := openGrid_v ho hl
    obtain ⟨ad, cap, hs⟩ := ho.shape
    rw [hl] at hs
    have hgv : (openGrid G v rows).v = .slice ad G.n cap := by rw [← hv, hs]
    have hgd : (openGrid G v rows).gd = fun _ _ => false := rfl
    have hfo : fieldsOf (openGrid G v rows) = (List.range G.n).map fun i => (i, 0, G.len 0 - 1) := by
      unfold fieldsOf
      rw [okB_yes hok', if_pos rfl]
      exact open_all hgd m1 G.n
    refine ⟨ad, cap, hs, ?_, fun w' hw' => ?_, fun w' hw' => ?_, fun w' hw' => ?_⟩
    · have := fields_law (openGrid G v rows) w hin (by rw [hfo]; simp; omega)
      rw [hfo, hgv] at this
      exact this
    · have hle : ¬ (openGrid G v rows).num ((G.n - 1 : Nat) : Int) ((G.len 0 - 1 : Nat) : Int) 0 < (openGrid G v rows).num ((0 : Nat) : Int) ((0 : Nat) : Int) 0 := by
        have e1 : (openGrid G v rows).num ((G.n - 1 : Nat) : Int) ((G.len 0 - 1 : Nat) : Int) 0 = _ := num_there (G := openGrid G v rows) (by show G.n - 1 < G.n; omega) (by show G.len 0 - 1 < G.len 0; omega) 0
        have e2 : (openGrid G v rows).num ((0 : Nat) : Int) ((0 : Nat) : Int) 0 = _ := num_there (G := openGrid G v rows) (r := 0) (c := 0) (by show 0 < G.n; omega) (by show 0 < G.len 0; omega) 0
        rw [e1, e2]
        omega
      have := send_ok (openGrid G v rows) 0 0 (G.n - 1) (G.len 0 - 1) w' (hin.later hw' hw'.size) hok' ⟨by omega, by show (0 : Int) < (G.n : Int); omega, by omega, by show (0 : Int) < (G.len 0 : Int); omega⟩ ⟨by omega, by show ((G.n - 1 : Nat) : Int) < (G.n : Int); omega, by omega, by show ((G.len 0 - 1 : Nat) : Int) < (G.len 0 : Int); omega⟩ hle
      rw [hgv, part_end (by omega), show ((G.n - 1 : Nat) : Int) = (G.n : Int) - 1 by omega, show ((G.len 0 - 1 : Nat) : Int) = (G.len 0 : Int) - 1 by omega, show G.len 0 - 1 + 1 = G.len 0 by omega] at this
      exact this
    · have := next_any (openGrid G v rows) r c w' (hin.later hw' hw'.size)
      rw [open_next hok' hgd 1 0 (by show r < G.n; omega) (by show c < G.len 0; omega), hgv] at this
      exact this
    · have := back_any (openGrid G v rows) r c w' (hin.later hw' hw'.size)
      rw [open_next hok' hgd (-1) _ (by show r < G.n; omega) (by show c < G.len 0; omega), hgv] at this
      exact this
  -- the string that the law makes; it does not stand on where the rows lie
  have hout : ∀ v rows i j, partOut (openGrid G v rows) 0 0 (G.n - 1) (G.len 0 - 1) i j = partOut (openGrid G (.slice none 0 0) []) 0 0 (G.n - 1) (G.len 0 - 1) i j := fun v rows i j => partOut_open G v rows _ _ i j
  have hadd : ∀ i j, i ≤ G.n - 1 → partOut (openGrid G (.slice none 0 0) []) 0 0 (G.n - 1) (G.len 0 - 1) i (j + 1) = partOut (openGrid G (.slice none 0 0) []) 0 0 (G.n - 1) (G.len 0 - 1) i j ++ [byteOf (G.gl i j)] := fun i j hi =>
    (part_add (G := openGrid G (.slice none 0 0) []) (by unfold beginOf; split <;> omega) rfl (fun _ => rfl)).1
  have hrow : ∀ i, i < G.n - 1 → partOut (openGrid G (.slice none 0 0) []) 0 0 (G.n - 1) (G.len 0 - 1) (i + 1) 0 = partOut (openGrid G (.slice none 0 0) []) 0 0 (G.n - 1) (G.len 0 - 1) i (G.len 0) ++ [31] := fun i hi =>
    (part_row (G := openGrid G (.slice none 0 0) []) (Nat.zero_le _) hi m1 (by unfold beginOf; split <;> omega)).1
  have hstart : partOut (openGrid G (.slice none 0 0) []) 0 0 (G.n - 1) (G.len 0 - 1) 0 0 = [] := part_start.1
  have hplen : ∀ i j, i ≤ 255 → j ≤ 255 → (partOut (openGrid G (.slice none 0 0) []) 0 0 (G.n - 1) (G.len 0 - 1) i j).length ≤ 300000 := fun i j hi hj => part_len (G := openGrid G (.slice none 0 0) []) m2 (by omega) hi hj
  simp only [hout] at HG
  generalize partOut (openGrid G (.slice none 0 0) []) 0 0 (G.n - 1) (G.len 0 - 1) = PO at *
  have hcell : ∀ w, Below W.heap.size W w → ∀ i, i < G.n → ∃ b off rb ro, G.a = some ⟨b, off, none⟩ ∧ w.cell? ⟨b, off + i, none⟩ = some (.slice (some ⟨rb, ro, none⟩) (G.len 0) (G.rc i)) ∧ ∀ j, j < G.len 0 → w.cell? ⟨rb, ro + j * 4, none⟩ = some (.int .i32 (G.gl i j)) ∧ w.cell? ⟨rb, ro + j * 4 + 1, none⟩ = some (.int .i64 (G.tr i j)) ∧ w.cell? ⟨rb, ro + j * 4 + 2, none⟩ = some (.bool (G.gd i j)) ∧ w.cell? ⟨rb, ro + j * 4 + 3, none⟩ = some (.int .i64 (G.ma i j)) := fun w hw i hi => by
    obtain ⟨b, off, ea, hb, hc⟩ := h.rows n1
    have hli : G.len i = G.len 0 := (hgood i hi).2.2
    obtain ⟨rb, ro, er, hrb, hcc⟩ := h.cells i hi (by rw [hli]; omega)
    have e := hc i hi
    rw [er, hli] at e
    refine ⟨b, off, rb, ro, ea, (hw.cell (p := ⟨b, off + i, none⟩) hb).trans e, fun j hj => ?_⟩
    obtain ⟨x0, x1, x2, x3⟩ := hcc j (by rw [hli]; exact hj)
    exact ⟨(hw.cell (p := ⟨rb, ro + j * 4, none⟩) hrb).trans x0, (hw.cell (p := ⟨rb, ro + j * 4 + 1, none⟩) hrb).trans x1, (hw.cell (p := ⟨rb, ro + j * 4 + 2, none⟩) hrb).trans x2, (hw.cell (p := ⟨rb, ro + j * 4 + 3, none⟩) hrb).trans x3⟩
  obtain ⟨b, off, ea⟩ : ∃ b off, G.a = some ⟨b, off, none⟩ := by obtain ⟨b, off, ea, _⟩ := h.rows n1; exact ⟨b, off, ea⟩
  unfold Fn posV at *
  unfold Grid.v at *
  rw [ea] at HF HR HT ⊢
  simp only [ea] at hcell
  have HF' := Lib.hid HF
  have HR' := Lib.hid HR
  have HT' := Lib.hid HT
  have HA' := Lib.hid HA
  have HY' := Lib.hid HY
  have HG' := Lib.hid HG
  have Hadd := Lib.hid hadd
  have Hrow := Lib.hid hrow
  have Hst := Lib.hid hstart
  have Hpl := Lib.hid hplen
  have HC' := Lib.hid hcell
  clear HF HR HT HA HY HG hout hadd hrow hstart hplen hcell h hf hok hgood ea t0 t1 t2 t3
  go_enter Try.func5, Try.ntmps5
  go_wp2_with fail
  refine (HF'.out _ (bel_alloc (Below.refl _ _) _)).mono ?_
  rintro e w1 ⟨rfl, hb1⟩
  have B1 := bel_call (bel_alloc (Below.refl _ _) _) hb1
  have k0 := hb1.cell (p := ⟨W.heap.size, 0, none⟩) (by simp)
  have k1 := hb1.cell (p := ⟨W.heap.size, 1, none⟩) (by simp)
  simp [go_sem] at k0 k1
  clear hb1
  go_wp2_with fail
  refine (HR'.out _ B1).mono ?_
  rintro e w2 ⟨rfl, hb2⟩
  have B2 := bel_call B1 hb2
  have k0' := cellB hb2 k0
  have k1' := cellB hb2 k1
  clear k0 k1
  go_wp2_with fail
  refine (HT'.out _ B2).mono ?_
  rintro e w3 ⟨rfl, hb3⟩
  have B3 := Lib.hid (bel_call B2 hb3)
  have K0 := Lib.hid (cellB hb3 k0')
  have K1 := Lib.hid (cellB hb3 k1')
  clear k0' k1' B1 B2 hb2 hb3
  have hbase : W.heap.size ≤ w3.heap.size := B3.out.size
  have Hbase := Lib.hid hbase
  clear hbase
  go_wp2_with fail
  go_loopw [5, 6, 7] (fun v s i wr => ∃ (i' : Nat) (rows : List Value), i' ≤ G.n ∧ i = .int .i64 (i' : Int) ∧ rows.length = i' ∧ s = .string (strOfNums (if i' < G.n then PO i' 0 else PO (G.n - 1) (G.len 0))) ∧ OwnR wr w3.heap.size v rows ∧ (∀ k (hk : k < rows.length), RowOk wr (rowC G k (G.len 0)) rows[k]) ∧ Below w3.heap.size w3 wr) (fun _ _ i _ => G.n - (intOf i).toNat)
  case atStart => exact ⟨0, [], Nat.zero_le _, rfl, rfl, by rw [if_pos (show 0 < G.n from n1), Hst.out]; rfl, OwnR.nil _ _, fun k hk => absurd hk (Nat.not_lt_zero k), Below.refl _ _⟩
  case round =>
    obtain ⟨i, rows, hi, rfl, hrl, rfl, hown, hrk, hbr⟩ := hrel
    obtain ⟨wo, hwo⟩ : ∃ wo, wo = wr := ⟨_, rfl⟩
    subst hwo
    have Hown := Lib.hid hown
    have Hrk := Lib.hid hrk
    have Hbr := Lib.hid hbr
    have Hrl := Lib.hid hrl
    clear hown hrk hbr hrl
    by_cases hlt : i < G.n
    · have q0 : (i : Int) < (G.n : Int) := by omega
      rw [if_pos hlt]
      go_wp2_with fail
      go_loopw [6, 8, 9] (fun s v j wx => ∃ j' : Nat, j' ≤ G.len 0 ∧ j = .int .i64 (j' : Int) ∧ s = .string (strOfNums (PO i j')) ∧ OwnC wx wo.heap.size v (rowC G i j') ∧ Below wo.heap.size wo wx) (fun _ _ j _ => G.len 0 - (intOf j).toNat)
      case atStart => exact ⟨0, Nat.zero_le _, rfl, rfl, OwnC.nil _ _, Below.refl _ _⟩
      case round =>
        obtain ⟨j, hj, rfl, rfl, hown, hbx⟩ := hrel
        have Brx := Hbr.out.trans (hbx.mono Hbr.out.size)
        have BW := B3.out.trans (Brx.mono B3.out.size)
        obtain ⟨b', off', rb, ro, eb, cr, cc⟩ := HC'.out _ BW i hlt
        cases eb
        have Hox := Lib.hid hown
        have Hbx := Lib.hid hbx
        have HBrx := Lib.hid Brx
        have hsx := hbx.size
        clear hown hbx Brx BW
        by_cases hlt2 : j < G.len 0
        · have q1 : (j : Int) < (G.len 0 : Int) := by omega
          obtain ⟨c0, c1, c2, c3⟩ := cc j hlt2
          have hPl : (PO i j).length ≤ 300000 := Hpl.out i j (by omega) (by omega)
          have HPl := Lib.hid hPl
          have HYc := Lib.hid (HY'.out i j hlt hlt2)
          have Hsx := Lib.hid hsx
          clear cc hPl hsx
          have hrl : (rowC G i j).length ≤ 1000000 := by rw [rowC_len]; omega
          go_wp2_with (at_builtin; refine wp_appC rfl (.tmp 58) (.tmp 60) rfl wo.heap.size _ _ _ (G.gl i j, G.tr i j, G.ma i j) _ rfl rfl (by simp) (Hox.out.alloc _) (by simp; exact Nat.le_succ_of_le Hsx.out) hrl ?_; intro v1 W1 own1 bel1 blk1; have bk1 := blk1 wr.heap.size (by simp) (fun e => by have := World.ownsRow.lt Hox.out _ e; omega); have c10 : W1.cell? ⟨wr.heap.size, 0, none⟩ = some (.int .i32 (G.gl i j)) := (World.cell?_of_block bk1).trans (by simp [go_sem]); clear blk1 bk1; obtain ⟨n1', hn1⟩ : ∃ n1', (rowC G i j ++ [(G.gl i j, G.tr i j, G.ma i j)]).length = n1' := ⟨_, rfl⟩; obtain ⟨ad1, cap1, hv1⟩ := own1.shape; rw [hn1] at hv1; subst hv1; clear hn1)
          have Own1 := Lib.hid own1
          have Bel1 := Lib.hid bel1
          clear own1 bel1
          refine (HYc.out W1).mono ?_
          rintro e w4 ⟨rfl, hb4⟩
          have cv := conv1 w4 (byteOf (G.gl i j)) _ rfl
          obtain ⟨Y, hY⟩ : ∃ Y, strOfNums [byteOf (G.gl i j)] = Y := ⟨_, rfl⟩
          obtain ⟨A, hA⟩ : ∃ A, strOfNums (PO i j) = A := ⟨_, rfl⟩
          have hYs : Y.size = 1 := by rw [← hY, strOfNums_size]; rfl
          have hAs : A.size ≤ 300000 := by rw [← hA, strOfNums_size]; exact HPl.out
          have hsz : ¬ 9223372036854775807 < A.size + Y.size := by omega
          have hsz2 : ¬ 9223372036854775807 < A.size + 1 := by omega
          have HYe := Lib.hid hY
          have HAe := Lib.hid hA
          rw [hY] at cv
          rw [hA]
          have Hb4 := Lib.hid hb4
          clear hY hA hb4 hAs
          go_wp2_with fail
          go_roundw
          case rel =>
            refine ⟨j + 1, by omega, by go_num, by rw [Hadd.out i j (by omega), str_app, HAe.out, HYe.out], ?_, ?_⟩
            · rw [rowC_succ]
              exact ((Own1.out).call Hb4.out).alloc _
            · have b1 : Below wo.heap.size wo W1 := Hbx.out.trans (((Below.refl _ wr).alloc (Nat.le_refl _) _).mono Hsx.out |>.trans Bel1.out)
              exact (b1.trans (Hb4.out.mono b1.size)).alloc (Nat.le_trans b1.size Hb4.out.size) _
          case measure => simp [intOf]; omega
        · have q1 : ¬ (j : Int) < (G.len 0 : Int) := by omega
          obtain rfl : j = G.len 0 := by omega
          have hrl : rows.length ≤ 1000000 := by rw [Hrl.out]; omega
          have hbw : w3.heap.size ≤ wr.heap.size := HBrx.out.size
          have hPl : (PO i (G.len 0)).length ≤ 300000 := Hpl.out i (G.len 0) (by omega) (by omega)
          obtain ⟨ad8, cap8, h8⟩ := Hox.out.shape
          rw [rowC_len] at h8
          subst h8
          have HownX := Lib.hid (Hown.out.call Hbx.out)
          obtain ⟨A, hA⟩ : ∃ A, strOfNums (PO i (G.len 0)) = A := ⟨_, rfl⟩
          have hAs : A.size ≤ 300000 := by rw [← hA, strOfNums_size]; exact hPl
          have hsz2 : ¬ 9223372036854775807 < A.size + 1 := by omega
          have HAe := Lib.hid hA
          rw [hA]
          have hrow8 := Lib.hid (Hox.out.rowOk (by rw [rowC_len]; omega))
          clear hA hAs hPl cc hsx
          have Hbw := Lib.hid hbw
          clear hbw
          by_cases hl3 : i + 1 < G.n
          · have q3 : (i : Int) + 1 < (G.n : Int) := by omega
            go_wp2_with (at_builtin; refine wp_appR rfl (.tmp 69) (.tmp 71) rfl w3.heap.size _ _ _ _ ad8 (G.len 0) cap8 rfl _ rfl rfl (by simp) HownX.out Hbw.out hrl ?_; intro v1 W1 own1 bel1 keep1; obtain ⟨n1', hn1⟩ : ∃ n1', (rows ++ [Value.slice ad8 (G.len 0) cap8]).length = n1' := ⟨_, rfl⟩; obtain ⟨ad1, cap1, hv1⟩ := own1.shape; rw [hn1] at hv1; subst hv1; clear hn1; have Own1 := Lib.hid own1; have Bel1 := Lib.hid bel1; have Keep1 := Lib.hid keep1; clear own1 bel1 keep1)
            go_roundw
            case rel =>
              refine ⟨i + 1, _, by omega, by go_num, ?_, ?_, Own1.out, ?_, HBrx.out.trans Bel1.out⟩
              · simp [Hrl.out]
              · rw [if_pos hl3, Hrow.out i (by omega), str_app, HAe.out]; rfl
              · intro k hk
                by_cases e : k < rows.length
                · rw [List.getElem_append_left e]
                  exact ((Hrk.out k e).call Hbx.out).keep Keep1.out
                · have e2 : k = rows.length := by simp at hk; omega
                  subst e2
                  rw [List.getElem_append_right (Nat.le_refl _)]
                  simp only [Nat.sub_self, List.getElem_cons_zero]
                  rw [Hrl.out]
                  exact hrow8.out.keep Keep1.out
            case measure => simp [intOf]; omega
          · have q3 : ¬ (i : Int) + 1 < (G.n : Int) := by omega
            go_wp2_with (at_builtin; refine wp_appR rfl (.tmp 69) (.tmp 71) rfl w3.heap.size _ _ _ _ ad8 (G.len 0) cap8 rfl _ rfl rfl (by simp) HownX.out Hbw.out hrl ?_; intro v1 W1 own1 bel1 keep1; obtain ⟨n1', hn1⟩ : ∃ n1', (rows ++ [Value.slice ad8 (G.len 0) cap8]).length = n1' := ⟨_, rfl⟩; obtain ⟨ad1, cap1, hv1⟩ := own1.shape; rw [hn1] at hv1; subst hv1; clear hn1; have Own1 := Lib.hid own1; have Bel1 := Lib.hid bel1; have Keep1 := Lib.hid keep1; clear own1 bel1 keep1)
            go_roundw
            case rel =>
              refine ⟨i + 1, _, by omega, by go_num, ?_, ?_, Own1.out, ?_, HBrx.out.trans Bel1.out⟩
              · simp [Hrl.out]
              · rw [if_neg hl3, ← HAe.out, show G.n - 1 = i by omega]
              · intro k hk
                by_cases e : k < rows.length
                · rw [List.getElem_append_left e]
                  exact ((Hrk.out k e).call Hbx.out).keep Keep1.out
                · have e2 : k = rows.length := by simp at hk; omega
                  subst e2
                  rw [List.getElem_append_right (Nat.le_refl _)]
                  simp only [Nat.sub_self, List.getElem_cons_zero]
                  rw [Hrl.out]
                  exact hrow8.out.keep Keep1.out
            case measure => simp [intOf]; omega
    · have q0 : ¬ (i : Int) < (G.n : Int) := by omega
      rw [if_neg hlt]
      have hbW := B3.out.trans (Hbr.out.mono B3.out.size)
      have hownW : OwnR wo W.heap.size _ rows := Hown.out.mono Hbase.out
      obtain ⟨ad, cap, rfl, g14, g12, g18, g19⟩ := HG'.out wo _ rows hbW hownW (by rw [Hrl.out]; omega) Hrk.out
      have G14 := Lib.hid g14
      have G12 := Lib.hid g12
      have G18 := Lib.hid g18
      have G19 := Lib.hid g19
      have HbW := Lib.hid hbW
      obtain ⟨A, hA⟩ : ∃ A, strOfNums (PO (G.n - 1) (G.len 0)) = A := ⟨_, rfl⟩
      rw [hA] at G12 ⊢
      clear g14 g12 g18 g19 hbW hownW hA
      have n0 : 0 < G.n := n1
      have n0' : (0 : Int) < (G.n : Int) := by omega
      have p1 : IntKind.i64.wrap ((G.n : Int) - 1) = (G.n : Int) - 1 := IntWalk.i64_in _ (by omega)
      have p2 : IntKind.i64.wrap ((G.len 0 : Int) - 1) = (G.len 0 : Int) - 1 := IntWalk.i64_in _ (by omega)
      go_wp2_with fail
      refine G14.out.mono ?_
      rintro e w5 ⟨v1, rfl, ho5, hb5⟩
      obtain ⟨a1, c1, rfl, hr1⟩ := ho5.view
      have hll : ((List.range G.n).map fun i => ((i, 0, G.len 0 - 1) : Fd)).length = G.n := by simp
      rw [hll]
      obtain ⟨g, rfl, _, hg, hcc⟩ := hr1 (by rw [hll]; exact n1)
      have hcell5 : ∀ k, k < G.n → w5.cell? ⟨g, k * 3, none⟩ = some (.int .i64 (k : Int)) ∧ w5.cell? ⟨g, k * 3 + 1, none⟩ = some (.int .i64 0) ∧ w5.cell? ⟨g, k * 3 + 2, none⟩ = some (.int .i64 ((G.len 0 : Int) - 1)) := fun k hk => by
        obtain ⟨x0, x1, x2⟩ := hcc k (by rw [hll]; exact hk)
        simp at x0 x1 x2
        exact ⟨x0, x1, by rw [x2, show ((G.len 0 - 1 : Nat) : Int) = (G.len 0 : Int) - 1 by omega]⟩
      have Hc5 := Lib.hid hcell5
      have Hb5 := Lib.hid hb5
      have B5 := HbW.out.trans (hb5.mono HbW.out.size)
      obtain ⟨b', off', rb, ro, eb, cr5, _⟩ := HC'.out w5 B5 0 n1
      cases eb
      rw [Nat.add_zero] at cr5
      have HB5 := Lib.hid B5
      have K0b := Lib.hid (cellB hb5 (cellB Hbr.out K0.out))
      have K1b := Lib.hid (cellB hb5 (cellB Hbr.out K1.out))
      clear B5
      clear ho5 hr1 hcc hll hcell5 hb5
      go_wp2_with fail
      refine (G12.out _ Hb5.out).mono ?_
      rintro e w6 ⟨rfl, hb6⟩
      have b6 := bel_call Hb5.out hb6
      have k0 := cellB hb6 K0b.out
      have k1 := cellB hb6 K1b.out
      have Hb6 := Lib.hid hb6
      have Hb56 := Lib.hid hb6
      clear cr5 hb6
      go_wp2_with fail
      refine (G18.out _ b6).mono ?_
      rintro e w7 ⟨rfl, hb7⟩
      have b7 := bel_call b6 hb7
      have k0' := cellB (bel_alloc (Below.refl _ w7) (.cells #[.int .i64 (r : Int), .int .i64 (c : Int)] 24)) (cellB hb7 k0)
      have k1' := cellB (bel_alloc (Below.refl _ w7) (.cells #[.int .i64 (r : Int), .int .i64 (c : Int)] 24)) (cellB hb7 k1)
      have b57 := Hb6.out.trans (hb7.mono Hb6.out.size)
      have B57 := Lib.hid b57
      clear k0 k1 hb7 b57
      go_wp2_with fail
      refine (G19.out _ (bel_alloc b7 _)).mono ?_
      rintro e w8 ⟨rfl, hb8⟩
      have b8 := bel_call (bel_alloc b7 _) hb8
      have z0 := cellB (bel_alloc (Below.refl _ w8) (.cells #[.int .i64 (r : Int), .int .i64 (c : Int)] 24)) (cellB hb8 k0')
      have z1 := cellB (bel_alloc (Below.refl _ w8) (.cells #[.int .i64 (r : Int), .int .i64 (c : Int)] 24)) (cellB hb8 k1')
      have x0 : (w7.alloc (.cells #[.int .i64 (r : Int), .int .i64 (c : Int)] 24)).cell? ⟨w7.heap.size, 0, none⟩ = some (.int .i64 (r : Int)) := by simp [go_sem]
      have x1 : (w7.alloc (.cells #[.int .i64 (r : Int), .int .i64 (c : Int)] 24)).cell? ⟨w7.heap.size, 1, none⟩ = some (.int .i64 (c : Int)) := by simp [go_sem]
      have y0 := cellB (bel_alloc (Below.refl _ w8) (.cells #[.int .i64 (r : Int), .int .i64 (c : Int)] 24)) (cellB hb8 x0)
      have y1 := cellB (bel_alloc (Below.refl _ w8) (.cells #[.int .i64 (r : Int), .int .i64 (c : Int)] 24)) (cellB hb8 x1)
      obtain ⟨w9, hw9⟩ : ∃ w9, w8.alloc (.cells #[.int .i64 (r : Int), .int .i64 (c : Int)] 24) = w9 := ⟨_, rfl⟩
      have v0 : w9.cell? ⟨w8.heap.size, 0, none⟩ = some (.int .i64 (r : Int)) := by rw [← hw9]; simp [go_sem]
      have v1' : w9.cell? ⟨w8.heap.size, 1, none⟩ = some (.int .i64 (c : Int)) := by rw [← hw9]; simp [go_sem]
      have b59 : Below w5.heap.size w5 w9 := by
        rw [← hw9]
        exact (((B57.out.alloc B57.out.size _).trans (hb8.mono (by have := B57.out.size; simp; omega))).alloc (by have := B57.out.size; have := hb8.size; simp at this; omega) _)
      rw [hw9] at z0 z1 y0 y1
      have B9 : Below W.heap.size W w9 := HB5.out.trans (b59.mono HB5.out.size)
      have F := Lib.hid (show _ ∧ _ ∧ _ ∧ _ ∧ _ ∧ _ from ⟨z0, z1, y0, y1, v0, v1'⟩)
      have HB9 := Lib.hid B9
      have Hb59 := Lib.hid b59
      clear x0 x1 k0' k1' z0 z1 y0 y1 v0 v1' hb8 b8 b7 b6 B9 b59
      go_wp2_with fail
      try rw [hw9]
      clear hw9
      go_loopw [19] (fun i wx => ∃ k : Nat, k ≤ G.n ∧ i = .int .i64 (k : Int) ∧ ∃ m, wx = w9.drewN m) (fun i _ => G.n - (intOf i).toNat)
      case atStart => exact ⟨0, Nat.zero_le _, rfl, 0, rfl⟩
      case round =>
        obtain ⟨k, hk, rfl, m, rfl⟩ := hrel
        by_cases hlt3 : k < G.n
        · have q3 : (k : Int) < (G.n : Int) := by omega
          obtain ⟨x0, x1, x2⟩ := Hc5.out k hlt3
          have d0 := (Hb59.out.cell (p := ⟨g, k * 3, none⟩) hg).trans x0
          have d1 := (Hb59.out.cell (p := ⟨g, k * 3 + 1, none⟩) hg).trans x1
          have d2 := (Hb59.out.cell (p := ⟨g, k * 3 + 2, none⟩) hg).trans x2
          obtain ⟨b', off', rb, ro, eb, cr9, _⟩ := HC'.out w9 HB9.out 0 n1
          cases eb
          rw [Nat.add_zero] at cr9
          clear x0 x1 x2
          go_wp2_with fail
          go_quiet (fail)
          go_wp2_with fail
          go_roundw
          case rel => exact ⟨k + 1, by omega, by go_num, _, rfl⟩
          case measure => simp [intOf]; omega
        · have q3 : ¬ (k : Int) < (G.n : Int) := by omega
          obtain ⟨z0, z1, y0, y1, v0, v1'⟩ := F.out
          go_wp2_with fail
          refine (HA'.out _).mono ?_
          rintro e w10 ⟨rfl, hb10⟩
          go_wp2_with fail
          go_ret
          exact ⟨rfl, bel_call (bel_drewN HB9.out m) hb10⟩
theorem opens_walk (G : Grid) (r c : Int) (W : World) (h : G.In W.heap.size W) : Fn W 5 #[G.v, posV r c] (.bool true) := by
  cases b1 : G.fewB with
  | false => exact opens_out G r c W h _ _ _ b1 rfl rfl (by simp)
  | true =>
    cases b2 : G.okB with
    | false => exact opens_out G r c W h _ _ _ b1 b2 rfl (by simp)
    | true =>
      cases b3 : G.thereB r c with
      | false => exact opens_out G r c W h _ _ _ b1 b2 b3 (by simp)
      | true =>
        have ht := thereB_iff.1 b3
        obtain ⟨r0, rfl⟩ := Int.eq_ofNat_of_zero_le ht.1
        obtain ⟨c0, rfl⟩ := Int.eq_ofNat_of_zero_le ht.2.2.1
        have hf : G.Few := by
          apply Classical.byContradiction
          intro hh
          rw [not_fewB hh] at b1
          cases b1
        have hok : G.Ok := by
          apply Classical.byContradiction
          intro hh
          rw [not_okB hh] at b2
          cases b2
        exact opens_main G r0 c0 W h hf hok ht
end Go.Proofs.Ytooikmialpfdkaa
