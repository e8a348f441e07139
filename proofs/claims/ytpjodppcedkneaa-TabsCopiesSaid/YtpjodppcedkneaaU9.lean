/- tabs: Copy; TabsCopies: the law's walk. -/
import Derived.Test.YtpjodppcedkneaaU8
namespace Go.Proofs.Ytpjodppcedkneaa
open Go.RowKit Go.Maps Go.Sort Go.Shelf
set_option linter.unusedVariables false
set_option linter.unusedSimpArgs false
set_option maxRecDepth 100000
set_option maxHeartbeats 400000 in
theorem copy_ts (w : World) (p b c : Nat) (S : Int → Bool) (h : TS w p b c S) : Calls Try.prog 22 #[.pointer (some ⟨p, 0, none⟩)] w fun e w' => ∃ p', e = .returned (.pointer (some ⟨p', 0, none⟩)) ∧ ∃ b', TS w' p' b' c S ∧ w.heap.size ≤ p' ∧ w.heap.size ≤ b' ∧ Below w.heap.size w w' := by
  obtain ⟨D, hT, hS⟩ := h.ob
  have hC : Calls Try.prog 35 #[.map (some b)] w.drew fun e w' => e = .returned (.map (some w.drew.heap.size)) ∧ OwnS w' w.drew.heap.size 300 D ∧ OwnS w' b 300 D ∧ Below w.drew.heap.size w.drew w' :=
    AnyW.maps_Clone_owns (H := Unit) Try.cloneA 3 unitElem b 300 D w.drew hT.m
  have HC := Lib.hid hC
  have HS := Lib.hid hS
  have HT := Lib.hid h
  have HP0 := Lib.hid (show w.drew.cell? ⟨p, 0, none⟩ = some (.int .i64 c) ∧ w.drew.cell? ⟨p, 1, none⟩ = some (.map (some b)) from ⟨hT.c0, hT.c1⟩)
  clear hC hT hS h
  go_enter Try.func22, Try.ntmps22
  go_wp2_with fail
  refine wp_region_held_drew (S := fun W => W.cell? ⟨p, 0, none⟩ = some (.int .i64 c) ∧ W.cell? ⟨p, 1, none⟩ = some (.map (some b))) (by kernel_rfl) HP0.out (fun hHeld => ?_)
  refine wpAnyH_step (i := 0) (d := some 5) (v := ?_) rfl rfl (by kernel_rfl) (by kernel_rfl) (by kernel_rfl) (fun _ _ _ h => h) (Or.inl ⟨by rfl, ?_⟩) (by assumption) ?_
  rotate_left
  · intro w hSw; (try dsimp only at hSw); go_simp; (try with_reducible rfl)
  try simp only [Act.put, List.setIfInBounds_toArray, List.set_cons_zero, List.set_cons_succ]
  refine wpAnyH_step (i := 1) (d := some 6) (v := ?_) rfl rfl (by kernel_rfl) (by kernel_rfl) (by kernel_rfl) (fun _ _ _ h => h) (Or.inl ⟨by rfl, ?_⟩) (by assumption) ?_
  rotate_left
  · intro w hSw; (try dsimp only at hSw); go_simp; (try with_reducible rfl)
  try simp only [Act.put, List.setIfInBounds_toArray, List.set_cons_zero, List.set_cons_succ]
  refine wpAnyH_step (i := 2) (d := some 7) (v := ?_) rfl rfl (by kernel_rfl) (by kernel_rfl) (by kernel_rfl) (fun _ _ _ h => h) (Or.inl ⟨by rfl, ?_⟩) (by assumption) ?_
  rotate_left
  · intro w hSw; (try dsimp only at hSw); go_simp; (try with_reducible rfl)
  try simp only [Act.put, List.setIfInBounds_toArray, List.set_cons_zero, List.set_cons_succ]
  refine wpAnyH_step (i := 3) (d := some 8) (v := ?_) rfl rfl (by kernel_rfl) (by kernel_rfl) (by kernel_rfl) (fun _ _ _ h => h) (Or.inl ⟨by rfl, ?_⟩) (by assumption) ?_
  rotate_left
  · intro w hSw; (try dsimp only at hSw); go_simp; (try with_reducible rfl)
  try simp only [Act.put, List.setIfInBounds_toArray, List.set_cons_zero, List.set_cons_succ]
  refine wpAnyH_step (i := 4) (d := some 9) (v := ?_) rfl rfl (by kernel_rfl) (by kernel_rfl) (by kernel_rfl) (fun _ _ _ h => h) (Or.inl ⟨by rfl, ?_⟩) (by assumption) ?_
  rotate_left
  · intro w hSw; (try dsimp only at hSw); go_simp; (try with_reducible rfl)
  try simp only [Act.put, List.setIfInBounds_toArray, List.set_cons_zero, List.set_cons_succ]
  refine wpAnyH_step (i := 5) (d := some 10) (v := ?_) rfl rfl (by kernel_rfl) (by kernel_rfl) (by kernel_rfl) (fun _ _ _ h => h) (Or.inl ⟨by rfl, ?_⟩) (by assumption) ?_
  rotate_left
  · intro w hSw; (try dsimp only at hSw); go_simp; (try with_reducible rfl)
  try simp only [Act.put, List.setIfInBounds_toArray, List.set_cons_zero, List.set_cons_succ]
  refine wpAnyH_step (i := 6) (d := some 11) (v := ?_) rfl rfl (by kernel_rfl) (by kernel_rfl) (by kernel_rfl) (fun _ _ _ h => h) (Or.inl ⟨by rfl, ?_⟩) (by assumption) ?_
  rotate_left
  · intro w hSw; (try dsimp only at hSw); go_simp; (try with_reducible rfl)
  try simp only [Act.put, List.setIfInBounds_toArray, List.set_cons_zero, List.set_cons_succ]
  refine wpAnyH_step (i := 7) (d := some 12) (v := ?_) rfl rfl (by kernel_rfl) (by kernel_rfl) (by kernel_rfl) (fun _ _ _ h => h) (Or.inl ⟨by rfl, ?_⟩) (by assumption) ?_
  rotate_left
  · intro w hSw; (try dsimp only at hSw); go_simp; (try with_reducible rfl)
  try simp only [Act.put, List.setIfInBounds_toArray, List.set_cons_zero, List.set_cons_succ]
  refine wpAnyH_ready (rs := [8]) (by kernel_rfl) (by simp) ?_
  refine AllReadyH.cons rfl (fun K hK => ?_) AllReadyH.nil
  go_simp
  refine HC.out.mono ?_
  rintro e w2 ⟨rfl, ho2, _, hb2⟩
  have HO2 := Lib.hid ho2
  have HB2 := Lib.hid hb2
  clear ho2 hb2
  obtain ⟨b', hb'⟩ : ∃ b', w.drew.heap.size = b' := ⟨_, rfl⟩
  have Hb' := Lib.hid hb'
  rw [hb'] at HO2 ⊢
  clear hb'
  (try go_wp2_with fail)
  refine hK.out _ _ ?_ (fun hHeld => ?_)
  · exact ⟨(cellB HB2.out hHeld.1), (cellB HB2.out hHeld.2)⟩
  clear hK K
  try simp only [Act.put, List.setIfInBounds_toArray, List.set_cons_zero, List.set_cons_succ]
  refine wpAnyH_step (i := 9) (d := some 14) (v := ?_) rfl rfl (by kernel_rfl) (by kernel_rfl) (by kernel_rfl) (fun _ _ _ h => h) (Or.inl ⟨by rfl, ?_⟩) (by assumption) ?_
  rotate_left
  · intro w hSw; (try dsimp only at hSw); go_simp; (try with_reducible rfl)
  try simp only [Act.put, List.setIfInBounds_toArray, List.set_cons_zero, List.set_cons_succ]
  refine wpAnyH_ready (rs := [10]) (by kernel_rfl) (by simp) ?_
  refine AllReadyH.cons rfl (fun K hK => ?_) AllReadyH.nil
  go_simp
  have HX := Lib.hid (show TS (w2.alloc (.cells #[.int .i64 c, .map (some b')] 55)) w2.heap.size b' c S ∧ w.heap.size ≤ w2.heap.size ∧ w.heap.size ≤ b' ∧ Below w.heap.size w (w2.alloc (.cells #[.int .i64 c, .map (some b')] 55)) from
    ⟨ts_of (D := D) (n := 300) ⟨by simp [go_sem], by simp [go_sem], World.ownsMap.alloc HO2.out _⟩ HS.out HT.out.lo HT.out.hi HT.out.bd (MapKept.heap_alloc w2 _).1, HB2.out.size, Nat.le_of_eq Hb'.out, bel_alloc (bel_call (bel_drew1 w) HB2.out) _⟩)
  (try go_wp2_with fail)
  refine hK.out _ _ ?_ (fun hHeld => ?_)
  · exact ⟨(cellB (bel_alloc (Below.refl _ _) _) hHeld.1), (cellB (bel_alloc (Below.refl _ _) _) hHeld.2)⟩
  clear hK K
  try simp only [Act.put, List.setIfInBounds_toArray, List.set_cons_zero, List.set_cons_succ]
  refine wpAnyH_step (i := 11) (d := some 2) (v := ?_) rfl rfl (by kernel_rfl) (by kernel_rfl) (by kernel_rfl) (fun _ _ _ h => h) (Or.inl ⟨by rfl, ?_⟩) (by assumption) ?_
  rotate_left
  · intro w hSw; (try dsimp only at hSw); go_simp; (try with_reducible rfl)
  try simp only [Act.put, List.setIfInBounds_toArray, List.set_cons_zero, List.set_cons_succ]
  refine wpAnyH_done (by kernel_rfl) ?_ _
  clear hHeld
  go_wp2_with fail
  go_ret
  exact ⟨_, rfl, _, HX.out.1, HX.out.2.1, HX.out.2.2.1, HX.out.2.2.2⟩
/-- The copy's own calls. -/
def TE (W : World) (p b : Nat) : Prop := ∃ c S, TS W p b c S
theorem put_te (w : World) (p b B : Nat) (h : TE w p b) (hB : B ≤ w.heap.size) (hb : B ≤ b) (on : Bool) (v : Value) (L : List Int) (hL : IntsAt w v L) (hl : L.length ≤ 100000) :
    Calls Try.prog 12 #[.pointer (some ⟨p, 0, none⟩), .bool on, v] w fun e w' => ∃ x, e = .returned (.int .i64 x) ∧ TE w' p b ∧ Below B w w' := by
  obtain ⟨c, S, h⟩ := h
  refine (put_any w p b c S h on v L hL hl).mono ?_
  rintro e w' ⟨he, ht, hg⟩
  exact ⟨_, he, ⟨_, _, ht⟩, below_of_grown hg hB hb⟩
theorem every_te (w : World) (p b B : Nat) (h : TE w p b) (hB : B ≤ w.heap.size) (hb : B ≤ b) (n : Int) (h1 : n ≤ 9223372036854775807) :
    Calls Try.prog 10 #[.pointer (some ⟨p, 0, none⟩), .int .i64 n] w fun e w' => ∃ x, e = .returned (.int .i64 x) ∧ TE w' p b ∧ Below B w w' := by
  obtain ⟨c, S, h⟩ := h
  refine (every_all w p b c S h n h1).mono ?_
  rintro e w' ⟨he, ht, hg⟩
  exact ⟨_, he, ⟨_, _, ht⟩, below_of_grown hg hB hb⟩
theorem resize_te (w : World) (p b B : Nat) (h : TE w p b) (hB : B ≤ w.heap.size) (hp : B ≤ p) (hb : B ≤ b) (n : Int) :
    Calls Try.prog 23 #[.pointer (some ⟨p, 0, none⟩), .int .i64 n] w fun e w' => ∃ x, e = .returned (.int .i64 x) ∧ TE w' p b ∧ Below B w w' := by
  obtain ⟨c, S, h⟩ := h
  by_cases hn : n < 1 ∨ 255 < n
  · refine (resize_bad w p n hn).mono ?_
    rintro e w' ⟨he, hb'⟩
    exact ⟨_, he, ⟨_, _, h.later hb'⟩, hb'.mono hB⟩
  · obtain ⟨N, rfl⟩ : ∃ N : Nat, n = (N : Int) := ⟨n.toNat, by omega⟩
    refine (resize_ts w p b c S h N (by omega) (by omega)).mono ?_
    rintro e w' ⟨he, ht, hc⟩
    exact ⟨_, he, ⟨_, _, ht⟩, hc.below hB (by intro x hx; simp at hx; omega)⟩
set_option maxHeartbeats 4000000 in
theorem copies_walk (lv mv : Value) (l m : List OpD) (w : World) (hL : OpsAt w lv l) (hll : l.length ≤ 9223372036854775807) (hM : OpsAt w mv m) (hml : m.length ≤ 9223372036854775807) :
    Calls Try.prog 6 #[lv, mv] w fun e w' => e = .returned (.bool true) ∧ Below w.heap.size w w' := by
  have HA := Lib.hid (fun W => awake_any W)
  have HOps := Lib.hid hL
  have HOpm := Lib.hid hM
  obtain ⟨ad, cap, hlv, -⟩ := id hL
  obtain ⟨ad2, cap2, hmv, -⟩ := id hM
  have HNew := Lib.hid (new_ts 30 (by omega) (by omega) w)
  have HFew := Lib.hid (fun W (hb : Below w.heap.size w W) => few_any W lv l (hL.later hb) hll)
  have HFew2 := Lib.hid (fun W (hb : Below w.heap.size w W) => few_any W mv m (hM.later hb) hml)
  have HRn := Lib.hid (fun W => rnew_any W 30 (by omega))
  have Hlv := Lib.hid hlv
  have Hmv := Lib.hid hmv
  obtain ⟨N, hN⟩ : ∃ N, l.length = N := ⟨_, rfl⟩
  obtain ⟨M, hM'⟩ : ∃ M, m.length = M := ⟨_, rfl⟩
  have HN := Lib.hid hN
  have HM := Lib.hid hM'
  rw [hN] at hlv hll
  rw [hM'] at hmv hml
  clear hL hM hN hM'
  subst hlv hmv
  cases hf : fewB l with
  | false =>
    rw [hf] at HFew
    clear hf
    go_enter Try.func6, Try.ntmps6
    go_wp2_with fail
    refine HNew.out.mono ?_
    rintro e w1 ⟨rfl, _, hb0⟩
    have HF := Lib.hid (HFew.out _ hb0)
    have Hb0 := Lib.hid hb0
    clear hb0
    go_wp2_with fail
    refine HF.out.mono ?_
    rintro e w2 ⟨rfl, rfl⟩
    go_wp2_with fail
    refine (HA.out _).mono ?_
    rintro e w3 ⟨rfl, hb⟩
    go_wp2_with fail
    go_ret
    exact ⟨rfl, bel_call Hb0.out hb⟩
  | true =>
    rw [hf] at HFew
    have HfB := Lib.hid (fun k hk => few_len hf k hk)
    clear hf
    cases hf2 : fewB m with
    | false =>
      rw [hf2] at HFew2
      clear hf2
      go_enter Try.func6, Try.ntmps6
      go_wp2_with fail
      refine HNew.out.mono ?_
      rintro e w1 ⟨rfl, _, hb0⟩
      have HF := Lib.hid (HFew.out _ hb0)
      have HF2 := Lib.hid (HFew2.out _ hb0)
      have Hb0 := Lib.hid hb0
      clear hb0
      go_wp2_with fail
      refine HF.out.mono ?_
      rintro e w2 ⟨rfl, rfl⟩
      go_wp2_with fail
      refine HF2.out.mono ?_
      rintro e w2 ⟨rfl, rfl⟩
      go_wp2_with fail
      refine (HA.out _).mono ?_
      rintro e w3 ⟨rfl, hb⟩
      go_wp2_with fail
      go_ret
      exact ⟨rfl, bel_call Hb0.out hb⟩
    | true =>
      rw [hf2] at HFew2
      have HmB := Lib.hid (fun k hk => few_len hf2 k hk)
      clear hf2
      go_enter Try.func6, Try.ntmps6
      go_wp2_with fail
      refine HNew.out.mono ?_
      rintro e w1 ⟨rfl, hT1, hb1⟩
      have HF := Lib.hid (HFew.out _ hb1)
      have HF2 := Lib.hid (HFew2.out _ hb1)
      have Hb1 := Lib.hid hb1
      have HT1 := Lib.hid hT1
      clear hb1 hT1
      obtain ⟨p, hp⟩ : ∃ p, w.heap.size + 1 = p := ⟨_, rfl⟩
      rw [hp] at HT1 ⊢
      have Hp := Lib.hid hp
      clear hp
      go_wp2_with fail
      refine HF.out.mono ?_
      rintro e w2 ⟨rfl, rfl⟩
      go_wp2_with fail
      refine HF2.out.mono ?_
      rintro e w2' ⟨rfl, rfl⟩
      go_wp2_with fail
      refine (HRn.out _).mono ?_
      rintro e w3 ⟨rfl, hR3, hb3⟩
      have hBE : BothE w3 w.heap.size p w.heap.size (w2'.heap.size + 1) := ⟨30, _, HT1.out.later hb3, ⟨_, hR3, Hb1.out.size⟩, by have := Hp.out; omega, Nat.le_refl _, by have := Hb1.out.size; omega⟩
      have HBE := Lib.hid hBE
      have Hb3 := Lib.hid (bel_call Hb1.out hb3)
      obtain ⟨q, hq⟩ : ∃ q, w2'.heap.size + 1 = q := ⟨_, rfl⟩
      rw [hq] at HBE ⊢
      clear hBE hR3 hb3 hq
      go_wp2_with fail
      go_loopw [7, 8] (fun r i wr => ∃ (k q : Nat), k ≤ N ∧ i = .int .i64 (k : Int) ∧ r = .pointer (some ⟨q, 0, none⟩) ∧ BothE wr w.heap.size p w.heap.size q ∧ Below w.heap.size w wr) (fun _ i _ => N - (intOf i).toNat)
      case atStart => exact ⟨0, q, Nat.zero_le _, rfl, rfl, HBE.out, Hb3.out⟩
      case round =>
        obtain ⟨k, q2, hk, rfl, rfl, hbe, hbw⟩ := hrel
        have Hbe := Lib.hid hbe
        have Hbw := Lib.hid hbw
        clear hbe hbw
        by_cases hlt : k < N
        · have q1 : (k : Int) < (N : Int) := by omega
          have hkL : k < l.length := by rw [HN.out]; exact hlt
          obtain ⟨g, off, rfl, ⟨d0, d1, d2, d3⟩, hok⟩ := ops_cell HOps.out Hbw.out Hlv.out k hkL
          have HD := Lib.hid (does_any wr _ _ _ _ Hbe.out Hbw.out.size l[k].a l[k].n l[k].m hok.n1 hok.m0 hok.m1 _ _ hok.l (by have := HfB.out k hkL; omega))
          clear hok
          generalize l[k]'hkL = x at *
          go_wp2_with fail
          refine HD.out.mono ?_
          rintro e w4 ⟨q3, rfl, hbe4, hbl4⟩
          have HBE4 := Lib.hid hbe4
          have HBl4 := Lib.hid (Hbw.out.trans hbl4)
          clear hbe4 hbl4 HD d0 d1 d2 d3
          go_wp2_with fail
          go_roundw
          case rel => exact ⟨k + 1, q3, by omega, by go_num, rfl, HBE4.out, HBl4.out⟩
          case measure => simp [intOf]; omega
        · have q1 : ¬ (k : Int) < (N : Int) := by omega
          obtain ⟨c4, S4, hb4⟩ := Hbe.out
          obtain ⟨g4, hR4, hg4⟩ := hb4.r
          have HCp := Lib.hid (copy_ts wr _ _ _ _ hb4.t)
          have HR4' := Lib.hid hR4
          have h255 := hb4.t.hi
          have HT4' := Lib.hid hb4.t
          clear hb4 hR4 hg4 HRn HFew HFew2 HF HF2 HNew hlt
          go_wp2_with fail
          refine HCp.out.mono ?_
          rintro e w4 ⟨pc, rfl, bc, htc, hpc, hbc, hbw4⟩
          have HTc := Lib.hid htc
          have HPc := Lib.hid (And.intro hpc hbc)
          have HBw4 := Lib.hid hbw4
          have HR4 := Lib.hid (HR4'.out.later hbw4)
          clear htc hpc hbc hbw4
          go_wp2_with fail
          have HLs := Lib.hid (fun W (hb : Below w4.drew.heap.size w4.drew W) => list_ts W _ _ _ _ ((HTc.out.later (bel_drew1 w4)).later hb))
          have HRl := Lib.hid (fun W (hb : Below w4.drew.heap.size w4.drew W) => rlist_any W _ _ _ _ ((HR4.out.later (bel_drew1 w4)).later hb) h255)
          have HCo := Lib.hid (fun W (hb : Below w4.drew.heap.size w4.drew W) => cols_ts W _ _ _ _ ((HTc.out.later (bel_drew1 w4)).later hb))
          have HRise := Lib.hid (show (rise c4 S4).length ≤ 100000 from Nat.le_trans (rise_len _ _) (by omega))
          have HCq := Lib.hid (HR4.out.later (bel_drew1 w4)).cq
          have HKB := Lib.hid (fun (W W2 : World) (hk : W.cell? ⟨q2, 0, none⟩ = some (.slice (some ⟨g4, 0, none⟩) c4 c4) ∧ Below w4.drew.heap.size w4.drew W) (hb : Below W.heap.size W W2) =>
            (show W2.cell? ⟨q2, 0, none⟩ = some (.slice (some ⟨g4, 0, none⟩) c4 c4) ∧ Below w4.drew.heap.size w4.drew W2 from ⟨cellB hb hk.1, bel_call hk.2 hb⟩))
          refine wp_region_held_drew (S := fun W => W.cell? ⟨q2, 0, none⟩ = some (.slice (some ⟨g4, 0, none⟩) c4 c4) ∧ Below w4.drew.heap.size w4.drew W) (by kernel_rfl) ⟨HCq.out, Below.refl _ _⟩ (fun hHeld => ?_)
          refine wpAnyH_step (i := 0) (d := some 59) (v := ?_) rfl rfl (by kernel_rfl) (by kernel_rfl) (by kernel_rfl) (fun _ _ _ h => h) (Or.inl ⟨by rfl, ?_⟩) (by assumption) ?_
          rotate_left
          · intro w hSw; (try dsimp only at hSw); go_simp; (try with_reducible rfl)
          try simp only [Act.put, List.setIfInBounds_toArray, List.set_cons_zero, List.set_cons_succ]
          refine wpAnyH_step (i := 1) (d := some 60) (v := ?_) rfl rfl (by kernel_rfl) (by kernel_rfl) (by kernel_rfl) (fun _ _ _ h => h) (Or.inl ⟨by rfl, ?_⟩) (by assumption) ?_
          rotate_left
          · intro w hSw; (try dsimp only at hSw); go_simp; (try with_reducible rfl)
          try simp only [Act.put, List.setIfInBounds_toArray, List.set_cons_zero, List.set_cons_succ]
          refine wpAnyH_step (i := 2) (d := some 61) (v := ?_) rfl rfl (by kernel_rfl) (by kernel_rfl) (by kernel_rfl) (fun _ _ _ h => h) (Or.inl ⟨by rfl, ?_⟩) (by assumption) ?_
          rotate_left
          · intro w hSw; (try dsimp only at hSw); go_simp; (try with_reducible rfl)
          try simp only [Act.put, List.setIfInBounds_toArray, List.set_cons_zero, List.set_cons_succ]
          refine wpAnyH_step (i := 3) (d := some 62) (v := ?_) rfl rfl (by kernel_rfl) (by kernel_rfl) (by kernel_rfl) (fun _ _ _ h => h) (Or.inl ⟨by rfl, ?_⟩) (by assumption) ?_
          rotate_left
          · intro w hSw; (try dsimp only at hSw); go_simp; (try with_reducible rfl)
          try simp only [Act.put, List.setIfInBounds_toArray, List.set_cons_zero, List.set_cons_succ]
          refine wpAnyH_step (i := 5) (d := some 64) (v := ?_) rfl rfl (by kernel_rfl) (by kernel_rfl) (by kernel_rfl) (fun _ _ _ h => h) (Or.inl ⟨by rfl, ?_⟩) (by assumption) ?_
          rotate_left
          · intro w hSw; (try dsimp only at hSw); go_simp; (try with_reducible rfl)
          try simp only [Act.put, List.setIfInBounds_toArray, List.set_cons_zero, List.set_cons_succ]
          refine wpAnyH_ready (rs := [4]) (by kernel_rfl) (by simp) ?_
          refine AllReadyH.cons rfl (fun K hK => ?_) AllReadyH.nil
          go_simp
          refine (HLs.out _ hHeld.2).mono ?_
          rintro e w5 ⟨v5, rfl, ho5, hb5⟩
          have HO5 := Lib.hid ho5.at
          have HB5 := Lib.hid hb5
          clear ho5 hb5
          (try go_wp2_with fail)
          refine hK.out _ _ ?_ (fun hHeld => ?_)
          · exact HKB.out _ _ hHeld HB5.out
          clear hK K
          try simp only [Act.put, List.setIfInBounds_toArray, List.set_cons_zero, List.set_cons_succ]
          refine wpAnyH_ready (rs := [6]) (by kernel_rfl) (by simp) ?_
          refine AllReadyH.cons rfl (fun K hK => ?_) AllReadyH.nil
          go_simp
          refine (HRl.out _ hHeld.2).mono ?_
          rintro e w6 ⟨v6, rfl, ho6, hb6⟩
          have HO6 := Lib.hid ho6.at
          have HB6 := Lib.hid hb6
          clear ho6 hb6
          (try go_wp2_with fail)
          refine hK.out _ _ ?_ (fun hHeld => ?_)
          · exact HKB.out _ _ hHeld HB6.out
          clear hK K
          try simp only [Act.put, List.setIfInBounds_toArray, List.set_cons_zero, List.set_cons_succ]
          refine wpAnyH_ready (rs := [7]) (by kernel_rfl) (by simp) ?_
          refine AllReadyH.cons rfl (fun K hK => ?_) AllReadyH.nil
          go_simp
          refine (ints_same _ _ _ _ (HO5.out.later HB6.out) HO6.out HRise.out).mono ?_
          rintro e w7 ⟨rfl, hb7⟩
          have HB7 := Lib.hid hb7
          clear hb7
          (try go_wp2_with fail)
          refine hK.out _ _ ?_ (fun hHeld => ?_)
          · exact HKB.out _ _ hHeld HB7.out
          clear hK K
          try simp only [Act.put, List.setIfInBounds_toArray, List.set_cons_zero, List.set_cons_succ]
          refine wpAnyH_step (i := 8) (d := some 67) (v := ?_) rfl rfl (by kernel_rfl) (by kernel_rfl) (by kernel_rfl) (fun _ _ _ h => h) (Or.inl ⟨by rfl, ?_⟩) (by assumption) ?_
          rotate_left
          · intro w hSw; (try dsimp only at hSw); go_simp; (try with_reducible rfl)
          try simp only [Act.put, List.setIfInBounds_toArray, List.set_cons_zero, List.set_cons_succ]
          refine wpAnyH_step (i := 9) (d := some 68) (v := ?_) rfl rfl (by kernel_rfl) (by kernel_rfl) (by kernel_rfl) (fun _ _ _ h => h) (Or.inl ⟨by rfl, ?_⟩) (by assumption) ?_
          rotate_left
          · intro w hSw; (try dsimp only at hSw); go_simp; (try with_reducible rfl)
          try simp only [Act.put, List.setIfInBounds_toArray, List.set_cons_zero, List.set_cons_succ]
          refine wpAnyH_step (i := 10) (d := some 69) (v := ?_) rfl rfl (by kernel_rfl) (by kernel_rfl) (by kernel_rfl) (fun _ _ _ h => h) (Or.inl ⟨by rfl, ?_⟩) (by assumption) ?_
          rotate_left
          · intro w hSw; (try dsimp only at hSw); go_simp; (try with_reducible rfl)
          try simp only [Act.put, List.setIfInBounds_toArray, List.set_cons_zero, List.set_cons_succ]
          refine wpAnyH_step (i := 11) (d := some 70) (v := ?_) rfl rfl (by kernel_rfl) (by kernel_rfl) (by kernel_rfl) (fun _ _ _ h => h) (Or.inl ⟨by rfl, ?_⟩) (by assumption) ?_
          rotate_left
          · intro w hSw; (try dsimp only at hSw); go_simp; (try with_reducible rfl)
          try simp only [Act.put, List.setIfInBounds_toArray, List.set_cons_zero, List.set_cons_succ]
          refine wpAnyH_step (i := 13) (d := some 72) (v := ?_) rfl rfl (by kernel_rfl) (by kernel_rfl) (by kernel_rfl) (fun _ _ _ h => h) (Or.inl ⟨by rfl, ?_⟩) (by assumption) ?_
          rotate_left
          · intro w hSw; (try dsimp only at hSw); go_simp; (try with_reducible rfl)
          try simp only [Act.put, List.setIfInBounds_toArray, List.set_cons_zero, List.set_cons_succ]
          refine wpAnyH_step (i := 14) (d := some 73) (v := ?_) rfl rfl (by kernel_rfl) (by kernel_rfl) (by kernel_rfl) (fun _ _ _ h => h) (Or.inl ⟨by rfl, ?_⟩) (by assumption) ?_
          rotate_left
          · intro w hSw; (try dsimp only at hSw); go_simp; (try with_reducible rfl)
          try simp only [Act.put, List.setIfInBounds_toArray, List.set_cons_zero, List.set_cons_succ]
          refine wpAnyH_step (i := 15) (d := some 74) (v := ?_) rfl rfl (by kernel_rfl) (by kernel_rfl) (by kernel_rfl) (fun _ _ _ h => h) (Or.inl ⟨by rfl, ?_⟩) (by assumption) ?_
          rotate_left
          · intro w hSw; (try dsimp only at hSw); go_simp; (try with_reducible rfl)
          try simp only [Act.put, List.setIfInBounds_toArray, List.set_cons_zero, List.set_cons_succ]
          refine wpAnyH_step (i := 16) (d := some 75) (v := ?_) rfl rfl (by kernel_rfl) (by kernel_rfl) (by kernel_rfl) (fun _ _ _ h => h) (Or.inl ⟨by rfl, ?_⟩) (by assumption) ?_
          rotate_left
          · intro w hSw; (try dsimp only at hSw); go_simp; (try with_reducible rfl)
          try simp only [Act.put, List.setIfInBounds_toArray, List.set_cons_zero, List.set_cons_succ]
          refine wpAnyH_step (i := 17) (d := some 76) (v := ?_) rfl rfl (by kernel_rfl) (by kernel_rfl) (by kernel_rfl) (fun _ _ _ h => h) (Or.inl ⟨by rfl, ?_⟩) (by assumption) ?_
          rotate_left
          · intro w hSw; (try dsimp only at hSw); go_simp; (try with_reducible rfl)
          try simp only [Act.put, List.setIfInBounds_toArray, List.set_cons_zero, List.set_cons_succ]
          refine wpAnyH_ready (rs := [12]) (by kernel_rfl) (by simp) ?_
          refine AllReadyH.cons rfl (fun K hK => ?_) AllReadyH.nil
          go_simp
          refine (HCo.out _ hHeld.2).mono ?_
          rintro e w8 ⟨rfl, rfl⟩
          (try go_wp2_with fail)
          refine hK.out _ _ ?_ (fun hHeld => ?_)
          · exact hHeld
          clear hK K
          try simp only [Act.put, List.setIfInBounds_toArray, List.set_cons_zero, List.set_cons_succ]
          refine wpAnyH_step (i := 18) (d := some 77) (v := ?_) rfl rfl (by kernel_rfl) (by kernel_rfl) (by kernel_rfl) (fun _ _ _ h => h) (Or.inl ⟨by rfl, ?_⟩) (by assumption) ?_
          rotate_left
          · intro w hSw; (try dsimp only at hSw); go_simp; (try with_reducible rfl)
          try simp only [Act.put, List.setIfInBounds_toArray, List.set_cons_zero, List.set_cons_succ]
          refine wpAnyH_step (i := 19) (d := some 78) (v := ?_) rfl rfl (by kernel_rfl) (by kernel_rfl) (by kernel_rfl) (fun _ _ _ h => h) (Or.inl ⟨by rfl, ?_⟩) (by assumption) ?_
          rotate_left
          · intro w hSw; (try dsimp only at hSw); go_simp; (try with_reducible rfl)
          try simp only [Act.put, List.setIfInBounds_toArray, List.set_cons_zero, List.set_cons_succ]
          refine wpAnyH_done (by kernel_rfl) ?_ _
          have HX := Lib.hid (show TE _ pc bc ∧ Below wr.heap.size wr _ from ⟨⟨_, _, (HTc.out.later (bel_drew1 w4)).later hHeld.2⟩, bel_call (bel_call HBw4.out (bel_drew1 w4)) hHeld.2⟩)
          clear hHeld HO5 HO6 HB5 HB6 HB7 HLs HRl HCo HCq HKB HRise
          obtain ⟨wz, hwz⟩ : ∃ wz, wz = wr := ⟨_, rfl⟩
          subst hwz
          go_wp2_with fail
          go_loopw [10] (fun i wx => ∃ k : Nat, k ≤ M ∧ i = .int .i64 (k : Int) ∧ TE wx pc bc ∧ Below wz.heap.size wz wx) (fun i _ => M - (intOf i).toNat)
          case atStart => exact ⟨0, Nat.zero_le _, rfl, HX.out.1, HX.out.2⟩
          case round =>
            obtain ⟨k2, hk2, rfl, hte, hbx⟩ := hrel
            have Hte := Lib.hid hte
            have Hbx := Lib.hid hbx
            clear hte hbx q1
            by_cases hlt : k2 < M
            · have q1 : (k2 : Int) < (M : Int) := by omega
              have hkM : k2 < m.length := by rw [HM.out]; exact hlt
              obtain ⟨g, off, rfl, ⟨d0, d1, d2, d3⟩, hok⟩ := ops_cell HOpm.out (bel_call Hbw.out Hbx.out) Hmv.out k2 hkM
              have HIn := Lib.hid hok.l
              have HIl := Lib.hid (HmB.out k2 hkM)
              have Hn1 := Lib.hid hok.n1
              clear hok
              generalize m[k2]'hkM = x at *
              by_cases h0 : x.a = 0 ∨ x.a = 1
              · have hon : ∃ on : Bool, (x.a == 0) = on := ⟨_, rfl⟩
                obtain ⟨on, hon⟩ := hon
                have HPut := Lib.hid (fun (W : World) (hb : Below _ _ W) => put_te W pc bc wz.heap.size (by obtain ⟨c, S, ht⟩ := Hte.out; exact ⟨c, S, ht.later hb⟩) (Nat.le_trans Hbx.out.size hb.size) HPc.out.2 on _ _ (HIn.out.later hb) (by have := HIl.out; omega))
                obtain ⟨xa, xn, xm, xad, xcap, xL⟩ := x
                dsimp only at *
                rcases h0 with rfl | rfl
                · have e1 : on = true := by rw [← hon]; rfl
                  subst e1
                  clear hon
                  go_wp2_with fail
                  go_still_tail 12, (by kernel_rfl)
                  change wpList _ _ _ _ _ wr.drew
                  have HPd := Lib.hid (HPut.out wr.drew (bel_drew1 wr))
                  have HBd := Lib.hid (bel_call Hbx.out (bel_drew1 wr))
                  generalize wr.drew = w9 at *
                  clear d0 d1 d2 d3 HPut HIn
                  go_wp2_with fail
                  refine HPd.out.mono ?_
                  rintro e w10 ⟨xr, rfl, hte2, hb2⟩
                  have HE2 := Lib.hid hte2
                  have HB2 := Lib.hid (Below.trans HBd.out hb2)
                  clear hte2 hb2 HPd HBd
                  go_wp2_with fail
                  go_roundw
                  case rel => exact ⟨k2 + 1, by omega, by go_num, HE2.out, HB2.out⟩
                  case measure => simp [intOf]; omega
                · have e1 : on = false := by rw [← hon]; rfl
                  subst e1
                  clear hon
                  go_wp2_with fail
                  go_still_tail 12, (by kernel_rfl)
                  change wpList _ _ _ _ _ wr.drew
                  have HPd := Lib.hid (HPut.out wr.drew (bel_drew1 wr))
                  have HBd := Lib.hid (bel_call Hbx.out (bel_drew1 wr))
                  generalize wr.drew = w9 at *
                  clear d0 d1 d2 d3 HPut HIn
                  go_wp2_with fail
                  refine HPd.out.mono ?_
                  rintro e w10 ⟨xr, rfl, hte2, hb2⟩
                  have HE2 := Lib.hid hte2
                  have HB2 := Lib.hid (Below.trans HBd.out hb2)
                  clear hte2 hb2 HPd HBd
                  go_wp2_with fail
                  go_roundw
                  case rel => exact ⟨k2 + 1, by omega, by go_num, HE2.out, HB2.out⟩
                  case measure => simp [intOf]; omega
              · by_cases h2 : x.a = 2
                · have HPut := Lib.hid (every_te wr pc bc wz.heap.size Hte.out Hbx.out.size HPc.out.2 x.n Hn1.out)
                  obtain ⟨xa, xn, xm, xad, xcap, xL⟩ := x
                  dsimp only at *
                  subst h2
                  clear h0
                  go_wp2_with fail
                  refine HPut.out.mono ?_
                  rintro e w10 ⟨xr, rfl, hte2, hb2⟩
                  have HE2 := Lib.hid hte2
                  have HB2 := Lib.hid (Below.trans Hbx.out hb2)
                  clear hte2 hb2
                  go_wp2_with fail
                  go_roundw
                  case rel => exact ⟨k2 + 1, by omega, by go_num, HE2.out, HB2.out⟩
                  case measure => simp [intOf]; omega
                · by_cases h3 : x.a = 3
                  · have HPut := Lib.hid (resize_te wr pc bc wz.heap.size Hte.out Hbx.out.size HPc.out.1 HPc.out.2 x.n)
                    obtain ⟨xa, xn, xm, xad, xcap, xL⟩ := x
                    dsimp only at *
                    subst h3
                    clear h0 h2
                    go_wp2_with fail
                    refine HPut.out.mono ?_
                    rintro e w10 ⟨xr, rfl, hte2, hb2⟩
                    have HE2 := Lib.hid hte2
                    have HB2 := Lib.hid (Below.trans Hbx.out hb2)
                    clear hte2 hb2
                    go_wp2_with fail
                    go_roundw
                    case rel => exact ⟨k2 + 1, by omega, by go_num, HE2.out, HB2.out⟩
                    case measure => simp [intOf]; omega
                  · obtain ⟨xa, xn, xm, xad, xcap, xL⟩ := x
                    dsimp only at *
                    have f0 : (xa == 0) = false := by simp; omega
                    have f1 : (xa == 1) = false := by simp; omega
                    have f2 : (xa == 2) = false := by simpa using h2
                    have f3 : (xa == 3) = false := by simpa using h3
                    clear h0 h2 h3
                    go_wp2_with fail
                    go_roundw
                    case rel => exact ⟨k2 + 1, by omega, by go_num, Hte.out, Hbx.out⟩
                    case measure => simp [intOf]; omega
            · have q1 : ¬ (k2 : Int) < (M : Int) := by omega
              have HTx := Lib.hid (HT4'.out.later Hbx.out)
              have HRx := Lib.hid (HR4'.out.later Hbx.out)
              clear HTc HR4 HX Hte
              go_wp2_with fail
              have HLs := Lib.hid (fun W (hb : Below wr.drew.heap.size wr.drew W) => list_ts W _ _ _ _ ((HTx.out.later (bel_drew1 wr)).later hb))
              have HRl := Lib.hid (fun W (hb : Below wr.drew.heap.size wr.drew W) => rlist_any W _ _ _ _ ((HRx.out.later (bel_drew1 wr)).later hb) h255)
              have HCo := Lib.hid (fun W (hb : Below wr.drew.heap.size wr.drew W) => cols_ts W _ _ _ _ ((HTx.out.later (bel_drew1 wr)).later hb))
              have HRise := Lib.hid (show (rise c4 S4).length ≤ 100000 from Nat.le_trans (rise_len _ _) (by omega))
              have HCq := Lib.hid (HRx.out.later (bel_drew1 wr)).cq
              have HKB := Lib.hid (fun (W W2 : World) (hk : W.cell? ⟨q2, 0, none⟩ = some (.slice (some ⟨g4, 0, none⟩) c4 c4) ∧ Below wr.drew.heap.size wr.drew W) (hb : Below W.heap.size W W2) =>
                (show W2.cell? ⟨q2, 0, none⟩ = some (.slice (some ⟨g4, 0, none⟩) c4 c4) ∧ Below wr.drew.heap.size wr.drew W2 from ⟨cellB hb hk.1, bel_call hk.2 hb⟩))
              refine wp_region_held_drew (S := fun W => W.cell? ⟨q2, 0, none⟩ = some (.slice (some ⟨g4, 0, none⟩) c4 c4) ∧ Below wr.drew.heap.size wr.drew W) (by kernel_rfl) ⟨HCq.out, Below.refl _ _⟩ (fun hHeld => ?_)
              refine wpAnyH_step (i := 0) (d := some 124) (v := ?_) rfl rfl (by kernel_rfl) (by kernel_rfl) (by kernel_rfl) (fun _ _ _ h => h) (Or.inl ⟨by rfl, ?_⟩) (by assumption) ?_
              rotate_left
              · intro w hSw; (try dsimp only at hSw); go_simp; (try with_reducible rfl)
              try simp only [Act.put, List.setIfInBounds_toArray, List.set_cons_zero, List.set_cons_succ]
              refine wpAnyH_step (i := 2) (d := some 126) (v := ?_) rfl rfl (by kernel_rfl) (by kernel_rfl) (by kernel_rfl) (fun _ _ _ h => h) (Or.inl ⟨by rfl, ?_⟩) (by assumption) ?_
              rotate_left
              · intro w hSw; (try dsimp only at hSw); go_simp; (try with_reducible rfl)
              try simp only [Act.put, List.setIfInBounds_toArray, List.set_cons_zero, List.set_cons_succ]
              refine wpAnyH_ready (rs := [1]) (by kernel_rfl) (by simp) ?_
              refine AllReadyH.cons rfl (fun K hK => ?_) AllReadyH.nil
              go_simp
              refine (HLs.out _ hHeld.2).mono ?_
              rintro e w5 ⟨v5, rfl, ho5, hb5⟩
              have HO5 := Lib.hid ho5.at
              have HB5 := Lib.hid hb5
              clear ho5 hb5
              (try go_wp2_with fail)
              refine hK.out _ _ ?_ (fun hHeld => ?_)
              · exact HKB.out _ _ hHeld HB5.out
              clear hK K
              try simp only [Act.put, List.setIfInBounds_toArray, List.set_cons_zero, List.set_cons_succ]
              refine wpAnyH_ready (rs := [3]) (by kernel_rfl) (by simp) ?_
              refine AllReadyH.cons rfl (fun K hK => ?_) AllReadyH.nil
              go_simp
              refine (HRl.out _ hHeld.2).mono ?_
              rintro e w6 ⟨v6, rfl, ho6, hb6⟩
              have HO6 := Lib.hid ho6.at
              have HB6 := Lib.hid hb6
              clear ho6 hb6
              (try go_wp2_with fail)
              refine hK.out _ _ ?_ (fun hHeld => ?_)
              · exact HKB.out _ _ hHeld HB6.out
              clear hK K
              try simp only [Act.put, List.setIfInBounds_toArray, List.set_cons_zero, List.set_cons_succ]
              refine wpAnyH_ready (rs := [4]) (by kernel_rfl) (by simp) ?_
              refine AllReadyH.cons rfl (fun K hK => ?_) AllReadyH.nil
              go_simp
              refine (ints_same _ _ _ _ (HO5.out.later HB6.out) HO6.out HRise.out).mono ?_
              rintro e w7 ⟨rfl, hb7⟩
              have HB7 := Lib.hid hb7
              clear hb7
              (try go_wp2_with fail)
              refine hK.out _ _ ?_ (fun hHeld => ?_)
              · exact HKB.out _ _ hHeld HB7.out
              clear hK K
              try simp only [Act.put, List.setIfInBounds_toArray, List.set_cons_zero, List.set_cons_succ]
              refine wpAnyH_step (i := 5) (d := some 129) (v := ?_) rfl rfl (by kernel_rfl) (by kernel_rfl) (by kernel_rfl) (fun _ _ _ h => h) (Or.inl ⟨by rfl, ?_⟩) (by assumption) ?_
              rotate_left
              · intro w hSw; (try dsimp only at hSw); go_simp; (try with_reducible rfl)
              try simp only [Act.put, List.setIfInBounds_toArray, List.set_cons_zero, List.set_cons_succ]
              refine wpAnyH_step (i := 6) (d := some 130) (v := ?_) rfl rfl (by kernel_rfl) (by kernel_rfl) (by kernel_rfl) (fun _ _ _ h => h) (Or.inl ⟨by rfl, ?_⟩) (by assumption) ?_
              rotate_left
              · intro w hSw; (try dsimp only at hSw); go_simp; (try with_reducible rfl)
              try simp only [Act.put, List.setIfInBounds_toArray, List.set_cons_zero, List.set_cons_succ]
              refine wpAnyH_step (i := 8) (d := some 132) (v := ?_) rfl rfl (by kernel_rfl) (by kernel_rfl) (by kernel_rfl) (fun _ _ _ h => h) (Or.inl ⟨by rfl, ?_⟩) (by assumption) ?_
              rotate_left
              · intro w hSw; (try dsimp only at hSw); go_simp; (try with_reducible rfl)
              try simp only [Act.put, List.setIfInBounds_toArray, List.set_cons_zero, List.set_cons_succ]
              refine wpAnyH_step (i := 9) (d := some 133) (v := ?_) rfl rfl (by kernel_rfl) (by kernel_rfl) (by kernel_rfl) (fun _ _ _ h => h) (Or.inl ⟨by rfl, ?_⟩) (by assumption) ?_
              rotate_left
              · intro w hSw; (try dsimp only at hSw); go_simp; (try with_reducible rfl)
              try simp only [Act.put, List.setIfInBounds_toArray, List.set_cons_zero, List.set_cons_succ]
              refine wpAnyH_step (i := 10) (d := some 134) (v := ?_) rfl rfl (by kernel_rfl) (by kernel_rfl) (by kernel_rfl) (fun _ _ _ h => h) (Or.inl ⟨by rfl, ?_⟩) (by assumption) ?_
              rotate_left
              · intro w hSw; (try dsimp only at hSw); go_simp; (try with_reducible rfl)
              try simp only [Act.put, List.setIfInBounds_toArray, List.set_cons_zero, List.set_cons_succ]
              refine wpAnyH_step (i := 11) (d := some 135) (v := ?_) rfl rfl (by kernel_rfl) (by kernel_rfl) (by kernel_rfl) (fun _ _ _ h => h) (Or.inl ⟨by rfl, ?_⟩) (by assumption) ?_
              rotate_left
              · intro w hSw; (try dsimp only at hSw); go_simp; (try with_reducible rfl)
              try simp only [Act.put, List.setIfInBounds_toArray, List.set_cons_zero, List.set_cons_succ]
              refine wpAnyH_step (i := 12) (d := some 136) (v := ?_) rfl rfl (by kernel_rfl) (by kernel_rfl) (by kernel_rfl) (fun _ _ _ h => h) (Or.inl ⟨by rfl, ?_⟩) (by assumption) ?_
              rotate_left
              · intro w hSw; (try dsimp only at hSw); go_simp; (try with_reducible rfl)
              try simp only [Act.put, List.setIfInBounds_toArray, List.set_cons_zero, List.set_cons_succ]
              refine wpAnyH_ready (rs := [7]) (by kernel_rfl) (by simp) ?_
              refine AllReadyH.cons rfl (fun K hK => ?_) AllReadyH.nil
              go_simp
              refine (HCo.out _ hHeld.2).mono ?_
              rintro e w8 ⟨rfl, rfl⟩
              (try go_wp2_with fail)
              refine hK.out _ _ ?_ (fun hHeld => ?_)
              · exact hHeld
              clear hK K
              try simp only [Act.put, List.setIfInBounds_toArray, List.set_cons_zero, List.set_cons_succ]
              refine wpAnyH_step (i := 13) (d := some 137) (v := ?_) rfl rfl (by kernel_rfl) (by kernel_rfl) (by kernel_rfl) (fun _ _ _ h => h) (Or.inl ⟨by rfl, ?_⟩) (by assumption) ?_
              rotate_left
              · intro w hSw; (try dsimp only at hSw); go_simp; (try with_reducible rfl)
              try simp only [Act.put, List.setIfInBounds_toArray, List.set_cons_zero, List.set_cons_succ]
              refine wpAnyH_step (i := 14) (d := some 138) (v := ?_) rfl rfl (by kernel_rfl) (by kernel_rfl) (by kernel_rfl) (fun _ _ _ h => h) (Or.inl ⟨by rfl, ?_⟩) (by assumption) ?_
              rotate_left
              · intro w hSw; (try dsimp only at hSw); go_simp; (try with_reducible rfl)
              try simp only [Act.put, List.setIfInBounds_toArray, List.set_cons_zero, List.set_cons_succ]
              refine wpAnyH_step (i := 15) (d := some 139) (v := ?_) rfl rfl (by kernel_rfl) (by kernel_rfl) (by kernel_rfl) (fun _ _ _ h => h) (Or.inl ⟨by rfl, ?_⟩) (by assumption) ?_
              rotate_left
              · intro w hSw; (try dsimp only at hSw); go_simp; (try with_reducible rfl)
              try simp only [Act.put, List.setIfInBounds_toArray, List.set_cons_zero, List.set_cons_succ]
              refine wpAnyH_ready (rs := [16]) (by kernel_rfl) (by simp) ?_
              refine AllReadyH.cons rfl (fun K hK => ?_) AllReadyH.nil
              go_simp
              refine (HA.out _).mono ?_
              rintro e w9 ⟨rfl, hb9⟩
              have HB9 := Lib.hid hb9
              clear hb9
              (try go_wp2_with fail)
              refine hK.out _ _ ?_ (fun hHeld => ?_)
              · exact HKB.out _ _ hHeld HB9.out
              clear hK K
              try simp only [Act.put, List.setIfInBounds_toArray, List.set_cons_zero, List.set_cons_succ]
              refine wpAnyH_step (i := 17) (d := some 141) (v := ?_) rfl rfl (by kernel_rfl) (by kernel_rfl) (by kernel_rfl) (fun _ _ _ h => h) (Or.inl ⟨by rfl, ?_⟩) (by assumption) ?_
              rotate_left
              · intro w hSw; (try dsimp only at hSw); go_simp; (try with_reducible rfl)
              try simp only [Act.put, List.setIfInBounds_toArray, List.set_cons_zero, List.set_cons_succ]
              refine wpAnyH_step (i := 18) (d := some 4) (v := ?_) rfl rfl (by kernel_rfl) (by kernel_rfl) (by kernel_rfl) (fun _ _ _ h => h) (Or.inl ⟨by rfl, ?_⟩) (by assumption) ?_
              rotate_left
              · intro w hSw; (try dsimp only at hSw); go_simp; (try with_reducible rfl)
              try simp only [Act.put, List.setIfInBounds_toArray, List.set_cons_zero, List.set_cons_succ]
              refine wpAnyH_done (by kernel_rfl) ?_ _
              have HX := Lib.hid (bel_call (bel_call Hbx.out (bel_drew1 wr)) hHeld.2)
              clear hHeld
              go_wp2_with fail
              go_ret
              exact ⟨rfl, bel_call Hbw.out HX.out⟩
end Go.Proofs.Ytpjodppcedkneaa
