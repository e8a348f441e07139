/- The law's does: a call with both. Put. -/
import Derived.Test.YtpjodppcedkneaaU4
import Derived.Deep.RegionHeld3
namespace Go.Proofs.Ytpjodppcedkneaa
open Go.RowKit Go.Maps Go.Sort Go.Shelf
set_option linter.unusedVariables false
set_option linter.unusedSimpArgs false
set_option maxRecDepth 100000
/-- An operation that reads, or is not wanted, taken first; the slot that it writes is named. -/
theorem wpAnyH_step {P : Program} {ops : Array Oper} {Q : Exit → Act → World → Prop} {md : Region.Mode} {S : World → Prop} {i : Nat} {oi : Oper} {d : Option Tmp} {v : Value} {fuel : Nat} {listed : Array Bool} {a : Act} {w : World} (hi : ops[i]? = some oi) (hd : oi.dst = d)
    (hs : Region.noSelect ops = true) (hf : Region.free md ops listed i = true) (hr : (Region.ready md ops listed).contains i = true)
    (hQ : ∀ c a w, Q (.panic c) (a.put d v) w → Q (.panic c) a w) (hy : YieldsIf P ops S oi v a) (hS : S w)
    (h : wpAnyH P md ops Q S fuel (listed.setIfInBounds i true) (a.put d v) w) : wpAnyH P md ops Q S (fuel + 1) listed a w := by
  subst hd
  exact wpAnyH_take hi hs hf hr hQ hy hS h
theorem TS.chg {W W' : World} {p b c : Nat} {S : Int → Bool} {X : List Nat} (h : TS W p b c S) (hc : Chg W W' X) (h1 : p ∉ X) (h2 : b ∉ X) : TS W' p b c S :=
  ⟨h.lo, h.hi, h.bd, (hc.block p h.lt h1).trans h.blk, by
    obtain ⟨D, hT, hS⟩ := h.ob
    exact ⟨D, ⟨hc.cell h1 hT.c0, hc.cell h1 hT.c1, OwnS.kept hT.m (hc.block b (World.ownsMap.lt hT.m) h2)⟩, hS⟩⟩
theorem TS.blt {W : World} {p b c : Nat} {S : Int → Bool} (h : TS W p b c S) : b < W.heap.size := by
  obtain ⟨D, hT, hS⟩ := h.ob; exact World.ownsMap.lt hT.m
/-- The blocks are not the same. -/
theorem both_apart {W : World} {p b q g c d : Nat} {S T : Int → Bool} (h : TS W p b c S) (k : RT W q g d T) : p ≠ q ∧ p ≠ g ∧ b ≠ q ∧ b ≠ g := by
  obtain ⟨D, hT, hS⟩ := h.ob
  obtain ⟨es, clock, hb, _⟩ := hT.m
  obtain ⟨cs, hg, _⟩ := k.hg
  have hp := h.blk
  have hq := k.hq
  refine ⟨?_, ?_, ?_, ?_⟩
  · rintro rfl; rw [hp] at hq; simp at hq
  · rintro rfl; rw [hp] at hg; simp at hg
  · rintro rfl; rw [hb] at hq; simp at hq
  · rintro rfl; rw [hb] at hg; simp at hg
/-- Both, of the same columns. -/
structure Both (W : World) (B p b q : Nat) (c : Nat) (S : Int → Bool) : Prop where
  t : TS W p b c S
  r : ∃ g, RT W q g c S ∧ B ≤ g
  hp : B ≤ p
  hb : B ≤ b
  hq : B ≤ q
set_option maxHeartbeats 400000 in
theorem does_put (w : World) (B p b q c : Nat) (S : Int → Bool) (h : Both w B p b q c S) (hBw : B ≤ w.heap.size) (a n m : Int) (lv : Value) (L : List Int) (hL : IntsAt w lv L) (hl : L.length ≤ 100000) (on : Bool) (ha : (a = 0 ∧ on = true) ∨ (a = 1 ∧ on = false)) :
    Calls Try.prog 16 #[.pointer (some ⟨p, 0, none⟩), .pointer (some ⟨q, 0, none⟩), .agg #[.int .i64 a, .int .i64 n, .int .i64 m, lv]] w fun e w' => e = .returned (.tuple #[.pointer (some ⟨q, 0, none⟩), .bool true]) ∧ Both w' B p b q c (putR on c L S) ∧ Below B w w' := by
  obtain ⟨g, hR, hBg⟩ := h.r
  obtain ⟨n1, n2, n3, n4⟩ := both_apart h.t hR
  have HP := Lib.hid (fun W (hb : Below w.heap.size w W) => put_any W p b c S (h.t.later hb) on lv L (hL.later hb) hl)
  have HQ := Lib.hid (fun W W2 (hb : Below w.heap.size w W) (hg : W.grownBy W2 (some b)) => rput_any W2 q g c S ((hR.later hb).chg (Chg.of_grown (X := [b]) hg (by simp)) (by simp; omega) (by simp; omega)) h.t.hi on lv L (by
    obtain ⟨D, hT, _⟩ := (h.t.later hb).ob
    exact (hL.later hb).kept hT.m hg) hl)
  have HEnd := Lib.hid (fun W W2 W3 (hb : Below w.heap.size w W) (hg : W.grownBy W2 (some b)) (ht : TS W2 p b c (putR on c L S)) (hr : RT W3 q g c (putR on c L S)) (hc : Chg W2 W3 [g]) =>
    (show Both W3 B p b q c (putR on c L S) ∧ Below B w W3 from ⟨⟨ht.chg hc (by simp; omega) (by simp; omega), ⟨g, hr, hBg⟩, h.hp, h.hb, h.hq⟩,
      (((hb.mono hBw).trans (below_of_grown hg (Nat.le_trans hBw hb.size) h.hb)).trans (hc.below (Nat.le_trans hBw (Nat.le_trans hb.size hg.size)) (by simpa using hBg)))⟩))
  have hbl := h.t.blt
  have hgl := hR.glt
  obtain ⟨ad, cap, rfl, -⟩ := id hL
  obtain ⟨ln, hln⟩ : ∃ ln, L.length = ln := ⟨_, rfl⟩
  rw [hln] at HP HQ ⊢
  clear h hR hL hl n1 n2 n3 n4 hBg hln
  obtain ⟨E, hE⟩ : ∃ E, putE c L = E := ⟨_, rfl⟩
  rw [hE] at HP HQ
  clear hE
  have HKeep1 := Lib.hid (fun (W W2 : World) (hk : W.cell? ⟨w.heap.size, 0, none⟩ = some (.int .i64 a) ∧ W.cell? ⟨w.heap.size, 1, none⟩ = some (.int .i64 n) ∧ W.cell? ⟨w.heap.size, 3, none⟩ = some (.slice ad ln cap)) (hg : W.grownBy W2 (some b)) =>
    (show W2.cell? ⟨w.heap.size, 0, none⟩ = some (.int .i64 a) ∧ W2.cell? ⟨w.heap.size, 1, none⟩ = some (.int .i64 n) ∧ W2.cell? ⟨w.heap.size, 3, none⟩ = some (.slice ad ln cap) from ⟨grown_cell hg (by omega) hk.1, grown_cell hg (by omega) hk.2.1, grown_cell hg (by omega) hk.2.2⟩))
  have HKeep2 := Lib.hid (fun (W W2 : World) (hk : W.cell? ⟨w.heap.size, 0, none⟩ = some (.int .i64 a) ∧ W.cell? ⟨w.heap.size, 1, none⟩ = some (.int .i64 n) ∧ W.cell? ⟨w.heap.size, 3, none⟩ = some (.slice ad ln cap)) (hg : Chg W W2 [g]) =>
    (show W2.cell? ⟨w.heap.size, 0, none⟩ = some (.int .i64 a) ∧ W2.cell? ⟨w.heap.size, 1, none⟩ = some (.int .i64 n) ∧ W2.cell? ⟨w.heap.size, 3, none⟩ = some (.slice ad ln cap) from ⟨hg.cell (by simp; omega) hk.1, hg.cell (by simp; omega) hk.2.1, hg.cell (by simp; omega) hk.2.2⟩))
  clear hbl hgl
  rcases ha with ⟨rfl, rfl⟩ | ⟨rfl, rfl⟩
  · skip
    go_enter Try.func16, Try.ntmps16
    go_wp2_with fail
    obtain ⟨w1, hw1⟩ : ∃ w1, w.alloc (.cells #[.int .i64 0, .int .i64 n, .int .i64 m, .slice ad ln cap] 40) = w1 := ⟨_, rfl⟩
    rw [hw1]
    have HB1 := Lib.hid (show Below w.heap.size w w1.drew from hw1 ▸ bel_drewN (bel_alloc (Below.refl _ _) _) 1)
    have hS1 : w1.drew.cell? ⟨w.heap.size, 0, none⟩ = some (.int .i64 0) ∧ w1.drew.cell? ⟨w.heap.size, 1, none⟩ = some (.int .i64 n) ∧ w1.drew.cell? ⟨w.heap.size, 3, none⟩ = some (.slice ad ln cap) := by
      subst hw1; simp [go_sem]
    have HS1 := Lib.hid hS1
    clear hw1 hS1
    obtain ⟨Bx, hBx⟩ : ∃ Bx, w.heap.size = Bx := ⟨_, rfl⟩
    rw [hBx] at HS1 HKeep1 HKeep2 ⊢
    clear hBx
    refine wp_region_held_drew (S := fun W => W.cell? ⟨Bx, 0, none⟩ = some (.int .i64 0) ∧ W.cell? ⟨Bx, 1, none⟩ = some (.int .i64 n) ∧ W.cell? ⟨Bx, 3, none⟩ = some (.slice ad ln cap)) (by kernel_rfl) HS1.out (fun hHeld => ?_)
    refine wpAnyH_step (i := 0) (d := some 14) (v := ?_) rfl rfl (by kernel_rfl) (by kernel_rfl) (by kernel_rfl) (fun _ _ _ h => h) (Or.inl ⟨by rfl, ?_⟩) (by assumption) ?_
    rotate_left
    · intro w hSw; (try dsimp only at hSw); go_simp; (try with_reducible rfl)
    try simp only [Act.put, List.setIfInBounds_toArray, List.set_cons_zero, List.set_cons_succ]
    refine wpAnyH_step (i := 1) (d := some 15) (v := ?_) rfl rfl (by kernel_rfl) (by kernel_rfl) (by kernel_rfl) (fun _ _ _ h => h) (Or.inl ⟨by rfl, ?_⟩) (by assumption) ?_
    rotate_left
    · intro w hSw; (try dsimp only at hSw); go_simp; (try with_reducible rfl)
    try simp only [Act.put, List.setIfInBounds_toArray, List.set_cons_zero, List.set_cons_succ]
    refine wpAnyH_step (i := 2) (d := some 16) (v := ?_) rfl rfl (by kernel_rfl) (by kernel_rfl) (by kernel_rfl) (fun _ _ _ h => h) (Or.inl ⟨by rfl, ?_⟩) (by assumption) ?_
    rotate_left
    · intro w hSw; (try dsimp only at hSw); go_simp; (try with_reducible rfl)
    try simp only [Act.put, List.setIfInBounds_toArray, List.set_cons_zero, List.set_cons_succ]
    refine wpAnyH_step (i := 3) (d := some 17) (v := ?_) rfl rfl (by kernel_rfl) (by kernel_rfl) (by kernel_rfl) (fun _ _ _ h => h) (Or.inl ⟨by rfl, ?_⟩) (by assumption) ?_
    rotate_left
    · intro w hSw; (try dsimp only at hSw); go_simp; (try with_reducible rfl)
    try simp only [Act.put, List.setIfInBounds_toArray, List.set_cons_zero, List.set_cons_succ]
    refine wpAnyH_step (i := 4) (d := some 18) (v := ?_) rfl rfl (by kernel_rfl) (by kernel_rfl) (by kernel_rfl) (fun _ _ _ h => h) (Or.inl ⟨by rfl, ?_⟩) (by assumption) ?_
    rotate_left
    · intro w hSw; (try dsimp only at hSw); go_simp; (try with_reducible rfl)
    try simp only [Act.put, List.setIfInBounds_toArray, List.set_cons_zero, List.set_cons_succ]
    refine wpAnyH_step (i := 5) (d := some 19) (v := ?_) rfl rfl (by kernel_rfl) (by kernel_rfl) (by kernel_rfl) (fun _ _ _ h => h) (Or.inl ⟨by rfl, ?_⟩) (by assumption) ?_
    rotate_left
    · intro w hSw; (try dsimp only at hSw); go_simp; (try with_reducible rfl)
    try simp only [Act.put, List.setIfInBounds_toArray, List.set_cons_zero, List.set_cons_succ]
    refine wpAnyH_step (i := 6) (d := some 20) (v := ?_) rfl rfl (by kernel_rfl) (by kernel_rfl) (by kernel_rfl) (fun _ _ _ h => h) (Or.inl ⟨by rfl, ?_⟩) (by assumption) ?_
    rotate_left
    · intro w hSw; (try dsimp only at hSw); go_simp; (try with_reducible rfl)
    try simp only [Act.put, List.setIfInBounds_toArray, List.set_cons_zero, List.set_cons_succ]
    refine wpAnyH_step (i := 8) (d := some 22) (v := ?_) rfl rfl (by kernel_rfl) (by kernel_rfl) (by kernel_rfl) (fun _ _ _ h => h) (Or.inl ⟨by rfl, ?_⟩) (by assumption) ?_
    rotate_left
    · intro w hSw; (try dsimp only at hSw); go_simp; (try with_reducible rfl)
    try simp only [Act.put, List.setIfInBounds_toArray, List.set_cons_zero, List.set_cons_succ]
    refine wpAnyH_step (i := 9) (d := some 23) (v := ?_) rfl rfl (by kernel_rfl) (by kernel_rfl) (by kernel_rfl) (fun _ _ _ h => h) (Or.inl ⟨by rfl, ?_⟩) (by assumption) ?_
    rotate_left
    · intro w hSw; (try dsimp only at hSw); go_simp; (try with_reducible rfl)
    try simp only [Act.put, List.setIfInBounds_toArray, List.set_cons_zero, List.set_cons_succ]
    refine wpAnyH_step (i := 10) (d := some 24) (v := ?_) rfl rfl (by kernel_rfl) (by kernel_rfl) (by kernel_rfl) (fun _ _ _ h => h) (Or.inl ⟨by rfl, ?_⟩) (by assumption) ?_
    rotate_left
    · intro w hSw; (try dsimp only at hSw); go_simp; (try with_reducible rfl)
    try simp only [Act.put, List.setIfInBounds_toArray, List.set_cons_zero, List.set_cons_succ]
    refine wpAnyH_step (i := 11) (d := some 25) (v := ?_) rfl rfl (by kernel_rfl) (by kernel_rfl) (by kernel_rfl) (fun _ _ _ h => h) (Or.inl ⟨by rfl, ?_⟩) (by assumption) ?_
    rotate_left
    · intro w hSw; (try dsimp only at hSw); go_simp; (try with_reducible rfl)
    try simp only [Act.put, List.setIfInBounds_toArray, List.set_cons_zero, List.set_cons_succ]
    refine wpAnyH_step (i := 12) (d := some 26) (v := ?_) rfl rfl (by kernel_rfl) (by kernel_rfl) (by kernel_rfl) (fun _ _ _ h => h) (Or.inl ⟨by rfl, ?_⟩) (by assumption) ?_
    rotate_left
    · intro w hSw; (try dsimp only at hSw); go_simp; (try with_reducible rfl)
    try simp only [Act.put, List.setIfInBounds_toArray, List.set_cons_zero, List.set_cons_succ]
    refine wpAnyH_step (i := 13) (d := some 27) (v := ?_) rfl rfl (by kernel_rfl) (by kernel_rfl) (by kernel_rfl) (fun _ _ _ h => h) (Or.inl ⟨by rfl, ?_⟩) (by assumption) ?_
    rotate_left
    · intro w hSw; (try dsimp only at hSw); go_simp; (try with_reducible rfl)
    try simp only [Act.put, List.setIfInBounds_toArray, List.set_cons_zero, List.set_cons_succ]
    refine wpAnyH_ready (rs := [7]) (by kernel_rfl) (by simp) ?_
    refine AllReadyH.cons rfl (fun K hK => ?_) AllReadyH.nil
    go_simp
    refine (HP.out _ HB1.out).mono ?_
    rintro e w2 ⟨rfl, hT2, hg2⟩
    have Hg2 := Lib.hid hg2
    have HT2 := Lib.hid hT2
    clear hg2 hT2
    (try go_wp2_with fail)
    refine hK.out _ _ ?_ (fun hHeld => ?_)
    · exact HKeep1.out _ _ hHeld Hg2.out
    clear hK K
    try simp only [Act.put, List.setIfInBounds_toArray, List.set_cons_zero, List.set_cons_succ]
    refine wpAnyH_ready (rs := [14]) (by kernel_rfl) (by simp) ?_
    refine AllReadyH.cons rfl (fun K hK => ?_) AllReadyH.nil
    go_simp
    refine (HQ.out _ _ HB1.out Hg2.out).mono ?_
    rintro e w3 ⟨rfl, hR3, hc3⟩
    have HC3 := Lib.hid hc3
    have HR3 := Lib.hid hR3
    clear hc3 hR3
    (try go_wp2_with fail)
    refine hK.out _ _ ?_ (fun hHeld => ?_)
    · exact HKeep2.out _ _ hHeld HC3.out
    clear hK K
    try simp only [Act.put, List.setIfInBounds_toArray, List.set_cons_zero, List.set_cons_succ]
    refine wpAnyH_step (i := 15) (d := some 29) (v := ?_) rfl rfl (by kernel_rfl) (by kernel_rfl) (by kernel_rfl) (fun _ _ _ h => h) (Or.inl ⟨by rfl, ?_⟩) (by assumption) ?_
    rotate_left
    · intro w hSw; (try dsimp only at hSw); go_simp; (try with_reducible rfl)
    try simp only [Act.put, List.setIfInBounds_toArray, List.set_cons_zero, List.set_cons_succ]
    refine wpAnyH_step (i := 16) (d := some 6) (v := ?_) rfl rfl (by kernel_rfl) (by kernel_rfl) (by kernel_rfl) (fun _ _ _ h => h) (Or.inl ⟨by rfl, ?_⟩) (by assumption) ?_
    rotate_left
    · intro w hSw; (try dsimp only at hSw); go_simp; (try with_reducible rfl)
    try simp only [Act.put, List.setIfInBounds_toArray, List.set_cons_zero, List.set_cons_succ]
    refine wpAnyH_step (i := 17) (d := some 7) (v := ?_) rfl rfl (by kernel_rfl) (by kernel_rfl) (by kernel_rfl) (fun _ _ _ h => h) (Or.inl ⟨by rfl, ?_⟩) (by assumption) ?_
    rotate_left
    · intro w hSw; (try dsimp only at hSw); go_simp; (try with_reducible rfl)
    try simp only [Act.put, List.setIfInBounds_toArray, List.set_cons_zero, List.set_cons_succ]
    refine wpAnyH_done (by kernel_rfl) ?_ _
    obtain ⟨hBo, hBl⟩ := HEnd.out _ _ _ HB1.out Hg2.out HT2.out HR3.out HC3.out
    have HBo := Lib.hid hBo
    have HBl := Lib.hid hBl
    clear hHeld hBo hBl
    go_wp2_with fail
    go_ret2
    exact ⟨by simp, HBo.out, HBl.out⟩
  · skip
    go_enter Try.func16, Try.ntmps16
    go_wp2_with fail
    obtain ⟨w1, hw1⟩ : ∃ w1, w.alloc (.cells #[.int .i64 1, .int .i64 n, .int .i64 m, .slice ad ln cap] 40) = w1 := ⟨_, rfl⟩
    rw [hw1]
    have HB1 := Lib.hid (show Below w.heap.size w w1.drew from hw1 ▸ bel_drewN (bel_alloc (Below.refl _ _) _) 1)
    have hS1 : w1.drew.cell? ⟨w.heap.size, 0, none⟩ = some (.int .i64 1) ∧ w1.drew.cell? ⟨w.heap.size, 1, none⟩ = some (.int .i64 n) ∧ w1.drew.cell? ⟨w.heap.size, 3, none⟩ = some (.slice ad ln cap) := by
      subst hw1; simp [go_sem]
    have HS1 := Lib.hid hS1
    clear hw1 hS1
    obtain ⟨Bx, hBx⟩ : ∃ Bx, w.heap.size = Bx := ⟨_, rfl⟩
    rw [hBx] at HS1 HKeep1 HKeep2 ⊢
    clear hBx
    refine wp_region_held_drew (S := fun W => W.cell? ⟨Bx, 0, none⟩ = some (.int .i64 1) ∧ W.cell? ⟨Bx, 1, none⟩ = some (.int .i64 n) ∧ W.cell? ⟨Bx, 3, none⟩ = some (.slice ad ln cap)) (by kernel_rfl) HS1.out (fun hHeld => ?_)
    refine wpAnyH_step (i := 0) (d := some 14) (v := ?_) rfl rfl (by kernel_rfl) (by kernel_rfl) (by kernel_rfl) (fun _ _ _ h => h) (Or.inl ⟨by rfl, ?_⟩) (by assumption) ?_
    rotate_left
    · intro w hSw; (try dsimp only at hSw); go_simp; (try with_reducible rfl)
    try simp only [Act.put, List.setIfInBounds_toArray, List.set_cons_zero, List.set_cons_succ]
    refine wpAnyH_step (i := 1) (d := some 15) (v := ?_) rfl rfl (by kernel_rfl) (by kernel_rfl) (by kernel_rfl) (fun _ _ _ h => h) (Or.inl ⟨by rfl, ?_⟩) (by assumption) ?_
    rotate_left
    · intro w hSw; (try dsimp only at hSw); go_simp; (try with_reducible rfl)
    try simp only [Act.put, List.setIfInBounds_toArray, List.set_cons_zero, List.set_cons_succ]
    refine wpAnyH_step (i := 2) (d := some 16) (v := ?_) rfl rfl (by kernel_rfl) (by kernel_rfl) (by kernel_rfl) (fun _ _ _ h => h) (Or.inl ⟨by rfl, ?_⟩) (by assumption) ?_
    rotate_left
    · intro w hSw; (try dsimp only at hSw); go_simp; (try with_reducible rfl)
    try simp only [Act.put, List.setIfInBounds_toArray, List.set_cons_zero, List.set_cons_succ]
    refine wpAnyH_step (i := 3) (d := some 17) (v := ?_) rfl rfl (by kernel_rfl) (by kernel_rfl) (by kernel_rfl) (fun _ _ _ h => h) (Or.inl ⟨by rfl, ?_⟩) (by assumption) ?_
    rotate_left
    · intro w hSw; (try dsimp only at hSw); go_simp; (try with_reducible rfl)
    try simp only [Act.put, List.setIfInBounds_toArray, List.set_cons_zero, List.set_cons_succ]
    refine wpAnyH_step (i := 4) (d := some 18) (v := ?_) rfl rfl (by kernel_rfl) (by kernel_rfl) (by kernel_rfl) (fun _ _ _ h => h) (Or.inl ⟨by rfl, ?_⟩) (by assumption) ?_
    rotate_left
    · intro w hSw; (try dsimp only at hSw); go_simp; (try with_reducible rfl)
    try simp only [Act.put, List.setIfInBounds_toArray, List.set_cons_zero, List.set_cons_succ]
    refine wpAnyH_step (i := 5) (d := some 19) (v := ?_) rfl rfl (by kernel_rfl) (by kernel_rfl) (by kernel_rfl) (fun _ _ _ h => h) (Or.inl ⟨by rfl, ?_⟩) (by assumption) ?_
    rotate_left
    · intro w hSw; (try dsimp only at hSw); go_simp; (try with_reducible rfl)
    try simp only [Act.put, List.setIfInBounds_toArray, List.set_cons_zero, List.set_cons_succ]
    refine wpAnyH_step (i := 6) (d := some 20) (v := ?_) rfl rfl (by kernel_rfl) (by kernel_rfl) (by kernel_rfl) (fun _ _ _ h => h) (Or.inl ⟨by rfl, ?_⟩) (by assumption) ?_
    rotate_left
    · intro w hSw; (try dsimp only at hSw); go_simp; (try with_reducible rfl)
    try simp only [Act.put, List.setIfInBounds_toArray, List.set_cons_zero, List.set_cons_succ]
    refine wpAnyH_step (i := 8) (d := some 22) (v := ?_) rfl rfl (by kernel_rfl) (by kernel_rfl) (by kernel_rfl) (fun _ _ _ h => h) (Or.inl ⟨by rfl, ?_⟩) (by assumption) ?_
    rotate_left
    · intro w hSw; (try dsimp only at hSw); go_simp; (try with_reducible rfl)
    try simp only [Act.put, List.setIfInBounds_toArray, List.set_cons_zero, List.set_cons_succ]
    refine wpAnyH_step (i := 9) (d := some 23) (v := ?_) rfl rfl (by kernel_rfl) (by kernel_rfl) (by kernel_rfl) (fun _ _ _ h => h) (Or.inl ⟨by rfl, ?_⟩) (by assumption) ?_
    rotate_left
    · intro w hSw; (try dsimp only at hSw); go_simp; (try with_reducible rfl)
    try simp only [Act.put, List.setIfInBounds_toArray, List.set_cons_zero, List.set_cons_succ]
    refine wpAnyH_step (i := 10) (d := some 24) (v := ?_) rfl rfl (by kernel_rfl) (by kernel_rfl) (by kernel_rfl) (fun _ _ _ h => h) (Or.inl ⟨by rfl, ?_⟩) (by assumption) ?_
    rotate_left
    · intro w hSw; (try dsimp only at hSw); go_simp; (try with_reducible rfl)
    try simp only [Act.put, List.setIfInBounds_toArray, List.set_cons_zero, List.set_cons_succ]
    refine wpAnyH_step (i := 11) (d := some 25) (v := ?_) rfl rfl (by kernel_rfl) (by kernel_rfl) (by kernel_rfl) (fun _ _ _ h => h) (Or.inl ⟨by rfl, ?_⟩) (by assumption) ?_
    rotate_left
    · intro w hSw; (try dsimp only at hSw); go_simp; (try with_reducible rfl)
    try simp only [Act.put, List.setIfInBounds_toArray, List.set_cons_zero, List.set_cons_succ]
    refine wpAnyH_step (i := 12) (d := some 26) (v := ?_) rfl rfl (by kernel_rfl) (by kernel_rfl) (by kernel_rfl) (fun _ _ _ h => h) (Or.inl ⟨by rfl, ?_⟩) (by assumption) ?_
    rotate_left
    · intro w hSw; (try dsimp only at hSw); go_simp; (try with_reducible rfl)
    try simp only [Act.put, List.setIfInBounds_toArray, List.set_cons_zero, List.set_cons_succ]
    refine wpAnyH_step (i := 13) (d := some 27) (v := ?_) rfl rfl (by kernel_rfl) (by kernel_rfl) (by kernel_rfl) (fun _ _ _ h => h) (Or.inl ⟨by rfl, ?_⟩) (by assumption) ?_
    rotate_left
    · intro w hSw; (try dsimp only at hSw); go_simp; (try with_reducible rfl)
    try simp only [Act.put, List.setIfInBounds_toArray, List.set_cons_zero, List.set_cons_succ]
    refine wpAnyH_ready (rs := [7]) (by kernel_rfl) (by simp) ?_
    refine AllReadyH.cons rfl (fun K hK => ?_) AllReadyH.nil
    go_simp
    refine (HP.out _ HB1.out).mono ?_
    rintro e w2 ⟨rfl, hT2, hg2⟩
    have Hg2 := Lib.hid hg2
    have HT2 := Lib.hid hT2
    clear hg2 hT2
    (try go_wp2_with fail)
    refine hK.out _ _ ?_ (fun hHeld => ?_)
    · exact HKeep1.out _ _ hHeld Hg2.out
    clear hK K
    try simp only [Act.put, List.setIfInBounds_toArray, List.set_cons_zero, List.set_cons_succ]
    refine wpAnyH_ready (rs := [14]) (by kernel_rfl) (by simp) ?_
    refine AllReadyH.cons rfl (fun K hK => ?_) AllReadyH.nil
    go_simp
    refine (HQ.out _ _ HB1.out Hg2.out).mono ?_
    rintro e w3 ⟨rfl, hR3, hc3⟩
    have HC3 := Lib.hid hc3
    have HR3 := Lib.hid hR3
    clear hc3 hR3
    (try go_wp2_with fail)
    refine hK.out _ _ ?_ (fun hHeld => ?_)
    · exact HKeep2.out _ _ hHeld HC3.out
    clear hK K
    try simp only [Act.put, List.setIfInBounds_toArray, List.set_cons_zero, List.set_cons_succ]
    refine wpAnyH_step (i := 15) (d := some 29) (v := ?_) rfl rfl (by kernel_rfl) (by kernel_rfl) (by kernel_rfl) (fun _ _ _ h => h) (Or.inl ⟨by rfl, ?_⟩) (by assumption) ?_
    rotate_left
    · intro w hSw; (try dsimp only at hSw); go_simp; (try with_reducible rfl)
    try simp only [Act.put, List.setIfInBounds_toArray, List.set_cons_zero, List.set_cons_succ]
    refine wpAnyH_step (i := 16) (d := some 6) (v := ?_) rfl rfl (by kernel_rfl) (by kernel_rfl) (by kernel_rfl) (fun _ _ _ h => h) (Or.inl ⟨by rfl, ?_⟩) (by assumption) ?_
    rotate_left
    · intro w hSw; (try dsimp only at hSw); go_simp; (try with_reducible rfl)
    try simp only [Act.put, List.setIfInBounds_toArray, List.set_cons_zero, List.set_cons_succ]
    refine wpAnyH_step (i := 17) (d := some 7) (v := ?_) rfl rfl (by kernel_rfl) (by kernel_rfl) (by kernel_rfl) (fun _ _ _ h => h) (Or.inl ⟨by rfl, ?_⟩) (by assumption) ?_
    rotate_left
    · intro w hSw; (try dsimp only at hSw); go_simp; (try with_reducible rfl)
    try simp only [Act.put, List.setIfInBounds_toArray, List.set_cons_zero, List.set_cons_succ]
    refine wpAnyH_done (by kernel_rfl) ?_ _
    obtain ⟨hBo, hBl⟩ := HEnd.out _ _ _ HB1.out Hg2.out HT2.out HR3.out HC3.out
    have HBo := Lib.hid hBo
    have HBl := Lib.hid hBl
    clear hHeld hBo hBl
    go_wp2_with fail
    go_ret2
    exact ⟨by simp, HBo.out, HBl.out⟩
end Go.Proofs.Ytpjodppcedkneaa
