/- The law's does: a call with both. Every, Resize, the rest. -/
import Derived.Test.YtpjodppcedkneaaU5
namespace Go.Proofs.Ytpjodppcedkneaa
open Go.RowKit Go.Maps Go.Sort Go.Shelf
set_option linter.unusedVariables false
set_option linter.unusedSimpArgs false
set_option maxRecDepth 100000
theorem go_ts (w : World) (p b c : Nat) (S : Int → Bool) (h : TS w p b c S) (col n : Int) (hn0 : -9223372036854775808 ≤ n) (hn1 : n ≤ 9223372036854775807) :
    Calls Try.prog 21 #[.pointer (some ⟨p, 0, none⟩), .int .i64 col, .int .i64 n] w fun e w' => e = .returned (.int .i64 (goIn (nextIn (rise c S) c) (prevIn (rise c S)) c col n)) ∧ Below w.heap.size w w' := by
  have := h.hi
  exact go_some p w _ _ _ col n (by omega) hn0 hn1 (fun W x hb => next_ts W p b c S (h.later hb) x) (fun W x hb => prev_ts W p b c S (h.later hb) x) (fun W hb => cols_ts W p b c S (h.later hb))
/-- What Every answers, and leaves. -/
def evE (n : Int) : Int := if n < 0 then 1 else 0
def evR (c : Nat) (n : Int) (S : Int → Bool) : Int → Bool := if n < 0 then S else everyS c n
theorem every_all (w : World) (p b c : Nat) (S : Int → Bool) (h : TS w p b c S) (n : Int) (h1 : n ≤ 9223372036854775807) :
    Calls Try.prog 10 #[.pointer (some ⟨p, 0, none⟩), .int .i64 n] w fun e w' => e = .returned (.int .i64 (evE n)) ∧ TS w' p b c (evR c n S) ∧ w.grownBy w' (some b) := by
  unfold evE evR
  by_cases hn : n < 0
  · rw [if_pos hn, if_pos hn]
    refine (every_neg w p n hn).mono ?_
    rintro e w' ⟨he, rfl⟩
    exact ⟨he, h, grown_of_below (Below.refl _ _)⟩
  · rw [if_neg hn, if_neg hn]
    exact every_ts w p b c S h n (by omega) h1
theorem revery_all (w : World) (q g c : Nat) (S : Int → Bool) (h : RT w q g c S) (h2 : c ≤ 255) (n : Int) (h1 : n ≤ 9223372036854775807) :
    Calls Try.prog 29 #[.pointer (some ⟨q, 0, none⟩), .int .i64 n] w fun e w' => e = .returned (.int .i64 (evE n)) ∧ RT w' q g c (evR c n S) ∧ Chg w w' [g] := by
  unfold evE evR
  by_cases hn : n < 0
  · rw [if_pos hn, if_pos hn]
    refine (revery_neg w q n hn).mono ?_
    rintro e w' ⟨he, rfl⟩
    exact ⟨he, h, Chg.of_below (Below.refl _ _)⟩
  · rw [if_neg hn, if_neg hn]
    exact revery_any w q g c S h h2 n (by omega) h1
set_option maxHeartbeats 400000 in
theorem does_every (w : World) (B p b q c : Nat) (S : Int → Bool) (h : Both w B p b q c S) (hBw : B ≤ w.heap.size) (n m : Int) (hn1 : n ≤ 9223372036854775807) (ad : Option Addr) (ln cap : Nat) :
    Calls Try.prog 16 #[.pointer (some ⟨p, 0, none⟩), .pointer (some ⟨q, 0, none⟩), .agg #[.int .i64 2, .int .i64 n, .int .i64 m, .slice ad ln cap]] w fun e w' => e = .returned (.tuple #[.pointer (some ⟨q, 0, none⟩), .bool true]) ∧ Both w' B p b q c (evR c n S) ∧ Below B w w' := by
  obtain ⟨g, hR, hBg⟩ := h.r
  obtain ⟨n1, n2, n3, n4⟩ := both_apart h.t hR
  have HP := Lib.hid (fun W (hb : Below w.heap.size w W) => every_all W p b c S (h.t.later hb) n hn1)
  have HQ := Lib.hid (fun W W2 (hb : Below w.heap.size w W) (hg : W.grownBy W2 (some b)) => revery_all W2 q g c S ((hR.later hb).chg (Chg.of_grown (X := [b]) hg (by simp)) (by simp; omega) (by simp; omega)) h.t.hi n hn1)
  have HEnd := Lib.hid (fun W W2 W3 (hb : Below w.heap.size w W) (hg : W.grownBy W2 (some b)) (ht : TS W2 p b c (evR c n S)) (hr : RT W3 q g c (evR c n S)) (hc : Chg W2 W3 [g]) =>
    (show Both W3 B p b q c (evR c n S) ∧ Below B w W3 from ⟨⟨ht.chg hc (by simp; omega) (by simp; omega), ⟨g, hr, hBg⟩, h.hp, h.hb, h.hq⟩,
      (((hb.mono hBw).trans (below_of_grown hg (Nat.le_trans hBw hb.size) h.hb)).trans (hc.below (Nat.le_trans hBw (Nat.le_trans hb.size hg.size)) (by simpa using hBg)))⟩))
  have hbl := h.t.blt
  have hgl := hR.glt
  clear h hR n1 n2 n3 n4 hBg hn1
  obtain ⟨E, hE⟩ : ∃ E, evE n = E := ⟨_, rfl⟩
  rw [hE] at HP HQ
  clear hE
  have HKeep1 := Lib.hid (fun (W W2 : World) (hk : W.cell? ⟨w.heap.size, 0, none⟩ = some (.int .i64 2) ∧ W.cell? ⟨w.heap.size, 1, none⟩ = some (.int .i64 n) ∧ W.cell? ⟨w.heap.size, 3, none⟩ = some (.slice ad ln cap)) (hg : W.grownBy W2 (some b)) =>
    (show W2.cell? ⟨w.heap.size, 0, none⟩ = some (.int .i64 2) ∧ W2.cell? ⟨w.heap.size, 1, none⟩ = some (.int .i64 n) ∧ W2.cell? ⟨w.heap.size, 3, none⟩ = some (.slice ad ln cap) from ⟨grown_cell hg (by omega) hk.1, grown_cell hg (by omega) hk.2.1, grown_cell hg (by omega) hk.2.2⟩))
  have HKeep2 := Lib.hid (fun (W W2 : World) (hk : W.cell? ⟨w.heap.size, 0, none⟩ = some (.int .i64 2) ∧ W.cell? ⟨w.heap.size, 1, none⟩ = some (.int .i64 n) ∧ W.cell? ⟨w.heap.size, 3, none⟩ = some (.slice ad ln cap)) (hg : Chg W W2 [g]) =>
    (show W2.cell? ⟨w.heap.size, 0, none⟩ = some (.int .i64 2) ∧ W2.cell? ⟨w.heap.size, 1, none⟩ = some (.int .i64 n) ∧ W2.cell? ⟨w.heap.size, 3, none⟩ = some (.slice ad ln cap) from ⟨hg.cell (by simp; omega) hk.1, hg.cell (by simp; omega) hk.2.1, hg.cell (by simp; omega) hk.2.2⟩))
  clear hbl hgl
  go_enter Try.func16, Try.ntmps16
  go_wp2_with fail
  obtain ⟨w1, hw1⟩ : ∃ w1, w.alloc (.cells #[.int .i64 2, .int .i64 n, .int .i64 m, .slice ad ln cap] 40) = w1 := ⟨_, rfl⟩
  rw [hw1]
  have HB1 := Lib.hid (show Below w.heap.size w w1.drew from hw1 ▸ bel_drewN (bel_alloc (Below.refl _ _) _) 1)
  have hS1 : w1.drew.cell? ⟨w.heap.size, 0, none⟩ = some (.int .i64 2) ∧ w1.drew.cell? ⟨w.heap.size, 1, none⟩ = some (.int .i64 n) ∧ w1.drew.cell? ⟨w.heap.size, 3, none⟩ = some (.slice ad ln cap) := by
    subst hw1; simp [go_sem]
  have HS1 := Lib.hid hS1
  clear hw1 hS1
  obtain ⟨Bx, hBx⟩ : ∃ Bx, w.heap.size = Bx := ⟨_, rfl⟩
  rw [hBx] at HS1 HKeep1 HKeep2 ⊢
  clear hBx
  refine wp_region_held_drew (S := fun W => W.cell? ⟨Bx, 0, none⟩ = some (.int .i64 2) ∧ W.cell? ⟨Bx, 1, none⟩ = some (.int .i64 n) ∧ W.cell? ⟨Bx, 3, none⟩ = some (.slice ad ln cap)) (by kernel_rfl) HS1.out (fun hHeld => ?_)
  refine wpAnyH_step (i := 0) (d := some 32) (v := ?_) rfl rfl (by kernel_rfl) (by kernel_rfl) (by kernel_rfl) (fun _ _ _ h => h) (Or.inl ⟨by rfl, ?_⟩) (by assumption) ?_
  rotate_left
  · intro w hSw; (try dsimp only at hSw); go_simp; (try with_reducible rfl)
  try simp only [Act.put, List.setIfInBounds_toArray, List.set_cons_zero, List.set_cons_succ]
  refine wpAnyH_step (i := 1) (d := some 33) (v := ?_) rfl rfl (by kernel_rfl) (by kernel_rfl) (by kernel_rfl) (fun _ _ _ h => h) (Or.inl ⟨by rfl, ?_⟩) (by assumption) ?_
  rotate_left
  · intro w hSw; (try dsimp only at hSw); go_simp; (try with_reducible rfl)
  try simp only [Act.put, List.setIfInBounds_toArray, List.set_cons_zero, List.set_cons_succ]
  refine wpAnyH_step (i := 2) (d := some 34) (v := ?_) rfl rfl (by kernel_rfl) (by kernel_rfl) (by kernel_rfl) (fun _ _ _ h => h) (Or.inl ⟨by rfl, ?_⟩) (by assumption) ?_
  rotate_left
  · intro w hSw; (try dsimp only at hSw); go_simp; (try with_reducible rfl)
  try simp only [Act.put, List.setIfInBounds_toArray, List.set_cons_zero, List.set_cons_succ]
  refine wpAnyH_step (i := 3) (d := some 35) (v := ?_) rfl rfl (by kernel_rfl) (by kernel_rfl) (by kernel_rfl) (fun _ _ _ h => h) (Or.inl ⟨by rfl, ?_⟩) (by assumption) ?_
  rotate_left
  · intro w hSw; (try dsimp only at hSw); go_simp; (try with_reducible rfl)
  try simp only [Act.put, List.setIfInBounds_toArray, List.set_cons_zero, List.set_cons_succ]
  refine wpAnyH_step (i := 5) (d := some 37) (v := ?_) rfl rfl (by kernel_rfl) (by kernel_rfl) (by kernel_rfl) (fun _ _ _ h => h) (Or.inl ⟨by rfl, ?_⟩) (by assumption) ?_
  rotate_left
  · intro w hSw; (try dsimp only at hSw); go_simp; (try with_reducible rfl)
  try simp only [Act.put, List.setIfInBounds_toArray, List.set_cons_zero, List.set_cons_succ]
  refine wpAnyH_step (i := 6) (d := some 38) (v := ?_) rfl rfl (by kernel_rfl) (by kernel_rfl) (by kernel_rfl) (fun _ _ _ h => h) (Or.inl ⟨by rfl, ?_⟩) (by assumption) ?_
  rotate_left
  · intro w hSw; (try dsimp only at hSw); go_simp; (try with_reducible rfl)
  try simp only [Act.put, List.setIfInBounds_toArray, List.set_cons_zero, List.set_cons_succ]
  refine wpAnyH_step (i := 7) (d := some 39) (v := ?_) rfl rfl (by kernel_rfl) (by kernel_rfl) (by kernel_rfl) (fun _ _ _ h => h) (Or.inl ⟨by rfl, ?_⟩) (by assumption) ?_
  rotate_left
  · intro w hSw; (try dsimp only at hSw); go_simp; (try with_reducible rfl)
  try simp only [Act.put, List.setIfInBounds_toArray, List.set_cons_zero, List.set_cons_succ]
  refine wpAnyH_ready (rs := [4]) (by kernel_rfl) (by simp) ?_
  refine AllReadyH.cons rfl (fun K hK => ?_) AllReadyH.nil
  go_simp
  refine (HP.out _ HB1.out).mono ?_
  rintro e w2 ⟨rfl, hT2, hg2⟩
  have Hg2 := Lib.hid hg2
  have HT2 := Lib.hid hT2
  clear hg2 hT2
  (try go_wp2_with fail)
  refine hK.out _ _ ?_ (fun hHeld => ?_)
  · exact HKeep1.out _ _ hHeld Hg2.out
  clear hK K
  try simp only [Act.put, List.setIfInBounds_toArray, List.set_cons_zero, List.set_cons_succ]
  refine wpAnyH_ready (rs := [8]) (by kernel_rfl) (by simp) ?_
  refine AllReadyH.cons rfl (fun K hK => ?_) AllReadyH.nil
  go_simp
  refine (HQ.out _ _ HB1.out Hg2.out).mono ?_
  rintro e w3 ⟨rfl, hR3, hc3⟩
  have HC3 := Lib.hid hc3
  have HR3 := Lib.hid hR3
  clear hc3 hR3
  (try go_wp2_with fail)
  refine hK.out _ _ ?_ (fun hHeld => ?_)
  · exact HKeep2.out _ _ hHeld HC3.out
  clear hK K
  try simp only [Act.put, List.setIfInBounds_toArray, List.set_cons_zero, List.set_cons_succ]
  refine wpAnyH_step (i := 9) (d := some 41) (v := ?_) rfl rfl (by kernel_rfl) (by kernel_rfl) (by kernel_rfl) (fun _ _ _ h => h) (Or.inl ⟨by rfl, ?_⟩) (by assumption) ?_
  rotate_left
  · intro w hSw; (try dsimp only at hSw); go_simp; (try with_reducible rfl)
  try simp only [Act.put, List.setIfInBounds_toArray, List.set_cons_zero, List.set_cons_succ]
  refine wpAnyH_step (i := 10) (d := some 6) (v := ?_) rfl rfl (by kernel_rfl) (by kernel_rfl) (by kernel_rfl) (fun _ _ _ h => h) (Or.inl ⟨by rfl, ?_⟩) (by assumption) ?_
  rotate_left
  · intro w hSw; (try dsimp only at hSw); go_simp; (try with_reducible rfl)
  try simp only [Act.put, List.setIfInBounds_toArray, List.set_cons_zero, List.set_cons_succ]
  refine wpAnyH_step (i := 11) (d := some 7) (v := ?_) rfl rfl (by kernel_rfl) (by kernel_rfl) (by kernel_rfl) (fun _ _ _ h => h) (Or.inl ⟨by rfl, ?_⟩) (by assumption) ?_
  rotate_left
  · intro w hSw; (try dsimp only at hSw); go_simp; (try with_reducible rfl)
  try simp only [Act.put, List.setIfInBounds_toArray, List.set_cons_zero, List.set_cons_succ]
  refine wpAnyH_done (by kernel_rfl) ?_ _
  obtain ⟨hBo, hBl⟩ := HEnd.out _ _ _ HB1.out Hg2.out HT2.out HR3.out HC3.out
  have HBo := Lib.hid hBo
  have HBl := Lib.hid hBl
  clear hHeld hBo hBl
  go_wp2_with fail
  go_ret2
  exact ⟨by simp, HBo.out, HBl.out⟩
set_option maxHeartbeats 400000 in
theorem does_resize (w : World) (B p b q c : Nat) (S : Int → Bool) (h : Both w B p b q c S) (hBw : B ≤ w.heap.size) (n m : Int) (ad : Option Addr) (ln cap : Nat) :
    Calls Try.prog 16 #[.pointer (some ⟨p, 0, none⟩), .pointer (some ⟨q, 0, none⟩), .agg #[.int .i64 3, .int .i64 n, .int .i64 m, .slice ad ln cap]] w fun e w' => ∃ q', e = .returned (.tuple #[.pointer (some ⟨q', 0, none⟩), .bool true]) ∧ (∃ c' S', Both w' B p b q' c' S') ∧ Below B w w' := by
  obtain ⟨g, hR, hBg⟩ := h.r
  obtain ⟨n1, n2, n3, n4⟩ := both_apart h.t hR
  by_cases hbad : n < 1 ∨ 255 < n
  · have HP := Lib.hid (fun W (hb : Below w.heap.size w W) => resize_bad W p n hbad)
    have HEnd := Lib.hid (fun W W2 (hb : Below w.heap.size w W) (hg : Below W.heap.size W W2) => (show (∃ c' S', Both W2 B p b q c' S') ∧ Below B w W2 from
      ⟨⟨c, S, (h.t.later hb).later hg, ⟨g, (hR.later hb).later hg, hBg⟩, h.hp, h.hb, h.hq⟩, (hb.mono hBw).trans (hg.mono (Nat.le_trans hBw hb.size))⟩))
    clear h hR n1 n2 n3 n4 hBg
    rcases hbad with hx | hx
    · go_enter Try.func16, Try.ntmps16
      go_wp2_with fail
      refine (HP.out _ (bel_alloc (Below.refl _ _) _)).mono ?_
      rintro e w2 ⟨rfl, hb2⟩
      have hc1 := cellB hb2 (b := w.heap.size) (o := 1) (v := .int .i64 n) (by simp [go_sem])
      have HX := Lib.hid (HEnd.out _ _ (bel_alloc (Below.refl _ _) _) hb2)
      clear hb2
      go_wp2_with fail
      go_ret2
      exact ⟨q, by simp, HX.out.1, HX.out.2⟩
    · have hx2 : ¬ n < 1 := by omega
      go_enter Try.func16, Try.ntmps16
      go_wp2_with fail
      refine (HP.out _ (bel_alloc (Below.refl _ _) _)).mono ?_
      rintro e w2 ⟨rfl, hb2⟩
      have hc1 := cellB hb2 (b := w.heap.size) (o := 1) (v := .int .i64 n) (by simp [go_sem])
      have HX := Lib.hid (HEnd.out _ _ (bel_alloc (Below.refl _ _) _) hb2)
      clear hb2
      go_wp2_with fail
      go_ret2
      exact ⟨q, by simp, HX.out.1, HX.out.2⟩
  · obtain ⟨N, rfl⟩ : ∃ N : Nat, n = (N : Int) := ⟨n.toNat, by omega⟩
    have HP := Lib.hid (fun W (hb : Below w.heap.size w W) => resize_ts W p b c S (h.t.later hb) N (by omega) (by omega))
    have HQ := Lib.hid (fun W W2 (hb : Below w.heap.size w W) (hg : Chg W W2 [p, b]) => rresize_any W2 q g c S ((hR.later hb).chg hg (by simp; omega) (by simp; omega)) h.t.bd h.t.hi N (by omega))
    have HEnd := Lib.hid (fun W W2 W3 q' g' (hb : Below w.heap.size w W) (hg : Chg W W2 [p, b]) (ht : TS W2 p b N (cutS N S)) (hb3 : Below W2.heap.size W2 W3) (hr : RT W3 q' g' N (cutS N S)) (hq : W2.heap.size ≤ q' ∧ W2.heap.size ≤ g') => (show (∃ c' S', Both W3 B p b q' c' S') ∧ Below B w W3 from by
      have e1 : B ≤ W.heap.size := Nat.le_trans hBw hb.size
      have e2 : B ≤ W2.heap.size := Nat.le_trans e1 hg.size
      exact ⟨⟨N, _, ht.later hb3, ⟨g', hr, by omega⟩, h.hp, h.hb, by omega⟩, ((hb.mono hBw).trans (hg.below e1 (by
        intro x hx
        have := h.hp
        have := h.hb
        simp at hx
        omega))).trans (hb3.mono e2)⟩))
    have HCl := Lib.hid (fun W W2 (hg : Chg W W2 [p, b]) (hc : W.cell? ⟨w.heap.size, 1, none⟩ = some (.int .i64 N)) => (show W2.cell? ⟨w.heap.size, 1, none⟩ = some (.int .i64 N) from hg.cell (by
      have := h.t.lt
      have := h.t.blt
      simp; omega) hc))
    have hx1 : ¬ (N : Int) < 1 := by omega
    have hx2 : ¬ 255 < (N : Int) := by omega
    clear h hR n1 n2 n3 n4 hBg hbad
    go_enter Try.func16, Try.ntmps16
    go_wp2_with fail
    refine (HP.out _ (bel_alloc (Below.refl _ _) _)).mono ?_
    rintro e w2 ⟨rfl, ht2, hc2⟩
    have hc1 := HCl.out _ _ hc2 (by simp [go_sem])
    have HC2 := Lib.hid hc2
    have HT2 := Lib.hid ht2
    clear hc2 ht2
    go_wp2_with fail
    refine (HQ.out _ _ (bel_alloc (Below.refl _ _) _) HC2.out).mono ?_
    rintro e w3 ⟨q', g', rfl, hr3, hb3, hq1, hq2⟩
    have HX := Lib.hid (HEnd.out _ _ _ q' g' (bel_alloc (Below.refl _ _) _) HC2.out HT2.out hb3 hr3 ⟨hq1, hq2⟩)
    clear hr3 hb3 hq1 hq2
    go_wp2_with fail
    go_ret2
    exact ⟨q', by simp, HX.out.1, HX.out.2⟩
set_option maxHeartbeats 1000000 in
theorem does_go (w : World) (B p b q c : Nat) (S : Int → Bool) (h : Both w B p b q c S) (hBw : B ≤ w.heap.size) (a n m : Int) (h0 : a ≠ 0) (h1 : a ≠ 1) (h2 : a ≠ 2) (h3 : a ≠ 3) (hm0 : -9223372036854775808 ≤ m) (hm1 : m ≤ 9223372036854775807) (lv : Value) :
    Calls Try.prog 16 #[.pointer (some ⟨p, 0, none⟩), .pointer (some ⟨q, 0, none⟩), .agg #[.int .i64 a, .int .i64 n, .int .i64 m, lv]] w fun e w' => e = .returned (.tuple #[.pointer (some ⟨q, 0, none⟩), .bool true]) ∧ Both w' B p b q c S ∧ Below B w w' := by
  obtain ⟨g, hR, hBg⟩ := h.r
  have HN := Lib.hid (fun W (hb : Below w.heap.size w W) W2 (hb2 : Below W.heap.size W W2) => next_ts W2 p b c S ((h.t.later hb).later hb2) n)
  have HN2 := Lib.hid (fun W (hb : Below w.heap.size w W) W2 (hb2 : Below W.heap.size W W2) => rnext_any W2 q g c S ((hR.later hb).later hb2) h.t.lo h.t.hi n)
  have HP := Lib.hid (fun W (hb : Below w.heap.size w W) W2 (hb2 : Below W.heap.size W W2) => prev_ts W2 p b c S ((h.t.later hb).later hb2) n)
  have HP2 := Lib.hid (fun W (hb : Below w.heap.size w W) W2 (hb2 : Below W.heap.size W W2) => rprev_any W2 q g c S ((hR.later hb).later hb2) h.t.lo h.t.hi n)
  have HG := Lib.hid (fun W (hb : Below w.heap.size w W) W2 (hb2 : Below W.heap.size W W2) => go_ts W2 p b c S ((h.t.later hb).later hb2) n m hm0 hm1)
  have HG2 := Lib.hid (fun W (hb : Below w.heap.size w W) W2 (hb2 : Below W.heap.size W W2) => rgo_any W2 q g c S ((hR.later hb).later hb2) h.t.lo h.t.hi n m hm0 hm1)
  have HEnd := Lib.hid (fun W (hb : Below w.heap.size w W) W2 (hb2 : Below W.heap.size W W2) => (show Both W2 B p b q c S ∧ Below B w W2 from
    ⟨⟨(h.t.later hb).later hb2, ⟨g, (hR.later hb).later hb2, hBg⟩, h.hp, h.hb, h.hq⟩, (hb.mono hBw).trans (hb2.mono (Nat.le_trans hBw hb.size))⟩))
  clear h hR hBg
  generalize goIn (nextIn (rise c S) c) (prevIn (rise c S)) c n m = e3 at *
  generalize nextIn (rise c S) c n = e1 at *
  generalize prevIn (rise c S) n = e2 at *
  have f0 : (a == 0) = false := by simpa using h0
  have f1 : (a == 1) = false := by simpa using h1
  have f2 : (a == 2) = false := by simpa using h2
  have f3 : (a == 3) = false := by simpa using h3
  go_enter Try.func16, Try.ntmps16
  go_wp2_with fail
  obtain ⟨w1, hw1⟩ : ∃ w1, w.alloc (.cells #[.int .i64 a, .int .i64 n, .int .i64 m, lv] 40) = w1 := ⟨_, rfl⟩
  rw [hw1]
  have HB1 := Lib.hid (show Below w.heap.size w w1.drew from hw1 ▸ bel_drewN (bel_alloc (Below.refl _ _) _) 1)
  have hS1 : w1.drew.cell? ⟨w.heap.size, 1, none⟩ = some (.int .i64 n) ∧ w1.drew.cell? ⟨w.heap.size, 2, none⟩ = some (.int .i64 m) := by
    subst hw1; simp [go_sem]
  have HS1 := Lib.hid hS1
  clear hw1 hS1
  obtain ⟨Bx, hBx⟩ : ∃ Bx, w.heap.size = Bx := ⟨_, rfl⟩
  rw [hBx] at HS1 ⊢
  clear hBx
  have HKB := Lib.hid (fun (W W2 : World) (hk : (W.cell? ⟨Bx, 1, none⟩ = some (.int .i64 n) ∧ W.cell? ⟨Bx, 2, none⟩ = some (.int .i64 m)) ∧ Below w1.drew.heap.size w1.drew W) (hb : Below W.heap.size W W2) =>
    (show (W2.cell? ⟨Bx, 1, none⟩ = some (.int .i64 n) ∧ W2.cell? ⟨Bx, 2, none⟩ = some (.int .i64 m)) ∧ Below w1.drew.heap.size w1.drew W2 from ⟨⟨cellB hb hk.1.1, cellB hb hk.1.2⟩, bel_call hk.2 hb⟩))
  refine wp_region_held_drew (S := fun W => (W.cell? ⟨Bx, 1, none⟩ = some (.int .i64 n) ∧ W.cell? ⟨Bx, 2, none⟩ = some (.int .i64 m)) ∧ Below w1.drew.heap.size w1.drew W) (by kernel_rfl) ⟨HS1.out, Below.refl _ _⟩ (fun hHeld => ?_)
  refine wpAnyH_step (i := 0) (d := some 65) (v := ?_) rfl rfl (by kernel_rfl) (by kernel_rfl) (by kernel_rfl) (fun _ _ _ h => h) (Or.inl ⟨by rfl, ?_⟩) (by assumption) ?_
  rotate_left
  · intro w hSw; (try dsimp only at hSw); go_simp; (try with_reducible rfl)
  try simp only [Act.put, List.setIfInBounds_toArray, List.set_cons_zero, List.set_cons_succ]
  refine wpAnyH_step (i := 1) (d := some 66) (v := ?_) rfl rfl (by kernel_rfl) (by kernel_rfl) (by kernel_rfl) (fun _ _ _ h => h) (Or.inl ⟨by rfl, ?_⟩) (by assumption) ?_
  rotate_left
  · intro w hSw; (try dsimp only at hSw); go_simp; (try with_reducible rfl)
  try simp only [Act.put, List.setIfInBounds_toArray, List.set_cons_zero, List.set_cons_succ]
  refine wpAnyH_step (i := 2) (d := some 67) (v := ?_) rfl rfl (by kernel_rfl) (by kernel_rfl) (by kernel_rfl) (fun _ _ _ h => h) (Or.inl ⟨by rfl, ?_⟩) (by assumption) ?_
  rotate_left
  · intro w hSw; (try dsimp only at hSw); go_simp; (try with_reducible rfl)
  try simp only [Act.put, List.setIfInBounds_toArray, List.set_cons_zero, List.set_cons_succ]
  refine wpAnyH_step (i := 3) (d := some 68) (v := ?_) rfl rfl (by kernel_rfl) (by kernel_rfl) (by kernel_rfl) (fun _ _ _ h => h) (Or.inl ⟨by rfl, ?_⟩) (by assumption) ?_
  rotate_left
  · intro w hSw; (try dsimp only at hSw); go_simp; (try with_reducible rfl)
  try simp only [Act.put, List.setIfInBounds_toArray, List.set_cons_zero, List.set_cons_succ]
  refine wpAnyH_step (i := 5) (d := some 70) (v := ?_) rfl rfl (by kernel_rfl) (by kernel_rfl) (by kernel_rfl) (fun _ _ _ h => h) (Or.inl ⟨by rfl, ?_⟩) (by assumption) ?_
  rotate_left
  · intro w hSw; (try dsimp only at hSw); go_simp; (try with_reducible rfl)
  try simp only [Act.put, List.setIfInBounds_toArray, List.set_cons_zero, List.set_cons_succ]
  refine wpAnyH_step (i := 6) (d := some 71) (v := ?_) rfl rfl (by kernel_rfl) (by kernel_rfl) (by kernel_rfl) (fun _ _ _ h => h) (Or.inl ⟨by rfl, ?_⟩) (by assumption) ?_
  rotate_left
  · intro w hSw; (try dsimp only at hSw); go_simp; (try with_reducible rfl)
  try simp only [Act.put, List.setIfInBounds_toArray, List.set_cons_zero, List.set_cons_succ]
  refine wpAnyH_step (i := 7) (d := some 72) (v := ?_) rfl rfl (by kernel_rfl) (by kernel_rfl) (by kernel_rfl) (fun _ _ _ h => h) (Or.inl ⟨by rfl, ?_⟩) (by assumption) ?_
  rotate_left
  · intro w hSw; (try dsimp only at hSw); go_simp; (try with_reducible rfl)
  try simp only [Act.put, List.setIfInBounds_toArray, List.set_cons_zero, List.set_cons_succ]
  refine wpAnyH_ready (rs := [4]) (by kernel_rfl) (by simp) ?_
  refine AllReadyH.cons rfl (fun K hK => ?_) AllReadyH.nil
  go_simp
  refine (HN.out _ HB1.out _ hHeld.2).mono ?_
  rintro e w2 ⟨rfl, hb2⟩
  have Hb2 := Lib.hid hb2
  clear hb2
  (try go_wp2_with fail)
  refine hK.out _ _ ?_ (fun hHeld => ?_)
  · exact HKB.out _ _ hHeld Hb2.out
  clear hK K
  try simp only [Act.put, List.setIfInBounds_toArray, List.set_cons_zero, List.set_cons_succ]
  refine wpAnyH_ready (rs := [8]) (by kernel_rfl) (by simp) ?_
  refine AllReadyH.cons rfl (fun K hK => ?_) AllReadyH.nil
  go_simp
  refine (HN2.out _ HB1.out _ hHeld.2).mono ?_
  rintro e w2 ⟨rfl, rfl⟩
  (try go_wp2_with fail)
  refine hK.out _ _ ?_ (fun hHeld => ?_)
  · exact hHeld
  clear hK K
  try simp only [Act.put, List.setIfInBounds_toArray, List.set_cons_zero, List.set_cons_succ]
  refine wpAnyH_step (i := 9) (d := some 74) (v := ?_) rfl rfl (by kernel_rfl) (by kernel_rfl) (by kernel_rfl) (fun _ _ _ h => h) (Or.inl ⟨by rfl, ?_⟩) (by assumption) ?_
  rotate_left
  · intro w hSw; (try dsimp only at hSw); go_simp; (try with_reducible rfl)
  try simp only [Act.put, List.setIfInBounds_toArray, List.set_cons_zero, List.set_cons_succ]
  refine wpAnyH_step (i := 10) (d := some 75) (v := ?_) rfl rfl (by kernel_rfl) (by kernel_rfl) (by kernel_rfl) (fun _ _ _ h => h) (Or.inl ⟨by rfl, ?_⟩) (by assumption) ?_
  rotate_left
  · intro w hSw; (try dsimp only at hSw); go_simp; (try with_reducible rfl)
  try simp only [Act.put, List.setIfInBounds_toArray, List.set_cons_zero, List.set_cons_succ]
  refine wpAnyH_step (i := 11) (d := some 76) (v := ?_) rfl rfl (by kernel_rfl) (by kernel_rfl) (by kernel_rfl) (fun _ _ _ h => h) (Or.inl ⟨by rfl, ?_⟩) (by assumption) ?_
  rotate_left
  · intro w hSw; (try dsimp only at hSw); go_simp; (try with_reducible rfl)
  try simp only [Act.put, List.setIfInBounds_toArray, List.set_cons_zero, List.set_cons_succ]
  refine wpAnyH_step (i := 12) (d := some 77) (v := ?_) rfl rfl (by kernel_rfl) (by kernel_rfl) (by kernel_rfl) (fun _ _ _ h => h) (Or.inl ⟨by rfl, ?_⟩) (by assumption) ?_
  rotate_left
  · intro w hSw; (try dsimp only at hSw); go_simp; (try with_reducible rfl)
  try simp only [Act.put, List.setIfInBounds_toArray, List.set_cons_zero, List.set_cons_succ]
  refine wpAnyH_step (i := 13) (d := some 78) (v := ?_) rfl rfl (by kernel_rfl) (by kernel_rfl) (by kernel_rfl) (fun _ _ _ h => h) (Or.inl ⟨by rfl, ?_⟩) (by assumption) ?_
  rotate_left
  · intro w hSw; (try dsimp only at hSw); go_simp; (try with_reducible rfl)
  try simp only [Act.put, List.setIfInBounds_toArray, List.set_cons_zero, List.set_cons_succ]
  refine wpAnyH_step (i := 15) (d := some 80) (v := ?_) rfl rfl (by kernel_rfl) (by kernel_rfl) (by kernel_rfl) (fun _ _ _ h => h) (Or.inl ⟨by rfl, ?_⟩) (by assumption) ?_
  rotate_left
  · intro w hSw; (try dsimp only at hSw); go_simp; (try with_reducible rfl)
  try simp only [Act.put, List.setIfInBounds_toArray, List.set_cons_zero, List.set_cons_succ]
  refine wpAnyH_step (i := 16) (d := some 81) (v := ?_) rfl rfl (by kernel_rfl) (by kernel_rfl) (by kernel_rfl) (fun _ _ _ h => h) (Or.inl ⟨by rfl, ?_⟩) (by assumption) ?_
  rotate_left
  · intro w hSw; (try dsimp only at hSw); go_simp; (try with_reducible rfl)
  try simp only [Act.put, List.setIfInBounds_toArray, List.set_cons_zero, List.set_cons_succ]
  refine wpAnyH_step (i := 17) (d := some 82) (v := ?_) rfl rfl (by kernel_rfl) (by kernel_rfl) (by kernel_rfl) (fun _ _ _ h => h) (Or.inl ⟨by rfl, ?_⟩) (by assumption) ?_
  rotate_left
  · intro w hSw; (try dsimp only at hSw); go_simp; (try with_reducible rfl)
  try simp only [Act.put, List.setIfInBounds_toArray, List.set_cons_zero, List.set_cons_succ]
  refine wpAnyH_ready (rs := [14]) (by kernel_rfl) (by simp) ?_
  refine AllReadyH.cons rfl (fun K hK => ?_) AllReadyH.nil
  go_simp
  refine (HP.out _ HB1.out _ hHeld.2).mono ?_
  rintro e w2 ⟨rfl, hb2⟩
  have Hb2 := Lib.hid hb2
  clear hb2
  (try go_wp2_with fail)
  refine hK.out _ _ ?_ (fun hHeld => ?_)
  · exact HKB.out _ _ hHeld Hb2.out
  clear hK K
  try simp only [Act.put, List.setIfInBounds_toArray, List.set_cons_zero, List.set_cons_succ]
  refine wpAnyH_ready (rs := [18]) (by kernel_rfl) (by simp) ?_
  refine AllReadyH.cons rfl (fun K hK => ?_) AllReadyH.nil
  go_simp
  refine (HP2.out _ HB1.out _ hHeld.2).mono ?_
  rintro e w2 ⟨rfl, rfl⟩
  (try go_wp2_with fail)
  refine hK.out _ _ ?_ (fun hHeld => ?_)
  · exact hHeld
  clear hK K
  try simp only [Act.put, List.setIfInBounds_toArray, List.set_cons_zero, List.set_cons_succ]
  refine wpAnyH_step (i := 19) (d := some 84) (v := ?_) rfl rfl (by kernel_rfl) (by kernel_rfl) (by kernel_rfl) (fun _ _ _ h => h) (Or.inl ⟨by rfl, ?_⟩) (by assumption) ?_
  rotate_left
  · intro w hSw; (try dsimp only at hSw); go_simp; (try with_reducible rfl)
  try simp only [Act.put, List.setIfInBounds_toArray, List.set_cons_zero, List.set_cons_succ]
  refine wpAnyH_step (i := 20) (d := some 85) (v := ?_) rfl rfl (by kernel_rfl) (by kernel_rfl) (by kernel_rfl) (fun _ _ _ h => h) (Or.inl ⟨by rfl, ?_⟩) (by assumption) ?_
  rotate_left
  · intro w hSw; (try dsimp only at hSw); go_simp; (try with_reducible rfl)
  try simp only [Act.put, List.setIfInBounds_toArray, List.set_cons_zero, List.set_cons_succ]
  refine wpAnyH_step (i := 21) (d := some 86) (v := ?_) rfl rfl (by kernel_rfl) (by kernel_rfl) (by kernel_rfl) (fun _ _ _ h => h) (Or.inl ⟨by rfl, ?_⟩) (by assumption) ?_
  rotate_left
  · intro w hSw; (try dsimp only at hSw); go_simp; (try with_reducible rfl)
  try simp only [Act.put, List.setIfInBounds_toArray, List.set_cons_zero, List.set_cons_succ]
  refine wpAnyH_step (i := 22) (d := some 87) (v := ?_) rfl rfl (by kernel_rfl) (by kernel_rfl) (by kernel_rfl) (fun _ _ _ h => h) (Or.inl ⟨by rfl, ?_⟩) (by assumption) ?_
  rotate_left
  · intro w hSw; (try dsimp only at hSw); go_simp; (try with_reducible rfl)
  try simp only [Act.put, List.setIfInBounds_toArray, List.set_cons_zero, List.set_cons_succ]
  refine wpAnyH_step (i := 23) (d := some 88) (v := ?_) rfl rfl (by kernel_rfl) (by kernel_rfl) (by kernel_rfl) (fun _ _ _ h => h) (Or.inl ⟨by rfl, ?_⟩) (by assumption) ?_
  rotate_left
  · intro w hSw; (try dsimp only at hSw); go_simp; (try with_reducible rfl)
  try simp only [Act.put, List.setIfInBounds_toArray, List.set_cons_zero, List.set_cons_succ]
  refine wpAnyH_step (i := 24) (d := some 89) (v := ?_) rfl rfl (by kernel_rfl) (by kernel_rfl) (by kernel_rfl) (fun _ _ _ h => h) (Or.inl ⟨by rfl, ?_⟩) (by assumption) ?_
  rotate_left
  · intro w hSw; (try dsimp only at hSw); go_simp; (try with_reducible rfl)
  try simp only [Act.put, List.setIfInBounds_toArray, List.set_cons_zero, List.set_cons_succ]
  refine wpAnyH_step (i := 25) (d := some 90) (v := ?_) rfl rfl (by kernel_rfl) (by kernel_rfl) (by kernel_rfl) (fun _ _ _ h => h) (Or.inl ⟨by rfl, ?_⟩) (by assumption) ?_
  rotate_left
  · intro w hSw; (try dsimp only at hSw); go_simp; (try with_reducible rfl)
  try simp only [Act.put, List.setIfInBounds_toArray, List.set_cons_zero, List.set_cons_succ]
  refine wpAnyH_step (i := 26) (d := some 91) (v := ?_) rfl rfl (by kernel_rfl) (by kernel_rfl) (by kernel_rfl) (fun _ _ _ h => h) (Or.inl ⟨by rfl, ?_⟩) (by assumption) ?_
  rotate_left
  · intro w hSw; (try dsimp only at hSw); go_simp; (try with_reducible rfl)
  try simp only [Act.put, List.setIfInBounds_toArray, List.set_cons_zero, List.set_cons_succ]
  refine wpAnyH_step (i := 28) (d := some 93) (v := ?_) rfl rfl (by kernel_rfl) (by kernel_rfl) (by kernel_rfl) (fun _ _ _ h => h) (Or.inl ⟨by rfl, ?_⟩) (by assumption) ?_
  rotate_left
  · intro w hSw; (try dsimp only at hSw); go_simp; (try with_reducible rfl)
  try simp only [Act.put, List.setIfInBounds_toArray, List.set_cons_zero, List.set_cons_succ]
  refine wpAnyH_step (i := 29) (d := some 94) (v := ?_) rfl rfl (by kernel_rfl) (by kernel_rfl) (by kernel_rfl) (fun _ _ _ h => h) (Or.inl ⟨by rfl, ?_⟩) (by assumption) ?_
  rotate_left
  · intro w hSw; (try dsimp only at hSw); go_simp; (try with_reducible rfl)
  try simp only [Act.put, List.setIfInBounds_toArray, List.set_cons_zero, List.set_cons_succ]
  refine wpAnyH_step (i := 30) (d := some 95) (v := ?_) rfl rfl (by kernel_rfl) (by kernel_rfl) (by kernel_rfl) (fun _ _ _ h => h) (Or.inl ⟨by rfl, ?_⟩) (by assumption) ?_
  rotate_left
  · intro w hSw; (try dsimp only at hSw); go_simp; (try with_reducible rfl)
  try simp only [Act.put, List.setIfInBounds_toArray, List.set_cons_zero, List.set_cons_succ]
  refine wpAnyH_step (i := 31) (d := some 96) (v := ?_) rfl rfl (by kernel_rfl) (by kernel_rfl) (by kernel_rfl) (fun _ _ _ h => h) (Or.inl ⟨by rfl, ?_⟩) (by assumption) ?_
  rotate_left
  · intro w hSw; (try dsimp only at hSw); go_simp; (try with_reducible rfl)
  try simp only [Act.put, List.setIfInBounds_toArray, List.set_cons_zero, List.set_cons_succ]
  refine wpAnyH_step (i := 32) (d := some 97) (v := ?_) rfl rfl (by kernel_rfl) (by kernel_rfl) (by kernel_rfl) (fun _ _ _ h => h) (Or.inl ⟨by rfl, ?_⟩) (by assumption) ?_
  rotate_left
  · intro w hSw; (try dsimp only at hSw); go_simp; (try with_reducible rfl)
  try simp only [Act.put, List.setIfInBounds_toArray, List.set_cons_zero, List.set_cons_succ]
  refine wpAnyH_ready (rs := [27]) (by kernel_rfl) (by simp) ?_
  refine AllReadyH.cons rfl (fun K hK => ?_) AllReadyH.nil
  go_simp
  refine (HG.out _ HB1.out _ hHeld.2).mono ?_
  rintro e w2 ⟨rfl, hb2⟩
  have Hb2 := Lib.hid hb2
  clear hb2
  (try go_wp2_with fail)
  refine hK.out _ _ ?_ (fun hHeld => ?_)
  · exact HKB.out _ _ hHeld Hb2.out
  clear hK K
  try simp only [Act.put, List.setIfInBounds_toArray, List.set_cons_zero, List.set_cons_succ]
  refine wpAnyH_ready (rs := [33]) (by kernel_rfl) (by simp) ?_
  refine AllReadyH.cons rfl (fun K hK => ?_) AllReadyH.nil
  go_simp
  refine (HG2.out _ HB1.out _ hHeld.2).mono ?_
  rintro e w2 ⟨rfl, rfl⟩
  (try go_wp2_with fail)
  refine hK.out _ _ ?_ (fun hHeld => ?_)
  · exact hHeld
  clear hK K
  try simp only [Act.put, List.setIfInBounds_toArray, List.set_cons_zero, List.set_cons_succ]
  refine wpAnyH_step (i := 34) (d := some 99) (v := ?_) rfl rfl (by kernel_rfl) (by kernel_rfl) (by kernel_rfl) (fun _ _ _ h => h) (Or.inl ⟨by rfl, ?_⟩) (by assumption) ?_
  rotate_left
  · intro w hSw; (try dsimp only at hSw); go_simp; (try with_reducible rfl)
  try simp only [Act.put, List.setIfInBounds_toArray, List.set_cons_zero, List.set_cons_succ]
  refine wpAnyH_step (i := 35) (d := some 100) (v := ?_) rfl rfl (by kernel_rfl) (by kernel_rfl) (by kernel_rfl) (fun _ _ _ h => h) (Or.inl ⟨by rfl, ?_⟩) (by assumption) ?_
  rotate_left
  · intro w hSw; (try dsimp only at hSw); go_simp; (try with_reducible rfl)
  try simp only [Act.put, List.setIfInBounds_toArray, List.set_cons_zero, List.set_cons_succ]
  refine wpAnyH_step (i := 36) (d := some 6) (v := ?_) rfl rfl (by kernel_rfl) (by kernel_rfl) (by kernel_rfl) (fun _ _ _ h => h) (Or.inl ⟨by rfl, ?_⟩) (by assumption) ?_
  rotate_left
  · intro w hSw; (try dsimp only at hSw); go_simp; (try with_reducible rfl)
  try simp only [Act.put, List.setIfInBounds_toArray, List.set_cons_zero, List.set_cons_succ]
  refine wpAnyH_step (i := 37) (d := some 7) (v := ?_) rfl rfl (by kernel_rfl) (by kernel_rfl) (by kernel_rfl) (fun _ _ _ h => h) (Or.inl ⟨by rfl, ?_⟩) (by assumption) ?_
  rotate_left
  · intro w hSw; (try dsimp only at hSw); go_simp; (try with_reducible rfl)
  try simp only [Act.put, List.setIfInBounds_toArray, List.set_cons_zero, List.set_cons_succ]
  refine wpAnyH_done (by kernel_rfl) ?_ _
  obtain ⟨hBo, hBl⟩ := HEnd.out _ HB1.out _ hHeld.2
  have HBo := Lib.hid hBo
  have HBl := Lib.hid hBl
  clear hHeld hBo hBl
  go_wp2_with fail
  go_ret2
  exact ⟨by simp, HBo.out, HBl.out⟩
end Go.Proofs.Ytpjodppcedkneaa
