/- KeysAll: the law's walk. -/
import Derived.Test.YtkenihkfjepdfaaKR
import Derived.Laws.EntriesVeiled
namespace Go.Proofs.Ytkenihkfjepdfaa
open Go.RowKit Go.Shelf
set_option linter.unusedVariables false
set_option linter.unusedSimpArgs false
attribute [local go_sem] Oper.semAt_some
theorem all_any (p : Int) (pad : Bool) (w : World) : Calls Try.prog 14 #[.int .i64 p, .bool pad] w fun e w' => e = .returned (.func (.func 26) #[] #[.pointer (some ⟨w.heap.size, 0, none⟩), .pointer (some ⟨w.heap.size + 1, 0, none⟩)]) ∧ w' = (w.alloc (.cells #[.int .i64 p] 3)).alloc (.cells #[.bool pad] 4) := by
  go_enter Try.func14, Try.ntmps14
  go_wp2_with fail
  go_ret
  exact ⟨by simp, rfl⟩
theorem cellB {W W' : World} (hb : Below W.heap.size W W') {b o : Nat} {v : Value} (h : W.cell? ⟨b, o, none⟩ = some v) : W'.cell? ⟨b, o, none⟩ = some v :=
  (hb.cell (p := ⟨b, o, none⟩) (World.block_lt_of_cell? W ⟨b, o, none⟩ h)).trans h
set_option maxRecDepth 100000 in
set_option maxHeartbeats 16000000 in
theorem all_walk (p : Int) (pad : Bool) (w : World) : Calls Try.prog 7 #[.int .i64 p, .bool pad] w fun e w' => e = .returned (.bool true) ∧ Below w.heap.size w w' := by
  refine (callsIn_wide (n := 3)).1 (callsIn_of_wp_marks Try.func7 rfl trivial ?_ rfl)
  simp only [Try.ntmps7, List.size_toArray, List.length_cons, List.length_nil, Nat.reduceAdd, Nat.reduceSub, Array.replicate_succ, Array.replicate_zero, List.push_toArray, List.append_toArray, List.nil_append, List.cons_append]
  have hnil : ∀ (x y : Value) (W : World), (binOp .eql 38 (.func (.func 26) #[] #[x, y]) .nilFunc).run Try.prog W = .ok (.bool false) W := fun _ _ _ => by kernel_rfl
  have HA := fun W => all_any p pad W
  gi_wp2_with (refine ⟨trivial, ?_⟩; gi_at_call 14; refine (callsIn_wide.2 (HA _)).mono ?_; rintro e w1 ⟨rfl, rfl⟩)
  obtain ⟨w2, hw2⟩ : ∃ w2, ((((((w.alloc (.cells #[.int .i64 p] 3)).alloc (.cells #[.bool pad] 4)).alloc (.cells #[.bool false] 4)).alloc (.cells #[.int .i64 p] 3)).alloc (.cells #[.bool pad] 4)).alloc (.cells #[.slice none 0 0] 40)) = w2 := ⟨_, rfl⟩
  have hB : Below w.heap.size w w2 := by rw [← hw2]; exact bel_alloc (bel_alloc (bel_alloc (bel_alloc (bel_alloc (bel_alloc (Below.refl _ _) _) _) _) _) _) _
  have hsz : w2.heap.size = w.heap.size + 6 := by rw [← hw2]; simp
  have c0 : w2.cell? ⟨w.heap.size, 0, none⟩ = some (.int .i64 p) := by rw [← hw2]; simp [go_sem]
  have c1 : w2.cell? ⟨w.heap.size + 1, 0, none⟩ = some (.bool pad) := by rw [← hw2]; simp [go_sem]
  have c2 : w2.cell? ⟨w.heap.size + 1 + 1, 0, none⟩ = some (.bool false) ∧ w2.frozen? ⟨w.heap.size + 1 + 1, 0, none⟩ = false := by rw [← hw2]; simp [go_sem]
  have c3 : w2.cell? ⟨w.heap.size + 1 + 1 + 1, 0, none⟩ = some (.int .i64 p) := by rw [← hw2]; simp [go_sem]
  have c4 : w2.cell? ⟨w.heap.size + 1 + 1 + 1 + 1, 0, none⟩ = some (.bool pad) := by rw [← hw2]; simp [go_sem]
  have c5 : Boxed w2 (w.heap.size + 1 + 1 + 1 + 1 + 1) 40 (.slice none 0 0) := by
    rw [← hw2]
    have := Boxed.new (((((w.alloc (.cells #[.int .i64 p] 3)).alloc (.cells #[.bool pad] 4)).alloc (.cells #[.bool false] 4)).alloc (.cells #[.int .i64 p] 3)).alloc (.cells #[.bool pad] 4)) 40 (.slice none 0 0)
    simp only [World.size_alloc] at this
    exact this
  rw [hw2]
  clear hw2 hnil HA
  have HC0 := Lib.hid c0
  have HC1 := Lib.hid c1
  have HC2 := Lib.hid c2
  have HC3 := Lib.hid c3
  have HC4 := Lib.hid c4
  clear c0 c1 c2 c3 c4
  have hN : w2.heap.size ≤ w2.heap.size := Nat.le_refl _
  refine range_law (n := 2) (m := 1) (gf := 26) (lb := #[.pointer (some ⟨w.heap.size + 1 + 1 + 1, 0, none⟩), .pointer (some ⟨w.heap.size + 1 + 1 + 1 + 1, 0, none⟩)]) rfl (enters_of Try.func26 (by kernel_rfl) rfl) (encs := encK p pad) (fun _ => rfl)
    (S := fun ys => ys = kAll p pad 5) (Sp := fun pre => ∃ t, kAll p pad 5 = pre ++ t) (V := fun pre x => ∃ t, kAll p pad 5 = pre ++ x :: t) (N := (kAll p pad 5).length) (Kp := Kp54) (fun h k => h.trans k) ?hKb
    (fun pre W => Sav (w.heap.size + 1 + 1 + 1 + 1 + 1) w2.heap.size w2 W ∧ ∃ v, Boxed W (w.heap.size + 1 + 1 + 1 + 1 + 1) 40 v ∧ OwnK W w2.heap.size v pre)
    (fun c pre W => False)
    ?hI ?hIx ⟨Sav.refl _ _ _, _, c5, OwnK.nil _ _⟩
    (fun x a' W => ∃ b, w2.heap.size ≤ b ∧ W.cell? ⟨b, 0, none⟩ = some (.int .i64 x.1) ∧ W.cell? ⟨b, 1, none⟩ = some (.int .i64 x.2) ∧ W.cell? ⟨b, 2, none⟩ = some (.bool false) ∧ W.cell? ⟨b, 3, none⟩ = some (.bool false) ∧
      a' = { tmps := #[.int .i64 p, .bool pad, .pointer (some ⟨w.heap.size, 0, none⟩), .pointer (some ⟨w.heap.size + 1, 0, none⟩), .pointer (some ⟨w.heap.size + 1 + 1, 0, none⟩),
          .func (.func 26) #[] #[.pointer (some ⟨w.heap.size + 1 + 1 + 1, 0, none⟩), .pointer (some ⟨w.heap.size + 1 + 1 + 1 + 1, 0, none⟩)], .pointer (some ⟨w.heap.size + 1 + 1 + 1 + 1 + 1, 0, none⟩), .pointer (some ⟨b, 0, none⟩),
          .string (strOfNums (encText p x.1 x.2 false false pad)), undef, undef, .int .i64 p, .bool pad,
          .func (.func 26) #[] #[.pointer (some ⟨w.heap.size + 1 + 1 + 1, 0, none⟩), .pointer (some ⟨w.heap.size + 1 + 1 + 1 + 1, 0, none⟩)], .func (.func 26) #[] #[.pointer (some ⟨w.heap.size + 1 + 1 + 1, 0, none⟩), .pointer (some ⟨w.heap.size + 1 + 1 + 1 + 1, 0, none⟩)],
          .bool false, .func (.func 26) #[] #[.pointer (some ⟨w.heap.size + 1 + 1 + 1, 0, none⟩), .pointer (some ⟨w.heap.size + 1 + 1 + 1 + 1, 0, none⟩)],
          .agg #[.int .i64 x.1, .int .i64 x.2, .bool false, .bool false], .string (strOfNums (encText p x.1 x.2 false false pad)), undef, undef, undef, undef, undef, undef, undef, undef, undef, undef, undef, undef, undef, undef, undef, undef, undef, undef, undef, undef, undef, undef, undef, undef, undef, undef, undef, undef, undef, undef, undef, undef, undef, undef, undef, undef, undef, undef, undef, undef, undef, undef, undef, undef, undef, undef, undef, undef, undef, undef, undef, undef, undef, undef, undef, undef, undef, undef, undef, undef, undef, undef, undef, undef, undef, undef, undef, undef, undef, undef, undef, undef, undef, undef, undef, undef, undef, undef, undef, undef, undef, undef, undef, undef, undef, undef, undef, undef, undef, undef, undef, undef], defers := [] })
    ?hAx ?hit ?assign ?body ?done ?stop
  case hKb =>
    intro W l o o' hl ho hc _ b cs fz e
    refine (World.putObj_heap_other ?_).trans e
    rintro rfl
    rw [ho] at e
    cases e
    cases hc
  case hI =>
    rintro s W W' row ⟨h1, v, hv, ho⟩ hg hr
    exact ⟨Sav.ownFrom (β := Unit) hN hN () W W' row h1 hg hr, v, boxed_kept hv hg (fun r e => (hr r e).2), ho.kept hg (fun r e => (hr r e).2)⟩
  case hIx => exact fun c pre W W' row h _ _ => h
  case hAx =>
    rintro x a' _ W W' row ⟨b, hb, k0, k1, k2, k3, e⟩ hg hr
    exact ⟨b, hb, cell_kept k0 hg (fun r e => (hr r e).2), cell_kept k1 hg (fun r e => (hr r e).2), cell_kept k2 hg (fun r e => (hr r e).2), cell_kept k3 hg (fun r e => (hr r e).2), e⟩
  case hit =>
    rintro W0 ⟨o, o', _, _, rfl⟩ hI0
    refine all_iter p pad 2 (by decide) (w.heap.size + 1 + 1 + 1) (w.heap.size + 1 + 1 + 1 + 1) w2.heap.size _ ?_ ?_ _
    · rintro pre W ⟨hW, _⟩
      exact ⟨(hW.cell (by omega) (by omega)).trans HC3.out, (hW.cell (by omega) (by omega)).trans HC4.out⟩
    · rintro pre W W' ⟨hW, v, hv, ho⟩ hb
      exact ⟨hW.step hW.size hb, v, (hb.block _ hv.lt).trans hv, ho.call hb⟩
  case assign =>
    rintro l pre x W K ⟨hW, v, hv, ho⟩ hK
    simp only [encK]
    gi_wp2
    have hBW : Below W.heap.size W (W.alloc (.cells #[.int .i64 x.1, .int .i64 x.2, .bool false, .bool false] 23)) := bel_alloc (Below.refl _ _) _
    refine hK _ _ ((KeepsOthers.alloc _ _).from _) (Kp54.below hBW) ⟨hW.step hW.size hBW, v, (hBW.block _ hv.lt).trans hv, ho.call hBW⟩ ⟨W.heap.size, hW.size, by simp [go_sem], by simp [go_sem], by simp [go_sem], by simp [go_sem], rfl⟩
  case body =>
    rintro l pre x a' W ⟨hW, v, hv, ho⟩ ⟨b, hb, k0, k1, k2, k3, rfl⟩ hlen hV
    obtain ⟨hql, ⟨p1, p2⟩, hc, hne, he, hlt⟩ := at_facts hV
    have HR := Lib.hid (right_any x.1 x.2 false false)
    have HS := Lib.hid (rsends_any p x.1 x.2 false false pad p1 hc)
    rw [hc] at HR
    rw [← he] at HS
    unfold Fn keyv at HR HS
    have hne1 : ¬ (strOfNums (encText p x.1 x.2 false false pad)).toList = [] := by
      intro e
      rw [ByteArray.toList_eq, strOfNums_data] at e
      simp at e
      exact hne e
    have hne2 : (strOfNums (encText p x.1 x.2 false false pad)).toList.isEmpty = false := by simpa using hne1
    clear hc hne he hlen hV
    generalize strOfNums (encText p x.1 x.2 false false pad) = S at *
    have g1 : ¬ p < 1 := by omega
    have g2 : ¬ (4 : Int) < p := by omega
    have ep := (hW.cell (o := 0) (show w.heap.size < w2.heap.size by omega) (by omega)).trans HC0.out
    have ed := (hW.cell (o := 0) (show w.heap.size + 1 < w2.heap.size by omega) (by omega)).trans HC1.out
    have cv := hv.cell
    have hs := hW.size
    have HLT := Lib.hid hlt
    have Hv := Lib.hid hv
    have HW := Lib.hid hW
    have HZ := Lib.hid hsz
    clear hlt hv hW hsz
    rcases List.eq_nil_or_concat pre with rfl | ⟨q, y, rfl⟩
    · obtain ⟨ad, cap, rfl⟩ := ho.shape
      have Ho := Lib.hid ho
      clear ho
      gi_wp2_with (first
        | (refine ⟨trivial, ?_⟩; gi_at_call 9; refine (CallsIn.inRound l (callsIn_wide.2 (HR.out _))).mono ?_; rintro e w3 ⟨rfl, hb3⟩
           have a1 := cellB hb3 ep; have a2 := cellB hb3 ed; have a3 := cellB hb3 cv; have m0 := cellB hb3 k0; have m1 := cellB hb3 k1; have m2 := cellB hb3 k2; have m3 := cellB hb3 k3)
        | (refine ⟨trivial, ?_⟩; gi_at_call 13; refine (CallsIn.inRound l (callsIn_wide.2 (HS.out _))).mono ?_; rintro e w4 ⟨rfl, hb4⟩
           have a5 := cellB hb4 a3; have a6 := cellB hb4 m0; have a7 := cellB hb4 m1; have a8 := cellB hb4 m2; have a8' := cellB hb4 m3))
      refine wpIn_region_held (S := fun W => W.cell? ⟨b, 0, none⟩ = some (.int .i64 x.1)) (by kernel_rfl) (noDefer_spec (by kernel_rfl)) (by rintro ⟨a, w, h⟩; exact h) a6 (fun hHeld => ?_)
      refine wpAnyH_step (i := 0) (d := some 57) (v := ?_) rfl rfl (by kernel_rfl) (by kernel_rfl) (by kernel_rfl) (fun _ _ _ h => h) (Or.inl ⟨by rfl, ?_⟩) (by assumption) ?_
      rotate_left
      · intro w hSw; (try dsimp only at hSw); go_simp; (try with_reducible rfl)
      try simp only [Act.put, List.setIfInBounds_toArray, List.set_cons_zero, List.set_cons_succ]
      refine wpAnyH_step (i := 1) (d := some 58) (v := ?_) rfl rfl (by kernel_rfl) (by kernel_rfl) (by kernel_rfl) (fun _ _ _ h => h) (Or.inl ⟨by rfl, ?_⟩) (by assumption) ?_
      rotate_left
      · intro w hSw; (try dsimp only at hSw); go_simp; (try with_reducible rfl)
      try simp only [Act.put, List.setIfInBounds_toArray, List.set_cons_zero, List.set_cons_succ]
      refine wpAnyH_step (i := 2) (d := some 59) (v := ?_) rfl rfl (by kernel_rfl) (by kernel_rfl) (by kernel_rfl) (fun _ _ _ h => h) (Or.inl ⟨by rfl, ?_⟩) (by assumption) ?_
      rotate_left
      · intro w hSw; (try dsimp only at hSw); go_simp; (try with_reducible rfl)
      try simp only [Act.put, List.setIfInBounds_toArray, List.set_cons_zero, List.set_cons_succ]
      refine wpAnyH_step (i := 3) (d := some 60) (v := undef) rfl rfl (by kernel_rfl) (by kernel_rfl) (by kernel_rfl) (fun _ _ _ h => h) (Or.inr ⟨by rfl, rfl⟩) (by assumption) ?_
      try simp only [Act.put, List.setIfInBounds_toArray, List.set_cons_zero, List.set_cons_succ]
      refine wpAnyH_step (i := 4) (d := some 61) (v := undef) rfl rfl (by kernel_rfl) (by kernel_rfl) (by kernel_rfl) (fun _ _ _ h => h) (Or.inr ⟨by rfl, rfl⟩) (by assumption) ?_
      try simp only [Act.put, List.setIfInBounds_toArray, List.set_cons_zero, List.set_cons_succ]
      refine wpAnyH_step (i := 5) (d := some 62) (v := undef) rfl rfl (by kernel_rfl) (by kernel_rfl) (by kernel_rfl) (fun _ _ _ h => h) (Or.inr ⟨by rfl, rfl⟩) (by assumption) ?_
      try simp only [Act.put, List.setIfInBounds_toArray, List.set_cons_zero, List.set_cons_succ]
      refine wpAnyH_step (i := 6) (d := some 63) (v := undef) rfl rfl (by kernel_rfl) (by kernel_rfl) (by kernel_rfl) (fun _ _ _ h => h) (Or.inr ⟨by rfl, rfl⟩) (by assumption) ?_
      try simp only [Act.put, List.setIfInBounds_toArray, List.set_cons_zero, List.set_cons_succ]
      refine wpAnyH_step (i := 7) (d := some 64) (v := undef) rfl rfl (by kernel_rfl) (by kernel_rfl) (by kernel_rfl) (fun _ _ _ h => h) (Or.inr ⟨by rfl, rfl⟩) (by assumption) ?_
      try simp only [Act.put, List.setIfInBounds_toArray, List.set_cons_zero, List.set_cons_succ]
      refine wpAnyH_step (i := 8) (d := some 65) (v := undef) rfl rfl (by kernel_rfl) (by kernel_rfl) (by kernel_rfl) (fun _ _ _ h => h) (Or.inr ⟨by rfl, rfl⟩) (by assumption) ?_
      try simp only [Act.put, List.setIfInBounds_toArray, List.set_cons_zero, List.set_cons_succ]
      refine wpAnyH_step (i := 9) (d := some 66) (v := undef) rfl rfl (by kernel_rfl) (by kernel_rfl) (by kernel_rfl) (fun _ _ _ h => h) (Or.inr ⟨by rfl, rfl⟩) (by assumption) ?_
      try simp only [Act.put, List.setIfInBounds_toArray, List.set_cons_zero, List.set_cons_succ]
      refine wpAnyH_step (i := 10) (d := some 67) (v := undef) rfl rfl (by kernel_rfl) (by kernel_rfl) (by kernel_rfl) (fun _ _ _ h => h) (Or.inr ⟨by rfl, rfl⟩) (by assumption) ?_
      try simp only [Act.put, List.setIfInBounds_toArray, List.set_cons_zero, List.set_cons_succ]
      refine wpAnyH_step (i := 11) (d := some 68) (v := undef) rfl rfl (by kernel_rfl) (by kernel_rfl) (by kernel_rfl) (fun _ _ _ h => h) (Or.inr ⟨by rfl, rfl⟩) (by assumption) ?_
      try simp only [Act.put, List.setIfInBounds_toArray, List.set_cons_zero, List.set_cons_succ]
      refine wpAnyH_step (i := 12) (d := some 69) (v := undef) rfl rfl (by kernel_rfl) (by kernel_rfl) (by kernel_rfl) (fun _ _ _ h => h) (Or.inr ⟨by rfl, rfl⟩) (by assumption) ?_
      try simp only [Act.put, List.setIfInBounds_toArray, List.set_cons_zero, List.set_cons_succ]
      refine wpAnyH_step (i := 13) (d := some 70) (v := undef) rfl rfl (by kernel_rfl) (by kernel_rfl) (by kernel_rfl) (fun _ _ _ h => h) (Or.inr ⟨by rfl, rfl⟩) (by assumption) ?_
      try simp only [Act.put, List.setIfInBounds_toArray, List.set_cons_zero, List.set_cons_succ]
      refine wpAnyH_step (i := 14) (d := some 71) (v := undef) rfl rfl (by kernel_rfl) (by kernel_rfl) (by kernel_rfl) (fun _ _ _ h => h) (Or.inr ⟨by rfl, rfl⟩) (by assumption) ?_
      try simp only [Act.put, List.setIfInBounds_toArray, List.set_cons_zero, List.set_cons_succ]
      refine wpAnyH_step (i := 15) (d := some 72) (v := undef) rfl rfl (by kernel_rfl) (by kernel_rfl) (by kernel_rfl) (fun _ _ _ h => h) (Or.inr ⟨by rfl, rfl⟩) (by assumption) ?_
      try simp only [Act.put, List.setIfInBounds_toArray, List.set_cons_zero, List.set_cons_succ]
      refine wpAnyH_step (i := 16) (d := some 73) (v := undef) rfl rfl (by kernel_rfl) (by kernel_rfl) (by kernel_rfl) (fun _ _ _ h => h) (Or.inr ⟨by rfl, rfl⟩) (by assumption) ?_
      try simp only [Act.put, List.setIfInBounds_toArray, List.set_cons_zero, List.set_cons_succ]
      refine wpAnyH_step (i := 17) (d := some 74) (v := undef) rfl rfl (by kernel_rfl) (by kernel_rfl) (by kernel_rfl) (fun _ _ _ h => h) (Or.inr ⟨by rfl, rfl⟩) (by assumption) ?_
      try simp only [Act.put, List.setIfInBounds_toArray, List.set_cons_zero, List.set_cons_succ]
      refine wpAnyH_step (i := 18) (d := some 75) (v := undef) rfl rfl (by kernel_rfl) (by kernel_rfl) (by kernel_rfl) (fun _ _ _ h => h) (Or.inr ⟨by rfl, rfl⟩) (by assumption) ?_
      try simp only [Act.put, List.setIfInBounds_toArray, List.set_cons_zero, List.set_cons_succ]
      refine wpAnyH_step (i := 19) (d := some 76) (v := undef) rfl rfl (by kernel_rfl) (by kernel_rfl) (by kernel_rfl) (fun _ _ _ h => h) (Or.inr ⟨by rfl, rfl⟩) (by assumption) ?_
      try simp only [Act.put, List.setIfInBounds_toArray, List.set_cons_zero, List.set_cons_succ]
      refine wpAnyH_step (i := 20) (d := some 77) (v := undef) rfl rfl (by kernel_rfl) (by kernel_rfl) (by kernel_rfl) (fun _ _ _ h => h) (Or.inr ⟨by rfl, rfl⟩) (by assumption) ?_
      try simp only [Act.put, List.setIfInBounds_toArray, List.set_cons_zero, List.set_cons_succ]
      refine wpAnyH_step (i := 21) (d := some 78) (v := undef) rfl rfl (by kernel_rfl) (by kernel_rfl) (by kernel_rfl) (fun _ _ _ h => h) (Or.inr ⟨by rfl, rfl⟩) (by assumption) ?_
      try simp only [Act.put, List.setIfInBounds_toArray, List.set_cons_zero, List.set_cons_succ]
      refine wpAnyH_step (i := 22) (d := some 79) (v := undef) rfl rfl (by kernel_rfl) (by kernel_rfl) (by kernel_rfl) (fun _ _ _ h => h) (Or.inr ⟨by rfl, rfl⟩) (by assumption) ?_
      try simp only [Act.put, List.setIfInBounds_toArray, List.set_cons_zero, List.set_cons_succ]
      refine wpAnyH_step (i := 23) (d := some 80) (v := undef) rfl rfl (by kernel_rfl) (by kernel_rfl) (by kernel_rfl) (fun _ _ _ h => h) (Or.inr ⟨by rfl, rfl⟩) (by assumption) ?_
      try simp only [Act.put, List.setIfInBounds_toArray, List.set_cons_zero, List.set_cons_succ]
      refine wpAnyH_step (i := 24) (d := some 81) (v := undef) rfl rfl (by kernel_rfl) (by kernel_rfl) (by kernel_rfl) (fun _ _ _ h => h) (Or.inr ⟨by rfl, rfl⟩) (by assumption) ?_
      try simp only [Act.put, List.setIfInBounds_toArray, List.set_cons_zero, List.set_cons_succ]
      refine wpAnyH_step (i := 25) (d := some 82) (v := undef) rfl rfl (by kernel_rfl) (by kernel_rfl) (by kernel_rfl) (fun _ _ _ h => h) (Or.inr ⟨by rfl, rfl⟩) (by assumption) ?_
      try simp only [Act.put, List.setIfInBounds_toArray, List.set_cons_zero, List.set_cons_succ]
      refine wpAnyH_step (i := 26) (d := some 83) (v := undef) rfl rfl (by kernel_rfl) (by kernel_rfl) (by kernel_rfl) (fun _ _ _ h => h) (Or.inr ⟨by rfl, rfl⟩) (by assumption) ?_
      try simp only [Act.put, List.setIfInBounds_toArray, List.set_cons_zero, List.set_cons_succ]
      refine wpAnyH_step (i := 27) (d := some 84) (v := undef) rfl rfl (by kernel_rfl) (by kernel_rfl) (by kernel_rfl) (fun _ _ _ h => h) (Or.inr ⟨by rfl, rfl⟩) (by assumption) ?_
      try simp only [Act.put, List.setIfInBounds_toArray, List.set_cons_zero, List.set_cons_succ]
      refine wpAnyH_step (i := 28) (d := some 85) (v := undef) rfl rfl (by kernel_rfl) (by kernel_rfl) (by kernel_rfl) (fun _ _ _ h => h) (Or.inr ⟨by rfl, rfl⟩) (by assumption) ?_
      try simp only [Act.put, List.setIfInBounds_toArray, List.set_cons_zero, List.set_cons_succ]
      refine wpAnyH_step (i := 29) (d := some 86) (v := undef) rfl rfl (by kernel_rfl) (by kernel_rfl) (by kernel_rfl) (fun _ _ _ h => h) (Or.inr ⟨by rfl, rfl⟩) (by assumption) ?_
      try simp only [Act.put, List.setIfInBounds_toArray, List.set_cons_zero, List.set_cons_succ]
      refine wpAnyH_step (i := 30) (d := some 87) (v := undef) rfl rfl (by kernel_rfl) (by kernel_rfl) (by kernel_rfl) (fun _ _ _ h => h) (Or.inr ⟨by rfl, rfl⟩) (by assumption) ?_
      try simp only [Act.put, List.setIfInBounds_toArray, List.set_cons_zero, List.set_cons_succ]
      refine wpAnyH_step (i := 31) (d := some 88) (v := undef) rfl rfl (by kernel_rfl) (by kernel_rfl) (by kernel_rfl) (fun _ _ _ h => h) (Or.inr ⟨by rfl, rfl⟩) (by assumption) ?_
      try simp only [Act.put, List.setIfInBounds_toArray, List.set_cons_zero, List.set_cons_succ]
      refine wpAnyH_step (i := 32) (d := some 89) (v := undef) rfl rfl (by kernel_rfl) (by kernel_rfl) (by kernel_rfl) (fun _ _ _ h => h) (Or.inr ⟨by rfl, rfl⟩) (by assumption) ?_
      try simp only [Act.put, List.setIfInBounds_toArray, List.set_cons_zero, List.set_cons_succ]
      refine wpAnyH_step (i := 33) (d := some 90) (v := undef) rfl rfl (by kernel_rfl) (by kernel_rfl) (by kernel_rfl) (fun _ _ _ h => h) (Or.inr ⟨by rfl, rfl⟩) (by assumption) ?_
      try simp only [Act.put, List.setIfInBounds_toArray, List.set_cons_zero, List.set_cons_succ]
      refine wpAnyH_step (i := 34) (d := some 91) (v := ?_) rfl rfl (by kernel_rfl) (by kernel_rfl) (by kernel_rfl) (fun _ _ _ h => h) (Or.inl ⟨by rfl, ?_⟩) (by assumption) ?_
      rotate_left
      · intro w hSw; (try dsimp only at hSw); go_simp; (try with_reducible rfl)
      try simp only [Act.put, List.setIfInBounds_toArray, List.set_cons_zero, List.set_cons_succ]
      refine wpAnyH_done (by kernel_rfl) ?_ _
      clear hHeld
      have hb5 : Below W.heap.size W w4.drew := (bel_call hb3 hb4).drew
      have D0 := cellB hb5 cv
      have D1 := cellB hb5 k0
      have D2 := cellB hb5 k1
      have D3 := cellB hb5 k2
      have D4 := cellB hb5 k3
      have Hb5 := Lib.hid hb5
      generalize w4.drew = w5 at *
      clear hb5 hb4 hb3 a1 a2 a3 m0 m1 m2 m3 a5 a6 a7 a8 a8' ep ed cv k0 k1 k2 k3 
      have Hv5 : Hid (Boxed w5 (w.heap.size + 1 + 1 + 1 + 1 + 1) 40 _) := Lib.hid ((Hb5.out.block _ Hv.out.lt).trans Hv.out)
      have Ho5 := Lib.hid (Ho.out.call Hb5.out)
      have HW5 := Lib.hid (HW.out.step hs Hb5.out)
      have hs5 : w2.heap.size ≤ w5.heap.size := Nat.le_trans hs Hb5.out.size
      have hl : ([] : List Ky).length ≤ 1000000 := by simp
      gi_wp2_with (gi_at_builtin; refine wpIn_appK rfl (.tmp 92) (.tmp 94) rfl w2.heap.size _ _ _ x _ rfl rfl rfl Ho5.out hs5 hl ?_; intro v1 W1 own1 gr1; obtain ⟨n1, hn1⟩ : ∃ n1, (([] ++ [x] : List Ky)).length = n1 := ⟨_, rfl⟩; obtain ⟨ad1, cap1, hv1⟩ := own1.shape; rw [hn1] at hv1; subst hv1; clear hn1; have bx1 := ((Hv5.out.alloc _).kept gr1 (Boxed.not_row Hv5.out (by decide) Ho5.out)); have cv1 := bx1.cell; have fv1 := bx1.frozen; have Own1 := Lib.hid own1; have Gr1 := Lib.hid gr1; have Bx1 := Lib.hid bx1; clear own1 gr1 bx1)
      have hsz := HZ.out
      obtain ⟨g1, g2, g3, g4, g5⟩ := box_append (B := w2.heap.size) HW5.out hs5 (by omega) Ho5.out Own1.out Gr1.out Bx1.out
      exact ⟨(keepsB Hb5.out).trans g1, (Kp54.below Hb5.out).trans g2, g3, _, g4, by simpa only [List.append_assoc, List.cons_append, List.nil_append] using g5⟩
    · rw [List.concat_eq_append] at *
      obtain ⟨g, cap, rfl, hg, e1, e2⟩ := ho.last
      have Ho := Lib.hid ho
      have hy := HLT.out q y rfl
      have hq3 : q.length ≤ 131 := by simp at hql; omega
      clear ho hql
      have hw : IntKind.i64.wrap (q.length : Int) = (q.length : Int) := IntWalk.i64_in _ (by omega)
      have hq1 : (q.length : Int) < (q.length : Int) + 1 := by omega
      have hq2 : ¬ (300 : Int) < (q.length : Int) + 1 := by omega
      have hq4 : (0 : Int) < (q.length : Int) + 1 := by omega
      gi_wp2_with (first
        | (refine ⟨trivial, ?_⟩; gi_at_call 9; refine (CallsIn.inRound l (callsIn_wide.2 (HR.out _))).mono ?_; rintro e w3 ⟨rfl, hb3⟩
           have a1 := cellB hb3 ep; have a2 := cellB hb3 ed; have a3 := cellB hb3 cv; have m0 := cellB hb3 k0; have m1 := cellB hb3 k1; have m2 := cellB hb3 k2; have m3 := cellB hb3 k3)
        | (refine ⟨trivial, ?_⟩; gi_at_call 13; refine (CallsIn.inRound l (callsIn_wide.2 (HS.out _))).mono ?_; rintro e w4 ⟨rfl, hb4⟩
           have a5 := cellB hb4 a3; have a6 := cellB hb4 m0; have a7 := cellB hb4 m1; have a8 := cellB hb4 m2; have a8' := cellB hb4 m3))
      have a9 := cellB hb4 (cellB hb3 e1)
      have a10 := cellB hb4 (cellB hb3 e2)
      have HSS := (⟨a6, a7, a5, a9, a10⟩ : _ ∧ _ ∧ _ ∧ _ ∧ _)
      refine wpIn_region_held (S := fun W => W.cell? ⟨b, 0, none⟩ = some (.int .i64 x.1) ∧ W.cell? ⟨b, 1, none⟩ = some (.int .i64 x.2) ∧ W.cell? ⟨w.heap.size + 1 + 1 + 1 + 1 + 1, 0, none⟩ = some (.slice (some ⟨g, 0, none⟩) (q.length + 1) cap) ∧ W.cell? ⟨g, q.length * 4, none⟩ = some (.int .i64 y.1) ∧ W.cell? ⟨g, q.length * 4 + 1, none⟩ = some (.int .i64 y.2)) (by kernel_rfl) (noDefer_spec (by kernel_rfl)) (by rintro ⟨a, w, h⟩; exact h) HSS (fun hHeld => ?_)
      clear HSS
      rcases hy with hy | ⟨hy, hy2⟩
      · have n1 : ¬ y.1 > x.1 := by omega
        have n1' : ¬ x.1 < y.1 := by omega
        have n2 : ¬ y.1 = x.1 := by omega
        have n4 : decide (y.1 = x.1) = false := by simp; omega
        have n5 : (y.1 == x.1) = false := by simp; omega
        refine wpAnyH_step (i := 0) (d := some 57) (v := ?_) rfl rfl (by kernel_rfl) (by kernel_rfl) (by kernel_rfl) (fun _ _ _ h => h) (Or.inl ⟨by rfl, ?_⟩) (by assumption) ?_
        rotate_left
        · intro w hSw; (try dsimp only at hSw); go_simp; (try with_reducible rfl)
        try simp only [Act.put, List.setIfInBounds_toArray, List.set_cons_zero, List.set_cons_succ]
        refine wpAnyH_step (i := 1) (d := some 58) (v := ?_) rfl rfl (by kernel_rfl) (by kernel_rfl) (by kernel_rfl) (fun _ _ _ h => h) (Or.inl ⟨by rfl, ?_⟩) (by assumption) ?_
        rotate_left
        · intro w hSw; (try dsimp only at hSw); go_simp; (try with_reducible rfl)
        try simp only [Act.put, List.setIfInBounds_toArray, List.set_cons_zero, List.set_cons_succ]
        refine wpAnyH_step (i := 2) (d := some 59) (v := ?_) rfl rfl (by kernel_rfl) (by kernel_rfl) (by kernel_rfl) (fun _ _ _ h => h) (Or.inl ⟨by rfl, ?_⟩) (by assumption) ?_
        rotate_left
        · intro w hSw; (try dsimp only at hSw); go_simp; (try with_reducible rfl)
        try simp only [Act.put, List.setIfInBounds_toArray, List.set_cons_zero, List.set_cons_succ]
        refine wpAnyH_step (i := 3) (d := some 60) (v := ?_) rfl rfl (by kernel_rfl) (by kernel_rfl) (by kernel_rfl) (fun _ _ _ h => h) (Or.inl ⟨by rfl, ?_⟩) (by assumption) ?_
        rotate_left
        · intro w hSw; (try dsimp only at hSw); go_simp; (try with_reducible rfl)
        try simp only [Act.put, List.setIfInBounds_toArray, List.set_cons_zero, List.set_cons_succ]
        refine wpAnyH_step (i := 4) (d := some 61) (v := ?_) rfl rfl (by kernel_rfl) (by kernel_rfl) (by kernel_rfl) (fun _ _ _ h => h) (Or.inl ⟨by rfl, ?_⟩) (by assumption) ?_
        rotate_left
        · intro w hSw; (try dsimp only at hSw); go_simp; (try with_reducible rfl)
        try simp only [Act.put, List.setIfInBounds_toArray, List.set_cons_zero, List.set_cons_succ]
        refine wpAnyH_step (i := 5) (d := some 62) (v := ?_) rfl rfl (by kernel_rfl) (by kernel_rfl) (by kernel_rfl) (fun _ _ _ h => h) (Or.inl ⟨by rfl, ?_⟩) (by assumption) ?_
        rotate_left
        · intro w hSw; (try dsimp only at hSw); go_simp; (try with_reducible rfl)
        try simp only [Act.put, List.setIfInBounds_toArray, List.set_cons_zero, List.set_cons_succ]
        refine wpAnyH_step (i := 6) (d := some 63) (v := ?_) rfl rfl (by kernel_rfl) (by kernel_rfl) (by kernel_rfl) (fun _ _ _ h => h) (Or.inl ⟨by rfl, ?_⟩) (by assumption) ?_
        rotate_left
        · intro w hSw; (try dsimp only at hSw); go_simp; (try with_reducible rfl)
        try simp only [Act.put, List.setIfInBounds_toArray, List.set_cons_zero, List.set_cons_succ]
        refine wpAnyH_step (i := 7) (d := some 64) (v := ?_) rfl rfl (by kernel_rfl) (by kernel_rfl) (by kernel_rfl) (fun _ _ _ h => h) (Or.inl ⟨by rfl, ?_⟩) (by assumption) ?_
        rotate_left
        · intro w hSw; (try dsimp only at hSw); go_simp; (try with_reducible rfl)
        try simp only [Act.put, List.setIfInBounds_toArray, List.set_cons_zero, List.set_cons_succ]
        refine wpAnyH_step (i := 8) (d := some 65) (v := ?_) rfl rfl (by kernel_rfl) (by kernel_rfl) (by kernel_rfl) (fun _ _ _ h => h) (Or.inl ⟨by rfl, ?_⟩) (by assumption) ?_
        rotate_left
        · intro w hSw; (try dsimp only at hSw); go_simp; (try with_reducible rfl)
        try simp only [Act.put, List.setIfInBounds_toArray, List.set_cons_zero, List.set_cons_succ]
        refine wpAnyH_step (i := 9) (d := some 66) (v := ?_) rfl rfl (by kernel_rfl) (by kernel_rfl) (by kernel_rfl) (fun _ _ _ h => h) (Or.inl ⟨by rfl, ?_⟩) (by assumption) ?_
        rotate_left
        · intro w hSw; (try dsimp only at hSw); go_simp; (try with_reducible rfl)
        try simp only [Act.put, List.setIfInBounds_toArray, List.set_cons_zero, List.set_cons_succ]
        refine wpAnyH_step (i := 10) (d := some 67) (v := ?_) rfl rfl (by kernel_rfl) (by kernel_rfl) (by kernel_rfl) (fun _ _ _ h => h) (Or.inl ⟨by rfl, ?_⟩) (by assumption) ?_
        rotate_left
        · intro w hSw; (try dsimp only at hSw); go_simp; (try with_reducible rfl)
        try simp only [Act.put, List.setIfInBounds_toArray, List.set_cons_zero, List.set_cons_succ]
        refine wpAnyH_step (i := 11) (d := some 68) (v := ?_) rfl rfl (by kernel_rfl) (by kernel_rfl) (by kernel_rfl) (fun _ _ _ h => h) (Or.inl ⟨by rfl, ?_⟩) (by assumption) ?_
        rotate_left
        · intro w hSw; (try dsimp only at hSw); go_simp; (try with_reducible rfl)
        try simp only [Act.put, List.setIfInBounds_toArray, List.set_cons_zero, List.set_cons_succ]
        refine wpAnyH_step (i := 12) (d := some 69) (v := ?_) rfl rfl (by kernel_rfl) (by kernel_rfl) (by kernel_rfl) (fun _ _ _ h => h) (Or.inl ⟨by rfl, ?_⟩) (by assumption) ?_
        rotate_left
        · intro w hSw; (try dsimp only at hSw); go_simp; (try with_reducible rfl)
        try simp only [Act.put, List.setIfInBounds_toArray, List.set_cons_zero, List.set_cons_succ]
        refine wpAnyH_step (i := 13) (d := some 70) (v := ?_) rfl rfl (by kernel_rfl) (by kernel_rfl) (by kernel_rfl) (fun _ _ _ h => h) (Or.inl ⟨by rfl, ?_⟩) (by assumption) ?_
        rotate_left
        · intro w hSw; (try dsimp only at hSw); go_simp; (try with_reducible rfl)
        try simp only [Act.put, List.setIfInBounds_toArray, List.set_cons_zero, List.set_cons_succ]
        refine wpAnyH_step (i := 14) (d := some 71) (v := ?_) rfl rfl (by kernel_rfl) (by kernel_rfl) (by kernel_rfl) (fun _ _ _ h => h) (Or.inl ⟨by rfl, ?_⟩) (by assumption) ?_
        rotate_left
        · intro w hSw; (try dsimp only at hSw); go_simp; (try with_reducible rfl)
        try simp only [Act.put, List.setIfInBounds_toArray, List.set_cons_zero, List.set_cons_succ]
        refine wpAnyH_step (i := 15) (d := some 72) (v := ?_) rfl rfl (by kernel_rfl) (by kernel_rfl) (by kernel_rfl) (fun _ _ _ h => h) (Or.inl ⟨by rfl, ?_⟩) (by assumption) ?_
        rotate_left
        · intro w hSw; (try dsimp only at hSw); go_simp; (try with_reducible rfl)
        try simp only [Act.put, List.setIfInBounds_toArray, List.set_cons_zero, List.set_cons_succ]
        refine wpAnyH_step (i := 16) (d := some 73) (v := ?_) rfl rfl (by kernel_rfl) (by kernel_rfl) (by kernel_rfl) (fun _ _ _ h => h) (Or.inl ⟨by rfl, ?_⟩) (by assumption) ?_
        rotate_left
        · intro w hSw; (try dsimp only at hSw); go_simp; (try with_reducible rfl)
        try simp only [Act.put, List.setIfInBounds_toArray, List.set_cons_zero, List.set_cons_succ]
        refine wpAnyH_step (i := 17) (d := some 74) (v := ?_) rfl rfl (by kernel_rfl) (by kernel_rfl) (by kernel_rfl) (fun _ _ _ h => h) (Or.inl ⟨by rfl, ?_⟩) (by assumption) ?_
        rotate_left
        · intro w hSw; (try dsimp only at hSw); go_simp; (try with_reducible rfl)
        try simp only [Act.put, List.setIfInBounds_toArray, List.set_cons_zero, List.set_cons_succ]
        refine wpAnyH_step (i := 18) (d := some 75) (v := ?_) rfl rfl (by kernel_rfl) (by kernel_rfl) (by kernel_rfl) (fun _ _ _ h => h) (Or.inl ⟨by rfl, ?_⟩) (by assumption) ?_
        rotate_left
        · intro w hSw; (try dsimp only at hSw); go_simp; (try with_reducible rfl)
        try simp only [Act.put, List.setIfInBounds_toArray, List.set_cons_zero, List.set_cons_succ]
        refine wpAnyH_step (i := 19) (d := some 76) (v := ?_) rfl rfl (by kernel_rfl) (by kernel_rfl) (by kernel_rfl) (fun _ _ _ h => h) (Or.inl ⟨by rfl, ?_⟩) (by assumption) ?_
        rotate_left
        · intro w hSw; (try dsimp only at hSw); go_simp; (try with_reducible rfl)
        try simp only [Act.put, List.setIfInBounds_toArray, List.set_cons_zero, List.set_cons_succ]
        refine wpAnyH_step (i := 20) (d := some 77) (v := ?_) rfl rfl (by kernel_rfl) (by kernel_rfl) (by kernel_rfl) (fun _ _ _ h => h) (Or.inl ⟨by rfl, ?_⟩) (by assumption) ?_
        rotate_left
        · intro w hSw; (try dsimp only at hSw); go_simp; (try with_reducible rfl)
        try simp only [Act.put, List.setIfInBounds_toArray, List.set_cons_zero, List.set_cons_succ]
        refine wpAnyH_step (i := 21) (d := some 78) (v := ?_) rfl rfl (by kernel_rfl) (by kernel_rfl) (by kernel_rfl) (fun _ _ _ h => h) (Or.inl ⟨by rfl, ?_⟩) (by assumption) ?_
        rotate_left
        · intro w hSw; (try dsimp only at hSw); go_simp; (try with_reducible rfl)
        try simp only [Act.put, List.setIfInBounds_toArray, List.set_cons_zero, List.set_cons_succ]
        refine wpAnyH_step (i := 22) (d := some 79) (v := ?_) rfl rfl (by kernel_rfl) (by kernel_rfl) (by kernel_rfl) (fun _ _ _ h => h) (Or.inl ⟨by rfl, ?_⟩) (by assumption) ?_
        rotate_left
        · intro w hSw; (try dsimp only at hSw); go_simp; (try with_reducible rfl)
        try simp only [Act.put, List.setIfInBounds_toArray, List.set_cons_zero, List.set_cons_succ]
        refine wpAnyH_step (i := 23) (d := some 80) (v := undef) rfl rfl (by kernel_rfl) (by kernel_rfl) (by kernel_rfl) (fun _ _ _ h => h) (Or.inr ⟨by rfl, rfl⟩) (by assumption) ?_
        try simp only [Act.put, List.setIfInBounds_toArray, List.set_cons_zero, List.set_cons_succ]
        refine wpAnyH_step (i := 24) (d := some 81) (v := undef) rfl rfl (by kernel_rfl) (by kernel_rfl) (by kernel_rfl) (fun _ _ _ h => h) (Or.inr ⟨by rfl, rfl⟩) (by assumption) ?_
        try simp only [Act.put, List.setIfInBounds_toArray, List.set_cons_zero, List.set_cons_succ]
        refine wpAnyH_step (i := 25) (d := some 82) (v := undef) rfl rfl (by kernel_rfl) (by kernel_rfl) (by kernel_rfl) (fun _ _ _ h => h) (Or.inr ⟨by rfl, rfl⟩) (by assumption) ?_
        try simp only [Act.put, List.setIfInBounds_toArray, List.set_cons_zero, List.set_cons_succ]
        refine wpAnyH_step (i := 26) (d := some 83) (v := undef) rfl rfl (by kernel_rfl) (by kernel_rfl) (by kernel_rfl) (fun _ _ _ h => h) (Or.inr ⟨by rfl, rfl⟩) (by assumption) ?_
        try simp only [Act.put, List.setIfInBounds_toArray, List.set_cons_zero, List.set_cons_succ]
        refine wpAnyH_step (i := 27) (d := some 84) (v := undef) rfl rfl (by kernel_rfl) (by kernel_rfl) (by kernel_rfl) (fun _ _ _ h => h) (Or.inr ⟨by rfl, rfl⟩) (by assumption) ?_
        try simp only [Act.put, List.setIfInBounds_toArray, List.set_cons_zero, List.set_cons_succ]
        refine wpAnyH_step (i := 28) (d := some 85) (v := undef) rfl rfl (by kernel_rfl) (by kernel_rfl) (by kernel_rfl) (fun _ _ _ h => h) (Or.inr ⟨by rfl, rfl⟩) (by assumption) ?_
        try simp only [Act.put, List.setIfInBounds_toArray, List.set_cons_zero, List.set_cons_succ]
        refine wpAnyH_step (i := 29) (d := some 86) (v := undef) rfl rfl (by kernel_rfl) (by kernel_rfl) (by kernel_rfl) (fun _ _ _ h => h) (Or.inr ⟨by rfl, rfl⟩) (by assumption) ?_
        try simp only [Act.put, List.setIfInBounds_toArray, List.set_cons_zero, List.set_cons_succ]
        refine wpAnyH_step (i := 30) (d := some 87) (v := undef) rfl rfl (by kernel_rfl) (by kernel_rfl) (by kernel_rfl) (fun _ _ _ h => h) (Or.inr ⟨by rfl, rfl⟩) (by assumption) ?_
        try simp only [Act.put, List.setIfInBounds_toArray, List.set_cons_zero, List.set_cons_succ]
        refine wpAnyH_step (i := 31) (d := some 88) (v := undef) rfl rfl (by kernel_rfl) (by kernel_rfl) (by kernel_rfl) (fun _ _ _ h => h) (Or.inr ⟨by rfl, rfl⟩) (by assumption) ?_
        try simp only [Act.put, List.setIfInBounds_toArray, List.set_cons_zero, List.set_cons_succ]
        refine wpAnyH_step (i := 32) (d := some 89) (v := ?_) rfl rfl (by kernel_rfl) (by kernel_rfl) (by kernel_rfl) (fun _ _ _ h => h) (Or.inl ⟨by rfl, ?_⟩) (by assumption) ?_
        rotate_left
        · intro w hSw; (try dsimp only at hSw); go_simp; (try with_reducible rfl)
        try simp only [Act.put, List.setIfInBounds_toArray, List.set_cons_zero, List.set_cons_succ]
        refine wpAnyH_step (i := 33) (d := some 90) (v := ?_) rfl rfl (by kernel_rfl) (by kernel_rfl) (by kernel_rfl) (fun _ _ _ h => h) (Or.inl ⟨by rfl, ?_⟩) (by assumption) ?_
        rotate_left
        · intro w hSw; (try dsimp only at hSw); go_simp; (try with_reducible rfl)
        try simp only [Act.put, List.setIfInBounds_toArray, List.set_cons_zero, List.set_cons_succ]
        refine wpAnyH_step (i := 34) (d := some 91) (v := ?_) rfl rfl (by kernel_rfl) (by kernel_rfl) (by kernel_rfl) (fun _ _ _ h => h) (Or.inl ⟨by rfl, ?_⟩) (by assumption) ?_
        rotate_left
        · intro w hSw; (try dsimp only at hSw); go_simp; (try with_reducible rfl)
        try simp only [Act.put, List.setIfInBounds_toArray, List.set_cons_zero, List.set_cons_succ]
        refine wpAnyH_done (by kernel_rfl) ?_ _
        clear hHeld
        have hb5 : Below W.heap.size W w4.drew := (bel_call hb3 hb4).drew
        have D0 := cellB hb5 cv
        have D1 := cellB hb5 k0
        have D2 := cellB hb5 k1
        have D3 := cellB hb5 k2
        have D4 := cellB hb5 k3
        have Hb5 := Lib.hid hb5
        generalize w4.drew = w5 at *
        clear hb5 hb4 hb3 a1 a2 a3 m0 m1 m2 m3 a5 a6 a7 a8 a8' ep ed cv k0 k1 k2 k3 e1 e2 a9 a10
        have Hv5 : Hid (Boxed w5 (w.heap.size + 1 + 1 + 1 + 1 + 1) 40 _) := Lib.hid ((Hb5.out.block _ Hv.out.lt).trans Hv.out)
        have Ho5 := Lib.hid (Ho.out.call Hb5.out)
        have HW5 := Lib.hid (HW.out.step hs Hb5.out)
        have hs5 : w2.heap.size ≤ w5.heap.size := Nat.le_trans hs Hb5.out.size
        have hl : (q ++ [y] : List Ky).length ≤ 1000000 := by simp; omega
        gi_wp2_with (gi_at_builtin; refine wpIn_appK rfl (.tmp 92) (.tmp 94) rfl w2.heap.size _ _ _ x _ rfl rfl rfl Ho5.out hs5 hl ?_; intro v1 W1 own1 gr1; obtain ⟨n1, hn1⟩ : ∃ n1, ((q ++ [y] ++ [x] : List Ky)).length = n1 := ⟨_, rfl⟩; obtain ⟨ad1, cap1, hv1⟩ := own1.shape; rw [hn1] at hv1; subst hv1; clear hn1; have bx1 := ((Hv5.out.alloc _).kept gr1 (Boxed.not_row Hv5.out (by decide) Ho5.out)); have cv1 := bx1.cell; have fv1 := bx1.frozen; have Own1 := Lib.hid own1; have Gr1 := Lib.hid gr1; have Bx1 := Lib.hid bx1; clear own1 gr1 bx1)
        have hsz := HZ.out
        obtain ⟨g1, g2, g3, g4, g5⟩ := box_append (B := w2.heap.size) HW5.out hs5 (by omega) Ho5.out Own1.out Gr1.out Bx1.out
        exact ⟨(keepsB Hb5.out).trans g1, (Kp54.below Hb5.out).trans g2, g3, _, g4, by simpa only [List.append_assoc, List.cons_append, List.nil_append] using g5⟩
      · have n1 : ¬ x.1 < x.1 := by omega
        have n3 : ¬ x.2 ≤ y.2 := by omega
        have n4 : decide (y.1 = x.1) = true := by simp; omega
        have n5 : (y.1 == x.1) = true := by simp; omega
        have n1' : ¬ x.1 < y.1 := by omega
        refine wpAnyH_step (i := 0) (d := some 57) (v := ?_) rfl rfl (by kernel_rfl) (by kernel_rfl) (by kernel_rfl) (fun _ _ _ h => h) (Or.inl ⟨by rfl, ?_⟩) (by assumption) ?_
        rotate_left
        · intro w hSw; (try dsimp only at hSw); go_simp; (try with_reducible rfl)
        try simp only [Act.put, List.setIfInBounds_toArray, List.set_cons_zero, List.set_cons_succ]
        refine wpAnyH_step (i := 1) (d := some 58) (v := ?_) rfl rfl (by kernel_rfl) (by kernel_rfl) (by kernel_rfl) (fun _ _ _ h => h) (Or.inl ⟨by rfl, ?_⟩) (by assumption) ?_
        rotate_left
        · intro w hSw; (try dsimp only at hSw); go_simp; (try with_reducible rfl)
        try simp only [Act.put, List.setIfInBounds_toArray, List.set_cons_zero, List.set_cons_succ]
        refine wpAnyH_step (i := 2) (d := some 59) (v := ?_) rfl rfl (by kernel_rfl) (by kernel_rfl) (by kernel_rfl) (fun _ _ _ h => h) (Or.inl ⟨by rfl, ?_⟩) (by assumption) ?_
        rotate_left
        · intro w hSw; (try dsimp only at hSw); go_simp; (try with_reducible rfl)
        try simp only [Act.put, List.setIfInBounds_toArray, List.set_cons_zero, List.set_cons_succ]
        refine wpAnyH_step (i := 3) (d := some 60) (v := ?_) rfl rfl (by kernel_rfl) (by kernel_rfl) (by kernel_rfl) (fun _ _ _ h => h) (Or.inl ⟨by rfl, ?_⟩) (by assumption) ?_
        rotate_left
        · intro w hSw; (try dsimp only at hSw); go_simp; (try with_reducible rfl)
        try simp only [Act.put, List.setIfInBounds_toArray, List.set_cons_zero, List.set_cons_succ]
        refine wpAnyH_step (i := 4) (d := some 61) (v := ?_) rfl rfl (by kernel_rfl) (by kernel_rfl) (by kernel_rfl) (fun _ _ _ h => h) (Or.inl ⟨by rfl, ?_⟩) (by assumption) ?_
        rotate_left
        · intro w hSw; (try dsimp only at hSw); go_simp; (try with_reducible rfl)
        try simp only [Act.put, List.setIfInBounds_toArray, List.set_cons_zero, List.set_cons_succ]
        refine wpAnyH_step (i := 5) (d := some 62) (v := ?_) rfl rfl (by kernel_rfl) (by kernel_rfl) (by kernel_rfl) (fun _ _ _ h => h) (Or.inl ⟨by rfl, ?_⟩) (by assumption) ?_
        rotate_left
        · intro w hSw; (try dsimp only at hSw); go_simp; (try with_reducible rfl)
        try simp only [Act.put, List.setIfInBounds_toArray, List.set_cons_zero, List.set_cons_succ]
        refine wpAnyH_step (i := 6) (d := some 63) (v := ?_) rfl rfl (by kernel_rfl) (by kernel_rfl) (by kernel_rfl) (fun _ _ _ h => h) (Or.inl ⟨by rfl, ?_⟩) (by assumption) ?_
        rotate_left
        · intro w hSw; (try dsimp only at hSw); go_simp; (try with_reducible rfl)
        try simp only [Act.put, List.setIfInBounds_toArray, List.set_cons_zero, List.set_cons_succ]
        refine wpAnyH_step (i := 7) (d := some 64) (v := ?_) rfl rfl (by kernel_rfl) (by kernel_rfl) (by kernel_rfl) (fun _ _ _ h => h) (Or.inl ⟨by rfl, ?_⟩) (by assumption) ?_
        rotate_left
        · intro w hSw; (try dsimp only at hSw); go_simp; (try with_reducible rfl)
        try simp only [Act.put, List.setIfInBounds_toArray, List.set_cons_zero, List.set_cons_succ]
        refine wpAnyH_step (i := 8) (d := some 65) (v := ?_) rfl rfl (by kernel_rfl) (by kernel_rfl) (by kernel_rfl) (fun _ _ _ h => h) (Or.inl ⟨by rfl, ?_⟩) (by assumption) ?_
        rotate_left
        · intro w hSw; (try dsimp only at hSw); go_simp; (try with_reducible rfl)
        try simp only [Act.put, List.setIfInBounds_toArray, List.set_cons_zero, List.set_cons_succ]
        refine wpAnyH_step (i := 9) (d := some 66) (v := ?_) rfl rfl (by kernel_rfl) (by kernel_rfl) (by kernel_rfl) (fun _ _ _ h => h) (Or.inl ⟨by rfl, ?_⟩) (by assumption) ?_
        rotate_left
        · intro w hSw; (try dsimp only at hSw); go_simp; (try with_reducible rfl)
        try simp only [Act.put, List.setIfInBounds_toArray, List.set_cons_zero, List.set_cons_succ]
        refine wpAnyH_step (i := 10) (d := some 67) (v := ?_) rfl rfl (by kernel_rfl) (by kernel_rfl) (by kernel_rfl) (fun _ _ _ h => h) (Or.inl ⟨by rfl, ?_⟩) (by assumption) ?_
        rotate_left
        · intro w hSw; (try dsimp only at hSw); go_simp; (try with_reducible rfl)
        try simp only [Act.put, List.setIfInBounds_toArray, List.set_cons_zero, List.set_cons_succ]
        refine wpAnyH_step (i := 11) (d := some 68) (v := ?_) rfl rfl (by kernel_rfl) (by kernel_rfl) (by kernel_rfl) (fun _ _ _ h => h) (Or.inl ⟨by rfl, ?_⟩) (by assumption) ?_
        rotate_left
        · intro w hSw; (try dsimp only at hSw); go_simp; (try with_reducible rfl)
        try simp only [Act.put, List.setIfInBounds_toArray, List.set_cons_zero, List.set_cons_succ]
        refine wpAnyH_step (i := 12) (d := some 69) (v := ?_) rfl rfl (by kernel_rfl) (by kernel_rfl) (by kernel_rfl) (fun _ _ _ h => h) (Or.inl ⟨by rfl, ?_⟩) (by assumption) ?_
        rotate_left
        · intro w hSw; (try dsimp only at hSw); go_simp; (try with_reducible rfl)
        try simp only [Act.put, List.setIfInBounds_toArray, List.set_cons_zero, List.set_cons_succ]
        refine wpAnyH_step (i := 13) (d := some 70) (v := ?_) rfl rfl (by kernel_rfl) (by kernel_rfl) (by kernel_rfl) (fun _ _ _ h => h) (Or.inl ⟨by rfl, ?_⟩) (by assumption) ?_
        rotate_left
        · intro w hSw; (try dsimp only at hSw); go_simp; (try with_reducible rfl)
        try simp only [Act.put, List.setIfInBounds_toArray, List.set_cons_zero, List.set_cons_succ]
        refine wpAnyH_step (i := 14) (d := some 71) (v := ?_) rfl rfl (by kernel_rfl) (by kernel_rfl) (by kernel_rfl) (fun _ _ _ h => h) (Or.inl ⟨by rfl, ?_⟩) (by assumption) ?_
        rotate_left
        · intro w hSw; (try dsimp only at hSw); go_simp; (try with_reducible rfl)
        try simp only [Act.put, List.setIfInBounds_toArray, List.set_cons_zero, List.set_cons_succ]
        refine wpAnyH_step (i := 15) (d := some 72) (v := ?_) rfl rfl (by kernel_rfl) (by kernel_rfl) (by kernel_rfl) (fun _ _ _ h => h) (Or.inl ⟨by rfl, ?_⟩) (by assumption) ?_
        rotate_left
        · intro w hSw; (try dsimp only at hSw); go_simp; (try with_reducible rfl)
        try simp only [Act.put, List.setIfInBounds_toArray, List.set_cons_zero, List.set_cons_succ]
        refine wpAnyH_step (i := 16) (d := some 73) (v := ?_) rfl rfl (by kernel_rfl) (by kernel_rfl) (by kernel_rfl) (fun _ _ _ h => h) (Or.inl ⟨by rfl, ?_⟩) (by assumption) ?_
        rotate_left
        · intro w hSw; (try dsimp only at hSw); go_simp; (try with_reducible rfl)
        try simp only [Act.put, List.setIfInBounds_toArray, List.set_cons_zero, List.set_cons_succ]
        refine wpAnyH_step (i := 17) (d := some 74) (v := ?_) rfl rfl (by kernel_rfl) (by kernel_rfl) (by kernel_rfl) (fun _ _ _ h => h) (Or.inl ⟨by rfl, ?_⟩) (by assumption) ?_
        rotate_left
        · intro w hSw; (try dsimp only at hSw); go_simp; (try with_reducible rfl)
        try simp only [Act.put, List.setIfInBounds_toArray, List.set_cons_zero, List.set_cons_succ]
        refine wpAnyH_step (i := 18) (d := some 75) (v := ?_) rfl rfl (by kernel_rfl) (by kernel_rfl) (by kernel_rfl) (fun _ _ _ h => h) (Or.inl ⟨by rfl, ?_⟩) (by assumption) ?_
        rotate_left
        · intro w hSw; (try dsimp only at hSw); go_simp; (try with_reducible rfl)
        try simp only [Act.put, List.setIfInBounds_toArray, List.set_cons_zero, List.set_cons_succ]
        refine wpAnyH_step (i := 19) (d := some 76) (v := ?_) rfl rfl (by kernel_rfl) (by kernel_rfl) (by kernel_rfl) (fun _ _ _ h => h) (Or.inl ⟨by rfl, ?_⟩) (by assumption) ?_
        rotate_left
        · intro w hSw; (try dsimp only at hSw); go_simp; (try with_reducible rfl)
        try simp only [Act.put, List.setIfInBounds_toArray, List.set_cons_zero, List.set_cons_succ]
        refine wpAnyH_step (i := 20) (d := some 77) (v := ?_) rfl rfl (by kernel_rfl) (by kernel_rfl) (by kernel_rfl) (fun _ _ _ h => h) (Or.inl ⟨by rfl, ?_⟩) (by assumption) ?_
        rotate_left
        · intro w hSw; (try dsimp only at hSw); go_simp; (try with_reducible rfl)
        try simp only [Act.put, List.setIfInBounds_toArray, List.set_cons_zero, List.set_cons_succ]
        refine wpAnyH_step (i := 21) (d := some 78) (v := ?_) rfl rfl (by kernel_rfl) (by kernel_rfl) (by kernel_rfl) (fun _ _ _ h => h) (Or.inl ⟨by rfl, ?_⟩) (by assumption) ?_
        rotate_left
        · intro w hSw; (try dsimp only at hSw); go_simp; (try with_reducible rfl)
        try simp only [Act.put, List.setIfInBounds_toArray, List.set_cons_zero, List.set_cons_succ]
        refine wpAnyH_step (i := 22) (d := some 79) (v := ?_) rfl rfl (by kernel_rfl) (by kernel_rfl) (by kernel_rfl) (fun _ _ _ h => h) (Or.inl ⟨by rfl, ?_⟩) (by assumption) ?_
        rotate_left
        · intro w hSw; (try dsimp only at hSw); go_simp; (try with_reducible rfl)
        try simp only [Act.put, List.setIfInBounds_toArray, List.set_cons_zero, List.set_cons_succ]
        refine wpAnyH_step (i := 23) (d := some 80) (v := ?_) rfl rfl (by kernel_rfl) (by kernel_rfl) (by kernel_rfl) (fun _ _ _ h => h) (Or.inl ⟨by rfl, ?_⟩) (by assumption) ?_
        rotate_left
        · intro w hSw; (try dsimp only at hSw); go_simp; (try with_reducible rfl)
        try simp only [Act.put, List.setIfInBounds_toArray, List.set_cons_zero, List.set_cons_succ]
        refine wpAnyH_step (i := 24) (d := some 81) (v := ?_) rfl rfl (by kernel_rfl) (by kernel_rfl) (by kernel_rfl) (fun _ _ _ h => h) (Or.inl ⟨by rfl, ?_⟩) (by assumption) ?_
        rotate_left
        · intro w hSw; (try dsimp only at hSw); go_simp; (try with_reducible rfl)
        try simp only [Act.put, List.setIfInBounds_toArray, List.set_cons_zero, List.set_cons_succ]
        refine wpAnyH_step (i := 25) (d := some 82) (v := ?_) rfl rfl (by kernel_rfl) (by kernel_rfl) (by kernel_rfl) (fun _ _ _ h => h) (Or.inl ⟨by rfl, ?_⟩) (by assumption) ?_
        rotate_left
        · intro w hSw; (try dsimp only at hSw); go_simp; (try with_reducible rfl)
        try simp only [Act.put, List.setIfInBounds_toArray, List.set_cons_zero, List.set_cons_succ]
        refine wpAnyH_step (i := 26) (d := some 83) (v := ?_) rfl rfl (by kernel_rfl) (by kernel_rfl) (by kernel_rfl) (fun _ _ _ h => h) (Or.inl ⟨by rfl, ?_⟩) (by assumption) ?_
        rotate_left
        · intro w hSw; (try dsimp only at hSw); go_simp; (try with_reducible rfl)
        try simp only [Act.put, List.setIfInBounds_toArray, List.set_cons_zero, List.set_cons_succ]
        refine wpAnyH_step (i := 27) (d := some 84) (v := ?_) rfl rfl (by kernel_rfl) (by kernel_rfl) (by kernel_rfl) (fun _ _ _ h => h) (Or.inl ⟨by rfl, ?_⟩) (by assumption) ?_
        rotate_left
        · intro w hSw; (try dsimp only at hSw); go_simp; (try with_reducible rfl)
        try simp only [Act.put, List.setIfInBounds_toArray, List.set_cons_zero, List.set_cons_succ]
        refine wpAnyH_step (i := 28) (d := some 85) (v := ?_) rfl rfl (by kernel_rfl) (by kernel_rfl) (by kernel_rfl) (fun _ _ _ h => h) (Or.inl ⟨by rfl, ?_⟩) (by assumption) ?_
        rotate_left
        · intro w hSw; (try dsimp only at hSw); go_simp; (try with_reducible rfl)
        try simp only [Act.put, List.setIfInBounds_toArray, List.set_cons_zero, List.set_cons_succ]
        refine wpAnyH_step (i := 29) (d := some 86) (v := ?_) rfl rfl (by kernel_rfl) (by kernel_rfl) (by kernel_rfl) (fun _ _ _ h => h) (Or.inl ⟨by rfl, ?_⟩) (by assumption) ?_
        rotate_left
        · intro w hSw; (try dsimp only at hSw); go_simp; (try with_reducible rfl)
        try simp only [Act.put, List.setIfInBounds_toArray, List.set_cons_zero, List.set_cons_succ]
        refine wpAnyH_step (i := 30) (d := some 87) (v := ?_) rfl rfl (by kernel_rfl) (by kernel_rfl) (by kernel_rfl) (fun _ _ _ h => h) (Or.inl ⟨by rfl, ?_⟩) (by assumption) ?_
        rotate_left
        · intro w hSw; (try dsimp only at hSw); go_simp; (try with_reducible rfl)
        try simp only [Act.put, List.setIfInBounds_toArray, List.set_cons_zero, List.set_cons_succ]
        refine wpAnyH_step (i := 31) (d := some 88) (v := ?_) rfl rfl (by kernel_rfl) (by kernel_rfl) (by kernel_rfl) (fun _ _ _ h => h) (Or.inl ⟨by rfl, ?_⟩) (by assumption) ?_
        rotate_left
        · intro w hSw; (try dsimp only at hSw); go_simp; (try with_reducible rfl)
        try simp only [Act.put, List.setIfInBounds_toArray, List.set_cons_zero, List.set_cons_succ]
        refine wpAnyH_step (i := 32) (d := some 89) (v := ?_) rfl rfl (by kernel_rfl) (by kernel_rfl) (by kernel_rfl) (fun _ _ _ h => h) (Or.inl ⟨by rfl, ?_⟩) (by assumption) ?_
        rotate_left
        · intro w hSw; (try dsimp only at hSw); go_simp; (try with_reducible rfl)
        try simp only [Act.put, List.setIfInBounds_toArray, List.set_cons_zero, List.set_cons_succ]
        refine wpAnyH_step (i := 33) (d := some 90) (v := ?_) rfl rfl (by kernel_rfl) (by kernel_rfl) (by kernel_rfl) (fun _ _ _ h => h) (Or.inl ⟨by rfl, ?_⟩) (by assumption) ?_
        rotate_left
        · intro w hSw; (try dsimp only at hSw); go_simp; (try with_reducible rfl)
        try simp only [Act.put, List.setIfInBounds_toArray, List.set_cons_zero, List.set_cons_succ]
        refine wpAnyH_step (i := 34) (d := some 91) (v := ?_) rfl rfl (by kernel_rfl) (by kernel_rfl) (by kernel_rfl) (fun _ _ _ h => h) (Or.inl ⟨by rfl, ?_⟩) (by assumption) ?_
        rotate_left
        · intro w hSw; (try dsimp only at hSw); go_simp; (try with_reducible rfl)
        try simp only [Act.put, List.setIfInBounds_toArray, List.set_cons_zero, List.set_cons_succ]
        refine wpAnyH_done (by kernel_rfl) ?_ _
        clear hHeld
        have hb5 : Below W.heap.size W w4.drew := (bel_call hb3 hb4).drew
        have D0 := cellB hb5 cv
        have D1 := cellB hb5 k0
        have D2 := cellB hb5 k1
        have D3 := cellB hb5 k2
        have D4 := cellB hb5 k3
        have Hb5 := Lib.hid hb5
        generalize w4.drew = w5 at *
        clear hb5 hb4 hb3 a1 a2 a3 m0 m1 m2 m3 a5 a6 a7 a8 a8' ep ed cv k0 k1 k2 k3 e1 e2 a9 a10
        have Hv5 : Hid (Boxed w5 (w.heap.size + 1 + 1 + 1 + 1 + 1) 40 _) := Lib.hid ((Hb5.out.block _ Hv.out.lt).trans Hv.out)
        have Ho5 := Lib.hid (Ho.out.call Hb5.out)
        have HW5 := Lib.hid (HW.out.step hs Hb5.out)
        have hs5 : w2.heap.size ≤ w5.heap.size := Nat.le_trans hs Hb5.out.size
        have hl : (q ++ [y] : List Ky).length ≤ 1000000 := by simp; omega
        gi_wp2_with (gi_at_builtin; refine wpIn_appK rfl (.tmp 92) (.tmp 94) rfl w2.heap.size _ _ _ x _ rfl rfl rfl Ho5.out hs5 hl ?_; intro v1 W1 own1 gr1; obtain ⟨n1, hn1⟩ : ∃ n1, ((q ++ [y] ++ [x] : List Ky)).length = n1 := ⟨_, rfl⟩; obtain ⟨ad1, cap1, hv1⟩ := own1.shape; rw [hn1] at hv1; subst hv1; clear hn1; have bx1 := ((Hv5.out.alloc _).kept gr1 (Boxed.not_row Hv5.out (by decide) Ho5.out)); have cv1 := bx1.cell; have fv1 := bx1.frozen; have Own1 := Lib.hid own1; have Gr1 := Lib.hid gr1; have Bx1 := Lib.hid bx1; clear own1 gr1 bx1)
        have hsz := HZ.out
        obtain ⟨g1, g2, g3, g4, g5⟩ := box_append (B := w2.heap.size) HW5.out hs5 (by omega) Ho5.out Own1.out Gr1.out Bx1.out
        exact ⟨(keepsB Hb5.out).trans g1, (Kp54.below Hb5.out).trans g2, g3, _, g4, by simpa only [List.append_assoc, List.cons_append, List.nil_append] using g5⟩
  case done =>
    rintro D ys W hD hys ⟨hW, v, hv, ho⟩ hK
    have hcount : (ys.length : Int) = kWant p := by rw [hys]; exact kAll_count p pad
    clear hys
    have ev := hv.cell
    have e0 := (hW.cell (o := 0) (show w.heap.size < w2.heap.size by omega) (by omega)).trans HC0.out
    have e2 := (hW.cell (o := 0) (show w.heap.size + 1 + 1 < w2.heap.size by omega) (by omega)).trans HC2.out.1
    have d2 := (hW.frozen (o := 0) (show w.heap.size + 1 + 1 < w2.heap.size by omega) (by omega)).trans HC2.out.2
    have hs := hW.size
    obtain ⟨ad, cap, rfl⟩ := ho.shape
    have HBe : Hid (Below w.heap.size w W) := Lib.hid (hB.trans (hW.below (by omega) (by omega)))
    have HK := Lib.hid hK
    have HS := Lib.hid hsz
    have HA := Lib.hid (fun W => awake_any W)
    unfold Fn at HA
    have hlt2 : w.heap.size + 1 + 1 < W.heap.size := by omega
    clear hv ho hW hK hsz hB c5 HC0 HC1 HC2 HC3 HC4
    generalize ys.length = n at *
    unfold kWant at hcount
    have h4 : p < 1 ∨ 4 < p ∨ p = 1 ∨ (1 < p ∧ p ≤ 4) := by omega
    have hfin : ∀ w6, Below W.heap.size W w6 → w6.heap[D]? = some (.deferred (some [])) ∧ w6.cell? ⟨w.heap.size + 1 + 1, 0, none⟩ = some (.bool false) ∧ w6.frozen? ⟨w.heap.size + 1 + 1, 0, none⟩ = false ∧ Below w.heap.size w w6 := fun w6 hb => ⟨(hb.block D (Array.getElem?_eq_some_iff.1 HK.out).1).trans HK.out, cellB hb e2, (hb.frozen (p := ⟨w.heap.size + 1 + 1, 0, none⟩) hlt2).trans d2, HBe.out.trans (hb.mono (by omega))⟩
    have HF := Lib.hid hfin
    clear hfin hlt2 e2 d2 hs hN HBe
    rcases h4 with h | h | h | h
    · rw [if_pos (.inl h)] at hcount
      obtain rfl : n = 0 := by omega
      have f1 : ¬ p = 1 := by omega
      gi_wp2_with (refine ⟨trivial, ?_⟩; gi_at_call 12; refine (callsIn_wide.2 (HA.out _)).mono ?_; rintro e w6 ⟨rfl, hb6⟩; obtain ⟨k6, e6, d6, B6⟩ := HF.out _ hb6)
      have hKO : KeepsOthers w6 (w6.setCell ⟨w.heap.size + 1 + 1, 0, none⟩ (.bool true)) := KeepsOthers.setCell _ _ _
      have hK4 := hKO.same D _ k6 rfl
      have z1 : (w6.setCell ⟨w.heap.size + 1 + 1, 0, none⟩ (.bool true)).cell? ⟨w.heap.size + 1 + 1, 0, none⟩ = some (.bool true) := World.cell?_setCell_same' _ _ _ (by rw [e6]; rfl)
      have hBe := B6.setCell (p := ⟨w.heap.size + 1 + 1, 0, none⟩) (by simp; omega) (.bool true)
      generalize w6.setCell ⟨w.heap.size + 1 + 1, 0, none⟩ (.bool true) = W3 at *
      have y1 := cell_kept z1 (grownBy_putObj' _ D (.deferred none)) (fun r e => by cases e; exact ⟨_, hK4, rfl⟩)
      refine ⟨by simp, .inl ⟨_, _, rfl, run_takeDeferred hK4, ?_⟩⟩
      refine ⟨.bool true, ?_, rfl, ?_⟩
      · simp [results, Try.results7, go_sem, y1]
      · exact hBe.trans (belowK_b (w := w2) (by have := HS.out; omega) W3 D _ _ hD hK4 rfl rfl)
    · rw [if_pos (.inr h)] at hcount
      obtain rfl : n = 0 := by omega
      have f1 : ¬ p = 1 := by omega
      have f2 : ¬ p < 1 := by omega
      gi_wp2_with (refine ⟨trivial, ?_⟩; gi_at_call 12; refine (callsIn_wide.2 (HA.out _)).mono ?_; rintro e w6 ⟨rfl, hb6⟩; obtain ⟨k6, e6, d6, B6⟩ := HF.out _ hb6)
      have hKO : KeepsOthers w6 (w6.setCell ⟨w.heap.size + 1 + 1, 0, none⟩ (.bool true)) := KeepsOthers.setCell _ _ _
      have hK4 := hKO.same D _ k6 rfl
      have z1 : (w6.setCell ⟨w.heap.size + 1 + 1, 0, none⟩ (.bool true)).cell? ⟨w.heap.size + 1 + 1, 0, none⟩ = some (.bool true) := World.cell?_setCell_same' _ _ _ (by rw [e6]; rfl)
      have hBe := B6.setCell (p := ⟨w.heap.size + 1 + 1, 0, none⟩) (by simp; omega) (.bool true)
      generalize w6.setCell ⟨w.heap.size + 1 + 1, 0, none⟩ (.bool true) = W3 at *
      have y1 := cell_kept z1 (grownBy_putObj' _ D (.deferred none)) (fun r e => by cases e; exact ⟨_, hK4, rfl⟩)
      refine ⟨by simp, .inl ⟨_, _, rfl, run_takeDeferred hK4, ?_⟩⟩
      refine ⟨.bool true, ?_, rfl, ?_⟩
      · simp [results, Try.results7, go_sem, y1]
      · exact hBe.trans (belowK_b (w := w2) (by have := HS.out; omega) W3 D _ _ hD hK4 rfl rfl)
    · subst h
      rw [if_neg (by omega), if_pos rfl] at hcount
      obtain rfl : n = 122 := by omega
      gi_wp2_with (refine ⟨trivial, ?_⟩; gi_at_call 12; refine (callsIn_wide.2 (HA.out _)).mono ?_; rintro e w6 ⟨rfl, hb6⟩; obtain ⟨k6, e6, d6, B6⟩ := HF.out _ hb6)
      have hKO : KeepsOthers w6 (w6.setCell ⟨w.heap.size + 1 + 1, 0, none⟩ (.bool true)) := KeepsOthers.setCell _ _ _
      have hK4 := hKO.same D _ k6 rfl
      have z1 : (w6.setCell ⟨w.heap.size + 1 + 1, 0, none⟩ (.bool true)).cell? ⟨w.heap.size + 1 + 1, 0, none⟩ = some (.bool true) := World.cell?_setCell_same' _ _ _ (by rw [e6]; rfl)
      have hBe := B6.setCell (p := ⟨w.heap.size + 1 + 1, 0, none⟩) (by simp; omega) (.bool true)
      generalize w6.setCell ⟨w.heap.size + 1 + 1, 0, none⟩ (.bool true) = W3 at *
      have y1 := cell_kept z1 (grownBy_putObj' _ D (.deferred none)) (fun r e => by cases e; exact ⟨_, hK4, rfl⟩)
      refine ⟨by simp, .inl ⟨_, _, rfl, run_takeDeferred hK4, ?_⟩⟩
      refine ⟨.bool true, ?_, rfl, ?_⟩
      · simp [results, Try.results7, go_sem, y1]
      · exact hBe.trans (belowK_b (w := w2) (by have := HS.out; omega) W3 D _ _ hD hK4 rfl rfl)
    · rw [if_neg (by omega), if_neg (by omega)] at hcount
      obtain rfl : n = 131 := by omega
      have f1 : ¬ p = 1 := by omega
      have f2 : ¬ p < 1 := by omega
      have f3 : ¬ (4 : Int) < p := by omega
      gi_wp2_with (refine ⟨trivial, ?_⟩; gi_at_call 12; refine (callsIn_wide.2 (HA.out _)).mono ?_; rintro e w6 ⟨rfl, hb6⟩; obtain ⟨k6, e6, d6, B6⟩ := HF.out _ hb6)
      have hKO : KeepsOthers w6 (w6.setCell ⟨w.heap.size + 1 + 1, 0, none⟩ (.bool true)) := KeepsOthers.setCell _ _ _
      have hK4 := hKO.same D _ k6 rfl
      have z1 : (w6.setCell ⟨w.heap.size + 1 + 1, 0, none⟩ (.bool true)).cell? ⟨w.heap.size + 1 + 1, 0, none⟩ = some (.bool true) := World.cell?_setCell_same' _ _ _ (by rw [e6]; rfl)
      have hBe := B6.setCell (p := ⟨w.heap.size + 1 + 1, 0, none⟩) (by simp; omega) (.bool true)
      generalize w6.setCell ⟨w.heap.size + 1 + 1, 0, none⟩ (.bool true) = W3 at *
      have y1 := cell_kept z1 (grownBy_putObj' _ D (.deferred none)) (fun r e => by cases e; exact ⟨_, hK4, rfl⟩)
      refine ⟨by simp, .inl ⟨_, _, rfl, run_takeDeferred hK4, ?_⟩⟩
      refine ⟨.bool true, ?_, rfl, ?_⟩
      · simp [results, Try.results7, go_sem, y1]
      · exact hBe.trans (belowK_b (w := w2) (by have := HS.out; omega) W3 D _ _ hD hK4 rfl rfl)
  case stop => exact fun D c pre W _ _ h _ => h.elim
end Go.Proofs.Ytkenihkfjepdfaa
