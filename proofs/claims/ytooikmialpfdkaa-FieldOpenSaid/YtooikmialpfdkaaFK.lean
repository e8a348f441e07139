/- The walk of the field's Back. -/
import Derived.Test.YtooikmialpfdkaaFE
import Derived.Test.YtooikmialpfdkaaF8
namespace Go.Proofs.Ytooikmialpfdkaa
open Go.RowKit
set_option linter.unusedVariables false
set_option linter.unusedSimpArgs false
set_option maxRecDepth 100000 in
set_option maxHeartbeats 1000000 in
theorem back_any (G : Grid) (r c : Int) (w : World) (h : G.In w.heap.size w) : Fn w 19 #[G.v, .agg #[.int .i64 r, .int .i64 c]] (foundPos G (nextOf G (-1) ((G.n * G.len 0 : Nat) - 1) r c)) := by
  have HC := fun W (hW : Below w.heap.size w W) => check_any G W (h.later hW hW.size)
  by_cases hok : G.Ok
  · have hA1 : 1 ≤ G.n * G.len 0 := Nat.mul_pos hok.1 (hok.2.2 0 hok.1).1
    have hb := num_bd G hok _ rfl r c ((G.n * G.len 0 : Nat) - 1) (by omega) (by omega)
    have HS := fun W (hW : Below w.heap.size w W) => seek_any G hok _ rfl (-1) (.inr rfl) r c ((G.n * G.len 0 : Nat) - 1) hb.1 hb.2 W (h.later hW hW.size)
    have e : nextOf G (-1) ((G.n * G.len 0 : Nat) - 1) r c = (orbit (G.n * G.len 0 : Nat) (-1) (G.num r c ((G.n * G.len 0 : Nat) - 1)) (G.n * G.len 0)).find? (openN G) := by simp [nextOf, okB_yes hok]
    rw [← e] at HS
    obtain ⟨x, y, f, hf⟩ := foundPos_form G (nextOf G (-1) ((G.n * G.len 0 : Nat) - 1) r c)
    rw [hf]
    simp only [hf, okB_yes hok] at HS HC
    obtain ⟨n1, n2, hgood⟩ := hok
    have hm := hgood 0 n1
    have m1 := hm.1
    have m2 := hm.2.1
    have hmul : IntKind.i64.wrap ((G.n : Int) * (G.len 0 : Int)) = ((G.n * G.len 0 : Nat) : Int) := by
      have hle : G.n * G.len 0 ≤ 255 * 255 := Nat.mul_le_mul n2 m2
      rw [← Int.natCast_mul]
      exact IntWalk.i64_in _ (by omega)
    have hmul2 : IntKind.i64.wrap (((G.n * G.len 0 : Nat) : Int) - 1) = ((G.n * G.len 0 : Nat) : Int) - 1 := by
      have hle : G.n * G.len 0 ≤ 255 * 255 := Nat.mul_le_mul n2 m2
      exact IntWalk.i64_in _ (by omega)
    unfold Fn at *
    obtain ⟨b, off, ea, hbb, hc⟩ := h.rows n1
    have cr := hc 0 n1
    have crA : ∀ W, Below w.heap.size w W → W.cell? ⟨b, off, none⟩ = some (.slice (G.ra 0) (G.len 0) (G.rc 0)) := fun W hW => (hW.cell (p := ⟨b, off, none⟩) hbb).trans cr
    unfold Grid.v at *
    rw [ea] at HS HC ⊢
    have n1' : (0 : Int) < (G.n : Int) := by omega
    have n0 : 0 < G.n := n1
    generalize (G.n * G.len 0 : Nat) = A at *
    have HS' := Lib.hid HS
    have HC' := Lib.hid HC
    have HR' := Lib.hid crA
    clear HS HC h hb hA1 e hf hm hgood hc cr crA
    go_enter Try.func19, Try.ntmps19
    go_wp2_with fail
    refine (HC'.out _ (bel_alloc (bel_alloc (Below.refl _ _) _) _)).mono ?_
    rintro e w1 ⟨rfl, hb1⟩
    have k0 := hb1.cell (p := ⟨w.heap.size, 0, none⟩) (by simp; omega)
    have k1 := hb1.cell (p := ⟨w.heap.size, 1, none⟩) (by simp; omega)
    have k2 := hb1.cell (p := ⟨w.heap.size + 1, 0, none⟩) (by simp)
    have k3 := hb1.cell (p := ⟨w.heap.size + 1, 1, none⟩) (by simp)
    have k4 := hb1.frozen (p := ⟨w.heap.size + 1, 0, none⟩) (by simp)
    have k5 := hb1.frozen (p := ⟨w.heap.size + 1, 1, none⟩) (by simp)
    simp [go_sem] at k0 k1 k2 k3 k4 k5
    have hz : w.heap.size + 1 < w1.heap.size := by have := hb1.size; simp at this; omega
    have BW : Below w.heap.size w w1 := bel_call (bel_alloc (bel_alloc (Below.refl _ _) _) _) hb1
    have e0 : errOf true = 0 := rfl
    go_wp2_with fail
    have hS1 : (fun W : World => (W.cell? ⟨w.heap.size, 0, none⟩ = some (.int .i64 r) ∧ W.cell? ⟨w.heap.size, 1, none⟩ = some (.int .i64 c) ∧ W.cell? ⟨b, off, none⟩ = some (.slice (G.ra 0) (G.len 0) (G.rc 0))) ∧ (W.frozen? ⟨w.heap.size + 1, 0, none⟩ = false ∧ W.frozen? ⟨w.heap.size + 1, 1, none⟩ = false ∧ (∃ u0, W.cell? ⟨w.heap.size + 1, 0, none⟩ = some u0) ∧ (∃ u1, W.cell? ⟨w.heap.size + 1, 1, none⟩ = some u1)) ∧ Below w.heap.size w W ∧ w.heap.size + 1 < W.heap.size) w1 := ⟨⟨k0, k1, HR'.out _ BW⟩, ⟨k4, k5, ⟨_, k2⟩, ⟨_, k3⟩⟩, BW, hz⟩
    have KB : ∀ W W' : World, ((fun W : World => (W.cell? ⟨w.heap.size, 0, none⟩ = some (.int .i64 r) ∧ W.cell? ⟨w.heap.size, 1, none⟩ = some (.int .i64 c) ∧ W.cell? ⟨b, off, none⟩ = some (.slice (G.ra 0) (G.len 0) (G.rc 0))) ∧ (W.frozen? ⟨w.heap.size + 1, 0, none⟩ = false ∧ W.frozen? ⟨w.heap.size + 1, 1, none⟩ = false ∧ (∃ u0, W.cell? ⟨w.heap.size + 1, 0, none⟩ = some u0) ∧ (∃ u1, W.cell? ⟨w.heap.size + 1, 1, none⟩ = some u1)) ∧ Below w.heap.size w W ∧ w.heap.size + 1 < W.heap.size) W) → Below W.heap.size W W' → (fun W : World => (W.cell? ⟨w.heap.size, 0, none⟩ = some (.int .i64 r) ∧ W.cell? ⟨w.heap.size, 1, none⟩ = some (.int .i64 c) ∧ W.cell? ⟨b, off, none⟩ = some (.slice (G.ra 0) (G.len 0) (G.rc 0))) ∧ (W.frozen? ⟨w.heap.size + 1, 0, none⟩ = false ∧ W.frozen? ⟨w.heap.size + 1, 1, none⟩ = false ∧ (∃ u0, W.cell? ⟨w.heap.size + 1, 0, none⟩ = some u0) ∧ (∃ u1, W.cell? ⟨w.heap.size + 1, 1, none⟩ = some u1)) ∧ Below w.heap.size w W ∧ w.heap.size + 1 < W.heap.size) W' := by
      rintro W W' ⟨⟨a0, a1, a2⟩, ⟨b0, b1, ⟨u0, b2⟩, ⟨u1, b3⟩⟩, B, hz⟩ hb
      exact ⟨⟨(hb.cell (p := ⟨w.heap.size, 0, none⟩) (by simp; omega)).trans a0, (hb.cell (p := ⟨w.heap.size, 1, none⟩) (by simp; omega)).trans a1, HR'.out _ (bel_call B hb)⟩,
        ⟨(hb.frozen (p := ⟨w.heap.size + 1, 0, none⟩) hz).trans b0, (hb.frozen (p := ⟨w.heap.size + 1, 1, none⟩) hz).trans b1, ⟨u0, (hb.cell (p := ⟨w.heap.size + 1, 0, none⟩) hz).trans b2⟩, ⟨u1, (hb.cell (p := ⟨w.heap.size + 1, 1, none⟩) hz).trans b3⟩⟩, bel_call B hb, Nat.lt_of_lt_of_le hz hb.size⟩
    refine wp_region_held_drew (S := fun W => (W.cell? ⟨w.heap.size, 0, none⟩ = some (.int .i64 r) ∧ W.cell? ⟨w.heap.size, 1, none⟩ = some (.int .i64 c) ∧ W.cell? ⟨b, off, none⟩ = some (.slice (G.ra 0) (G.len 0) (G.rc 0))) ∧ (W.frozen? ⟨w.heap.size + 1, 0, none⟩ = false ∧ W.frozen? ⟨w.heap.size + 1, 1, none⟩ = false ∧ (∃ u0, W.cell? ⟨w.heap.size + 1, 0, none⟩ = some u0) ∧ (∃ u1, W.cell? ⟨w.heap.size + 1, 1, none⟩ = some u1)) ∧ Below w.heap.size w W ∧ w.heap.size + 1 < W.heap.size) (by kernel_rfl) (KB _ _ hS1 (Below.refl _ _).drew) (fun hHeld => ?_)
    refine wpAnyH_step (i := 0) (d := some 10) (v := ?_) rfl rfl (by kernel_rfl) (by kernel_rfl) (by kernel_rfl) (fun _ _ _ h => h) (Or.inl ⟨by rfl, ?_⟩) (by assumption) ?_
    rotate_left
    · intro w hSw; (try dsimp only at hSw); go_simp; (try with_reducible rfl)
    try simp only [Act.put, List.setIfInBounds_toArray, List.set_cons_zero, List.set_cons_succ]
    refine wpAnyH_step (i := 1) (d := some 11) (v := ?_) rfl rfl (by kernel_rfl) (by kernel_rfl) (by kernel_rfl) (fun _ _ _ h => h) (Or.inl ⟨by rfl, ?_⟩) (by assumption) ?_
    rotate_left
    · intro w hSw; (try dsimp only at hSw); go_simp; (try with_reducible rfl)
    try simp only [Act.put, List.setIfInBounds_toArray, List.set_cons_zero, List.set_cons_succ]
    refine wpAnyH_step (i := 2) (d := some 12) (v := ?_) rfl rfl (by kernel_rfl) (by kernel_rfl) (by kernel_rfl) (fun _ _ _ h => h) (Or.inl ⟨by rfl, ?_⟩) (by assumption) ?_
    rotate_left
    · intro w hSw; (try dsimp only at hSw); go_simp; (try with_reducible rfl)
    try simp only [Act.put, List.setIfInBounds_toArray, List.set_cons_zero, List.set_cons_succ]
    refine wpAnyH_step (i := 3) (d := some 13) (v := ?_) rfl rfl (by kernel_rfl) (by kernel_rfl) (by kernel_rfl) (fun _ _ _ h => h) (Or.inl ⟨by rfl, ?_⟩) (by assumption) ?_
    rotate_left
    · intro w hSw; (try dsimp only at hSw); go_simp; (try with_reducible rfl)
    try simp only [Act.put, List.setIfInBounds_toArray, List.set_cons_zero, List.set_cons_succ]
    refine wpAnyH_step (i := 4) (d := some 14) (v := ?_) rfl rfl (by kernel_rfl) (by kernel_rfl) (by kernel_rfl) (fun _ _ _ h => h) (Or.inl ⟨by rfl, ?_⟩) (by assumption) ?_
    rotate_left
    · intro w hSw; (try dsimp only at hSw); go_simp; (try with_reducible rfl)
    try simp only [Act.put, List.setIfInBounds_toArray, List.set_cons_zero, List.set_cons_succ]
    refine wpAnyH_step (i := 5) (d := some 15) (v := ?_) rfl rfl (by kernel_rfl) (by kernel_rfl) (by kernel_rfl) (fun _ _ _ h => h) (Or.inl ⟨by rfl, ?_⟩) (by assumption) ?_
    rotate_left
    · intro w hSw; (try dsimp only at hSw); go_simp; (try with_reducible rfl)
    try simp only [Act.put, List.setIfInBounds_toArray, List.set_cons_zero, List.set_cons_succ]
    refine wpAnyH_step (i := 6) (d := some 16) (v := ?_) rfl rfl (by kernel_rfl) (by kernel_rfl) (by kernel_rfl) (fun _ _ _ h => h) (Or.inl ⟨by rfl, ?_⟩) (by assumption) ?_
    rotate_left
    · intro w hSw; (try dsimp only at hSw); go_simp; (try with_reducible rfl)
    try simp only [Act.put, List.setIfInBounds_toArray, List.set_cons_zero, List.set_cons_succ]
    refine wpAnyH_step (i := 7) (d := some 17) (v := ?_) rfl rfl (by kernel_rfl) (by kernel_rfl) (by kernel_rfl) (fun _ _ _ h => h) (Or.inl ⟨by rfl, ?_⟩) (by assumption) ?_
    rotate_left
    · intro w hSw; (try dsimp only at hSw); go_simp; (try with_reducible rfl)
    try simp only [Act.put, List.setIfInBounds_toArray, List.set_cons_zero, List.set_cons_succ]
    refine wpAnyH_step (i := 8) (d := some 18) (v := ?_) rfl rfl (by kernel_rfl) (by kernel_rfl) (by kernel_rfl) (fun _ _ _ h => h) (Or.inl ⟨by rfl, ?_⟩) (by assumption) ?_
    rotate_left
    · intro w hSw; (try dsimp only at hSw); go_simp; (try with_reducible rfl)
    try simp only [Act.put, List.setIfInBounds_toArray, List.set_cons_zero, List.set_cons_succ]
    refine wpAnyH_step (i := 9) (d := some 19) (v := ?_) rfl rfl (by kernel_rfl) (by kernel_rfl) (by kernel_rfl) (fun _ _ _ h => h) (Or.inl ⟨by rfl, ?_⟩) (by assumption) ?_
    rotate_left
    · intro w hSw; (try dsimp only at hSw); go_simp; (try with_reducible rfl)
    try simp only [Act.put, List.setIfInBounds_toArray, List.set_cons_zero, List.set_cons_succ]
    refine wpAnyH_ready (rs := [10]) (by kernel_rfl) (by simp) ?_
    refine AllReadyH.cons rfl (fun K hK => ?_) AllReadyH.nil
    go_simp
    refine (HS'.out _ hHeld.2.2.1).mono ?_
    rintro e w2 ⟨rfl, hb2⟩
    (try go_wp2_with fail)
    refine hK.out _ _ ?_ (fun hHeld => ?_)
    · exact KB _ _ hHeld hb2
    clear hK K
    try simp only [Act.put, List.setIfInBounds_toArray, List.set_cons_zero, List.set_cons_succ]
    refine wpAnyH_step (i := 11) (d := some 21) (v := ?_) rfl rfl (by kernel_rfl) (by kernel_rfl) (by kernel_rfl) (fun _ _ _ h => h) (Or.inl ⟨by rfl, ?_⟩) (by assumption) ?_
    rotate_left
    · intro w hSw; (try dsimp only at hSw); go_simp; (try with_reducible rfl)
    try simp only [Act.put, List.setIfInBounds_toArray, List.set_cons_zero, List.set_cons_succ]
    refine wpAnyH_step (i := 12) (d := some 22) (v := ?_) rfl rfl (by kernel_rfl) (by kernel_rfl) (by kernel_rfl) (fun _ _ _ h => h) (Or.inl ⟨by rfl, ?_⟩) (by assumption) ?_
    rotate_left
    · intro w hSw; (try dsimp only at hSw); go_simp; (try with_reducible rfl)
    try simp only [Act.put, List.setIfInBounds_toArray, List.set_cons_zero, List.set_cons_succ]
    refine wpAnyH_ready (rs := [13]) (by kernel_rfl) (by simp) ?_
    refine AllReadyH.cons rfl (fun K hK => ?_) AllReadyH.nil
    obtain ⟨⟨s0, s1, s2⟩, ⟨f0, f1, ⟨u0, q0⟩, ⟨u1, q1⟩⟩, B2, z2⟩ := hHeld
    obtain ⟨z0, z1⟩ := res2 (W := w2) (b := w.heap.size + 1) (.int .i64 x) (.int .i64 y) q0 q1
    go_simp
    (try go_wp2_with fail)
    refine hK.out _ _ ?_ (fun hHeld => ?_)
    · exact ⟨⟨(World.cell?_setCell_other _ _ _ _ (by simp; try omega)).trans ((World.cell?_setCell_other _ _ _ _ (by simp; try omega)).trans s0), (World.cell?_setCell_other _ _ _ _ (by simp; try omega)).trans ((World.cell?_setCell_other _ _ _ _ (by simp; try omega)).trans s1), (World.cell?_setCell_other _ _ _ _ (by simp; try omega)).trans ((World.cell?_setCell_other _ _ _ _ (by simp; try omega)).trans s2)⟩, ⟨by simp [go_sem, f0], by simp [go_sem, f1], ⟨_, z0⟩, ⟨_, z1⟩⟩, (B2.setCell (p := ⟨w.heap.size + 1, 0, none⟩) (by simp) _).setCell (p := ⟨w.heap.size + 1, 1, none⟩) (by simp) _, by simpa using z2⟩
    clear hK K
    try simp only [Act.put, List.setIfInBounds_toArray, List.set_cons_zero, List.set_cons_succ]
    refine wpAnyH_step (i := 14) (d := some 5) (v := ?_) rfl rfl (by kernel_rfl) (by kernel_rfl) (by kernel_rfl) (fun _ _ _ h => h) (Or.inl ⟨by rfl, ?_⟩) (by assumption) ?_
    rotate_left
    · intro w hSw; (try dsimp only at hSw); go_simp; (try with_reducible rfl)
    try simp only [Act.put, List.setIfInBounds_toArray, List.set_cons_zero, List.set_cons_succ]
    refine wpAnyH_done (by kernel_rfl) ?_ _
    go_wp2
    refine bodyPost_ret (v := .tuple #[.agg #[.int .i64 x, .int .i64 y], .bool f]) (by simp [results, Try.results19, go_sem, z0, z1]) rfl ⟨rfl, ?_⟩
    exact (B2.setCell (p := ⟨w.heap.size + 1, 0, none⟩) (by simp) _).setCell (p := ⟨w.heap.size + 1, 1, none⟩) (by simp) _
  · rw [show nextOf G (-1) ((G.n * G.len 0 : Nat) - 1) r c = none by simp [nextOf, not_okB hok]]
    show Fn w 19 _ (.tuple #[.agg #[.int .i64 0, .int .i64 0], .bool false])
    simp only [not_okB hok] at HC
    unfold Fn at *
    have HC' := Lib.hid HC
    clear HC h hok
    unfold Grid.v at *
    go_enter Try.func19, Try.ntmps19
    go_wp2_with fail
    refine (HC'.out _ (bel_alloc (bel_alloc (Below.refl _ _) _) _)).mono ?_
    rintro e w1 ⟨rfl, hb1⟩
    have k2 := hb1.cell (p := ⟨w.heap.size + 1, 0, none⟩) (by simp)
    have k3 := hb1.cell (p := ⟨w.heap.size + 1, 1, none⟩) (by simp)
    have k4 := hb1.frozen (p := ⟨w.heap.size + 1, 0, none⟩) (by simp)
    have k5 := hb1.frozen (p := ⟨w.heap.size + 1, 1, none⟩) (by simp)
    simp [go_sem] at k2 k3 k4 k5
    have BW : Below w.heap.size w w1 := bel_call (bel_alloc (bel_alloc (Below.refl _ _) _) _) hb1
    have e0 : errOf false = 10 := rfl
    obtain ⟨z0, z1⟩ := res2 (W := w1) (b := w.heap.size + 1) (.int .i64 0) (.int .i64 0) k2 k3
    go_wp2
    refine bodyPost_ret (v := .tuple #[.agg #[.int .i64 0, .int .i64 0], .bool false]) (by simp [results, Try.results19, go_sem, z0, z1]) rfl ⟨rfl, ?_⟩
    exact (BW.setCell (p := ⟨w.heap.size + 1, 0, none⟩) (by simp) _).setCell (p := ⟨w.heap.size + 1, 1, none⟩) (by simp) _
end Go.Proofs.Ytooikmialpfdkaa
