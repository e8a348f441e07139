/- The walk of first over the fields, with Tab's conditions. -/
import Derived.Test.YtooikmialpfdkaaFE
import Derived.Test.YtooikmialpfdkaaFD
namespace Go.Proofs.Ytooikmialpfdkaa
open Go.RowKit Go.Shelf
set_option linter.unusedVariables false
set_option linter.unusedSimpArgs false
set_option maxRecDepth 100000
attribute [local go_sem] Oper.semAt_some
abbrev fdV (f : Fd) : Value := .agg #[.int .i64 (f.1 : Int), .int .i64 (f.2.1 : Int), .int .i64 (f.2.2 : Int)]
def foundF (o : Option Fd) : Value := match o with
  | some f => .tuple #[fdV f, .bool true]
  | none => .tuple #[.agg #[.int .i64 0, .int .i64 0, .int .i64 0], .bool false]
theorem begin_fd (x y z : Int) (w : World) : Fn w 30 #[.agg #[.int .i64 x, .int .i64 y, .int .i64 z]] (posV x y) := by
  unfold Fn posV
  go_enter Try.func30, Try.ntmps30
  go_wp2
  refine bodyPost_ret (v := .agg #[.int .i64 x, .int .i64 y]) (by simp [results, Try.results30, go_sem]) rfl ⟨rfl, ?_⟩
  repeat (first | exact Below.refl _ _ | refine bel_alloc ?_ _ | refine bel_set ?_ (by simp) _)
theorem true_fd (v : Value) (x y z : Int) (hv : v = .agg #[.int .i64 x, .int .i64 y, .int .i64 z]) (w : World) : Fn w 33 #[v] (.bool true) := by
  subst hv
  unfold Fn
  go_enter Try.func33, Try.ntmps33
  go_wp2_with fail
  go_ret
  exact ⟨rfl, by repeat (first | exact Below.refl _ _ | refine bel_alloc ?_ _)⟩
set_option maxHeartbeats 4000000 in
theorem behind_fd (G : Grid) (x y z at' : Int) (b2 b7 b6 : Nat) (w : World) (h : G.In w.heap.size w) (hok : G.Ok) (c2 : w.cell? ⟨b2, 0, none⟩ = some G.v) (c7 : w.cell? ⟨b7, 0, none⟩ = some (.func (.func 30) #[] #[])) (c6 : w.cell? ⟨b6, 0, none⟩ = some (.int .i64 at')) :
    Fn w 32 #[.agg #[.int .i64 x, .int .i64 y, .int .i64 z], .pointer (some ⟨b2, 0, none⟩), .pointer (some ⟨b7, 0, none⟩), .pointer (some ⟨b6, 0, none⟩)] (.bool (decide (at' < G.num x y 0))) := by
  have l2 := World.block_lt_of_cell? w ⟨b2, 0, none⟩ c2
  have l7 := World.block_lt_of_cell? w ⟨b7, 0, none⟩ c7
  have l6 := World.block_lt_of_cell? w ⟨b6, 0, none⟩ c6
  simp only at l2 l7 l6
  have HN : ∀ W, Below w.heap.size w W → Fn W 27 #[G.v, posV x y, .int .i64 0] (.int .i64 (G.num x y 0)) := fun W hW => number_any G x y 0 W (h.later hW hW.size) hok
  have HB := fun W => begin_fd x y z W
  unfold Fn posV at *
  unfold Grid.v at *
  generalize G.num x y 0 = nn at *
  have HN' := Lib.hid HN
  have HB' := Lib.hid HB
  clear HN HB h hok
  go_enter Try.func32, Try.ntmps32
  go_wp2_with fail
  have KB : ∀ W : World, Below (w.heap.size + 1) (w.alloc (.cells #[.int .i64 x, .int .i64 y, .int .i64 z] 39)) W → (W.cell? ⟨w.heap.size, 0, none⟩ = some (.int .i64 x) ∧ W.cell? ⟨w.heap.size, 1, none⟩ = some (.int .i64 y) ∧ W.cell? ⟨w.heap.size, 2, none⟩ = some (.int .i64 z) ∧ W.cell? ⟨b2, 0, none⟩ = some (.slice G.a G.n G.cap) ∧ W.cell? ⟨b7, 0, none⟩ = some (.func (.func 30) #[] #[]) ∧ W.cell? ⟨b6, 0, none⟩ = some (.int .i64 at')) ∧ Below (w.heap.size + 1) (w.alloc (.cells #[.int .i64 x, .int .i64 y, .int .i64 z] 39)) W := fun W hW =>
    ⟨⟨(hW.cell (p := ⟨w.heap.size, 0, none⟩) (by simp)).trans (by simp [go_sem]), (hW.cell (p := ⟨w.heap.size, 1, none⟩) (by simp)).trans (by simp [go_sem]), (hW.cell (p := ⟨w.heap.size, 2, none⟩) (by simp)).trans (by simp [go_sem]),
      (hW.cell (p := ⟨b2, 0, none⟩) (by simp; omega)).trans ((World.cell?_alloc_lt _ _ _ l2).trans c2), (hW.cell (p := ⟨b7, 0, none⟩) (by simp; omega)).trans ((World.cell?_alloc_lt _ _ _ l7).trans c7), (hW.cell (p := ⟨b6, 0, none⟩) (by simp; omega)).trans ((World.cell?_alloc_lt _ _ _ l6).trans c6)⟩, hW⟩
  have hBW : Below w.heap.size w (w.alloc (.cells #[.int .i64 x, .int .i64 y, .int .i64 z] 39)) := bel_alloc (Below.refl _ _) _
  clear c2 c7 c6
  refine wp_region_held_drew (S := fun W => (W.cell? ⟨w.heap.size, 0, none⟩ = some (.int .i64 x) ∧ W.cell? ⟨w.heap.size, 1, none⟩ = some (.int .i64 y) ∧ W.cell? ⟨w.heap.size, 2, none⟩ = some (.int .i64 z) ∧ W.cell? ⟨b2, 0, none⟩ = some (.slice G.a G.n G.cap) ∧ W.cell? ⟨b7, 0, none⟩ = some (.func (.func 30) #[] #[]) ∧ W.cell? ⟨b6, 0, none⟩ = some (.int .i64 at')) ∧ Below (w.heap.size + 1) (w.alloc (.cells #[.int .i64 x, .int .i64 y, .int .i64 z] 39)) W) (by kernel_rfl) (KB _ (Below.refl _ _).drew) (fun hHeld => ?_)
  refine wpAnyH_step (i := 0) (d := some 6) (v := ?_) rfl rfl (by kernel_rfl) (by kernel_rfl) (by kernel_rfl) (fun _ _ _ h => h) (Or.inl ⟨by rfl, ?_⟩) (by assumption) ?_
  rotate_left
  · intro w hSw; (try dsimp only at hSw); go_simp; (try with_reducible rfl)
  try simp only [Act.put, List.setIfInBounds_toArray, List.set_cons_zero, List.set_cons_succ]
  refine wpAnyH_step (i := 1) (d := some 7) (v := ?_) rfl rfl (by kernel_rfl) (by kernel_rfl) (by kernel_rfl) (fun _ _ _ h => h) (Or.inl ⟨by rfl, ?_⟩) (by assumption) ?_
  rotate_left
  · intro w hSw; (try dsimp only at hSw); go_simp; (try with_reducible rfl)
  try simp only [Act.put, List.setIfInBounds_toArray, List.set_cons_zero, List.set_cons_succ]
  refine wpAnyH_step (i := 2) (d := some 8) (v := ?_) rfl rfl (by kernel_rfl) (by kernel_rfl) (by kernel_rfl) (fun _ _ _ h => h) (Or.inl ⟨by rfl, ?_⟩) (by assumption) ?_
  rotate_left
  · intro w hSw; (try dsimp only at hSw); go_simp; (try with_reducible rfl)
  try simp only [Act.put, List.setIfInBounds_toArray, List.set_cons_zero, List.set_cons_succ]
  refine wpAnyH_step (i := 5) (d := some 11) (v := ?_) rfl rfl (by kernel_rfl) (by kernel_rfl) (by kernel_rfl) (fun _ _ _ h => h) (Or.inl ⟨by rfl, ?_⟩) (by assumption) ?_
  rotate_left
  · intro w hSw; (try dsimp only at hSw); go_simp; (try with_reducible rfl)
  try simp only [Act.put, List.setIfInBounds_toArray, List.set_cons_zero, List.set_cons_succ]
  refine wpAnyH_ready (rs := [3]) (by kernel_rfl) (by simp) ?_
  refine AllReadyH.cons rfl (fun K hK => ?_) AllReadyH.nil
  go_simp
  refine (HB'.out _).mono ?_
  rintro e w2 ⟨rfl, hb2⟩
  (try go_wp2_with fail)
  refine hK.out _ _ ?_ (fun hHeld => ?_)
  · exact KB _ (hHeld.2.trans (hb2.mono (by have := hHeld.2.size; rw [World.size_alloc] at this; omega)))
  clear hK K
  try simp only [Act.put, List.setIfInBounds_toArray, List.set_cons_zero, List.set_cons_succ]
  refine wpAnyH_ready (rs := [4]) (by kernel_rfl) (by simp) ?_
  refine AllReadyH.cons rfl (fun K hK => ?_) AllReadyH.nil
  go_simp
  refine (HN'.out _ (hBW.trans (hHeld.2.mono (by omega)))).mono ?_
  rintro e w2 ⟨rfl, hb2⟩
  (try go_wp2_with fail)
  refine hK.out _ _ ?_ (fun hHeld => ?_)
  · exact KB _ (hHeld.2.trans (hb2.mono (by have := hHeld.2.size; rw [World.size_alloc] at this; omega)))
  clear hK K
  try simp only [Act.put, List.setIfInBounds_toArray, List.set_cons_zero, List.set_cons_succ]
  refine wpAnyH_step (i := 6) (d := some 12) (v := ?_) rfl rfl (by kernel_rfl) (by kernel_rfl) (by kernel_rfl) (fun _ _ _ h => h) (Or.inl ⟨by rfl, ?_⟩) (by assumption) ?_
  rotate_left
  · intro w hSw; (try dsimp only at hSw); go_simp; (try with_reducible rfl)
  try simp only [Act.put, List.setIfInBounds_toArray, List.set_cons_zero, List.set_cons_succ]
  refine wpAnyH_step (i := 7) (d := some 5) (v := ?_) rfl rfl (by kernel_rfl) (by kernel_rfl) (by kernel_rfl) (fun _ _ _ h => h) (Or.inl ⟨by rfl, ?_⟩) (by assumption) ?_
  rotate_left
  · intro w hSw; (try dsimp only at hSw); go_simp; (try with_reducible rfl)
  try simp only [Act.put, List.setIfInBounds_toArray, List.set_cons_zero, List.set_cons_succ]
  refine wpAnyH_done (by kernel_rfl) ?_ _
  have B2 := hBW.trans (hHeld.2.mono (by omega))
  go_wp2_with fail
  go_ret
  exact ⟨rfl, B2⟩
theorem res4 {W : World} {b c : Nat} (hne : b ≠ c) {u0 u1 u2 u3 : Value} (v0 v1 v2 v3 : Value) (e0 : W.cell? ⟨b, 0, none⟩ = some u0) (e1 : W.cell? ⟨b, 1, none⟩ = some u1) (e2 : W.cell? ⟨b, 2, none⟩ = some u2) (e3 : W.cell? ⟨c, 0, none⟩ = some u3) :
    ((((W.setCell ⟨b, 0, none⟩ v0).setCell ⟨b, 1, none⟩ v1).setCell ⟨b, 2, none⟩ v2).setCell ⟨c, 0, none⟩ v3).cell? ⟨b, 0, none⟩ = some v0 ∧
    ((((W.setCell ⟨b, 0, none⟩ v0).setCell ⟨b, 1, none⟩ v1).setCell ⟨b, 2, none⟩ v2).setCell ⟨c, 0, none⟩ v3).cell? ⟨b, 1, none⟩ = some v1 ∧
    ((((W.setCell ⟨b, 0, none⟩ v0).setCell ⟨b, 1, none⟩ v1).setCell ⟨b, 2, none⟩ v2).setCell ⟨c, 0, none⟩ v3).cell? ⟨b, 2, none⟩ = some v2 ∧
    ((((W.setCell ⟨b, 0, none⟩ v0).setCell ⟨b, 1, none⟩ v1).setCell ⟨b, 2, none⟩ v2).setCell ⟨c, 0, none⟩ v3).cell? ⟨c, 0, none⟩ = some v3 := by
  have o1 : ∀ (X : World) (p q : Addr) (v : Value), p ≠ q → (X.setCell p v).cell? q = X.cell? q := fun X p q v h => World.cell?_setCell_other _ _ _ _ h
  have s1 : ∀ (X : World) (p : Addr) (v u : Value), X.cell? p = some u → (X.setCell p v).cell? p = some v := fun X p v u h => World.cell?_setCell_same' _ _ _ (by rw [h]; rfl)
  have n : ∀ i j : Nat, i ≠ j → (⟨b, i, none⟩ : Addr) ≠ ⟨b, j, none⟩ := fun i j h e => h (by cases e; rfl)
  have m : ∀ i : Nat, (⟨c, 0, none⟩ : Addr) ≠ ⟨b, i, none⟩ := fun i e => hne (by cases e; rfl)
  have m' : ∀ i : Nat, (⟨b, i, none⟩ : Addr) ≠ ⟨c, 0, none⟩ := fun i e => hne (by cases e; rfl)
  refine ⟨?_, ?_, ?_, ?_⟩
  · rw [o1 _ _ _ _ (m 0), o1 _ _ _ _ (n 2 0 (by decide)), o1 _ _ _ _ (n 1 0 (by decide))]; exact s1 _ _ _ _ e0
  · rw [o1 _ _ _ _ (m 1), o1 _ _ _ _ (n 2 1 (by decide))]; exact s1 _ _ _ u1 (by rw [o1 _ _ _ _ (n 0 1 (by decide))]; exact e1)
  · rw [o1 _ _ _ _ (m 2)]; exact s1 _ _ _ u2 (by rw [o1 _ _ _ _ (n 1 2 (by decide)), o1 _ _ _ _ (n 0 2 (by decide))]; exact e2)
  · exact s1 _ _ _ u3 (by rw [o1 _ _ _ _ (m' 2), o1 _ _ _ _ (m' 1), o1 _ _ _ _ (m' 0)]; exact e3)
theorem findF_none {P : Fd → Bool} {l : List Fd} (h : ∀ p ∈ l, P p = false) : l.find? P = none := by
  rw [List.find?_eq_none]; intro p hp; simp [h p hp]
theorem findF_some {P : Fd → Bool} {l t : List Fd} {x : Fd} (h : ∀ p ∈ l, P p = false) (hx : P x = true) : (l ++ [x] ++ t).find? P = some x := by
  rw [List.append_assoc, List.find?_append, findF_none h]
  simp [hx]
set_option maxHeartbeats 4000000 in
theorem first_fd32 (G : Grid) (w : World) (P : Fd → Bool) (Bx : Nat) (b2 b7 b6 : Nat) (cx : w.cell? ⟨Bx, 0, none⟩ = some G.v) (hG : G.In w.heap.size w) (lx : Bx < w.heap.size)
    (HI : ∀ W, Below w.heap.size w W → ∀ f : Fd, Calls Try.prog 32 (#[fdV f] ++ #[.pointer (some ⟨b2, 0, none⟩), .pointer (some ⟨b7, 0, none⟩), .pointer (some ⟨b6, 0, none⟩)]) W fun e w' => e = .returned (.bool (P f)) ∧ Below W.heap.size W w') :
    Calls Try.prog 31 #[.func (.func 34) #[] #[.pointer (some ⟨Bx, 0, none⟩)], Value.func (Fn.func 32) #[] #[.pointer (some ⟨b2, 0, none⟩), .pointer (some ⟨b7, 0, none⟩), .pointer (some ⟨b6, 0, none⟩)]] w fun e w' => e = .returned (foundF ((fieldsOf G).find? P)) ∧ Below w.heap.size w w' := by
  refine (callsIn_wide (n := 3)).1 (callsIn_of_wp_marks Try.func31 rfl trivial ?_ rfl)
  simp only [Try.ntmps31, List.size_toArray, List.length_cons, List.length_nil, Nat.reduceAdd, Nat.reduceSub, Array.replicate_succ, Array.replicate_zero, List.push_toArray, List.append_toArray, List.nil_append, List.cons_append]
  simp only [List.append_toArray, List.cons_append, List.nil_append] at HI
  have HI' := Lib.hid HI
  have Hcx := Lib.hid cx
  clear cx HI
  gi_wp2
  obtain ⟨w2, hw2⟩ : ∃ w2, (((w.alloc (.cells #[Value.func (Fn.func 32) #[] #[.pointer (some ⟨b2, 0, none⟩), .pointer (some ⟨b7, 0, none⟩), .pointer (some ⟨b6, 0, none⟩)]] 58)).alloc (.cells #[.int .i64 0, .int .i64 0, .int .i64 0] 39)).alloc (.cells #[.bool false] 4)) = w2 := ⟨_, rfl⟩
  have hB : Below w.heap.size w w2 := by rw [← hw2]; exact bel_alloc (bel_alloc (bel_alloc (Below.refl _ _) _) _) _
  have hsz : w2.heap.size = w.heap.size + 3 := by rw [← hw2]; simp
  have r3 : w2.cell? ⟨w.heap.size, 0, none⟩ = some (Value.func (Fn.func 32) #[] #[.pointer (some ⟨b2, 0, none⟩), .pointer (some ⟨b7, 0, none⟩), .pointer (some ⟨b6, 0, none⟩)]) := by rw [← hw2]; simp [go_sem]
  have r4 : (w2.cell? ⟨w.heap.size + 1, 0, none⟩ = some (.int .i64 0) ∧ w2.cell? ⟨w.heap.size + 1, 1, none⟩ = some (.int .i64 0) ∧ w2.cell? ⟨w.heap.size + 1, 2, none⟩ = some (.int .i64 0)) ∧ w2.frozen? ⟨w.heap.size + 1, 0, none⟩ = false ∧ w2.frozen? ⟨w.heap.size + 1, 1, none⟩ = false ∧ w2.frozen? ⟨w.heap.size + 1, 2, none⟩ = false := by rw [← hw2]; simp [go_sem]
  have r5 : w2.cell? ⟨w.heap.size + 1 + 1, 0, none⟩ = some (.bool false) ∧ w2.frozen? ⟨w.heap.size + 1 + 1, 0, none⟩ = false := by rw [← hw2]; simp [go_sem]
  rw [hw2]
  have c2x := (hB.cell (p := ⟨Bx, 0, none⟩) lx).trans Hcx.out
  have G2 : G.In w.heap.size w2 := hG.later hB (Nat.le_refl _)
  clear hw2
  have HcX := Lib.hid c2x
  have HR3 := Lib.hid r3
  have HR4 := Lib.hid r4
  have HR5 := Lib.hid r5
  clear c2x r3 r4 r5
  have hN : w2.heap.size ≤ w2.heap.size := Nat.le_refl _
  have hNw : w.heap.size ≤ w2.heap.size := by omega
  refine range_law (n := 2) (m := 1) (gf := 34) (lb := #[.pointer (some ⟨Bx, 0, none⟩)]) rfl (enters_of Try.func34 (by kernel_rfl) rfl) (encs := encF) (fun _ => rfl)
    (S := fun ys => ys = fieldsOf G) (Sp := fun pre => ∃ t, fieldsOf G = pre ++ t) (V := fun _ => True) (N := (fieldsOf G).length) (Kp := fun _ _ => True) (fun _ _ => trivial) (fun _ _ _ _ _ _ _ _ => trivial)
    (fun pre W => (∀ p ∈ pre, P p = false) ∧ Below w2.heap.size w2 W)
    (fun c pre W => (c = .ret ∧ ∃ pre' x, pre = pre' ++ [x] ∧ (∀ p ∈ pre', P p = false) ∧ P x = true ∧
      W.cell? ⟨w.heap.size + 1, 0, none⟩ = some (.int .i64 (x.1 : Int)) ∧ W.cell? ⟨w.heap.size + 1, 1, none⟩ = some (.int .i64 (x.2.1 : Int)) ∧ W.cell? ⟨w.heap.size + 1, 2, none⟩ = some (.int .i64 (x.2.2 : Int)) ∧ W.cell? ⟨w.heap.size + 1 + 1, 0, none⟩ = some (.bool true)) ∧ Below w.heap.size w2 W)
    ?hI ?hIx ⟨by simp, Below.refl _ _⟩
    (fun x a' W => ∃ b, w2.heap.size ≤ b ∧ W.cell? ⟨b, 0, none⟩ = some (.int .i64 (x.1 : Int)) ∧ W.cell? ⟨b, 1, none⟩ = some (.int .i64 (x.2.1 : Int)) ∧ W.cell? ⟨b, 2, none⟩ = some (.int .i64 (x.2.2 : Int)) ∧
      a' = { tmps := #[.func (.func 34) #[] #[.pointer (some ⟨Bx, 0, none⟩)], Value.func (Fn.func 32) #[] #[.pointer (some ⟨b2, 0, none⟩), .pointer (some ⟨b7, 0, none⟩), .pointer (some ⟨b6, 0, none⟩)], undef,
        .pointer (some ⟨w.heap.size, 0, none⟩), .pointer (some ⟨w.heap.size + 1, 0, none⟩), .pointer (some ⟨w.heap.size + 1 + 1, 0, none⟩), .pointer (some ⟨b, 0, none⟩), undef,
        .func (.func 34) #[] #[.pointer (some ⟨Bx, 0, none⟩)], .agg #[.int .i64 (x.1 : Int), .int .i64 (x.2.1 : Int), .int .i64 (x.2.2 : Int)], undef, undef, undef, undef, undef], defers := [] })
    ?hAx ?hit ?assign ?body ?done ?stop
  case hI => exact fun s W W' row h hg hr => ⟨h.1, ownFrom_below (β := Unit) (B := w2.heap.size) (w₀ := w2) (by omega) (by omega) () W W' row h.2 hg hr⟩
  case hIx =>
    rintro c pre W W' row ⟨⟨rfl, pre', x, hp, ho, hx, k0, k1, k2, k3⟩, hb⟩ hg hr
    exact ⟨⟨rfl, pre', x, hp, ho, hx, cell_kept k0 hg (fun r e => (hr r e).2), cell_kept k1 hg (fun r e => (hr r e).2), cell_kept k2 hg (fun r e => (hr r e).2), cell_kept k3 hg (fun r e => (hr r e).2)⟩, ownFrom_below (β := Unit) (B := w2.heap.size) (w₀ := w2) (by omega) (by omega) () W W' row hb hg hr⟩
  case hAx =>
    rintro x a' _ W W' row ⟨b, hb, k0, k1, k2, e⟩ hg hr
    exact ⟨b, hb, cell_kept k0 hg (fun r e => (hr r e).2), cell_kept k1 hg (fun r e => (hr r e).2), cell_kept k2 hg (fun r e => (hr r e).2), e⟩
  case hit =>
    rintro W0 ⟨o, o', _, _, rfl⟩ hI0
    refine all_iter G 2 (by decide) Bx w2.heap.size _ _ ?_ ?_ ?_ _
    · rintro pre W ⟨_, hW⟩
      exact ⟨(hW.cell (p := ⟨Bx, 0, none⟩) (by simp; omega)).trans HcX.out, G2.later (hW.mono hNw) (by have := hW.size; omega)⟩
    · rintro pre W ⟨h, hW⟩
      exact ⟨h, hW.drew⟩
    · rintro pre W W' ⟨h, hW⟩ hb
      exact ⟨h, hW.trans (hb.mono hW.size)⟩
  case assign =>
    rintro l pre x W K ⟨hp, hW⟩ hK
    simp only [encF]
    gi_wp2
    have hBW : Below W.heap.size W (W.alloc (.cells #[.int .i64 (x.1 : Int), .int .i64 (x.2.1 : Int), .int .i64 (x.2.2 : Int)] 39)) := bel_alloc (Below.refl _ _) _
    have hs := hW.size
    refine hK _ _ ((KeepsOthers.alloc _ _).from _) trivial ⟨hp, hW.trans (hBW.mono hs)⟩ ⟨W.heap.size, hs, by simp [go_sem], by simp [go_sem], by simp [go_sem], rfl⟩
  case body =>
    rintro l pre x a' W ⟨hp, hW⟩ ⟨b, hb, k0, k1, k2, rfl⟩ hlen _
    have hs := hW.size
    have hf : w.heap.size < w2.heap.size := by omega
    have c3 := (hW.cell (p := ⟨w.heap.size, 0, none⟩) (by simp; omega)).trans HR3.out
    have HC := HI'.out W (hB.trans (hW.mono hNw)) x
    have d0 := (hW.frozen (p := ⟨w.heap.size + 1, 0, none⟩) (by simp; omega)).trans HR4.out.2.1
    have d1 := (hW.frozen (p := ⟨w.heap.size + 1, 1, none⟩) (by simp; omega)).trans HR4.out.2.2.1
    have d2 := (hW.frozen (p := ⟨w.heap.size + 1, 2, none⟩) (by simp; omega)).trans HR4.out.2.2.2
    have d3 := (hW.frozen (p := ⟨w.heap.size + 1 + 1, 0, none⟩) (by simp; omega)).trans HR5.out.2
    have e0 := (hW.cell (p := ⟨w.heap.size + 1, 0, none⟩) (by simp; omega)).trans HR4.out.1.1
    have e1 := (hW.cell (p := ⟨w.heap.size + 1, 1, none⟩) (by simp; omega)).trans HR4.out.1.2.1
    have e2 := (hW.cell (p := ⟨w.heap.size + 1, 2, none⟩) (by simp; omega)).trans HR4.out.1.2.2
    have e3 := (hW.cell (p := ⟨w.heap.size + 1 + 1, 0, none⟩) (by simp; omega)).trans HR5.out.1
    have hW' := Lib.hid hW
    have Hp := Lib.hid hp
    clear hW hp
    generalize hr : P x = r at *
    have Hr := Lib.hid hr
    clear hr
    have hbW := World.block_lt_of_cell? W ⟨b, 0, none⟩ k0
    simp only at hbW
    have hf1 : w.heap.size + 1 < W.heap.size := by omega
    have hf2 : w.heap.size + 1 + 1 < W.heap.size := by omega
    have F1 := Lib.hid hf1
    have F2 := Lib.hid hf2
    have FB := Lib.hid hbW
    have HC1 := Lib.hid HC
    clear hf1 hf2 hbW HC
    cases r
    · gi_wp2_with (refine ⟨trivial, ?_⟩; gi_at_call 32; refine (CallsIn.inRound l (callsIn_wide.2 HC1.out)).mono ?_; rintro e W' ⟨rfl, hb'⟩)
      exact ⟨keepsB hb', trivial, fun p hp => (List.mem_append.1 hp).elim (Hp.out p) (fun e => by simp at e; rw [e]; exact Hr.out), hW'.out.trans (hb'.mono hs)⟩
    · gi_wp2_with (refine ⟨trivial, ?_⟩; gi_at_call 32; refine (CallsIn.inRound l (callsIn_wide.2 HC1.out)).mono ?_; rintro e W' ⟨rfl, hb'⟩; have k0' := (hb'.cell (p := ⟨b, 0, none⟩) FB.out).trans k0; have k1' := (hb'.cell (p := ⟨b, 1, none⟩) FB.out).trans k1; have k2' := (hb'.cell (p := ⟨b, 2, none⟩) FB.out).trans k2; have d0' := (hb'.frozen (p := ⟨w.heap.size + 1, 0, none⟩) F1.out).trans d0; have d1' := (hb'.frozen (p := ⟨w.heap.size + 1, 1, none⟩) F1.out).trans d1; have d2' := (hb'.frozen (p := ⟨w.heap.size + 1, 2, none⟩) F1.out).trans d2; have d3' := (hb'.frozen (p := ⟨w.heap.size + 1 + 1, 0, none⟩) F2.out).trans d3; have e0' := (hb'.cell (p := ⟨w.heap.size + 1, 0, none⟩) F1.out).trans e0; have e1' := (hb'.cell (p := ⟨w.heap.size + 1, 1, none⟩) F1.out).trans e1; have e2' := (hb'.cell (p := ⟨w.heap.size + 1, 2, none⟩) F1.out).trans e2; have e3' := (hb'.cell (p := ⟨w.heap.size + 1 + 1, 0, none⟩) F2.out).trans e3)
      obtain ⟨z0, z1, z2, z3⟩ := res4 (W := W') (b := w.heap.size + 1) (c := w.heap.size + 1 + 1) (by omega) (.int .i64 (x.1 : Int)) (.int .i64 (x.2.1 : Int)) (.int .i64 (x.2.2 : Int)) (.bool true) e0' e1' e2' e3'
      refine ⟨(keepsB hb').trans (((((KeepsOthers.setCell _ _ _).trans (KeepsOthers.setCell _ _ _)).trans (KeepsOthers.setCell _ _ _)).trans (KeepsOthers.setCell _ _ _)).from _), ⟨rfl, pre, x, rfl, Hp.out, Hr.out, z0, z1, z2, z3⟩, ?_⟩
      have b1 : Below w.heap.size w2 W' := (hW'.out.mono hNw).trans (hb'.mono (by omega))
      exact (((b1.setCell (p := ⟨w.heap.size + 1, 0, none⟩) (by simp) _).setCell (p := ⟨w.heap.size + 1, 1, none⟩) (by simp) _).setCell (p := ⟨w.heap.size + 1, 2, none⟩) (by simp) _).setCell (p := ⟨w.heap.size + 1 + 1, 0, none⟩) (by simp; omega) _
  case done =>
    rintro D ys W hD rfl ⟨hp, hW⟩ hK
    have hs := hW.size
    have hf1 : w.heap.size + 1 < W.heap.size := by omega
    have hf2 : w.heap.size + 1 + 1 < W.heap.size := by omega
    have d0 := (hW.frozen (p := ⟨w.heap.size + 1, 0, none⟩) (by simp; omega)).trans HR4.out.2.1
    have d1 := (hW.frozen (p := ⟨w.heap.size + 1, 1, none⟩) (by simp; omega)).trans HR4.out.2.2.1
    have d2 := (hW.frozen (p := ⟨w.heap.size + 1, 2, none⟩) (by simp; omega)).trans HR4.out.2.2.2
    have d3 := (hW.frozen (p := ⟨w.heap.size + 1 + 1, 0, none⟩) (by simp; omega)).trans HR5.out.2
    have e0 := (hW.cell (p := ⟨w.heap.size + 1, 0, none⟩) (by simp; omega)).trans HR4.out.1.1
    have e1 := (hW.cell (p := ⟨w.heap.size + 1, 1, none⟩) (by simp; omega)).trans HR4.out.1.2.1
    have e2 := (hW.cell (p := ⟨w.heap.size + 1, 2, none⟩) (by simp; omega)).trans HR4.out.1.2.2
    have e3 := (hW.cell (p := ⟨w.heap.size + 1 + 1, 0, none⟩) (by simp; omega)).trans HR5.out.1
    have hW' := Lib.hid hW
    have Hp := Lib.hid hp
    have HK := Lib.hid hK
    have F1 := Lib.hid hf1
    have F2 := Lib.hid hf2
    clear hW hp hK
    gi_wp2
    obtain ⟨z0, z1, z2, z3⟩ := res4 (W := W) (b := w.heap.size + 1) (c := w.heap.size + 1 + 1) (by omega) (.int .i64 0) (.int .i64 0) (.int .i64 0) (.bool false) e0 e1 e2 e3
    obtain ⟨W3, hW3⟩ : ∃ W3, ((((W.setCell ⟨w.heap.size + 1, 0, none⟩ (.int .i64 0)).setCell ⟨w.heap.size + 1, 1, none⟩ (.int .i64 0)).setCell ⟨w.heap.size + 1, 2, none⟩ (.int .i64 0)).setCell ⟨w.heap.size + 1 + 1, 0, none⟩ (.bool false)) = W3 := ⟨_, rfl⟩
    have hKO : KeepsOthers W W3 := by rw [← hW3]; exact (((KeepsOthers.setCell _ _ _).trans (KeepsOthers.setCell _ _ _)).trans (KeepsOthers.setCell _ _ _)).trans (KeepsOthers.setCell _ _ _)
    have hBe : Below w.heap.size w W3 := by
      rw [← hW3]
      exact ((((hB.trans (hW'.out.mono hNw)).setCell (p := ⟨w.heap.size + 1, 0, none⟩) (by simp) _).setCell (p := ⟨w.heap.size + 1, 1, none⟩) (by simp) _).setCell (p := ⟨w.heap.size + 1, 2, none⟩) (by simp) _).setCell (p := ⟨w.heap.size + 1 + 1, 0, none⟩) (by simp; omega) _
    have hsz3 : W3.heap.size = W.heap.size := by rw [← hW3]; simp [World.setCell]
    rw [hW3] at z0 z1 z2 z3
    rw [hW3]
    clear hW3
    have f1 := F1.out
    have f2 := F2.out
    have hK4 : (W3.alloc (.cells #[.int .i64 0, .int .i64 0, .int .i64 0] 39)).heap[D]? = some (.deferred (some [])) := (hKO.trans (KeepsOthers.alloc _ _)).same D _ HK.out rfl
    have y0 := cell_kept ((World.cell?_alloc_past (w := W3) (.cells #[.int .i64 0, .int .i64 0, .int .i64 0] 39) _ _ (by omega)).trans z0) (grownBy_putObj' _ D (.deferred none)) (fun r e => by cases e; exact ⟨_, hK4, rfl⟩)
    have y1 := cell_kept ((World.cell?_alloc_past (w := W3) (.cells #[.int .i64 0, .int .i64 0, .int .i64 0] 39) _ _ (by omega)).trans z1) (grownBy_putObj' _ D (.deferred none)) (fun r e => by cases e; exact ⟨_, hK4, rfl⟩)
    have y2 := cell_kept ((World.cell?_alloc_past (w := W3) (.cells #[.int .i64 0, .int .i64 0, .int .i64 0] 39) _ _ (by omega)).trans z2) (grownBy_putObj' _ D (.deferred none)) (fun r e => by cases e; exact ⟨_, hK4, rfl⟩)
    have y3 := cell_kept ((World.cell?_alloc_past (w := W3) (.cells #[.int .i64 0, .int .i64 0, .int .i64 0] 39) _ _ (by omega)).trans z3) (grownBy_putObj' _ D (.deferred none)) (fun r e => by cases e; exact ⟨_, hK4, rfl⟩)
    refine ⟨by simp, .inl ⟨_, _, rfl, run_takeDeferred hK4, ?_⟩⟩
    refine ⟨.tuple #[.agg #[.int .i64 0, .int .i64 0, .int .i64 0], .bool false], ?_, ?_, ?_⟩
    · simp [results, Try.results31, go_sem, y0, y1, y2, y3]
    · rw [findF_none Hp.out]; rfl
    · exact (hBe.alloc (by omega) _).trans (belowK_b (w := w2) (by omega) _ D _ _ (by omega) hK4 rfl rfl)
  case stop =>
    rintro D c pre W hD ⟨t, ht⟩ ⟨⟨rfl, pre', x, he, ho, hx, k0, k1, k2, k3⟩, hb⟩ hK
    gi_wp2
    refine ⟨by simp, .inl ⟨_, _, rfl, run_takeDeferred hK, ?_⟩⟩
    have z0 := cell_kept k0 (grownBy_putObj' _ D (.deferred none)) (fun r e => by cases e; exact ⟨_, hK, rfl⟩)
    have z1 := cell_kept k1 (grownBy_putObj' _ D (.deferred none)) (fun r e => by cases e; exact ⟨_, hK, rfl⟩)
    have z2 := cell_kept k2 (grownBy_putObj' _ D (.deferred none)) (fun r e => by cases e; exact ⟨_, hK, rfl⟩)
    have z3 := cell_kept k3 (grownBy_putObj' _ D (.deferred none)) (fun r e => by cases e; exact ⟨_, hK, rfl⟩)
    refine ⟨.tuple #[fdV x, .bool true], ?_, ?_, ?_⟩
    · simp [results, Try.results31, go_sem, z0, z1, z2, z3]
    · rw [ht, he, findF_some ho hx]; rfl
    · exact (hB.trans hb).trans (belowK_b (w := w2) (by omega) W D _ _ (by omega) hK rfl rfl)
set_option maxHeartbeats 4000000 in
theorem first_fd33 (G : Grid) (w : World) (P : Fd → Bool) (Bx : Nat) (cx : w.cell? ⟨Bx, 0, none⟩ = some G.v) (hG : G.In w.heap.size w) (lx : Bx < w.heap.size)
    (HI : ∀ W, Below w.heap.size w W → ∀ f : Fd, Calls Try.prog 33 (#[fdV f] ++ #[]) W fun e w' => e = .returned (.bool (P f)) ∧ Below W.heap.size W w') :
    Calls Try.prog 31 #[.func (.func 34) #[] #[.pointer (some ⟨Bx, 0, none⟩)], Value.func (Fn.func 33) #[] #[]] w fun e w' => e = .returned (foundF ((fieldsOf G).find? P)) ∧ Below w.heap.size w w' := by
  refine (callsIn_wide (n := 3)).1 (callsIn_of_wp_marks Try.func31 rfl trivial ?_ rfl)
  simp only [Try.ntmps31, List.size_toArray, List.length_cons, List.length_nil, Nat.reduceAdd, Nat.reduceSub, Array.replicate_succ, Array.replicate_zero, List.push_toArray, List.append_toArray, List.nil_append, List.cons_append]
  simp only [List.append_toArray, List.cons_append, List.nil_append] at HI
  have HI' := Lib.hid HI
  have Hcx := Lib.hid cx
  clear cx HI
  gi_wp2
  obtain ⟨w2, hw2⟩ : ∃ w2, (((w.alloc (.cells #[Value.func (Fn.func 33) #[] #[]] 58)).alloc (.cells #[.int .i64 0, .int .i64 0, .int .i64 0] 39)).alloc (.cells #[.bool false] 4)) = w2 := ⟨_, rfl⟩
  have hB : Below w.heap.size w w2 := by rw [← hw2]; exact bel_alloc (bel_alloc (bel_alloc (Below.refl _ _) _) _) _
  have hsz : w2.heap.size = w.heap.size + 3 := by rw [← hw2]; simp
  have r3 : w2.cell? ⟨w.heap.size, 0, none⟩ = some (Value.func (Fn.func 33) #[] #[]) := by rw [← hw2]; simp [go_sem]
  have r4 : (w2.cell? ⟨w.heap.size + 1, 0, none⟩ = some (.int .i64 0) ∧ w2.cell? ⟨w.heap.size + 1, 1, none⟩ = some (.int .i64 0) ∧ w2.cell? ⟨w.heap.size + 1, 2, none⟩ = some (.int .i64 0)) ∧ w2.frozen? ⟨w.heap.size + 1, 0, none⟩ = false ∧ w2.frozen? ⟨w.heap.size + 1, 1, none⟩ = false ∧ w2.frozen? ⟨w.heap.size + 1, 2, none⟩ = false := by rw [← hw2]; simp [go_sem]
  have r5 : w2.cell? ⟨w.heap.size + 1 + 1, 0, none⟩ = some (.bool false) ∧ w2.frozen? ⟨w.heap.size + 1 + 1, 0, none⟩ = false := by rw [← hw2]; simp [go_sem]
  rw [hw2]
  have c2x := (hB.cell (p := ⟨Bx, 0, none⟩) lx).trans Hcx.out
  have G2 : G.In w.heap.size w2 := hG.later hB (Nat.le_refl _)
  clear hw2
  have HcX := Lib.hid c2x
  have HR3 := Lib.hid r3
  have HR4 := Lib.hid r4
  have HR5 := Lib.hid r5
  clear c2x r3 r4 r5
  have hN : w2.heap.size ≤ w2.heap.size := Nat.le_refl _
  have hNw : w.heap.size ≤ w2.heap.size := by omega
  refine range_law (n := 2) (m := 1) (gf := 34) (lb := #[.pointer (some ⟨Bx, 0, none⟩)]) rfl (enters_of Try.func34 (by kernel_rfl) rfl) (encs := encF) (fun _ => rfl)
    (S := fun ys => ys = fieldsOf G) (Sp := fun pre => ∃ t, fieldsOf G = pre ++ t) (V := fun _ => True) (N := (fieldsOf G).length) (Kp := fun _ _ => True) (fun _ _ => trivial) (fun _ _ _ _ _ _ _ _ => trivial)
    (fun pre W => (∀ p ∈ pre, P p = false) ∧ Below w2.heap.size w2 W)
    (fun c pre W => (c = .ret ∧ ∃ pre' x, pre = pre' ++ [x] ∧ (∀ p ∈ pre', P p = false) ∧ P x = true ∧
      W.cell? ⟨w.heap.size + 1, 0, none⟩ = some (.int .i64 (x.1 : Int)) ∧ W.cell? ⟨w.heap.size + 1, 1, none⟩ = some (.int .i64 (x.2.1 : Int)) ∧ W.cell? ⟨w.heap.size + 1, 2, none⟩ = some (.int .i64 (x.2.2 : Int)) ∧ W.cell? ⟨w.heap.size + 1 + 1, 0, none⟩ = some (.bool true)) ∧ Below w.heap.size w2 W)
    ?hI ?hIx ⟨by simp, Below.refl _ _⟩
    (fun x a' W => ∃ b, w2.heap.size ≤ b ∧ W.cell? ⟨b, 0, none⟩ = some (.int .i64 (x.1 : Int)) ∧ W.cell? ⟨b, 1, none⟩ = some (.int .i64 (x.2.1 : Int)) ∧ W.cell? ⟨b, 2, none⟩ = some (.int .i64 (x.2.2 : Int)) ∧
      a' = { tmps := #[.func (.func 34) #[] #[.pointer (some ⟨Bx, 0, none⟩)], Value.func (Fn.func 33) #[] #[], undef,
        .pointer (some ⟨w.heap.size, 0, none⟩), .pointer (some ⟨w.heap.size + 1, 0, none⟩), .pointer (some ⟨w.heap.size + 1 + 1, 0, none⟩), .pointer (some ⟨b, 0, none⟩), undef,
        .func (.func 34) #[] #[.pointer (some ⟨Bx, 0, none⟩)], .agg #[.int .i64 (x.1 : Int), .int .i64 (x.2.1 : Int), .int .i64 (x.2.2 : Int)], undef, undef, undef, undef, undef], defers := [] })
    ?hAx ?hit ?assign ?body ?done ?stop
  case hI => exact fun s W W' row h hg hr => ⟨h.1, ownFrom_below (β := Unit) (B := w2.heap.size) (w₀ := w2) (by omega) (by omega) () W W' row h.2 hg hr⟩
  case hIx =>
    rintro c pre W W' row ⟨⟨rfl, pre', x, hp, ho, hx, k0, k1, k2, k3⟩, hb⟩ hg hr
    exact ⟨⟨rfl, pre', x, hp, ho, hx, cell_kept k0 hg (fun r e => (hr r e).2), cell_kept k1 hg (fun r e => (hr r e).2), cell_kept k2 hg (fun r e => (hr r e).2), cell_kept k3 hg (fun r e => (hr r e).2)⟩, ownFrom_below (β := Unit) (B := w2.heap.size) (w₀ := w2) (by omega) (by omega) () W W' row hb hg hr⟩
  case hAx =>
    rintro x a' _ W W' row ⟨b, hb, k0, k1, k2, e⟩ hg hr
    exact ⟨b, hb, cell_kept k0 hg (fun r e => (hr r e).2), cell_kept k1 hg (fun r e => (hr r e).2), cell_kept k2 hg (fun r e => (hr r e).2), e⟩
  case hit =>
    rintro W0 ⟨o, o', _, _, rfl⟩ hI0
    refine all_iter G 2 (by decide) Bx w2.heap.size _ _ ?_ ?_ ?_ _
    · rintro pre W ⟨_, hW⟩
      exact ⟨(hW.cell (p := ⟨Bx, 0, none⟩) (by simp; omega)).trans HcX.out, G2.later (hW.mono hNw) (by have := hW.size; omega)⟩
    · rintro pre W ⟨h, hW⟩
      exact ⟨h, hW.drew⟩
    · rintro pre W W' ⟨h, hW⟩ hb
      exact ⟨h, hW.trans (hb.mono hW.size)⟩
  case assign =>
    rintro l pre x W K ⟨hp, hW⟩ hK
    simp only [encF]
    gi_wp2
    have hBW : Below W.heap.size W (W.alloc (.cells #[.int .i64 (x.1 : Int), .int .i64 (x.2.1 : Int), .int .i64 (x.2.2 : Int)] 39)) := bel_alloc (Below.refl _ _) _
    have hs := hW.size
    refine hK _ _ ((KeepsOthers.alloc _ _).from _) trivial ⟨hp, hW.trans (hBW.mono hs)⟩ ⟨W.heap.size, hs, by simp [go_sem], by simp [go_sem], by simp [go_sem], rfl⟩
  case body =>
    rintro l pre x a' W ⟨hp, hW⟩ ⟨b, hb, k0, k1, k2, rfl⟩ hlen _
    have hs := hW.size
    have hf : w.heap.size < w2.heap.size := by omega
    have c3 := (hW.cell (p := ⟨w.heap.size, 0, none⟩) (by simp; omega)).trans HR3.out
    have HC := HI'.out W (hB.trans (hW.mono hNw)) x
    have d0 := (hW.frozen (p := ⟨w.heap.size + 1, 0, none⟩) (by simp; omega)).trans HR4.out.2.1
    have d1 := (hW.frozen (p := ⟨w.heap.size + 1, 1, none⟩) (by simp; omega)).trans HR4.out.2.2.1
    have d2 := (hW.frozen (p := ⟨w.heap.size + 1, 2, none⟩) (by simp; omega)).trans HR4.out.2.2.2
    have d3 := (hW.frozen (p := ⟨w.heap.size + 1 + 1, 0, none⟩) (by simp; omega)).trans HR5.out.2
    have e0 := (hW.cell (p := ⟨w.heap.size + 1, 0, none⟩) (by simp; omega)).trans HR4.out.1.1
    have e1 := (hW.cell (p := ⟨w.heap.size + 1, 1, none⟩) (by simp; omega)).trans HR4.out.1.2.1
    have e2 := (hW.cell (p := ⟨w.heap.size + 1, 2, none⟩) (by simp; omega)).trans HR4.out.1.2.2
    have e3 := (hW.cell (p := ⟨w.heap.size + 1 + 1, 0, none⟩) (by simp; omega)).trans HR5.out.1
    have hW' := Lib.hid hW
    have Hp := Lib.hid hp
    clear hW hp
    generalize hr : P x = r at *
    have Hr := Lib.hid hr
    clear hr
    have hbW := World.block_lt_of_cell? W ⟨b, 0, none⟩ k0
    simp only at hbW
    have hf1 : w.heap.size + 1 < W.heap.size := by omega
    have hf2 : w.heap.size + 1 + 1 < W.heap.size := by omega
    have F1 := Lib.hid hf1
    have F2 := Lib.hid hf2
    have FB := Lib.hid hbW
    have HC1 := Lib.hid HC
    clear hf1 hf2 hbW HC
    cases r
    · gi_wp2_with (refine ⟨trivial, ?_⟩; gi_at_call 33; refine (CallsIn.inRound l (callsIn_wide.2 HC1.out)).mono ?_; rintro e W' ⟨rfl, hb'⟩)
      exact ⟨keepsB hb', trivial, fun p hp => (List.mem_append.1 hp).elim (Hp.out p) (fun e => by simp at e; rw [e]; exact Hr.out), hW'.out.trans (hb'.mono hs)⟩
    · gi_wp2_with (refine ⟨trivial, ?_⟩; gi_at_call 33; refine (CallsIn.inRound l (callsIn_wide.2 HC1.out)).mono ?_; rintro e W' ⟨rfl, hb'⟩; have k0' := (hb'.cell (p := ⟨b, 0, none⟩) FB.out).trans k0; have k1' := (hb'.cell (p := ⟨b, 1, none⟩) FB.out).trans k1; have k2' := (hb'.cell (p := ⟨b, 2, none⟩) FB.out).trans k2; have d0' := (hb'.frozen (p := ⟨w.heap.size + 1, 0, none⟩) F1.out).trans d0; have d1' := (hb'.frozen (p := ⟨w.heap.size + 1, 1, none⟩) F1.out).trans d1; have d2' := (hb'.frozen (p := ⟨w.heap.size + 1, 2, none⟩) F1.out).trans d2; have d3' := (hb'.frozen (p := ⟨w.heap.size + 1 + 1, 0, none⟩) F2.out).trans d3; have e0' := (hb'.cell (p := ⟨w.heap.size + 1, 0, none⟩) F1.out).trans e0; have e1' := (hb'.cell (p := ⟨w.heap.size + 1, 1, none⟩) F1.out).trans e1; have e2' := (hb'.cell (p := ⟨w.heap.size + 1, 2, none⟩) F1.out).trans e2; have e3' := (hb'.cell (p := ⟨w.heap.size + 1 + 1, 0, none⟩) F2.out).trans e3)
      obtain ⟨z0, z1, z2, z3⟩ := res4 (W := W') (b := w.heap.size + 1) (c := w.heap.size + 1 + 1) (by omega) (.int .i64 (x.1 : Int)) (.int .i64 (x.2.1 : Int)) (.int .i64 (x.2.2 : Int)) (.bool true) e0' e1' e2' e3'
      refine ⟨(keepsB hb').trans (((((KeepsOthers.setCell _ _ _).trans (KeepsOthers.setCell _ _ _)).trans (KeepsOthers.setCell _ _ _)).trans (KeepsOthers.setCell _ _ _)).from _), ⟨rfl, pre, x, rfl, Hp.out, Hr.out, z0, z1, z2, z3⟩, ?_⟩
      have b1 : Below w.heap.size w2 W' := (hW'.out.mono hNw).trans (hb'.mono (by omega))
      exact (((b1.setCell (p := ⟨w.heap.size + 1, 0, none⟩) (by simp) _).setCell (p := ⟨w.heap.size + 1, 1, none⟩) (by simp) _).setCell (p := ⟨w.heap.size + 1, 2, none⟩) (by simp) _).setCell (p := ⟨w.heap.size + 1 + 1, 0, none⟩) (by simp; omega) _
  case done =>
    rintro D ys W hD rfl ⟨hp, hW⟩ hK
    have hs := hW.size
    have hf1 : w.heap.size + 1 < W.heap.size := by omega
    have hf2 : w.heap.size + 1 + 1 < W.heap.size := by omega
    have d0 := (hW.frozen (p := ⟨w.heap.size + 1, 0, none⟩) (by simp; omega)).trans HR4.out.2.1
    have d1 := (hW.frozen (p := ⟨w.heap.size + 1, 1, none⟩) (by simp; omega)).trans HR4.out.2.2.1
    have d2 := (hW.frozen (p := ⟨w.heap.size + 1, 2, none⟩) (by simp; omega)).trans HR4.out.2.2.2
    have d3 := (hW.frozen (p := ⟨w.heap.size + 1 + 1, 0, none⟩) (by simp; omega)).trans HR5.out.2
    have e0 := (hW.cell (p := ⟨w.heap.size + 1, 0, none⟩) (by simp; omega)).trans HR4.out.1.1
    have e1 := (hW.cell (p := ⟨w.heap.size + 1, 1, none⟩) (by simp; omega)).trans HR4.out.1.2.1
    have e2 := (hW.cell (p := ⟨w.heap.size + 1, 2, none⟩) (by simp; omega)).trans HR4.out.1.2.2
    have e3 := (hW.cell (p := ⟨w.heap.size + 1 + 1, 0, none⟩) (by simp; omega)).trans HR5.out.1
    have hW' := Lib.hid hW
    have Hp := Lib.hid hp
    have HK := Lib.hid hK
    have F1 := Lib.hid hf1
    have F2 := Lib.hid hf2
    clear hW hp hK
    gi_wp2
    obtain ⟨z0, z1, z2, z3⟩ := res4 (W := W) (b := w.heap.size + 1) (c := w.heap.size + 1 + 1) (by omega) (.int .i64 0) (.int .i64 0) (.int .i64 0) (.bool false) e0 e1 e2 e3
    obtain ⟨W3, hW3⟩ : ∃ W3, ((((W.setCell ⟨w.heap.size + 1, 0, none⟩ (.int .i64 0)).setCell ⟨w.heap.size + 1, 1, none⟩ (.int .i64 0)).setCell ⟨w.heap.size + 1, 2, none⟩ (.int .i64 0)).setCell ⟨w.heap.size + 1 + 1, 0, none⟩ (.bool false)) = W3 := ⟨_, rfl⟩
    have hKO : KeepsOthers W W3 := by rw [← hW3]; exact (((KeepsOthers.setCell _ _ _).trans (KeepsOthers.setCell _ _ _)).trans (KeepsOthers.setCell _ _ _)).trans (KeepsOthers.setCell _ _ _)
    have hBe : Below w.heap.size w W3 := by
      rw [← hW3]
      exact ((((hB.trans (hW'.out.mono hNw)).setCell (p := ⟨w.heap.size + 1, 0, none⟩) (by simp) _).setCell (p := ⟨w.heap.size + 1, 1, none⟩) (by simp) _).setCell (p := ⟨w.heap.size + 1, 2, none⟩) (by simp) _).setCell (p := ⟨w.heap.size + 1 + 1, 0, none⟩) (by simp; omega) _
    have hsz3 : W3.heap.size = W.heap.size := by rw [← hW3]; simp [World.setCell]
    rw [hW3] at z0 z1 z2 z3
    rw [hW3]
    clear hW3
    have f1 := F1.out
    have f2 := F2.out
    have hK4 : (W3.alloc (.cells #[.int .i64 0, .int .i64 0, .int .i64 0] 39)).heap[D]? = some (.deferred (some [])) := (hKO.trans (KeepsOthers.alloc _ _)).same D _ HK.out rfl
    have y0 := cell_kept ((World.cell?_alloc_past (w := W3) (.cells #[.int .i64 0, .int .i64 0, .int .i64 0] 39) _ _ (by omega)).trans z0) (grownBy_putObj' _ D (.deferred none)) (fun r e => by cases e; exact ⟨_, hK4, rfl⟩)
    have y1 := cell_kept ((World.cell?_alloc_past (w := W3) (.cells #[.int .i64 0, .int .i64 0, .int .i64 0] 39) _ _ (by omega)).trans z1) (grownBy_putObj' _ D (.deferred none)) (fun r e => by cases e; exact ⟨_, hK4, rfl⟩)
    have y2 := cell_kept ((World.cell?_alloc_past (w := W3) (.cells #[.int .i64 0, .int .i64 0, .int .i64 0] 39) _ _ (by omega)).trans z2) (grownBy_putObj' _ D (.deferred none)) (fun r e => by cases e; exact ⟨_, hK4, rfl⟩)
    have y3 := cell_kept ((World.cell?_alloc_past (w := W3) (.cells #[.int .i64 0, .int .i64 0, .int .i64 0] 39) _ _ (by omega)).trans z3) (grownBy_putObj' _ D (.deferred none)) (fun r e => by cases e; exact ⟨_, hK4, rfl⟩)
    refine ⟨by simp, .inl ⟨_, _, rfl, run_takeDeferred hK4, ?_⟩⟩
    refine ⟨.tuple #[.agg #[.int .i64 0, .int .i64 0, .int .i64 0], .bool false], ?_, ?_, ?_⟩
    · simp [results, Try.results31, go_sem, y0, y1, y2, y3]
    · rw [findF_none Hp.out]; rfl
    · exact (hBe.alloc (by omega) _).trans (belowK_b (w := w2) (by omega) _ D _ _ (by omega) hK4 rfl rfl)
  case stop =>
    rintro D c pre W hD ⟨t, ht⟩ ⟨⟨rfl, pre', x, he, ho, hx, k0, k1, k2, k3⟩, hb⟩ hK
    gi_wp2
    refine ⟨by simp, .inl ⟨_, _, rfl, run_takeDeferred hK, ?_⟩⟩
    have z0 := cell_kept k0 (grownBy_putObj' _ D (.deferred none)) (fun r e => by cases e; exact ⟨_, hK, rfl⟩)
    have z1 := cell_kept k1 (grownBy_putObj' _ D (.deferred none)) (fun r e => by cases e; exact ⟨_, hK, rfl⟩)
    have z2 := cell_kept k2 (grownBy_putObj' _ D (.deferred none)) (fun r e => by cases e; exact ⟨_, hK, rfl⟩)
    have z3 := cell_kept k3 (grownBy_putObj' _ D (.deferred none)) (fun r e => by cases e; exact ⟨_, hK, rfl⟩)
    refine ⟨.tuple #[fdV x, .bool true], ?_, ?_, ?_⟩
    · simp [results, Try.results31, go_sem, z0, z1, z2, z3]
    · rw [ht, he, findF_some ho hx]; rfl
    · exact (hB.trans hb).trans (belowK_b (w := w2) (by omega) W D _ _ (by omega) hK rfl rfl)
end Go.Proofs.Ytooikmialpfdkaa
