/- TopLooks and TopSends, helper 20 of 27. It holds: The walk of first over the fields, with Tab's conditions; The walk of the field's Tab. Each theorem states its own conditions. -/
import Derived.Test.YtpjooboohelffaaGreatDoorM18
import Derived.Laws.EntriesVeiled
/- The walk of first over the fields, with Tab's conditions. -/
namespace Go.Proofs.YtpjooboohelffaaGreatDoor.F16
open Go.RowKit Go.Shelf
set_option linter.unusedVariables false
set_option linter.unusedSimpArgs false
set_option maxRecDepth 100000
attribute [local go_sem] Oper.semAt_some
abbrev fdV (f : Fd) : Value := .agg #[.int .i64 (f.1 : Int), .int .i64 (f.2.1 : Int), .int .i64 (f.2.2 : Int)]
def foundF (o : Option Fd) : Value := match o with
 | some f => .tuple #[fdV f, .bool true]
 | none => .tuple #[.agg #[.int .i64 0, .int .i64 0, .int .i64 0], .bool false]
theorem begin_fd (x y z : Int) (w : World) : Fn w 142 #[.agg #[.int .i64 x, .int .i64 y, .int .i64 z]] (posV x y) := by
 unfold Fn posV
 go_enter Tryz.func142, Tryz.ntmps142
 go_wp2
 refine bodyPost_ret (v := .agg #[.int .i64 x, .int .i64 y]) (by simp [results, Tryz.results142, go_sem]) rfl ⟨rfl, ?_⟩
 repeat (first | exact Below.refl _ _ | refine bel_alloc ?_ _ | refine bel_set ?_ (by simp) _)
theorem true_fd (v : Value) (x y z : Int) (hv : v = .agg #[.int .i64 x, .int .i64 y, .int .i64 z]) (w : World) : Fn w 146 #[v] (.bool true) := by
 subst hv
 unfold Fn
 go_enter Tryz.func146, Tryz.ntmps146
 go_wp2_with fail
 go_ret
 exact ⟨rfl, by repeat (first | exact Below.refl _ _ | refine bel_alloc ?_ _)⟩
set_option maxHeartbeats 4000000 in
theorem behind_fd (G : Grid) (x y z at' : Int) (b2 b7 b6 : Nat) (w : World) (h : G.In w.heap.size w) (hok : G.Ok) (c2 : w.cell? ⟨b2, 0, none⟩ = some G.v) (c7 : w.cell? ⟨b7, 0, none⟩ = some (.func (.func 142) #[] #[])) (c6 : w.cell? ⟨b6, 0, none⟩ = some (.int .i64 at')) :
  Fn w 145 #[.agg #[.int .i64 x, .int .i64 y, .int .i64 z], .pointer (some ⟨b2, 0, none⟩), .pointer (some ⟨b7, 0, none⟩), .pointer (some ⟨b6, 0, none⟩)] (.bool (decide (at' < G.num x y 0))) := by
 have l2 := World.block_lt_of_cell? w ⟨b2, 0, none⟩ c2
 have l7 := World.block_lt_of_cell? w ⟨b7, 0, none⟩ c7
 have l6 := World.block_lt_of_cell? w ⟨b6, 0, none⟩ c6
 simp only at l2 l7 l6
 have HN : ∀ W, Below w.heap.size w W → Fn W 141 #[G.v, posV x y, .int .i64 0] (.int .i64 (G.num x y 0)) := fun W hW => number_any G x y 0 W (h.later hW hW.size) hok
 have HB := fun W => begin_fd x y z W
 unfold Fn posV at *
 unfold Grid.v at *
 generalize G.num x y 0 = nn at *
 have HN' := Lib.hid HN
 have HB' := Lib.hid HB
 clear HN HB h hok
 go_enter Tryz.func145, Tryz.ntmps145
 go_wp2_with fail
 have KB : ∀ W : World, Below (w.heap.size + 1) (w.alloc (.cells #[.int .i64 x, .int .i64 y, .int .i64 z] 212)) W → (W.cell? ⟨w.heap.size, 0, none⟩ = some (.int .i64 x) ∧ W.cell? ⟨w.heap.size, 1, none⟩ = some (.int .i64 y) ∧ W.cell? ⟨w.heap.size, 2, none⟩ = some (.int .i64 z) ∧ W.cell? ⟨b2, 0, none⟩ = some (.slice G.a G.n G.cap) ∧ W.cell? ⟨b7, 0, none⟩ = some (.func (.func 142) #[] #[]) ∧ W.cell? ⟨b6, 0, none⟩ = some (.int .i64 at')) ∧ Below (w.heap.size + 1) (w.alloc (.cells #[.int .i64 x, .int .i64 y, .int .i64 z] 212)) W := fun W hW =>
  ⟨⟨(hW.cell (p := ⟨w.heap.size, 0, none⟩) (by simp)).trans (by simp [go_sem]), (hW.cell (p := ⟨w.heap.size, 1, none⟩) (by simp)).trans (by simp [go_sem]), (hW.cell (p := ⟨w.heap.size, 2, none⟩) (by simp)).trans (by simp [go_sem]),
   (hW.cell (p := ⟨b2, 0, none⟩) (by simp; omega)).trans ((World.cell?_alloc_lt _ _ _ l2).trans c2), (hW.cell (p := ⟨b7, 0, none⟩) (by simp; omega)).trans ((World.cell?_alloc_lt _ _ _ l7).trans c7), (hW.cell (p := ⟨b6, 0, none⟩) (by simp; omega)).trans ((World.cell?_alloc_lt _ _ _ l6).trans c6)⟩, hW⟩
 have hBW : Below w.heap.size w (w.alloc (.cells #[.int .i64 x, .int .i64 y, .int .i64 z] 212)) := bel_alloc (Below.refl _ _) _
 clear c2 c7 c6
 refine wp_region_held_drew (S := fun W => (W.cell? ⟨w.heap.size, 0, none⟩ = some (.int .i64 x) ∧ W.cell? ⟨w.heap.size, 1, none⟩ = some (.int .i64 y) ∧ W.cell? ⟨w.heap.size, 2, none⟩ = some (.int .i64 z) ∧ W.cell? ⟨b2, 0, none⟩ = some (.slice G.a G.n G.cap) ∧ W.cell? ⟨b7, 0, none⟩ = some (.func (.func 142) #[] #[]) ∧ W.cell? ⟨b6, 0, none⟩ = some (.int .i64 at')) ∧ Below (w.heap.size + 1) (w.alloc (.cells #[.int .i64 x, .int .i64 y, .int .i64 z] 212)) W) (by kernel_rfl) (KB _ (Below.refl _ _).drew) (fun hHeld => ?_)
 refine sY 0 6 ?_
 refine sY 1 7 ?_
 refine sY 2 8 ?_
 refine sY 5 11 ?_
 refine sO 3 fun K hK => ?_
 go_simp
 refine (HB'.out _).mono ?_
 rintro e w2 ⟨rfl, hb2⟩
 (try go_wp2_with fail)
 refine hK.out _ _ ?_ (fun hHeld => ?_)
 ·exact KB _ (hHeld.2.trans (hb2.mono (by have := hHeld.2.size; rw [World.size_alloc] at this; omega)))
 clear hK K
 try simp only [Act.put, List.setIfInBounds_toArray, List.set_cons_zero, List.set_cons_succ]
 refine sO 4 fun K hK => ?_
 go_simp
 refine (HN'.out _ (hBW.trans (hHeld.2.mono (by omega)))).mono ?_
 rintro e w2 ⟨rfl, hb2⟩
 (try go_wp2_with fail)
 refine hK.out _ _ ?_ (fun hHeld => ?_)
 ·exact KB _ (hHeld.2.trans (hb2.mono (by have := hHeld.2.size; rw [World.size_alloc] at this; omega)))
 clear hK K
 try simp only [Act.put, List.setIfInBounds_toArray, List.set_cons_zero, List.set_cons_succ]
 refine sY 6 12 ?_
 refine sY 7 5 ?_
 refine wpAnyH_done (by kernel_rfl) ?_ _
 have B2 := hBW.trans (hHeld.2.mono (by omega))
 go_wp2_with fail
 go_ret
 exact ⟨rfl, B2⟩
theorem res4 {W : World} {b c : Nat} (hne : b ≠ c) {u0 u1 u2 u3 : Value} (v0 v1 v2 v3 : Value) (e0 : W.cell? ⟨b, 0, none⟩ = some u0) (e1 : W.cell? ⟨b, 1, none⟩ = some u1) (e2 : W.cell? ⟨b, 2, none⟩ = some u2) (e3 : W.cell? ⟨c, 0, none⟩ = some u3) :
  ((((W.setCell ⟨b, 0, none⟩ v0).setCell ⟨b, 1, none⟩ v1).setCell ⟨b, 2, none⟩ v2).setCell ⟨c, 0, none⟩ v3).cell? ⟨b, 0, none⟩ = some v0 ∧
  ((((W.setCell ⟨b, 0, none⟩ v0).setCell ⟨b, 1, none⟩ v1).setCell ⟨b, 2, none⟩ v2).setCell ⟨c, 0, none⟩ v3).cell? ⟨b, 1, none⟩ = some v1 ∧
  ((((W.setCell ⟨b, 0, none⟩ v0).setCell ⟨b, 1, none⟩ v1).setCell ⟨b, 2, none⟩ v2).setCell ⟨c, 0, none⟩ v3).cell? ⟨b, 2, none⟩ = some v2 ∧
  ((((W.setCell ⟨b, 0, none⟩ v0).setCell ⟨b, 1, none⟩ v1).setCell ⟨b, 2, none⟩ v2).setCell ⟨c, 0, none⟩ v3).cell? ⟨c, 0, none⟩ = some v3 := by
 have o1 : ∀ (X : World) (p q : Addr) (v : Value), p ≠ q → (X.setCell p v).cell? q = X.cell? q := fun X p q v h => World.cell?_setCell_other _ _ _ _ h
 have s1 : ∀ (X : World) (p : Addr) (v u : Value), X.cell? p = some u → (X.setCell p v).cell? p = some v := fun X p v u h => World.cell?_setCell_same' _ _ _ (by rw [h]; rfl)
 have n : ∀ i j : Nat, i ≠ j → (⟨b, i, none⟩ : Addr) ≠ ⟨b, j, none⟩ := fun i j h e => h (by cases e; rfl)
 have m : ∀ i : Nat, (⟨c, 0, none⟩ : Addr) ≠ ⟨b, i, none⟩ := fun i e => hne (by cases e; rfl)
 have m' : ∀ i : Nat, (⟨b, i, none⟩ : Addr) ≠ ⟨c, 0, none⟩ := fun i e => hne (by cases e; rfl)
 refine ⟨?_, ?_, ?_, ?_⟩
 ·rw [o1 _ _ _ _ (m 0), o1 _ _ _ _ (n 2 0 (by decide)), o1 _ _ _ _ (n 1 0 (by decide))]; exact s1 _ _ _ _ e0
 ·rw [o1 _ _ _ _ (m 1), o1 _ _ _ _ (n 2 1 (by decide))]; exact s1 _ _ _ u1 (by rw [o1 _ _ _ _ (n 0 1 (by decide))]; exact e1)
 ·rw [o1 _ _ _ _ (m 2)]; exact s1 _ _ _ u2 (by rw [o1 _ _ _ _ (n 1 2 (by decide)), o1 _ _ _ _ (n 0 2 (by decide))]; exact e2)
 ·exact s1 _ _ _ u3 (by rw [o1 _ _ _ _ (m' 2), o1 _ _ _ _ (m' 1), o1 _ _ _ _ (m' 0)]; exact e3)
theorem findF_none {P : Fd → Bool} {l : List Fd} (h : ∀ p ∈ l, P p = false) : l.find? P = none := by
 rw [List.find?_eq_none]; intro p hp; simp [h p hp]
theorem findF_some {P : Fd → Bool} {l t : List Fd} {x : Fd} (h : ∀ p ∈ l, P p = false) (hx : P x = true) : (l ++ [x] ++ t).find? P = some x := by
 rw [List.append_assoc, List.find?_append, findF_none h]
 simp [hx]
set_option maxHeartbeats 4000000 in
theorem first_fd32 (G : Grid) (w : World) (P : Fd → Bool) (Bx : Nat) (b2 b7 b6 : Nat) (cx : w.cell? ⟨Bx, 0, none⟩ = some G.v) (hG : G.In w.heap.size w) (lx : Bx < w.heap.size)
  (HI : ∀ W, Below w.heap.size w W → ∀ f : Fd, Calls Tryz.prog 145 (#[fdV f] ++ #[.pointer (some ⟨b2, 0, none⟩), .pointer (some ⟨b7, 0, none⟩), .pointer (some ⟨b6, 0, none⟩)]) W fun e w' => e = .returned (.bool (P f)) ∧ Below W.heap.size W w') :
  Calls Tryz.prog 143 #[.func (.func 183) #[] #[.pointer (some ⟨Bx, 0, none⟩)], Value.func (Fn.func 145) #[] #[.pointer (some ⟨b2, 0, none⟩), .pointer (some ⟨b7, 0, none⟩), .pointer (some ⟨b6, 0, none⟩)]] w fun e w' => e = .returned (foundF ((fieldsOf G).find? P)) ∧ Below w.heap.size w w' := by
 refine (callsIn_wide (n := 3)).1 (callsIn_of_wp_marks Tryz.func143 rfl trivial ?_ rfl)
 simp only [Tryz.ntmps143, List.size_toArray, List.length_cons, List.length_nil, Nat.reduceAdd, Nat.reduceSub, Array.replicate_succ, Array.replicate_zero, List.push_toArray, List.append_toArray, List.nil_append, List.cons_append]
 simp only [List.append_toArray, List.cons_append, List.nil_append] at HI
 have HI' := Lib.hid HI
 have Hcx := Lib.hid cx
 clear cx HI
 gi_wp2
 obtain ⟨w2, hw2⟩ : ∃ w2, (((w.alloc (.cells #[Value.func (Fn.func 145) #[] #[.pointer (some ⟨b2, 0, none⟩), .pointer (some ⟨b7, 0, none⟩), .pointer (some ⟨b6, 0, none⟩)]] 219)).alloc (.cells #[.int .i64 0, .int .i64 0, .int .i64 0] 212)).alloc (.cells #[.bool false] 4)) = w2 := ⟨_, rfl⟩
 have hB : Below w.heap.size w w2 := by rw [← hw2]; exact bel_alloc (bel_alloc (bel_alloc (Below.refl _ _) _) _) _
 have hsz : w2.heap.size = w.heap.size + 3 := by rw [← hw2]; simp
 have r3 : w2.cell? ⟨w.heap.size, 0, none⟩ = some (Value.func (Fn.func 145) #[] #[.pointer (some ⟨b2, 0, none⟩), .pointer (some ⟨b7, 0, none⟩), .pointer (some ⟨b6, 0, none⟩)]) := by rw [← hw2]; simp [go_sem]
 have r4 : (w2.cell? ⟨w.heap.size + 1, 0, none⟩ = some (.int .i64 0) ∧ w2.cell? ⟨w.heap.size + 1, 1, none⟩ = some (.int .i64 0) ∧ w2.cell? ⟨w.heap.size + 1, 2, none⟩ = some (.int .i64 0)) ∧ w2.frozen? ⟨w.heap.size + 1, 0, none⟩ = false ∧ w2.frozen? ⟨w.heap.size + 1, 1, none⟩ = false ∧ w2.frozen? ⟨w.heap.size + 1, 2, none⟩ = false := by rw [← hw2]; simp [go_sem]
 have r5 : w2.cell? ⟨w.heap.size + 1 + 1, 0, none⟩ = some (.bool false) ∧ w2.frozen? ⟨w.heap.size + 1 + 1, 0, none⟩ = false := by rw [← hw2]; simp [go_sem]
 rw [hw2]
 have c2x := (hB.cell (p := ⟨Bx, 0, none⟩) lx).trans Hcx.out
 have G2 : G.In w.heap.size w2 := hG.later hB (Nat.le_refl _)
 clear hw2
 have HcX := Lib.hid c2x
 have HR3 := Lib.hid r3
 have HR4 := Lib.hid r4
 have HR5 := Lib.hid r5
 clear c2x r3 r4 r5
 have hN : w2.heap.size ≤ w2.heap.size := Nat.le_refl _
 have hNw : w.heap.size ≤ w2.heap.size := by omega
 refine range_law (n := 2) (m := 1) (gf := 183) (lb := #[.pointer (some ⟨Bx, 0, none⟩)]) rfl (enters_of Tryz.func183 (by kernel_rfl) rfl) (encs := encF) (fun _ => rfl)
  (S := fun ys => ys = fieldsOf G) (Sp := fun pre => ∃ t, fieldsOf G = pre ++ t) (V := fun _ _ => True) (N := (fieldsOf G).length) (Kp := fun _ _ => True) (fun _ _ => trivial) (fun _ _ _ _ _ _ _ _ => trivial)
  (fun pre W => (∀ p ∈ pre, P p = false) ∧ Below w2.heap.size w2 W)
  (fun c pre W => (c = .ret ∧ ∃ pre' x, pre = pre' ++ [x] ∧ (∀ p ∈ pre', P p = false) ∧ P x = true ∧
   W.cell? ⟨w.heap.size + 1, 0, none⟩ = some (.int .i64 (x.1 : Int)) ∧ W.cell? ⟨w.heap.size + 1, 1, none⟩ = some (.int .i64 (x.2.1 : Int)) ∧ W.cell? ⟨w.heap.size + 1, 2, none⟩ = some (.int .i64 (x.2.2 : Int)) ∧ W.cell? ⟨w.heap.size + 1 + 1, 0, none⟩ = some (.bool true)) ∧ Below w.heap.size w2 W)
  ?hI ?hIx ⟨by simp, Below.refl _ _⟩
  (fun x a' W => ∃ b, w2.heap.size ≤ b ∧ W.cell? ⟨b, 0, none⟩ = some (.int .i64 (x.1 : Int)) ∧ W.cell? ⟨b, 1, none⟩ = some (.int .i64 (x.2.1 : Int)) ∧ W.cell? ⟨b, 2, none⟩ = some (.int .i64 (x.2.2 : Int)) ∧
   a' = { tmps := #[.func (.func 183) #[] #[.pointer (some ⟨Bx, 0, none⟩)], Value.func (Fn.func 145) #[] #[.pointer (some ⟨b2, 0, none⟩), .pointer (some ⟨b7, 0, none⟩), .pointer (some ⟨b6, 0, none⟩)], undef,
    .pointer (some ⟨w.heap.size, 0, none⟩), .pointer (some ⟨w.heap.size + 1, 0, none⟩), .pointer (some ⟨w.heap.size + 1 + 1, 0, none⟩), .pointer (some ⟨b, 0, none⟩), undef,
    .func (.func 183) #[] #[.pointer (some ⟨Bx, 0, none⟩)], .agg #[.int .i64 (x.1 : Int), .int .i64 (x.2.1 : Int), .int .i64 (x.2.2 : Int)], undef, undef, undef, undef, undef], defers := [] })
  ?hAx ?hit ?assign ?body ?done ?stop
 case hI => exact fun s W W' row h hg hr => ⟨h.1, ownFrom_below (β := Unit) (B := w2.heap.size) (w₀ := w2) (by omega) (by omega) () W W' row h.2 hg hr⟩
 case hIx =>
  rintro c pre W W' row ⟨⟨rfl, pre', x, hp, ho, hx, k0, k1, k2, k3⟩, hb⟩ hg hr
  exact ⟨⟨rfl, pre', x, hp, ho, hx, cell_kept k0 hg (fun r e => (hr r e).2), cell_kept k1 hg (fun r e => (hr r e).2), cell_kept k2 hg (fun r e => (hr r e).2), cell_kept k3 hg (fun r e => (hr r e).2)⟩, ownFrom_below (β := Unit) (B := w2.heap.size) (w₀ := w2) (by omega) (by omega) () W W' row hb hg hr⟩
 case hAx =>
  rintro x a' _ W W' row ⟨b, hb, k0, k1, k2, e⟩ hg hr
  exact ⟨b, hb, cell_kept k0 hg (fun r e => (hr r e).2), cell_kept k1 hg (fun r e => (hr r e).2), cell_kept k2 hg (fun r e => (hr r e).2), e⟩
 case hit =>
  rintro W0 ⟨o, o', _, _, rfl⟩ hI0
  refine all_iter G 2 (by decide) Bx w2.heap.size _ _ ?_ ?_ ?_ _
  ·rintro pre W ⟨_, hW⟩
   exact ⟨(hW.cell (p := ⟨Bx, 0, none⟩) (by simp; omega)).trans HcX.out, G2.later (hW.mono hNw) (by have := hW.size; omega)⟩
  ·rintro pre W ⟨h, hW⟩
   exact ⟨h, hW.drew⟩
  ·rintro pre W W' ⟨h, hW⟩ hb
   exact ⟨h, hW.trans (hb.mono hW.size)⟩
 case assign =>
  rintro l pre x W K ⟨hp, hW⟩ hK
  simp only [encF]
  gi_wp2
  have hBW : Below W.heap.size W (W.alloc (.cells #[.int .i64 (x.1 : Int), .int .i64 (x.2.1 : Int), .int .i64 (x.2.2 : Int)] 212)) := bel_alloc (Below.refl _ _) _
  have hs := hW.size
  refine hK _ _ ((KeepsOthers.alloc _ _).from _) trivial ⟨hp, hW.trans (hBW.mono hs)⟩ ⟨W.heap.size, hs, by simp [go_sem], by simp [go_sem], by simp [go_sem], rfl⟩
 case body =>
  rintro l pre x a' W ⟨hp, hW⟩ ⟨b, hb, k0, k1, k2, rfl⟩ hlen _
  have hs := hW.size
  have hf : w.heap.size < w2.heap.size := by omega
  have c3 := (hW.cell (p := ⟨w.heap.size, 0, none⟩) (by simp; omega)).trans HR3.out
  have HC := HI'.out W (hB.trans (hW.mono hNw)) x
  have d0 := (hW.frozen (p := ⟨w.heap.size + 1, 0, none⟩) (by simp; omega)).trans HR4.out.2.1
  have d1 := (hW.frozen (p := ⟨w.heap.size + 1, 1, none⟩) (by simp; omega)).trans HR4.out.2.2.1
  have d2 := (hW.frozen (p := ⟨w.heap.size + 1, 2, none⟩) (by simp; omega)).trans HR4.out.2.2.2
  have d3 := (hW.frozen (p := ⟨w.heap.size + 1 + 1, 0, none⟩) (by simp; omega)).trans HR5.out.2
  have e0 := (hW.cell (p := ⟨w.heap.size + 1, 0, none⟩) (by simp; omega)).trans HR4.out.1.1
  have e1 := (hW.cell (p := ⟨w.heap.size + 1, 1, none⟩) (by simp; omega)).trans HR4.out.1.2.1
  have e2 := (hW.cell (p := ⟨w.heap.size + 1, 2, none⟩) (by simp; omega)).trans HR4.out.1.2.2
  have e3 := (hW.cell (p := ⟨w.heap.size + 1 + 1, 0, none⟩) (by simp; omega)).trans HR5.out.1
  have hW' := Lib.hid hW
  have Hp := Lib.hid hp
  clear hW hp
  generalize hr : P x = r at *
  have Hr := Lib.hid hr
  clear hr
  have hbW := World.block_lt_of_cell? W ⟨b, 0, none⟩ k0
  simp only at hbW
  have hf1 : w.heap.size + 1 < W.heap.size := by omega
  have hf2 : w.heap.size + 1 + 1 < W.heap.size := by omega
  have F1 := Lib.hid hf1
  have F2 := Lib.hid hf2
  have FB := Lib.hid hbW
  have HC1 := Lib.hid HC
  clear hf1 hf2 hbW HC
  cases r
  ·gi_wp2_with (refine ⟨trivial, ?_⟩; gi_at_call 145; refine (CallsIn.inRound l (callsIn_wide.2 HC1.out)).mono ?_; rintro e W' ⟨rfl, hb'⟩)
   exact ⟨keepsB hb', trivial, fun p hp => (List.mem_append.1 hp).elim (Hp.out p) (fun e => by simp at e; rw [e]; exact Hr.out), hW'.out.trans (hb'.mono hs)⟩
  ·gi_wp2_with (refine ⟨trivial, ?_⟩; gi_at_call 145; refine (CallsIn.inRound l (callsIn_wide.2 HC1.out)).mono ?_; rintro e W' ⟨rfl, hb'⟩; have k0' := (hb'.cell (p := ⟨b, 0, none⟩) FB.out).trans k0; have k1' := (hb'.cell (p := ⟨b, 1, none⟩) FB.out).trans k1; have k2' := (hb'.cell (p := ⟨b, 2, none⟩) FB.out).trans k2; have d0' := (hb'.frozen (p := ⟨w.heap.size + 1, 0, none⟩) F1.out).trans d0; have d1' := (hb'.frozen (p := ⟨w.heap.size + 1, 1, none⟩) F1.out).trans d1; have d2' := (hb'.frozen (p := ⟨w.heap.size + 1, 2, none⟩) F1.out).trans d2; have d3' := (hb'.frozen (p := ⟨w.heap.size + 1 + 1, 0, none⟩) F2.out).trans d3; have e0' := (hb'.cell (p := ⟨w.heap.size + 1, 0, none⟩) F1.out).trans e0; have e1' := (hb'.cell (p := ⟨w.heap.size + 1, 1, none⟩) F1.out).trans e1; have e2' := (hb'.cell (p := ⟨w.heap.size + 1, 2, none⟩) F1.out).trans e2; have e3' := (hb'.cell (p := ⟨w.heap.size + 1 + 1, 0, none⟩) F2.out).trans e3)
   obtain ⟨z0, z1, z2, z3⟩ := res4 (W := W') (b := w.heap.size + 1) (c := w.heap.size + 1 + 1) (by omega) (.int .i64 (x.1 : Int)) (.int .i64 (x.2.1 : Int)) (.int .i64 (x.2.2 : Int)) (.bool true) e0' e1' e2' e3'
   refine ⟨(keepsB hb').trans (((((KeepsOthers.setCell _ _ _).trans (KeepsOthers.setCell _ _ _)).trans (KeepsOthers.setCell _ _ _)).trans (KeepsOthers.setCell _ _ _)).from _), ⟨rfl, pre, x, rfl, Hp.out, Hr.out, z0, z1, z2, z3⟩, ?_⟩
   have b1 : Below w.heap.size w2 W' := (hW'.out.mono hNw).trans (hb'.mono (by omega))
   exact (((b1.setCell (p := ⟨w.heap.size + 1, 0, none⟩) (by simp) _).setCell (p := ⟨w.heap.size + 1, 1, none⟩) (by simp) _).setCell (p := ⟨w.heap.size + 1, 2, none⟩) (by simp) _).setCell (p := ⟨w.heap.size + 1 + 1, 0, none⟩) (by simp; omega) _
 case done =>
  rintro D ys W hD rfl ⟨hp, hW⟩ hK
  have hs := hW.size
  have hf1 : w.heap.size + 1 < W.heap.size := by omega
  have hf2 : w.heap.size + 1 + 1 < W.heap.size := by omega
  have d0 := (hW.frozen (p := ⟨w.heap.size + 1, 0, none⟩) (by simp; omega)).trans HR4.out.2.1
  have d1 := (hW.frozen (p := ⟨w.heap.size + 1, 1, none⟩) (by simp; omega)).trans HR4.out.2.2.1
  have d2 := (hW.frozen (p := ⟨w.heap.size + 1, 2, none⟩) (by simp; omega)).trans HR4.out.2.2.2
  have d3 := (hW.frozen (p := ⟨w.heap.size + 1 + 1, 0, none⟩) (by simp; omega)).trans HR5.out.2
  have e0 := (hW.cell (p := ⟨w.heap.size + 1, 0, none⟩) (by simp; omega)).trans HR4.out.1.1
  have e1 := (hW.cell (p := ⟨w.heap.size + 1, 1, none⟩) (by simp; omega)).trans HR4.out.1.2.1
  have e2 := (hW.cell (p := ⟨w.heap.size + 1, 2, none⟩) (by simp; omega)).trans HR4.out.1.2.2
  have e3 := (hW.cell (p := ⟨w.heap.size + 1 + 1, 0, none⟩) (by simp; omega)).trans HR5.out.1
  have hW' := Lib.hid hW
  have Hp := Lib.hid hp
  have HK := Lib.hid hK
  have F1 := Lib.hid hf1
  have F2 := Lib.hid hf2
  clear hW hp hK
  gi_wp2
  obtain ⟨z0, z1, z2, z3⟩ := res4 (W := W) (b := w.heap.size + 1) (c := w.heap.size + 1 + 1) (by omega) (.int .i64 0) (.int .i64 0) (.int .i64 0) (.bool false) e0 e1 e2 e3
  obtain ⟨W3, hW3⟩ : ∃ W3, ((((W.setCell ⟨w.heap.size + 1, 0, none⟩ (.int .i64 0)).setCell ⟨w.heap.size + 1, 1, none⟩ (.int .i64 0)).setCell ⟨w.heap.size + 1, 2, none⟩ (.int .i64 0)).setCell ⟨w.heap.size + 1 + 1, 0, none⟩ (.bool false)) = W3 := ⟨_, rfl⟩
  have hKO : KeepsOthers W W3 := by rw [← hW3]; exact (((KeepsOthers.setCell _ _ _).trans (KeepsOthers.setCell _ _ _)).trans (KeepsOthers.setCell _ _ _)).trans (KeepsOthers.setCell _ _ _)
  have hBe : Below w.heap.size w W3 := by
   rw [← hW3]
   exact ((((hB.trans (hW'.out.mono hNw)).setCell (p := ⟨w.heap.size + 1, 0, none⟩) (by simp) _).setCell (p := ⟨w.heap.size + 1, 1, none⟩) (by simp) _).setCell (p := ⟨w.heap.size + 1, 2, none⟩) (by simp) _).setCell (p := ⟨w.heap.size + 1 + 1, 0, none⟩) (by simp; omega) _
  have hsz3 : W3.heap.size = W.heap.size := by rw [← hW3]; simp [World.setCell]
  rw [hW3] at z0 z1 z2 z3
  rw [hW3]
  clear hW3
  have f1 := F1.out
  have f2 := F2.out
  have hK4 : (W3.alloc (.cells #[.int .i64 0, .int .i64 0, .int .i64 0] 212)).heap[D]? = some (.deferred (some [])) := (hKO.trans (KeepsOthers.alloc _ _)).same D _ HK.out rfl
  have y0 := cell_kept ((World.cell?_alloc_past (w := W3) (.cells #[.int .i64 0, .int .i64 0, .int .i64 0] 212) _ _ (by omega)).trans z0) (grownBy_putObj' _ D (.deferred none)) (fun r e => by cases e; exact ⟨_, hK4, rfl⟩)
  have y1 := cell_kept ((World.cell?_alloc_past (w := W3) (.cells #[.int .i64 0, .int .i64 0, .int .i64 0] 212) _ _ (by omega)).trans z1) (grownBy_putObj' _ D (.deferred none)) (fun r e => by cases e; exact ⟨_, hK4, rfl⟩)
  have y2 := cell_kept ((World.cell?_alloc_past (w := W3) (.cells #[.int .i64 0, .int .i64 0, .int .i64 0] 212) _ _ (by omega)).trans z2) (grownBy_putObj' _ D (.deferred none)) (fun r e => by cases e; exact ⟨_, hK4, rfl⟩)
  have y3 := cell_kept ((World.cell?_alloc_past (w := W3) (.cells #[.int .i64 0, .int .i64 0, .int .i64 0] 212) _ _ (by omega)).trans z3) (grownBy_putObj' _ D (.deferred none)) (fun r e => by cases e; exact ⟨_, hK4, rfl⟩)
  refine ⟨by simp, .inl ⟨_, _, rfl, run_takeDeferred hK4, ?_⟩⟩
  refine ⟨.tuple #[.agg #[.int .i64 0, .int .i64 0, .int .i64 0], .bool false], ?_, ?_, ?_⟩
  ·simp [results, Tryz.results143, go_sem, y0, y1, y2, y3]
  ·rw [findF_none Hp.out]; rfl
  ·exact (hBe.alloc (by omega) _).trans (belowK_b (w := w2) (by omega) _ D _ _ (by omega) hK4 rfl rfl)
 case stop =>
  rintro D c pre W hD ⟨t, ht⟩ ⟨⟨rfl, pre', x, he, ho, hx, k0, k1, k2, k3⟩, hb⟩ hK
  gi_wp2
  refine ⟨by simp, .inl ⟨_, _, rfl, run_takeDeferred hK, ?_⟩⟩
  have z0 := cell_kept k0 (grownBy_putObj' _ D (.deferred none)) (fun r e => by cases e; exact ⟨_, hK, rfl⟩)
  have z1 := cell_kept k1 (grownBy_putObj' _ D (.deferred none)) (fun r e => by cases e; exact ⟨_, hK, rfl⟩)
  have z2 := cell_kept k2 (grownBy_putObj' _ D (.deferred none)) (fun r e => by cases e; exact ⟨_, hK, rfl⟩)
  have z3 := cell_kept k3 (grownBy_putObj' _ D (.deferred none)) (fun r e => by cases e; exact ⟨_, hK, rfl⟩)
  refine ⟨.tuple #[fdV x, .bool true], ?_, ?_, ?_⟩
  ·simp [results, Tryz.results143, go_sem, z0, z1, z2, z3]
  ·rw [ht, he, findF_some ho hx]; rfl
  ·exact (hB.trans hb).trans (belowK_b (w := w2) (by omega) W D _ _ (by omega) hK rfl rfl)
set_option maxHeartbeats 4000000 in
theorem first_fd33 (G : Grid) (w : World) (P : Fd → Bool) (Bx : Nat) (cx : w.cell? ⟨Bx, 0, none⟩ = some G.v) (hG : G.In w.heap.size w) (lx : Bx < w.heap.size)
  (HI : ∀ W, Below w.heap.size w W → ∀ f : Fd, Calls Tryz.prog 146 (#[fdV f] ++ #[]) W fun e w' => e = .returned (.bool (P f)) ∧ Below W.heap.size W w') :
  Calls Tryz.prog 143 #[.func (.func 183) #[] #[.pointer (some ⟨Bx, 0, none⟩)], Value.func (Fn.func 146) #[] #[]] w fun e w' => e = .returned (foundF ((fieldsOf G).find? P)) ∧ Below w.heap.size w w' := by
 refine (callsIn_wide (n := 3)).1 (callsIn_of_wp_marks Tryz.func143 rfl trivial ?_ rfl)
 simp only [Tryz.ntmps143, List.size_toArray, List.length_cons, List.length_nil, Nat.reduceAdd, Nat.reduceSub, Array.replicate_succ, Array.replicate_zero, List.push_toArray, List.append_toArray, List.nil_append, List.cons_append]
 simp only [List.append_toArray, List.cons_append, List.nil_append] at HI
 have HI' := Lib.hid HI
 have Hcx := Lib.hid cx
 clear cx HI
 gi_wp2
 obtain ⟨w2, hw2⟩ : ∃ w2, (((w.alloc (.cells #[Value.func (Fn.func 146) #[] #[]] 219)).alloc (.cells #[.int .i64 0, .int .i64 0, .int .i64 0] 212)).alloc (.cells #[.bool false] 4)) = w2 := ⟨_, rfl⟩
 have hB : Below w.heap.size w w2 := by rw [← hw2]; exact bel_alloc (bel_alloc (bel_alloc (Below.refl _ _) _) _) _
 have hsz : w2.heap.size = w.heap.size + 3 := by rw [← hw2]; simp
 have r3 : w2.cell? ⟨w.heap.size, 0, none⟩ = some (Value.func (Fn.func 146) #[] #[]) := by rw [← hw2]; simp [go_sem]
 have r4 : (w2.cell? ⟨w.heap.size + 1, 0, none⟩ = some (.int .i64 0) ∧ w2.cell? ⟨w.heap.size + 1, 1, none⟩ = some (.int .i64 0) ∧ w2.cell? ⟨w.heap.size + 1, 2, none⟩ = some (.int .i64 0)) ∧ w2.frozen? ⟨w.heap.size + 1, 0, none⟩ = false ∧ w2.frozen? ⟨w.heap.size + 1, 1, none⟩ = false ∧ w2.frozen? ⟨w.heap.size + 1, 2, none⟩ = false := by rw [← hw2]; simp [go_sem]
 have r5 : w2.cell? ⟨w.heap.size + 1 + 1, 0, none⟩ = some (.bool false) ∧ w2.frozen? ⟨w.heap.size + 1 + 1, 0, none⟩ = false := by rw [← hw2]; simp [go_sem]
 rw [hw2]
 have c2x := (hB.cell (p := ⟨Bx, 0, none⟩) lx).trans Hcx.out
 have G2 : G.In w.heap.size w2 := hG.later hB (Nat.le_refl _)
 clear hw2
 have HcX := Lib.hid c2x
 have HR3 := Lib.hid r3
 have HR4 := Lib.hid r4
 have HR5 := Lib.hid r5
 clear c2x r3 r4 r5
 have hN : w2.heap.size ≤ w2.heap.size := Nat.le_refl _
 have hNw : w.heap.size ≤ w2.heap.size := by omega
 refine range_law (n := 2) (m := 1) (gf := 183) (lb := #[.pointer (some ⟨Bx, 0, none⟩)]) rfl (enters_of Tryz.func183 (by kernel_rfl) rfl) (encs := encF) (fun _ => rfl)
  (S := fun ys => ys = fieldsOf G) (Sp := fun pre => ∃ t, fieldsOf G = pre ++ t) (V := fun _ _ => True) (N := (fieldsOf G).length) (Kp := fun _ _ => True) (fun _ _ => trivial) (fun _ _ _ _ _ _ _ _ => trivial)
  (fun pre W => (∀ p ∈ pre, P p = false) ∧ Below w2.heap.size w2 W)
  (fun c pre W => (c = .ret ∧ ∃ pre' x, pre = pre' ++ [x] ∧ (∀ p ∈ pre', P p = false) ∧ P x = true ∧
   W.cell? ⟨w.heap.size + 1, 0, none⟩ = some (.int .i64 (x.1 : Int)) ∧ W.cell? ⟨w.heap.size + 1, 1, none⟩ = some (.int .i64 (x.2.1 : Int)) ∧ W.cell? ⟨w.heap.size + 1, 2, none⟩ = some (.int .i64 (x.2.2 : Int)) ∧ W.cell? ⟨w.heap.size + 1 + 1, 0, none⟩ = some (.bool true)) ∧ Below w.heap.size w2 W)
  ?hI ?hIx ⟨by simp, Below.refl _ _⟩
  (fun x a' W => ∃ b, w2.heap.size ≤ b ∧ W.cell? ⟨b, 0, none⟩ = some (.int .i64 (x.1 : Int)) ∧ W.cell? ⟨b, 1, none⟩ = some (.int .i64 (x.2.1 : Int)) ∧ W.cell? ⟨b, 2, none⟩ = some (.int .i64 (x.2.2 : Int)) ∧
   a' = { tmps := #[.func (.func 183) #[] #[.pointer (some ⟨Bx, 0, none⟩)], Value.func (Fn.func 146) #[] #[], undef,
    .pointer (some ⟨w.heap.size, 0, none⟩), .pointer (some ⟨w.heap.size + 1, 0, none⟩), .pointer (some ⟨w.heap.size + 1 + 1, 0, none⟩), .pointer (some ⟨b, 0, none⟩), undef,
    .func (.func 183) #[] #[.pointer (some ⟨Bx, 0, none⟩)], .agg #[.int .i64 (x.1 : Int), .int .i64 (x.2.1 : Int), .int .i64 (x.2.2 : Int)], undef, undef, undef, undef, undef], defers := [] })
  ?hAx ?hit ?assign ?body ?done ?stop
 case hI => exact fun s W W' row h hg hr => ⟨h.1, ownFrom_below (β := Unit) (B := w2.heap.size) (w₀ := w2) (by omega) (by omega) () W W' row h.2 hg hr⟩
 case hIx =>
  rintro c pre W W' row ⟨⟨rfl, pre', x, hp, ho, hx, k0, k1, k2, k3⟩, hb⟩ hg hr
  exact ⟨⟨rfl, pre', x, hp, ho, hx, cell_kept k0 hg (fun r e => (hr r e).2), cell_kept k1 hg (fun r e => (hr r e).2), cell_kept k2 hg (fun r e => (hr r e).2), cell_kept k3 hg (fun r e => (hr r e).2)⟩, ownFrom_below (β := Unit) (B := w2.heap.size) (w₀ := w2) (by omega) (by omega) () W W' row hb hg hr⟩
 case hAx =>
  rintro x a' _ W W' row ⟨b, hb, k0, k1, k2, e⟩ hg hr
  exact ⟨b, hb, cell_kept k0 hg (fun r e => (hr r e).2), cell_kept k1 hg (fun r e => (hr r e).2), cell_kept k2 hg (fun r e => (hr r e).2), e⟩
 case hit =>
  rintro W0 ⟨o, o', _, _, rfl⟩ hI0
  refine all_iter G 2 (by decide) Bx w2.heap.size _ _ ?_ ?_ ?_ _
  ·rintro pre W ⟨_, hW⟩
   exact ⟨(hW.cell (p := ⟨Bx, 0, none⟩) (by simp; omega)).trans HcX.out, G2.later (hW.mono hNw) (by have := hW.size; omega)⟩
  ·rintro pre W ⟨h, hW⟩
   exact ⟨h, hW.drew⟩
  ·rintro pre W W' ⟨h, hW⟩ hb
   exact ⟨h, hW.trans (hb.mono hW.size)⟩
 case assign =>
  rintro l pre x W K ⟨hp, hW⟩ hK
  simp only [encF]
  gi_wp2
  have hBW : Below W.heap.size W (W.alloc (.cells #[.int .i64 (x.1 : Int), .int .i64 (x.2.1 : Int), .int .i64 (x.2.2 : Int)] 212)) := bel_alloc (Below.refl _ _) _
  have hs := hW.size
  refine hK _ _ ((KeepsOthers.alloc _ _).from _) trivial ⟨hp, hW.trans (hBW.mono hs)⟩ ⟨W.heap.size, hs, by simp [go_sem], by simp [go_sem], by simp [go_sem], rfl⟩
 case body =>
  rintro l pre x a' W ⟨hp, hW⟩ ⟨b, hb, k0, k1, k2, rfl⟩ hlen _
  have hs := hW.size
  have hf : w.heap.size < w2.heap.size := by omega
  have c3 := (hW.cell (p := ⟨w.heap.size, 0, none⟩) (by simp; omega)).trans HR3.out
  have HC := HI'.out W (hB.trans (hW.mono hNw)) x
  have d0 := (hW.frozen (p := ⟨w.heap.size + 1, 0, none⟩) (by simp; omega)).trans HR4.out.2.1
  have d1 := (hW.frozen (p := ⟨w.heap.size + 1, 1, none⟩) (by simp; omega)).trans HR4.out.2.2.1
  have d2 := (hW.frozen (p := ⟨w.heap.size + 1, 2, none⟩) (by simp; omega)).trans HR4.out.2.2.2
  have d3 := (hW.frozen (p := ⟨w.heap.size + 1 + 1, 0, none⟩) (by simp; omega)).trans HR5.out.2
  have e0 := (hW.cell (p := ⟨w.heap.size + 1, 0, none⟩) (by simp; omega)).trans HR4.out.1.1
  have e1 := (hW.cell (p := ⟨w.heap.size + 1, 1, none⟩) (by simp; omega)).trans HR4.out.1.2.1
  have e2 := (hW.cell (p := ⟨w.heap.size + 1, 2, none⟩) (by simp; omega)).trans HR4.out.1.2.2
  have e3 := (hW.cell (p := ⟨w.heap.size + 1 + 1, 0, none⟩) (by simp; omega)).trans HR5.out.1
  have hW' := Lib.hid hW
  have Hp := Lib.hid hp
  clear hW hp
  generalize hr : P x = r at *
  have Hr := Lib.hid hr
  clear hr
  have hbW := World.block_lt_of_cell? W ⟨b, 0, none⟩ k0
  simp only at hbW
  have hf1 : w.heap.size + 1 < W.heap.size := by omega
  have hf2 : w.heap.size + 1 + 1 < W.heap.size := by omega
  have F1 := Lib.hid hf1
  have F2 := Lib.hid hf2
  have FB := Lib.hid hbW
  have HC1 := Lib.hid HC
  clear hf1 hf2 hbW HC
  cases r
  ·gi_wp2_with (refine ⟨trivial, ?_⟩; gi_at_call 146; refine (CallsIn.inRound l (callsIn_wide.2 HC1.out)).mono ?_; rintro e W' ⟨rfl, hb'⟩)
   exact ⟨keepsB hb', trivial, fun p hp => (List.mem_append.1 hp).elim (Hp.out p) (fun e => by simp at e; rw [e]; exact Hr.out), hW'.out.trans (hb'.mono hs)⟩
  ·gi_wp2_with (refine ⟨trivial, ?_⟩; gi_at_call 146; refine (CallsIn.inRound l (callsIn_wide.2 HC1.out)).mono ?_; rintro e W' ⟨rfl, hb'⟩; have k0' := (hb'.cell (p := ⟨b, 0, none⟩) FB.out).trans k0; have k1' := (hb'.cell (p := ⟨b, 1, none⟩) FB.out).trans k1; have k2' := (hb'.cell (p := ⟨b, 2, none⟩) FB.out).trans k2; have d0' := (hb'.frozen (p := ⟨w.heap.size + 1, 0, none⟩) F1.out).trans d0; have d1' := (hb'.frozen (p := ⟨w.heap.size + 1, 1, none⟩) F1.out).trans d1; have d2' := (hb'.frozen (p := ⟨w.heap.size + 1, 2, none⟩) F1.out).trans d2; have d3' := (hb'.frozen (p := ⟨w.heap.size + 1 + 1, 0, none⟩) F2.out).trans d3; have e0' := (hb'.cell (p := ⟨w.heap.size + 1, 0, none⟩) F1.out).trans e0; have e1' := (hb'.cell (p := ⟨w.heap.size + 1, 1, none⟩) F1.out).trans e1; have e2' := (hb'.cell (p := ⟨w.heap.size + 1, 2, none⟩) F1.out).trans e2; have e3' := (hb'.cell (p := ⟨w.heap.size + 1 + 1, 0, none⟩) F2.out).trans e3)
   obtain ⟨z0, z1, z2, z3⟩ := res4 (W := W') (b := w.heap.size + 1) (c := w.heap.size + 1 + 1) (by omega) (.int .i64 (x.1 : Int)) (.int .i64 (x.2.1 : Int)) (.int .i64 (x.2.2 : Int)) (.bool true) e0' e1' e2' e3'
   refine ⟨(keepsB hb').trans (((((KeepsOthers.setCell _ _ _).trans (KeepsOthers.setCell _ _ _)).trans (KeepsOthers.setCell _ _ _)).trans (KeepsOthers.setCell _ _ _)).from _), ⟨rfl, pre, x, rfl, Hp.out, Hr.out, z0, z1, z2, z3⟩, ?_⟩
   have b1 : Below w.heap.size w2 W' := (hW'.out.mono hNw).trans (hb'.mono (by omega))
   exact (((b1.setCell (p := ⟨w.heap.size + 1, 0, none⟩) (by simp) _).setCell (p := ⟨w.heap.size + 1, 1, none⟩) (by simp) _).setCell (p := ⟨w.heap.size + 1, 2, none⟩) (by simp) _).setCell (p := ⟨w.heap.size + 1 + 1, 0, none⟩) (by simp; omega) _
 case done =>
  rintro D ys W hD rfl ⟨hp, hW⟩ hK
  have hs := hW.size
  have hf1 : w.heap.size + 1 < W.heap.size := by omega
  have hf2 : w.heap.size + 1 + 1 < W.heap.size := by omega
  have d0 := (hW.frozen (p := ⟨w.heap.size + 1, 0, none⟩) (by simp; omega)).trans HR4.out.2.1
  have d1 := (hW.frozen (p := ⟨w.heap.size + 1, 1, none⟩) (by simp; omega)).trans HR4.out.2.2.1
  have d2 := (hW.frozen (p := ⟨w.heap.size + 1, 2, none⟩) (by simp; omega)).trans HR4.out.2.2.2
  have d3 := (hW.frozen (p := ⟨w.heap.size + 1 + 1, 0, none⟩) (by simp; omega)).trans HR5.out.2
  have e0 := (hW.cell (p := ⟨w.heap.size + 1, 0, none⟩) (by simp; omega)).trans HR4.out.1.1
  have e1 := (hW.cell (p := ⟨w.heap.size + 1, 1, none⟩) (by simp; omega)).trans HR4.out.1.2.1
  have e2 := (hW.cell (p := ⟨w.heap.size + 1, 2, none⟩) (by simp; omega)).trans HR4.out.1.2.2
  have e3 := (hW.cell (p := ⟨w.heap.size + 1 + 1, 0, none⟩) (by simp; omega)).trans HR5.out.1
  have hW' := Lib.hid hW
  have Hp := Lib.hid hp
  have HK := Lib.hid hK
  have F1 := Lib.hid hf1
  have F2 := Lib.hid hf2
  clear hW hp hK
  gi_wp2
  obtain ⟨z0, z1, z2, z3⟩ := res4 (W := W) (b := w.heap.size + 1) (c := w.heap.size + 1 + 1) (by omega) (.int .i64 0) (.int .i64 0) (.int .i64 0) (.bool false) e0 e1 e2 e3
  obtain ⟨W3, hW3⟩ : ∃ W3, ((((W.setCell ⟨w.heap.size + 1, 0, none⟩ (.int .i64 0)).setCell ⟨w.heap.size + 1, 1, none⟩ (.int .i64 0)).setCell ⟨w.heap.size + 1, 2, none⟩ (.int .i64 0)).setCell ⟨w.heap.size + 1 + 1, 0, none⟩ (.bool false)) = W3 := ⟨_, rfl⟩
  have hKO : KeepsOthers W W3 := by rw [← hW3]; exact (((KeepsOthers.setCell _ _ _).trans (KeepsOthers.setCell _ _ _)).trans (KeepsOthers.setCell _ _ _)).trans (KeepsOthers.setCell _ _ _)
  have hBe : Below w.heap.size w W3 := by
   rw [← hW3]
   exact ((((hB.trans (hW'.out.mono hNw)).setCell (p := ⟨w.heap.size + 1, 0, none⟩) (by simp) _).setCell (p := ⟨w.heap.size + 1, 1, none⟩) (by simp) _).setCell (p := ⟨w.heap.size + 1, 2, none⟩) (by simp) _).setCell (p := ⟨w.heap.size + 1 + 1, 0, none⟩) (by simp; omega) _
  have hsz3 : W3.heap.size = W.heap.size := by rw [← hW3]; simp [World.setCell]
  rw [hW3] at z0 z1 z2 z3
  rw [hW3]
  clear hW3
  have f1 := F1.out
  have f2 := F2.out
  have hK4 : (W3.alloc (.cells #[.int .i64 0, .int .i64 0, .int .i64 0] 212)).heap[D]? = some (.deferred (some [])) := (hKO.trans (KeepsOthers.alloc _ _)).same D _ HK.out rfl
  have y0 := cell_kept ((World.cell?_alloc_past (w := W3) (.cells #[.int .i64 0, .int .i64 0, .int .i64 0] 212) _ _ (by omega)).trans z0) (grownBy_putObj' _ D (.deferred none)) (fun r e => by cases e; exact ⟨_, hK4, rfl⟩)
  have y1 := cell_kept ((World.cell?_alloc_past (w := W3) (.cells #[.int .i64 0, .int .i64 0, .int .i64 0] 212) _ _ (by omega)).trans z1) (grownBy_putObj' _ D (.deferred none)) (fun r e => by cases e; exact ⟨_, hK4, rfl⟩)
  have y2 := cell_kept ((World.cell?_alloc_past (w := W3) (.cells #[.int .i64 0, .int .i64 0, .int .i64 0] 212) _ _ (by omega)).trans z2) (grownBy_putObj' _ D (.deferred none)) (fun r e => by cases e; exact ⟨_, hK4, rfl⟩)
  have y3 := cell_kept ((World.cell?_alloc_past (w := W3) (.cells #[.int .i64 0, .int .i64 0, .int .i64 0] 212) _ _ (by omega)).trans z3) (grownBy_putObj' _ D (.deferred none)) (fun r e => by cases e; exact ⟨_, hK4, rfl⟩)
  refine ⟨by simp, .inl ⟨_, _, rfl, run_takeDeferred hK4, ?_⟩⟩
  refine ⟨.tuple #[.agg #[.int .i64 0, .int .i64 0, .int .i64 0], .bool false], ?_, ?_, ?_⟩
  ·simp [results, Tryz.results143, go_sem, y0, y1, y2, y3]
  ·rw [findF_none Hp.out]; rfl
  ·exact (hBe.alloc (by omega) _).trans (belowK_b (w := w2) (by omega) _ D _ _ (by omega) hK4 rfl rfl)
 case stop =>
  rintro D c pre W hD ⟨t, ht⟩ ⟨⟨rfl, pre', x, he, ho, hx, k0, k1, k2, k3⟩, hb⟩ hK
  gi_wp2
  refine ⟨by simp, .inl ⟨_, _, rfl, run_takeDeferred hK, ?_⟩⟩
  have z0 := cell_kept k0 (grownBy_putObj' _ D (.deferred none)) (fun r e => by cases e; exact ⟨_, hK, rfl⟩)
  have z1 := cell_kept k1 (grownBy_putObj' _ D (.deferred none)) (fun r e => by cases e; exact ⟨_, hK, rfl⟩)
  have z2 := cell_kept k2 (grownBy_putObj' _ D (.deferred none)) (fun r e => by cases e; exact ⟨_, hK, rfl⟩)
  have z3 := cell_kept k3 (grownBy_putObj' _ D (.deferred none)) (fun r e => by cases e; exact ⟨_, hK, rfl⟩)
  refine ⟨.tuple #[fdV x, .bool true], ?_, ?_, ?_⟩
  ·simp [results, Tryz.results143, go_sem, z0, z1, z2, z3]
  ·rw [ht, he, findF_some ho hx]; rfl
  ·exact (hB.trans hb).trans (belowK_b (w := w2) (by omega) W D _ _ (by omega) hK rfl rfl)
end Go.Proofs.YtpjooboohelffaaGreatDoor.F16
/- The walk of the field's Tab. -/
namespace Go.Proofs.YtpjooboohelffaaGreatDoor.F16
open Go.RowKit Go.Shelf
set_option linter.unusedVariables false
set_option linter.unusedSimpArgs false
set_option maxRecDepth 100000
theorem all_any (G : Grid) (w : World) : Calls Tryz.prog 144 #[G.v] w fun e w' => e = .returned (.func (.func 183) #[] #[.pointer (some ⟨w.heap.size, 0, none⟩)]) ∧ w' = w.alloc (.cells #[G.v] 37) := by
 unfold Grid.v
 go_enter Tryz.func144, Tryz.ntmps144
 go_wp2_with fail
 go_ret
 exact ⟨rfl, rfl⟩
theorem res2 {W : World} {b : Nat} {u0 u1 : Value} (v0 v1 : Value) (e0 : W.cell? ⟨b, 0, none⟩ = some u0) (e1 : W.cell? ⟨b, 1, none⟩ = some u1) :
  ((W.setCell ⟨b, 0, none⟩ v0).setCell ⟨b, 1, none⟩ v1).cell? ⟨b, 0, none⟩ = some v0 ∧ ((W.setCell ⟨b, 0, none⟩ v0).setCell ⟨b, 1, none⟩ v1).cell? ⟨b, 1, none⟩ = some v1 := by
 have n1 : (⟨b, 0, none⟩ : Addr) ≠ ⟨b, 1, none⟩ := by simp
 have x0 : (W.setCell ⟨b, 0, none⟩ v0).cell? ⟨b, 0, none⟩ = some v0 := World.cell?_setCell_same' _ _ _ (by rw [e0]; rfl)
 have x1 : (W.setCell ⟨b, 0, none⟩ v0).cell? ⟨b, 1, none⟩ = some u1 := (World.cell?_setCell_other _ _ _ _ n1).trans e1
 exact ⟨(World.cell?_setCell_other _ _ _ _ n1.symm).trans x0, World.cell?_setCell_same' _ _ _ (by rw [x1]; rfl)⟩
theorem foundF_form (o : Option Fd) : ∃ (x y z : Int) (f : Bool), foundF o = .tuple #[.agg #[.int .i64 x, .int .i64 y, .int .i64 z], .bool f] ∧ (∀ p, o = some p → x = p.1 ∧ y = p.2.1 ∧ f = true) ∧ (o = none → x = 0 ∧ y = 0 ∧ f = false) := by
 cases o with
 | none => exact ⟨0, 0, 0, false, rfl, fun p h => (by cases h), fun _ => ⟨rfl, rfl, rfl⟩⟩
 | some p => exact ⟨_, _, _, _, rfl, fun q h => (by cases h; exact ⟨rfl, rfl, rfl⟩), fun h => (by cases h)⟩
/-- Whether a field begins behind a place. -/
def behind (G : Grid) (a : Int) (f : Fd) : Bool := decide (a < G.num f.1 f.2.1 0)
/-- What Tab answers. -/
noncomputable def tabOf (G : Grid) (r c : Int) : Option Fd := ((fieldsOf G).find? (behind G (G.num r c (-1)))).or ((fieldsOf G).find? (fun _ => true))
def tabV (o : Option Fd) : Value := match o with
 | some f => .tuple #[posV f.1 f.2.1, .bool true]
 | none => .tuple #[posV 0 0, .bool false]
set_option maxHeartbeats 4000000 in
theorem tab_ok (G : Grid) (r c : Int) (w : World) (h : G.In w.heap.size w) (hok : G.Ok) : Fn w 108 #[G.v, posV r c] (tabV (tabOf G r c)) := by
 have HC : ∀ W, Below w.heap.size w W → Fn W 37 #[G.v] (.int .i64 0) := fun W hW => by
  have := check_any G W (h.later hW hW.size)
  rwa [okB_yes hok] at this
 have HN : ∀ W, Below w.heap.size w W → Fn W 141 #[G.v, posV r c, .int .i64 (-1)] (.int .i64 (G.num r c (-1))) := fun W hW => number_any G r c (-1) W (h.later hW hW.size) hok
 have HL := fun W => all_any G W
 have HB := fun x y z W => begin_fd x y z W
 obtain ⟨o1, ho1⟩ : ∃ o1, (fieldsOf G).find? (behind G (G.num r c (-1))) = o1 := ⟨_, rfl⟩
 obtain ⟨o2, ho2⟩ : ∃ o2, (fieldsOf G).find? (fun _ => true) = o2 := ⟨_, rfl⟩
 have hres : tabOf G r c = o1.or o2 := by unfold tabOf; rw [ho1, ho2]
 rw [hres]
 have H1 : ∀ W b6 b7 Bx, Below w.heap.size w W → Bx < W.heap.size → b6 < W.heap.size → b7 < W.heap.size → w.heap.size < W.heap.size → W.cell? ⟨w.heap.size, 0, none⟩ = some G.v → W.cell? ⟨b6, 0, none⟩ = some (.int .i64 (G.num r c (-1))) → W.cell? ⟨b7, 0, none⟩ = some (.func (.func 142) #[] #[]) → W.cell? ⟨Bx, 0, none⟩ = some G.v →
   Calls Tryz.prog 143 #[.func (.func 183) #[] #[.pointer (some ⟨Bx, 0, none⟩)], .func (.func 145) #[] #[.pointer (some ⟨w.heap.size, 0, none⟩), .pointer (some ⟨b7, 0, none⟩), .pointer (some ⟨b6, 0, none⟩)]] W fun e w' => e = .returned (foundF o1) ∧ Below W.heap.size W w' := by
  intro W b6 b7 Bx hW l1 l2 l3 l4 c2 c6 c7 cx
  rw [← ho1]
  refine first_fd32 G W (behind G (G.num r c (-1))) Bx w.heap.size b7 b6 cx (h.later hW hW.size) l1 (fun X hX f => ?_)
  exact behind_fd G f.1 f.2.1 f.2.2 (G.num r c (-1)) w.heap.size b7 b6 X (h.later (hW.trans (hX.mono hW.size)) (Nat.le_trans hW.size hX.size)) hok ((hX.cell (p := ⟨w.heap.size, 0, none⟩) l4).trans c2) ((hX.cell (p := ⟨b7, 0, none⟩) l3).trans c7) ((hX.cell (p := ⟨b6, 0, none⟩) l2).trans c6)
 have H2 : ∀ W Bx, Below w.heap.size w W → Bx < W.heap.size → W.cell? ⟨Bx, 0, none⟩ = some G.v →
   Calls Tryz.prog 143 #[.func (.func 183) #[] #[.pointer (some ⟨Bx, 0, none⟩)], .func (.func 146) #[] #[]] W fun e w' => e = .returned (foundF o2) ∧ Below W.heap.size W w' := by
  intro W Bx hW l1 cx
  rw [← ho2]
  exact first_fd33 G W (fun _ => true) Bx cx (h.later hW hW.size) l1 (fun X hX f => true_fd _ f.1 f.2.1 f.2.2 rfl X)
 obtain ⟨x1, y1, z1, f1, hf1, g1, g1'⟩ := foundF_form o1
 obtain ⟨x2, y2, z2, f2, hf2, g2, g2'⟩ := foundF_form o2
 have hfin : tabV (o1.or o2) = if f1 then .tuple #[posV x1 y1, .bool true] else .tuple #[posV x2 y2, .bool f2] := by
  cases o1 with
  | some p =>
   obtain ⟨rfl, rfl, rfl⟩ := g1 p rfl
   rfl
  | none =>
   obtain ⟨rfl, rfl, rfl⟩ := g1' rfl
   cases o2 with
   | some p =>
    obtain ⟨rfl, rfl, rfl⟩ := g2 p rfl
    rfl
   | none =>
    obtain ⟨rfl, rfl, rfl⟩ := g2' rfl
    rfl
 rw [hfin]
 rw [hf1] at H1
 rw [hf2] at H2
 clear hfin hf1 hf2 g1 g1' g2 g2' hres ho1 ho2
 unfold Fn posV at *
 unfold Grid.v at *
 generalize G.num r c (-1) = nn at *
 have HC' := Lib.hid HC
 have HN' := Lib.hid HN
 have HL' := Lib.hid HL
 have HB' := Lib.hid HB
 have H1' := Lib.hid H1
 have H2' := Lib.hid H2
 clear HC HN HL HB H1 H2 h hok
 go_enter Tryz.func108, Tryz.ntmps108
 go_wp2_with fail
 obtain ⟨w0, hw0⟩ : ∃ w0, ((w.alloc (.cells #[.slice G.a G.n G.cap] 37)).alloc (.cells #[.int .i64 r, .int .i64 c] 36)).alloc (.cells #[.int .i64 0, .int .i64 0] 36) = w0 := ⟨_, rfl⟩
 have B0 : Below w.heap.size w w0 := by rw [← hw0]; exact bel_alloc (bel_alloc (bel_alloc (Below.refl _ _) _) _) _
 have hs0 : w0.heap.size = w.heap.size + 3 := by rw [← hw0]; simp
 have k0 : w0.cell? ⟨w.heap.size, 0, none⟩ = some (.slice G.a G.n G.cap) := by rw [← hw0]; simp [go_sem]
 have k1 : w0.cell? ⟨w.heap.size + 1, 0, none⟩ = some (.int .i64 r) := by rw [← hw0]; simp [go_sem]
 have k2 : w0.cell? ⟨w.heap.size + 1, 1, none⟩ = some (.int .i64 c) := by rw [← hw0]; simp [go_sem]
 have k3 : w0.cell? ⟨w.heap.size + 1 + 1, 0, none⟩ = some (.int .i64 0) := by rw [← hw0]; simp [go_sem]
 have k4 : w0.cell? ⟨w.heap.size + 1 + 1, 1, none⟩ = some (.int .i64 0) := by rw [← hw0]; simp [go_sem]
 have k5 : w0.frozen? ⟨w.heap.size + 1 + 1, 0, none⟩ = false := by rw [← hw0]; simp [go_sem]
 have k6 : w0.frozen? ⟨w.heap.size + 1 + 1, 1, none⟩ = false := by rw [← hw0]; simp [go_sem]
 rw [hw0]
 have KB := Lib.hid (show ∀ W, Below w0.heap.size w0 W → W.cell? ⟨w.heap.size, 0, none⟩ = some (.slice G.a G.n G.cap) ∧ W.cell? ⟨w.heap.size + 1, 0, none⟩ = some (.int .i64 r) ∧ W.cell? ⟨w.heap.size + 1, 1, none⟩ = some (.int .i64 c) ∧ W.cell? ⟨w.heap.size + 1 + 1, 0, none⟩ = some (.int .i64 0) ∧ W.cell? ⟨w.heap.size + 1 + 1, 1, none⟩ = some (.int .i64 0) ∧ W.frozen? ⟨w.heap.size + 1 + 1, 0, none⟩ = false ∧ W.frozen? ⟨w.heap.size + 1 + 1, 1, none⟩ = false from fun W hW =>
  ⟨(hW.cell (p := ⟨w.heap.size, 0, none⟩) (by simp; omega)).trans k0, (hW.cell (p := ⟨w.heap.size + 1, 0, none⟩) (by simp; omega)).trans k1, (hW.cell (p := ⟨w.heap.size + 1, 1, none⟩) (by simp; omega)).trans k2, (hW.cell (p := ⟨w.heap.size + 1 + 1, 0, none⟩) (by simp; omega)).trans k3, (hW.cell (p := ⟨w.heap.size + 1 + 1, 1, none⟩) (by simp; omega)).trans k4, (hW.frozen (p := ⟨w.heap.size + 1 + 1, 0, none⟩) (by simp; omega)).trans k5, (hW.frozen (p := ⟨w.heap.size + 1 + 1, 1, none⟩) (by simp; omega)).trans k6⟩)
 clear k0 k1 k2 k3 k4 k5 k6 hw0
 refine (HC'.out _ B0).mono ?_
 rintro e w1 ⟨rfl, hb1⟩
 have B1 := bel_call B0 hb1
 obtain ⟨k0, k1, k2, -⟩ := KB.out _ hb1
 go_wp2_with fail
 refine (HN'.out _ B1).mono ?_
 rintro e w2 ⟨rfl, hb2⟩
 have B2 := bel_call B1 hb2
 have b2 := bel_call hb1 hb2
 clear k0 k1 k2 hb1 hb2
 obtain ⟨k0, -⟩ := KB.out _ b2
 have hsz := b2.size
 have l0 : w.heap.size < w2.heap.size := by omega
 have L0 := Lib.hid l0
 clear l0 hsz
 have k0' := (World.cell?_alloc_lt (w2.alloc (.cells #[.int .i64 nn] 3)) (.cells #[.func (.func 142) #[] #[]] 213) ⟨w.heap.size, 0, none⟩ (by simp; exact Nat.lt_succ_of_lt L0.out)).trans ((World.cell?_alloc_lt w2 (.cells #[.int .i64 nn] 3) ⟨w.heap.size, 0, none⟩ L0.out).trans k0)
 go_wp2_with fail
 refine (HL'.out _).mono ?_
 rintro e w3 ⟨rfl, rfl⟩
 obtain ⟨w3, hw3⟩ : ∃ w3, ((w2.alloc (.cells #[.int .i64 nn] 3)).alloc (.cells #[.func (.func 142) #[] #[]] 213)).alloc (.cells #[.slice G.a G.n G.cap] 37) = w3 := ⟨_, rfl⟩
 have B23 : Below w2.heap.size w2 w3 := by rw [← hw3]; exact bel_alloc (bel_alloc (bel_alloc (Below.refl _ _) _) _) _
 have B3 := bel_call B2 B23
 have b3 := bel_call b2 B23
 have hs3 : w3.heap.size = w2.heap.size + 3 := by rw [← hw3]; simp
 have c6 : w3.cell? ⟨w2.heap.size, 0, none⟩ = some (.int .i64 nn) := by rw [← hw3]; simp [go_sem]
 have c7 : w3.cell? ⟨w2.heap.size + 1, 0, none⟩ = some (.func (.func 142) #[] #[]) := by rw [← hw3]; simp [go_sem]
 have cx : w3.cell? ⟨w2.heap.size + 1 + 1, 0, none⟩ = some (.slice G.a G.n G.cap) := by rw [← hw3]; simp [go_sem]
 have ez : ((w2.alloc (.cells #[.int .i64 nn] 3)).alloc (.cells #[.func (.func 142) #[] #[]] 213)).heap.size = w2.heap.size + 1 + 1 := by simp
 rw [hw3, ez]
 clear hw3 ez k0 k0' b2 B2 B23
 obtain ⟨k0, -⟩ := KB.out _ b3
 have H1c := Lib.hid (H1'.out w3 w2.heap.size (w2.heap.size + 1) (w2.heap.size + 1 + 1) B3 (by omega) (by omega) (by omega) (by have := L0.out; omega) k0 c6 c7 cx)
 have C7 := Lib.hid c7
 have S3 := Lib.hid hs3
 have T0 := Lib.hid k0
 clear c6 c7 cx hs3 k0
 go_wp2_with fail
 refine H1c.out.mono ?_
 rintro e w4 ⟨rfl, hb4⟩
 have B4 := bel_call B3 hb4
 have b4 := bel_call b3 hb4
 have l7 : w2.heap.size + 1 < w4.heap.size := by have := hb4.size; have := S3.out; omega
 have c7 := (hb4.cell (p := ⟨w2.heap.size + 1, 0, none⟩) (by have := S3.out; simp; omega)).trans C7.out
 have c7' := (World.cell?_alloc_lt w4 (.cells #[.int .i64 x1, .int .i64 y1, .int .i64 z1] 212) ⟨w2.heap.size + 1, 0, none⟩ l7).trans c7
 obtain ⟨k0, -⟩ := KB.out _ (b4.alloc b4.size (.cells #[.int .i64 x1, .int .i64 y1, .int .i64 z1] 212))
 have L7 := Lib.hid l7
 have c7c := Lib.hid c7
 clear l7 c7
 have hb4' := Lib.hid hb4
 clear hb4
 cases f1
 ·go_wp2_with fail
  refine (HL'.out _).mono ?_
  rintro e w5 ⟨rfl, rfl⟩
  obtain ⟨w5, hw5⟩ : ∃ w5, (w4.alloc (.cells #[.int .i64 x1, .int .i64 y1, .int .i64 z1] 212)).alloc (.cells #[.slice G.a G.n G.cap] 37) = w5 := ⟨_, rfl⟩
  have B45 : Below w4.heap.size w4 w5 := by rw [← hw5]; exact bel_alloc (bel_alloc (Below.refl _ _) _) _
  have B5 := bel_call B4 B45
  have b5 := bel_call b4 B45
  have hs5 : w5.heap.size = w4.heap.size + 2 := by rw [← hw5]; simp
  have cx : w5.cell? ⟨w4.heap.size + 1, 0, none⟩ = some (.slice G.a G.n G.cap) := by rw [← hw5]; simp [go_sem]
  have d0 : w5.cell? ⟨w4.heap.size, 0, none⟩ = some (.int .i64 x1) := by rw [← hw5]; simp [go_sem]
  have d1 : w5.cell? ⟨w4.heap.size, 1, none⟩ = some (.int .i64 y1) := by rw [← hw5]; simp [go_sem]
  have d2 : w5.cell? ⟨w4.heap.size, 2, none⟩ = some (.int .i64 z1) := by rw [← hw5]; simp [go_sem]
  have f0 : w5.frozen? ⟨w4.heap.size, 0, none⟩ = false := by rw [← hw5]; simp [go_sem]
  have f1 : w5.frozen? ⟨w4.heap.size, 1, none⟩ = false := by rw [← hw5]; simp [go_sem]
  have f2' : w5.frozen? ⟨w4.heap.size, 2, none⟩ = false := by rw [← hw5]; simp [go_sem]
  have ez : (w4.alloc (.cells #[.int .i64 x1, .int .i64 y1, .int .i64 z1] 212)).heap.size = w4.heap.size + 1 := by simp
  rw [hw5, ez]
  clear hw5 ez c7' k0
  have H2c := Lib.hid (H2'.out w5 (w4.heap.size + 1) B5 (by omega) cx)
  have hlt4 : w4.heap.size < w5.heap.size := by omega
  have hs5' := Lib.hid hs5
  clear cx hs5
  have D := Lib.hid (show _ ∧ _ ∧ _ ∧ _ ∧ _ ∧ _ from ⟨d0, d1, d2, f0, f1, f2'⟩)
  clear d0 d1 d2 f0 f1 f2'
  go_wp2_with fail
  refine H2c.out.mono ?_
  rintro e w6 ⟨rfl, hb6⟩
  obtain ⟨d0, d1, d2, f0, f1, f2'⟩ := D.out
  have d0 := (hb6.cell (p := ⟨w4.heap.size, 0, none⟩) hlt4).trans d0
  have d1 := (hb6.cell (p := ⟨w4.heap.size, 1, none⟩) hlt4).trans d1
  have d2 := (hb6.cell (p := ⟨w4.heap.size, 2, none⟩) hlt4).trans d2
  have f0 := (hb6.frozen (p := ⟨w4.heap.size, 0, none⟩) hlt4).trans f0
  have f1 := (hb6.frozen (p := ⟨w4.heap.size, 1, none⟩) hlt4).trans f1
  have f2' := (hb6.frozen (p := ⟨w4.heap.size, 2, none⟩) hlt4).trans f2'
  have B46 : Below w4.heap.size w4 w6 := B45.trans (hb6.mono (by omega))
  obtain ⟨w7, hw7⟩ : ∃ w7, ((w6.setCell ⟨w4.heap.size, 0, none⟩ (.int .i64 x2)).setCell ⟨w4.heap.size, 1, none⟩ (.int .i64 y2)).setCell ⟨w4.heap.size, 2, none⟩ (.int .i64 z2) = w7 := ⟨_, rfl⟩
  have B47 : Below w4.heap.size w4 w7 := by
   rw [← hw7]
   exact ((B46.setCell (p := ⟨w4.heap.size, 0, none⟩) (Nat.le_refl _) _).setCell (p := ⟨w4.heap.size, 1, none⟩) (Nat.le_refl _) _).setCell (p := ⟨w4.heap.size, 2, none⟩) (Nat.le_refl _) _
  have B7 := bel_call B4 B47
  have b7 := bel_call b4 B47
  have c7 := (B47.cell (p := ⟨w2.heap.size + 1, 0, none⟩) L7.out).trans c7c.out
  have n : ∀ i j : Nat, i ≠ j → (⟨w4.heap.size, i, none⟩ : Addr) ≠ ⟨w4.heap.size, j, none⟩ := fun i j h e => h (by cases e; rfl)
  have q0 : w7.cell? ⟨w4.heap.size, 0, none⟩ = some (.int .i64 x2) := by
   rw [← hw7, World.cell?_setCell_other _ _ _ _ (n 2 0 (by decide)), World.cell?_setCell_other _ _ _ _ (n 1 0 (by decide))]
   exact World.cell?_setCell_same' _ _ _ (by rw [d0]; rfl)
  have q1 : w7.cell? ⟨w4.heap.size, 1, none⟩ = some (.int .i64 y2) := by
   rw [← hw7, World.cell?_setCell_other _ _ _ _ (n 2 1 (by decide))]
   exact World.cell?_setCell_same' _ _ _ (by rw [World.cell?_setCell_other _ _ _ _ (n 0 1 (by decide)), d1]; rfl)
  have q2 : w7.cell? ⟨w4.heap.size, 2, none⟩ = some (.int .i64 z2) := by
   rw [← hw7]
   exact World.cell?_setCell_same' _ _ _ (by rw [World.cell?_setCell_other _ _ _ _ (n 1 2 (by decide)), World.cell?_setCell_other _ _ _ _ (n 0 2 (by decide)), d2]; rfl)
  clear n hb6 B46 B47 D hlt4
  go_wp2_with fail
  refine (HB'.out _ _ _ _).mono ?_
  rintro e w8 ⟨rfl, hb8⟩
  obtain ⟨-, -, -, k3, k4, k5, k6⟩ := KB.out _ (bel_call b7 hb8)
  obtain ⟨z0, z1⟩ := res2 (W := w8) (b := w.heap.size + 1 + 1) (.int .i64 x2) (.int .i64 y2) k3 k4
  go_wp2
  refine bodyPost_ret (v := .tuple #[.agg #[.int .i64 x2, .int .i64 y2], .bool f2]) (by simp [results, Tryz.results108, go_sem, z0, z1]) rfl ⟨rfl, ?_⟩
  exact ((bel_call B7 hb8).setCell (p := ⟨w.heap.size + 1 + 1, 0, none⟩) (by simp; omega) _).setCell (p := ⟨w.heap.size + 1 + 1, 1, none⟩) (by simp; omega) _
 ·go_wp2_with fail
  refine (HB'.out _ _ _ _).mono ?_
  rintro e w6 ⟨rfl, hb6⟩
  obtain ⟨-, -, -, k3, k4, k5, k6⟩ := KB.out _ (bel_call (b4.alloc b4.size _) hb6)
  obtain ⟨z0, z1⟩ := res2 (W := w6) (b := w.heap.size + 1 + 1) (.int .i64 x1) (.int .i64 y1) k3 k4
  go_wp2
  refine bodyPost_ret (v := .tuple #[.agg #[.int .i64 x1, .int .i64 y1], .bool true]) (by simp [results, Tryz.results108, go_sem, z0, z1]) rfl ⟨rfl, ?_⟩
  exact ((bel_call (bel_alloc B4 _) hb6).setCell (p := ⟨w.heap.size + 1 + 1, 0, none⟩) (by simp; omega) _).setCell (p := ⟨w.heap.size + 1 + 1, 1, none⟩) (by simp; omega) _
theorem tab_not (G : Grid) (r c : Int) (w : World) (h : G.In w.heap.size w) (hok : ¬ G.Ok) : Fn w 108 #[G.v, posV r c] (.tuple #[posV 0 0, .bool false]) := by
 have HC : ∀ W, Below w.heap.size w W → Fn W 37 #[G.v] (.int .i64 10) := fun W hW => by
  have := check_any G W (h.later hW hW.size)
  rwa [not_okB hok] at this
 unfold Fn posV at *
 unfold Grid.v at *
 have HC' := Lib.hid HC
 clear HC h hok
 go_enter Tryz.func108, Tryz.ntmps108
 go_wp2_with fail
 refine (HC'.out _ (bel_alloc (bel_alloc (bel_alloc (Below.refl _ _) _) _) _)).mono ?_
 rintro e w1 ⟨rfl, hb1⟩
 have k3 := hb1.cell (p := ⟨w.heap.size + 1 + 1, 0, none⟩) (by simp)
 have k4 := hb1.cell (p := ⟨w.heap.size + 1 + 1, 1, none⟩) (by simp)
 have k5 := hb1.frozen (p := ⟨w.heap.size + 1 + 1, 0, none⟩) (by simp)
 have k6 := hb1.frozen (p := ⟨w.heap.size + 1 + 1, 1, none⟩) (by simp)
 simp [go_sem] at k3 k4 k5 k6
 have BW := bel_call (bel_alloc (bel_alloc (bel_alloc (Below.refl _ _) _) _) _) hb1
 obtain ⟨z0, z1⟩ := res2 (W := w1) (b := w.heap.size + 1 + 1) (.int .i64 0) (.int .i64 0) k3 k4
 go_wp2
 refine bodyPost_ret (v := .tuple #[.agg #[.int .i64 0, .int .i64 0], .bool false]) (by simp [results, Tryz.results108, go_sem, z0, z1]) rfl ⟨rfl, ?_⟩
 exact (BW.setCell (p := ⟨w.heap.size + 1 + 1, 0, none⟩) (by simp; omega) _).setCell (p := ⟨w.heap.size + 1 + 1, 1, none⟩) (by simp; omega) _
theorem tab_any (G : Grid) (r c : Int) (w : World) (h : G.In w.heap.size w) : Fn w 108 #[G.v, posV r c] (tabV (tabOf G r c)) := by
 by_cases hok : G.Ok
 ·exact tab_ok G r c w h hok
 ·have e : tabOf G r c = none := by unfold tabOf fieldsOf; rw [not_okB hok]; simp
  rw [e]
  exact tab_not G r c w h hok
end Go.Proofs.YtpjooboohelffaaGreatDoor.F16
