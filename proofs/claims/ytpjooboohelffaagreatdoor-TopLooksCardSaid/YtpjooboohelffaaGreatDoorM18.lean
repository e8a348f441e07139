/- TopLooks and TopSends, helper 19 of 27. It holds: a Wyse 60: put; a Wyse 60: feed, goes; The fields of a row, and of rows, as lists; slices of fields that a call makes by append; The walk of fields, a row's fields handed to yield; and of the iterator that All gives. Each theorem states its own conditions. -/
import Derived.Test.YtpjooboohelffaaGreatDoorM17
import Derived.Test.YtpjooboohelffaaGreatDoorM16
import Derived.OwnWalkIn
import Derived.Test.YtpjooboohelffaaGreatDoorM01
/- Top: a Wyse 60: put. -/
namespace Go.Proofs.YtpjooboohelffaaGreatDoor
open Go.RowKit Go.Shelf T05
set_option linter.unusedVariables false
set_option linter.unusedSimpArgs false
set_option maxRecDepth 100000
section
variable {K : Nat → Prop} {L : Lay} {tm qb lb : Nat} {rs : Nat → Nat} {cell : Nat → Nat → Cl} {r c : Int} {S : Int → Bool} {t : Tm} {f : Nat} {Q : List Int} {ov : Bool}
/-- What holds behind the cells' sliding: the terminal, and the call's own cell. -/
structure Put1 (K : Nat → Prop) (L : Lay) (tm qb lb : Nat) (w u w1 : World) (x : Cl) (t : Tm) (f : Nat) (Q : List Int) (ov : Bool) : Prop where
 wy : WyA (Loc K w u) L tm qb lb w1 t f Q ov
 kp : Kept K w w1
 kb : KB (Loc K w u) w1
set_option maxHeartbeats 2000000 in
/-- .. where there is inserting. -/
theorem y_put1 (w : World) (hK : KB K w) (h : Wy K L tm qb lb w rs cell r c S t f Q ov) (ha : AllW L.R L.C cell) (x : Cl) (hx : WCell x) (hi : t.ins = true) :
  Calls Tryz.prog 80 #[.pointer (some ⟨tm, 0, none⟩), x.v] w fun e w' => e = .returned (.tuple #[]) ∧ WyA K L tm qb lb w' t f Q ov ∧ Kept K w w' := by
 have hgk := h.gk
 have HC := Lib.hid (fun u (hb : Below w.heap.size w u) W (hb2 : Below u.heap.size u W) => w_chars (h.loc hb) ha (hK.loc hb) hb2 1 t.pt)
 have HS := Lib.hid (fun u w1 (hbu : Below w.heap.size w u) (hu : w.heap.size < u.heap.size) (hw : WyA (Loc K w u) L tm qb lb w1 t f Q ov ∧ Kept (Loc K w u) u w1) (h0 : w1.cell? ⟨w.heap.size, 0, none⟩ = some (.int .i32 x.g) ∧ w1.cell? ⟨w.heap.size, 1, none⟩ = some (.int .i64 x.a) ∧ w1.cell? ⟨w.heap.size, 2, none⟩ = some (.bool x.d) ∧ w1.cell? ⟨w.heap.size, 3, none⟩ = some (.int .i64 x.m)) =>
  (show w1.cell? ⟨tm, 0, none⟩ = some (.pointer (some ⟨L.sb, 0, none⟩)) ∧ w1.cell? ⟨tm, 2, none⟩ = some (.bool t.gd) ∧ w1.cell? ⟨tm, 3, none⟩ = some (.bool t.pt) ∧
   ∀ u2, u2 = w1.setCell ⟨w.heap.size, 2, none⟩ (.bool t.gd) → ∀ W, Below u2.heap.size u2 W → W.cell? ⟨tm, 0, none⟩ = some (.pointer (some ⟨L.sb, 0, none⟩)) ∧ W.cell? ⟨tm, 3, none⟩ = some (.bool t.pt) ∧ W.cell? ⟨w.heap.size, 0, none⟩ = some (.int .i32 x.g) ∧ W.cell? ⟨w.heap.size, 1, none⟩ = some (.int .i64 x.a) ∧ W.cell? ⟨w.heap.size, 2, none⟩ = some (.bool t.gd) ∧ W.cell? ⟨w.heap.size, 3, none⟩ = some (.int .i64 x.m) ∧ Calls Tryz.prog 112 #[.pointer (some ⟨L.sb, 0, none⟩), (Cl.v ⟨x.g, x.a, t.gd, x.m⟩), .int .i64 2, .bool t.pt] W (fun e w' => e = .returned (.tuple #[]) ∧ WyA K L tm qb lb w' t f Q ov ∧ Kept K w w') from by
  obtain ⟨⟨rs1, cell1, r1, c1, S1, h1, ha1⟩, hk1⟩ := hw
  refine ⟨h1.ti.t0, h1.ti.t2, h1.ti.t3, ?_⟩
  intro u2 hu2 W hb
  have hl : ∀ k, K k → k < w.heap.size := hK
  have hown : Loc K w u w.heap.size := .inr ⟨Nat.le_refl _, hu⟩
  have h2 : Wy (Loc K w u) L tm qb lb u2 rs1 cell1 r1 c1 S1 t f Q ov := by
   rw [hu2]
   refine h1.poke hown ⟨?_, ?_⟩ ?_ (kept_set _ _ _ _)
   ·have := h.scr.gr.glt; omega
   ·have := h.scr.ts.lt; omega
   ·have := hl 0 h.gk.1; have := hl 3 h.gk.2.1; have := hl 4 h.gk.2.2.1; have := hl 5 h.gk.2.2.2; omega
  have hk2 : Kept K w u2 := by
   rw [hu2]
   exact ((Kept.ofBelow hbu hK).trans (hk1.less (fun k hk => .inl hk))).trans ((kept_set _ _ _ _).less (fun k hk e => by have := hl k hk; omega))
  have hkb : KB (Loc K w u) u2 := by
   rintro k (hk | hk)
   ·exact hK.later hk2 k hk
   ·have h9 : w1.heap.size = u2.heap.size := by rw [hu2]; simp
    have := hk1.size
    omega
  have hlt : w.heap.size < u2.heap.size := hkb _ hown
  have hc := fun o => hb.cell (p := ⟨w.heap.size, o, none⟩) hlt
  have e0 := fun o (ho : o ≠ 2) => (show u2.cell? ⟨w.heap.size, o, none⟩ = w1.cell? ⟨w.heap.size, o, none⟩ from by rw [hu2]; exact World.cell?_setCell_other _ _ _ _ (by simp <;> omega))
  have e2 : u2.cell? ⟨w.heap.size, 2, none⟩ = some (.bool t.gd) := by rw [hu2]; exact World.cell?_setCell_same' _ _ _ (by rw [h0.2.2.1]; rfl)
  refine ⟨(h2.later hb).ti.t0, (h2.later hb).ti.t3, (hc 0).trans ((e0 0 (by decide)).trans h0.1), (hc 1).trans ((e0 1 (by decide)).trans h0.2.1), (hc 2).trans e2, (hc 3).trans ((e0 3 (by decide)).trans h0.2.2.2), ?_⟩
  refine (w_put h2 ha1 hkb hb ⟨x.g, x.a, t.gd, x.m⟩ ⟨hx.g, hx.a, hx.m⟩ t.pt).mono ?_
  rintro e w' ⟨rfl, ⟨rs', cell', r', c', S', h4, ha4⟩, _, h5⟩
  exact ⟨rfl, ⟨rs', cell', r', c', S', h4.less (fun k hk => .inl hk) h.gk, ha4⟩, hk2.trans (h5.less (fun k hk => .inl hk))⟩))
 have k0 := h.ti.t0
 have k2 := h.ti.t2
 have k3 := h.ti.t3
 have k5 := h.ti.t5
 rw [hi] at k5
 have hg0 := hgk.1
 obtain ⟨b0, b1', b2', b3'⟩ := h.scr.gl.blank 0 (by decide)
 simp only [Nat.zero_mul, Nat.zero_add, blankC] at b0 b1' b2' b3'
 have hl := blt k0
 have hf0 := blt b0
 clear h hK hi ha hx
 simp only [Cl.v, blankC] at HC HS ⊢
 go_enter Tryz.func80, Tryz.ntmps80
 go_wp2_with fail
 refine gen_wp ?_
 intro u hu0
 have FB : Below u.heap.size u u := Below.refl _ _
 have FB0 : Below w.heap.size w u := by rw [hu0]; (repeat first | exact Below.refl _ _ | refine bel_alloc ?_ _ | refine bel_set ?_ (by simp <;> omega) _)
 have hsu : w.heap.size < u.heap.size := by rw [hu0]; simp <;> omega
 have KFu : ∀ W, Below u.heap.size u W → (W.cell? ⟨tm, 0, none⟩ = some (.pointer (some ⟨L.sb, 0, none⟩)) ∧ W.cell? ⟨tm, 3, none⟩ = some (.bool t.pt) ∧ W.cell? ⟨0, 0, none⟩ = some (.int .i32 32) ∧ W.cell? ⟨0, 1, none⟩ = some (.int .i64 0) ∧ W.cell? ⟨0, 2, none⟩ = some (.bool false) ∧ W.cell? ⟨0, 3, none⟩ = some (.int .i64 0) ∧ W.cell? ⟨w.heap.size, 0, none⟩ = some (.int .i32 x.g) ∧ W.cell? ⟨w.heap.size, 1, none⟩ = some (.int .i64 x.a) ∧ W.cell? ⟨w.heap.size, 2, none⟩ = some (.bool x.d) ∧ W.cell? ⟨w.heap.size, 3, none⟩ = some (.int .i64 x.m)) ∧ (Blk W (w.heap.size) 4) ∧ True := by
  intro W hu
  refine ⟨⟨?_, ?_, ?_, ?_, ?_, ?_, ?_, ?_, ?_, ?_⟩, ?_, ?_⟩
  ·exact cellB (bel_call (by rw [hu0]; (repeat first | exact Below.refl _ _ | refine bel_alloc ?_ _)) hu) (k0)
  ·exact cellB (bel_call (by rw [hu0]; (repeat first | exact Below.refl _ _ | refine bel_alloc ?_ _)) hu) (k3)
  ·exact cellB (bel_call (by rw [hu0]; (repeat first | exact Below.refl _ _ | refine bel_alloc ?_ _)) hu) (b0)
  ·exact cellB (bel_call (by rw [hu0]; (repeat first | exact Below.refl _ _ | refine bel_alloc ?_ _)) hu) (b1')
  ·exact cellB (bel_call (by rw [hu0]; (repeat first | exact Below.refl _ _ | refine bel_alloc ?_ _)) hu) (b2')
  ·exact cellB (bel_call (by rw [hu0]; (repeat first | exact Below.refl _ _ | refine bel_alloc ?_ _)) hu) (b3')
  ·exact (hu.cell (by rw [hu0]; simp <;> omega)).trans (by rw [hu0]; simp [go_sem])
  ·exact (hu.cell (by rw [hu0]; simp <;> omega)).trans (by rw [hu0]; simp [go_sem])
  ·exact (hu.cell (by rw [hu0]; simp <;> omega)).trans (by rw [hu0]; simp [go_sem])
  ·exact (hu.cell (by rw [hu0]; simp <;> omega)).trans (by rw [hu0]; simp [go_sem])
  ·exact Blk.later (by rw [hu0]; exact Blk.new (by simp) rfl) hu
  ·trivial
 clear hu0 k0 k2 k3 k5 b0 b1' b2' b3'
 refine wp_region_held_drew (S := fun W => (W.cell? ⟨tm, 0, none⟩ = some (.pointer (some ⟨L.sb, 0, none⟩)) ∧ W.cell? ⟨tm, 3, none⟩ = some (.bool t.pt) ∧ W.cell? ⟨0, 0, none⟩ = some (.int .i32 32) ∧ W.cell? ⟨0, 1, none⟩ = some (.int .i64 0) ∧ W.cell? ⟨0, 2, none⟩ = some (.bool false) ∧ W.cell? ⟨0, 3, none⟩ = some (.int .i64 0) ∧ W.cell? ⟨w.heap.size, 0, none⟩ = some (.int .i32 x.g) ∧ W.cell? ⟨w.heap.size, 1, none⟩ = some (.int .i64 x.a) ∧ W.cell? ⟨w.heap.size, 2, none⟩ = some (.bool x.d) ∧ W.cell? ⟨w.heap.size, 3, none⟩ = some (.int .i64 x.m)) ∧ (Blk W (w.heap.size) 4) ∧ True) (by kernel_rfl) (KFu _ (Below.refl _ _).drew) (fun hHeld => ?_)
 have FB := FB.drew
 refine sY 0 9 ?_
 refine sY 1 10 ?_
 refine sY 2 11 ?_
 refine sY 3 12 ?_
 refine sY 4 13 ?_
 refine sY 5 14 ?_
 refine sY 6 15 ?_
 refine sY 7 16 ?_
 refine sY 8 17 ?_
 refine sY 9 18 ?_
 refine sO 10 fun K hK => ?_
 go_simp
 refine (HC.out _ FB0 _ FB).mono ?_
 rintro e w1 ⟨rfl, h1, h2, h3⟩
 obtain ⟨⟨g0, g1, g2, g3, g4, g5, g6, g7, g8, g9⟩, gr, _⟩ := hHeld
 (try go_wp2_with fail)
 refine hK.out _ _ ?_ (fun hHeld => ?_)
 ·exact ⟨⟨h2.cell (.inl (.inr (.inl rfl))) g0, h2.cell (.inl (.inr (.inl rfl))) g1, h2.cell (.inl (.inl (.inl hg0))) g2, h2.cell (.inl (.inl (.inl hg0))) g3, h2.cell (.inl (.inl (.inl hg0))) g4, h2.cell (.inl (.inl (.inl hg0))) g5, h3.cell (.inr ⟨Nat.le_refl _, hsu⟩) g6, h3.cell (.inr ⟨Nat.le_refl _, hsu⟩) g7, h3.cell (.inr ⟨Nat.le_refl _, hsu⟩) g8, h3.cell (.inr ⟨Nat.le_refl _, hsu⟩) g9⟩, gr.to (h3.block _ (.inr ⟨Nat.le_refl _, hsu⟩)), trivial⟩
 clear hK K
 try simp only [Act.put, List.setIfInBounds_toArray, List.set_cons_zero, List.set_cons_succ]
 refine wpAnyH_done (by kernel_rfl) ?_ _
 obtain ⟨⟨g0, g1, g2, g3, g4, g5, g6, g7, g8, g9⟩, gr, _⟩ := hHeld
 obtain ⟨y2, f2, v2⟩ := gr.get 2 (by decide)
 obtain ⟨q0, q2, q3, q4⟩ := HS.out _ _ FB0 hsu ⟨h1, h3⟩ ⟨g6, g7, g8, g9⟩
 have hz1 := blt g6
 have Q4 := Lib.hid q4
 clear q4 h1 h2 h3 g0 g1 g2 g3 g4 g5 HC HS KFu FB FB0
 go_wp2_with fail
 refine gen_wp ?_
 intro u2 hu2
 have Q5 := Lib.hid (Q4.out u2 hu2)
 clear Q4 hu2 gr f2 v2 g6 g7 g8 g9 q0 q2 q3
 refine gen_wp ?_
 intro v hv0
 have FB : Below u2.heap.size u2 v := by rw [hv0]; exact Below.refl _ _
 have KFv : ∀ W, Below v.heap.size v W → True ∧ True ∧ True := by
  intro W hv
  refine ⟨trivial, trivial, ?_⟩
  ·trivial
 clear hv0
 refine wp_region_held_drew (S := fun W => True ∧ True ∧ True) (by kernel_rfl) (KFv _ (Below.refl _ _).drew) (fun hHeld => ?_)
 have FB := FB.drew
 refine sY 0 26 ?_
 refine sY 1 27 ?_
 refine sY 2 28 ?_
 refine sY 5 31 ?_
 refine sY 6 32 ?_
 refine sY 7 33 ?_
 refine sY 8 34 ?_
 refine wpAnyH_ready (rs := [3, 4, 9]) (by kernel_rfl) (by simp) ?_
 refine AllReadyH.cons rfl (fun K hK => ?_) (AllReadyH.cons rfl (fun K hK => ?_) (AllReadyH.cons rfl (fun K hK => ?_) (AllReadyH.nil)))
 ·have p0 := (Q5.out _ FB).1
  go_simp
  (try go_wp2_with fail)
  refine hK.out _ _ ?_ (fun hHeld => ?_)
  ·exact hHeld
  clear hK K
  try simp only [Act.put, List.setIfInBounds_toArray, List.set_cons_zero, List.set_cons_succ]
  refine wpAnyH_ready (rs := [4, 9]) (by kernel_rfl) (by simp) ?_
  refine AllReadyH.cons rfl (fun K hK => ?_) (AllReadyH.cons rfl (fun K hK => ?_) (AllReadyH.nil))
  ·have p0 := (Q5.out _ FB).2.2.1
   have p1 := (Q5.out _ FB).2.2.2.1
   have p2 := (Q5.out _ FB).2.2.2.2.1
   have p3 := (Q5.out _ FB).2.2.2.2.2.1
   go_simp
   (try go_wp2_with fail)
   refine hK.out _ _ ?_ (fun hHeld => ?_)
   ·exact hHeld
   clear hK K
   try simp only [Act.put, List.setIfInBounds_toArray, List.set_cons_zero, List.set_cons_succ]
   refine sO 9 fun K hK => ?_
   have p0 := (Q5.out _ FB).2.1
   go_simp
   (try go_wp2_with fail)
   refine hK.out _ _ ?_ (fun hHeld => ?_)
   ·exact hHeld
   clear hK K
   try simp only [Act.put, List.setIfInBounds_toArray, List.set_cons_zero, List.set_cons_succ]
   refine sO 10 fun K hK => ?_
   go_simp
   refine ((Q5.out _ FB).2.2.2.2.2.2).mono ?_
   rintro e w2 ⟨rfl, h4, h5⟩
   (try go_wp2_with fail)
   refine hK.out _ _ ?_ (fun hHeld => ?_)
   ·exact ⟨trivial, trivial, trivial⟩
   clear hK K
   try simp only [Act.put, List.setIfInBounds_toArray, List.set_cons_zero, List.set_cons_succ]
   refine wpAnyH_done (by kernel_rfl) ?_ _
   go_wp2_with fail
   go_end0
   exact ⟨rfl, h4, h5⟩
  ·have p0 := (Q5.out _ FB).2.1
   go_simp
   (try go_wp2_with fail)
   refine hK.out _ _ ?_ (fun hHeld => ?_)
   ·exact hHeld
   clear hK K
   try simp only [Act.put, List.setIfInBounds_toArray, List.set_cons_zero, List.set_cons_succ]
   refine sO 4 fun K hK => ?_
   have p0 := (Q5.out _ FB).2.2.1
   have p1 := (Q5.out _ FB).2.2.2.1
   have p2 := (Q5.out _ FB).2.2.2.2.1
   have p3 := (Q5.out _ FB).2.2.2.2.2.1
   go_simp
   (try go_wp2_with fail)
   refine hK.out _ _ ?_ (fun hHeld => ?_)
   ·exact hHeld
   clear hK K
   try simp only [Act.put, List.setIfInBounds_toArray, List.set_cons_zero, List.set_cons_succ]
   refine sO 10 fun K hK => ?_
   go_simp
   refine ((Q5.out _ FB).2.2.2.2.2.2).mono ?_
   rintro e w2 ⟨rfl, h4, h5⟩
   (try go_wp2_with fail)
   refine hK.out _ _ ?_ (fun hHeld => ?_)
   ·exact ⟨trivial, trivial, trivial⟩
   clear hK K
   try simp only [Act.put, List.setIfInBounds_toArray, List.set_cons_zero, List.set_cons_succ]
   refine wpAnyH_done (by kernel_rfl) ?_ _
   go_wp2_with fail
   go_end0
   exact ⟨rfl, h4, h5⟩
 ·have p0 := (Q5.out _ FB).2.2.1
  have p1 := (Q5.out _ FB).2.2.2.1
  have p2 := (Q5.out _ FB).2.2.2.2.1
  have p3 := (Q5.out _ FB).2.2.2.2.2.1
  go_simp
  (try go_wp2_with fail)
  refine hK.out _ _ ?_ (fun hHeld => ?_)
  ·exact hHeld
  clear hK K
  try simp only [Act.put, List.setIfInBounds_toArray, List.set_cons_zero, List.set_cons_succ]
  refine wpAnyH_ready (rs := [3, 9]) (by kernel_rfl) (by simp) ?_
  refine AllReadyH.cons rfl (fun K hK => ?_) (AllReadyH.cons rfl (fun K hK => ?_) (AllReadyH.nil))
  ·have p0 := (Q5.out _ FB).1
   go_simp
   (try go_wp2_with fail)
   refine hK.out _ _ ?_ (fun hHeld => ?_)
   ·exact hHeld
   clear hK K
   try simp only [Act.put, List.setIfInBounds_toArray, List.set_cons_zero, List.set_cons_succ]
   refine sO 9 fun K hK => ?_
   have p0 := (Q5.out _ FB).2.1
   go_simp
   (try go_wp2_with fail)
   refine hK.out _ _ ?_ (fun hHeld => ?_)
   ·exact hHeld
   clear hK K
   try simp only [Act.put, List.setIfInBounds_toArray, List.set_cons_zero, List.set_cons_succ]
   refine sO 10 fun K hK => ?_
   go_simp
   refine ((Q5.out _ FB).2.2.2.2.2.2).mono ?_
   rintro e w2 ⟨rfl, h4, h5⟩
   (try go_wp2_with fail)
   refine hK.out _ _ ?_ (fun hHeld => ?_)
   ·exact ⟨trivial, trivial, trivial⟩
   clear hK K
   try simp only [Act.put, List.setIfInBounds_toArray, List.set_cons_zero, List.set_cons_succ]
   refine wpAnyH_done (by kernel_rfl) ?_ _
   go_wp2_with fail
   go_end0
   exact ⟨rfl, h4, h5⟩
  ·have p0 := (Q5.out _ FB).2.1
   go_simp
   (try go_wp2_with fail)
   refine hK.out _ _ ?_ (fun hHeld => ?_)
   ·exact hHeld
   clear hK K
   try simp only [Act.put, List.setIfInBounds_toArray, List.set_cons_zero, List.set_cons_succ]
   refine sO 3 fun K hK => ?_
   have p0 := (Q5.out _ FB).1
   go_simp
   (try go_wp2_with fail)
   refine hK.out _ _ ?_ (fun hHeld => ?_)
   ·exact hHeld
   clear hK K
   try simp only [Act.put, List.setIfInBounds_toArray, List.set_cons_zero, List.set_cons_succ]
   refine sO 10 fun K hK => ?_
   go_simp
   refine ((Q5.out _ FB).2.2.2.2.2.2).mono ?_
   rintro e w2 ⟨rfl, h4, h5⟩
   (try go_wp2_with fail)
   refine hK.out _ _ ?_ (fun hHeld => ?_)
   ·exact ⟨trivial, trivial, trivial⟩
   clear hK K
   try simp only [Act.put, List.setIfInBounds_toArray, List.set_cons_zero, List.set_cons_succ]
   refine wpAnyH_done (by kernel_rfl) ?_ _
   go_wp2_with fail
   go_end0
   exact ⟨rfl, h4, h5⟩
 ·have p0 := (Q5.out _ FB).2.1
  go_simp
  (try go_wp2_with fail)
  refine hK.out _ _ ?_ (fun hHeld => ?_)
  ·exact hHeld
  clear hK K
  try simp only [Act.put, List.setIfInBounds_toArray, List.set_cons_zero, List.set_cons_succ]
  refine wpAnyH_ready (rs := [3, 4]) (by kernel_rfl) (by simp) ?_
  refine AllReadyH.cons rfl (fun K hK => ?_) (AllReadyH.cons rfl (fun K hK => ?_) (AllReadyH.nil))
  ·have p0 := (Q5.out _ FB).1
   go_simp
   (try go_wp2_with fail)
   refine hK.out _ _ ?_ (fun hHeld => ?_)
   ·exact hHeld
   clear hK K
   try simp only [Act.put, List.setIfInBounds_toArray, List.set_cons_zero, List.set_cons_succ]
   refine sO 4 fun K hK => ?_
   have p0 := (Q5.out _ FB).2.2.1
   have p1 := (Q5.out _ FB).2.2.2.1
   have p2 := (Q5.out _ FB).2.2.2.2.1
   have p3 := (Q5.out _ FB).2.2.2.2.2.1
   go_simp
   (try go_wp2_with fail)
   refine hK.out _ _ ?_ (fun hHeld => ?_)
   ·exact hHeld
   clear hK K
   try simp only [Act.put, List.setIfInBounds_toArray, List.set_cons_zero, List.set_cons_succ]
   refine sO 10 fun K hK => ?_
   go_simp
   refine ((Q5.out _ FB).2.2.2.2.2.2).mono ?_
   rintro e w2 ⟨rfl, h4, h5⟩
   (try go_wp2_with fail)
   refine hK.out _ _ ?_ (fun hHeld => ?_)
   ·exact ⟨trivial, trivial, trivial⟩
   clear hK K
   try simp only [Act.put, List.setIfInBounds_toArray, List.set_cons_zero, List.set_cons_succ]
   refine wpAnyH_done (by kernel_rfl) ?_ _
   go_wp2_with fail
   go_end0
   exact ⟨rfl, h4, h5⟩
  ·have p0 := (Q5.out _ FB).2.2.1
   have p1 := (Q5.out _ FB).2.2.2.1
   have p2 := (Q5.out _ FB).2.2.2.2.1
   have p3 := (Q5.out _ FB).2.2.2.2.2.1
   go_simp
   (try go_wp2_with fail)
   refine hK.out _ _ ?_ (fun hHeld => ?_)
   ·exact hHeld
   clear hK K
   try simp only [Act.put, List.setIfInBounds_toArray, List.set_cons_zero, List.set_cons_succ]
   refine sO 3 fun K hK => ?_
   have p0 := (Q5.out _ FB).1
   go_simp
   (try go_wp2_with fail)
   refine hK.out _ _ ?_ (fun hHeld => ?_)
   ·exact hHeld
   clear hK K
   try simp only [Act.put, List.setIfInBounds_toArray, List.set_cons_zero, List.set_cons_succ]
   refine sO 10 fun K hK => ?_
   go_simp
   refine ((Q5.out _ FB).2.2.2.2.2.2).mono ?_
   rintro e w2 ⟨rfl, h4, h5⟩
   (try go_wp2_with fail)
   refine hK.out _ _ ?_ (fun hHeld => ?_)
   ·exact ⟨trivial, trivial, trivial⟩
   clear hK K
   try simp only [Act.put, List.setIfInBounds_toArray, List.set_cons_zero, List.set_cons_succ]
   refine wpAnyH_done (by kernel_rfl) ?_ _
   go_wp2_with fail
   go_end0
   exact ⟨rfl, h4, h5⟩
end
section
variable {K : Nat → Prop} {L : Lay} {tm qb lb : Nat} {t : Tm} {f : Nat} {Q : List Int} {ov : Bool}
theorem y_put (w : World) (hK : KB K w) (h : WyA K L tm qb lb w t f Q ov) (x : Cl) (hx : WCell x) :
  Calls Tryz.prog 80 #[.pointer (some ⟨tm, 0, none⟩), x.v] w fun e w' => e = .returned (.tuple #[]) ∧ WyA K L tm qb lb w' t f Q ov ∧ Kept K w w' := by
 obtain ⟨rs, cell, r, c, S, h, ha⟩ := h
 cases hi : t.ins with
 | true => exact y_put1 w hK h ha x hx hi
 | false =>
  exact y_put0 w hK h x hi (fun cell r c S => AllW L.R L.C cell) (fun K2 W hk hs => (s_put W hk hs ha ⟨x.g, x.a, t.gd, x.m⟩ ⟨hx.g, hx.a, hx.m⟩ t.pt).mono fun e w' ⟨h1, ⟨rs', cell', r', c', h2, h4⟩, h3⟩ => ⟨h1, ⟨_, _, _, _, _, h2, h4⟩, h3⟩)
end
end Go.Proofs.YtpjooboohelffaaGreatDoor
/- Top: a Wyse 60: feed, goes. -/
namespace Go.Proofs.YtpjooboohelffaaGreatDoor
open Go.RowKit Go.Shelf T05
set_option linter.unusedVariables false
set_option linter.unusedSimpArgs false
set_option maxRecDepth 100000
section
variable {K : Nat → Prop} {L : Lay} {tm qb lb : Nat} {t : Tm} {f : Nat} {Q : List Int} {ov : Bool}
set_option maxHeartbeats 2000000 in
theorem y_feed (w : World) (hK : KB K w) (h : WyA K L tm qb lb w t f Q ov) :
  Calls Tryz.prog 77 #[.pointer (some ⟨tm, 0, none⟩)] w fun e w' => e = .returned (.tuple #[]) ∧ WyA K L tm qb lb w' t f Q ov ∧ Kept K w w' := by
 obtain ⟨rs, cell, r, c, S, h, ha⟩ := h
 have HC := Lib.hid (s_cursor w h.scr)
 have HZ := Lib.hid (fun W (hb : Below w.heap.size w W) => s_size W (h.scr.later hb))
 have HM := Lib.hid (fun W (hb : Below w.heap.size w W) => w_move h ha hK hb 0 c)
 have HS := Lib.hid (fun W (hb : Below w.heap.size w W) => w_step h ha hK hb 1 0)
 have HF := Lib.hid (fun W (hb : Below w.heap.size w W) => w_feed h ha hK hb 1 (.inl rfl))
 have k0 := h.ti.t0
 have k3 := h.ti.t3
 have hgk := h.gk
 have hsz := h.scr.gr.sz
 have m3 : IntKind.i64.wrap ((L.R : Int) - 1) = (L.R : Int) - 1 := IntWalk.i64_in _ (by have := hsz.2.1; omega)
 have hfd := field23_0
 clear h ha hK hsz
 cases hp : t.pt with
 | false =>
  rw [hp] at k3
  clear hp
  go_enter Tryz.func77, Tryz.ntmps77
  go_wp2_with fail
  refine HC.out.mono ?_
  rintro e w1 ⟨rfl, c1⟩
  have k0' := cellB c1 k0
  have k3' := cellB c1 k3
  have hsz1 := c1.size
  have hlt1 := blt k0'
  have C1 := Lib.hid c1
  clear c1 k0 k3
  go_wp2_with fail
  refine (HF.out _ (by (repeat first | exact C1.out | refine bel_alloc ?_ _ | refine bel_set ?_ (by simp <;> omega) _))).mono ?_
  rintro e w2 ⟨rfl, h1, h2, h3⟩
  have Z := Lib.hid (And.intro h1 h3)
  clear h1 h2 h3
  go_wp2_with fail
  go_end0
  exact ⟨rfl, Z.out⟩
 | true =>
  rw [hp] at k3
  clear hp
  go_enter Tryz.func77, Tryz.ntmps77
  go_wp2_with fail
  refine HC.out.mono ?_
  rintro e w1 ⟨rfl, c1⟩
  have k0' := cellB c1 k0
  have k3' := cellB c1 k3
  have hsz1 := c1.size
  have hlt1 := blt k0'
  go_wp2_with fail
  refine gen_wp ?_
  intro u hu0
  have FB : Below w.heap.size w u := by rw [hu0]; (repeat first | exact c1 | refine bel_alloc ?_ _ | refine bel_set ?_ (by simp <;> omega) _)
  have KFu : ∀ W, Below u.heap.size u W → (W.cell? ⟨tm, 0, none⟩ = some (.pointer (some ⟨L.sb, 0, none⟩)) ∧ W.cell? ⟨w1.heap.size, 0, none⟩ = some (.int .i64 r) ∧ W.cell? ⟨w1.heap.size, 1, none⟩ = some (.int .i64 c)) ∧ True ∧ True := by
   intro W hu
   refine ⟨⟨?_, ?_, ?_⟩, trivial, ?_⟩
   ·exact cellB (bel_call (by rw [hu0]; (repeat first | exact Below.refl _ _ | refine bel_alloc ?_ _)) hu) (k0')
   ·exact (hu.cell (by rw [hu0]; simp <;> omega)).trans (by rw [hu0]; simp [go_sem])
   ·exact (hu.cell (by rw [hu0]; simp <;> omega)).trans (by rw [hu0]; simp [go_sem])
   ·trivial
  clear hu0 k0 k0' k3 k3' c1
  refine wp_region_held_drew (S := fun W => (W.cell? ⟨tm, 0, none⟩ = some (.pointer (some ⟨L.sb, 0, none⟩)) ∧ W.cell? ⟨w1.heap.size, 0, none⟩ = some (.int .i64 r) ∧ W.cell? ⟨w1.heap.size, 1, none⟩ = some (.int .i64 c)) ∧ True ∧ True) (by kernel_rfl) (KFu _ (Below.refl _ _).drew) (fun hHeld => ?_)
  have FB := FB.drew
  refine sY 0 30 ?_
  refine sY 1 31 ?_
  refine sY 2 32 ?_
  refine sY 3 33 ?_
  refine sY 4 34 ?_
  refine sY 5 35 ?_
  refine sO 6 fun K hK => ?_
  obtain ⟨⟨fc0, fc1, fc2⟩, _, fb⟩ := hHeld
  go_simp
  refine (HZ.out _ FB).mono ?_
  rintro e w2 ⟨rfl, b2⟩
  have FB := bel_call FB b2
  (try go_wp2_with fail)
  refine hK.out _ _ ?_ (fun hHeld => ?_)
  ·exact ⟨⟨cellB b2 fc0, cellB b2 fc1, cellB b2 fc2⟩, trivial, trivial⟩
  clear hK K
  try simp only [Act.put, List.setIfInBounds_toArray, List.set_cons_zero, List.set_cons_succ]
  refine sY 7 37 ?_
  refine sY 8 38 ?_
  refine sY 9 39 ?_
  refine sY 10 29 ?_
  refine wpAnyH_done (by kernel_rfl) ?_ _
  obtain ⟨⟨g0, g1, g2⟩, _, _⟩ := hHeld
  have hl2 := blt g1
  by_cases hr : r = (L.R : Int) - 1
  ·have hr1 : (r == (L.R : Int) - 1) = true := by simpa using hr
   go_wp2_with fail
   refine gen_wp ?_
   intro v hv0
   have FB : Below w.heap.size w v := by rw [hv0]; exact FB
   clear hr hr1
   have KFv : ∀ W, Below v.heap.size v W → (W.cell? ⟨tm, 0, none⟩ = some (.pointer (some ⟨L.sb, 0, none⟩)) ∧ W.cell? ⟨w1.heap.size, 1, none⟩ = some (.int .i64 c)) ∧ True ∧ True := by
    intro W hv
    refine ⟨⟨?_, ?_⟩, trivial, ?_⟩
    ·exact cellB (bel_call (by rw [hv0]; (repeat first | exact Below.refl _ _ | refine bel_alloc ?_ _)) hv) (g0)
    ·exact cellB (bel_call (by rw [hv0]; (repeat first | exact Below.refl _ _ | refine bel_alloc ?_ _)) hv) (g2)
    ·trivial
   clear hv0 g0 g1 g2
   refine wp_region_held_drew (S := fun W => (W.cell? ⟨tm, 0, none⟩ = some (.pointer (some ⟨L.sb, 0, none⟩)) ∧ W.cell? ⟨w1.heap.size, 1, none⟩ = some (.int .i64 c)) ∧ True ∧ True) (by kernel_rfl) (KFv _ (Below.refl _ _).drew) (fun hHeld => ?_)
   have FB := FB.drew
   refine sY 0 40 ?_
   refine sY 1 41 ?_
   refine sY 2 42 ?_
   refine sY 3 43 ?_
   refine sY 4 44 ?_
   refine sY 5 45 ?_
   refine sY 6 46 ?_
   refine sO 7 fun K hK => ?_
   obtain ⟨⟨fc0, fc1⟩, _, fb⟩ := hHeld
   go_simp
   refine (HM.out _ FB).mono ?_
   rintro e w3 ⟨rfl, h1, h2, h3⟩
   (try go_wp2_with fail)
   refine hK.out _ _ ?_ (fun hHeld => ?_)
   ·exact ⟨⟨((h2).cell (.inl (.inr (.inl rfl))) fc0), ((h2).cell (.inr ⟨by first | omega | (simp <;> omega), blt fc1⟩) fc1)⟩, trivial, trivial⟩
   clear hK K
   try simp only [Act.put, List.setIfInBounds_toArray, List.set_cons_zero, List.set_cons_succ]
   refine wpAnyH_done (by kernel_rfl) ?_ _
   go_wp2_with fail
   go_end0
   exact ⟨rfl, h1, h3⟩
  ·have hr1 : (r == (L.R : Int) - 1) = false := by simpa using hr
   go_wp2_with fail
   refine (HS.out _ FB).mono ?_
   rintro e w3 ⟨rfl, h1, h2, h3⟩
   have Z := Lib.hid (And.intro h1 h3)
   clear h1 h2 h3
   go_wp2_with fail
   go_end0
   exact ⟨rfl, Z.out⟩
end
end Go.Proofs.YtpjooboohelffaaGreatDoor
/- The fields of a row, and of rows, as lists; slices of fields that a call makes by append. -/
namespace Go.Proofs.YtpjooboohelffaaGreatDoor.F16
open Go.RowKit
set_option linter.unusedVariables false

/-- Where the field begins that is under way ahead of column k. -/
def fstart (gd : Nat → Bool) : Nat → Nat
 | 0 => 0
 | k + 1 => if gd k then k + 1 else fstart gd k
/-- The fields that are ended ahead of column k. -/
def fdone (gd : Nat → Bool) : Nat → List (Nat × Nat)
 | 0 => []
 | k + 1 => if gd k = true ∧ fstart gd k < k then fdone gd k ++ [(fstart gd k, k - 1)] else fdone gd k
/-- The fields of k columns. -/
def rowF (gd : Nat → Bool) (k : Nat) : List (Nat × Nat) := if fstart gd k < k then fdone gd k ++ [(fstart gd k, k - 1)] else fdone gd k
theorem fstart_le (gd : Nat → Bool) (k : Nat) : fstart gd k ≤ k := by
 induction k with
 | zero => exact Nat.le_refl _
 | succ k ih => unfold fstart; split <;> omega
theorem rowF_guard {gd : Nat → Bool} {k : Nat} (h : gd k = true) : rowF gd (k + 1) = rowF gd k := by
 simp [rowF, fdone, fstart, h]
theorem fstart_new {gd : Nat → Bool} {k : Nat} (h : k = 0 ∨ gd (k - 1) = true) : fstart gd k = k := by
 cases k with
 | zero => rfl
 | succ k =>
  simp at h
  simp [fstart, h]
theorem rowF_new {gd : Nat → Bool} {k : Nat} (h : gd k = false) (h1 : k = 0 ∨ gd (k - 1) = true) : rowF gd (k + 1) = rowF gd k ++ [(k, k)] := by
 simp [rowF, fdone, fstart, h, fstart_new h1]
theorem fstart_more {gd : Nat → Bool} {k : Nat} (h0 : k ≠ 0) (h : gd (k - 1) = false) : fstart gd k < k := by
 cases k with
 | zero => exact absurd rfl h0
 | succ k =>
  simp at h
  have := fstart_le gd k
  simp [fstart, h]
  omega
theorem rowF_more {gd : Nat → Bool} {k : Nat} (h : gd k = false) (h0 : k ≠ 0) (h1 : gd (k - 1) = false) :
  rowF gd k = fdone gd k ++ [(fstart gd k, k - 1)] ∧ rowF gd (k + 1) = fdone gd k ++ [(fstart gd k, k)] := by
 have := fstart_more h0 h1
 constructor
 ·simp [rowF, this]
 ·simp [rowF, fdone, fstart, h]
  omega
theorem fdone_succ (gd : Nat → Bool) (k : Nat) : fdone gd (k + 1) = if gd k = true ∧ fstart gd k < k then fdone gd k ++ [(fstart gd k, k - 1)] else fdone gd k := rfl
theorem fstart_succ (gd : Nat → Bool) (k : Nat) : fstart gd (k + 1) = if gd k then k + 1 else fstart gd k := rfl
theorem fdone_len (gd : Nat → Bool) (k : Nat) : (fdone gd k).length ≤ k := by
 induction k with
 | zero => exact Nat.le_refl _
 | succ k ih =>
  rw [fdone_succ]; split
  ·simp; omega
  ·omega
theorem fdone_len' (gd : Nat → Bool) (k : Nat) : (fdone gd k).length ≤ fstart gd k := by
 induction k with
 | zero => exact Nat.le_refl _
 | succ k ih =>
  have := fstart_le gd k
  rw [fdone_succ, fstart_succ]; split
  ·next h => rw [if_pos h.1]; simp; omega
  ·split <;> omega
theorem rowF_len (gd : Nat → Bool) (k : Nat) : (rowF gd k).length ≤ k := by
 have := fdone_len' gd k
 have := fstart_le gd k
 unfold rowF; split <;> simp <;> omega

/-- A field: its row, its first and its last column. -/
abbrev Fd := Nat × Nat × Nat
def fcells (f : Fd) : List Value := [.int .i64 (f.1 : Int), .int .i64 (f.2.1 : Int), .int .i64 (f.2.2 : Int)]
def inRow (r : Nat) (l : List (Nat × Nat)) : List Fd := l.map fun p => (r, p.1, p.2)
/-- The fields of k rows. -/
def allF (G : Grid) : Nat → List Fd
 | 0 => []
 | k + 1 => allF G k ++ inRow k (rowF (G.gd k) (G.len 0))
noncomputable def fieldsOf (G : Grid) : List Fd := if G.okB then allF G G.n else []
theorem inRow_len (r : Nat) (l : List (Nat × Nat)) : (inRow r l).length = l.length := by simp [inRow]
theorem allF_len (G : Grid) (k : Nat) : (allF G k).length ≤ k * G.len 0 := by
 induction k with
 | zero => simp [allF]
 | succ k ih =>
  have := rowF_len (G.gd k) (G.len 0)
  simp only [allF, List.length_append, inRow_len, Nat.add_mul]
  omega
theorem allF_le (G : Grid) {k d : Nat} : ∃ t, allF G (k + d) = allF G k ++ t := by
 induction d with
 | zero => exact ⟨[], by simp⟩
 | succ d ih =>
  obtain ⟨t, ht⟩ := ih
  exact ⟨t ++ inRow (k + d) (rowF (G.gd (k + d)) (G.len 0)), by rw [← Nat.add_assoc, allF, ht, List.append_assoc]⟩
theorem allF_pre (G : Grid) {k n : Nat} (h : k ≤ n) : ∃ t, allF G n = allF G k ++ t := by
 obtain ⟨d, rfl⟩ := Nat.exists_eq_add_of_le h
 exact allF_le G
theorem fdone_pre (gd : Nat → Bool) {k n : Nat} (h : k ≤ n) : ∃ t, fdone gd n = fdone gd k ++ t := by
 obtain ⟨d, rfl⟩ := Nat.exists_eq_add_of_le h
 clear h
 induction d with
 | zero => exact ⟨[], by simp⟩
 | succ d ih =>
  obtain ⟨t, ht⟩ := ih
  rw [← Nat.add_assoc, fdone_succ]
  split
  ·exact ⟨t ++ [(fstart gd (k + d), k + d - 1)], by rw [ht, List.append_assoc]⟩
  ·exact ⟨t, ht⟩

end Go.Proofs.YtpjooboohelffaaGreatDoor.F16
/- The walk of fields, a row's fields handed to yield; and of the iterator that All gives. -/
namespace Go.Proofs.YtpjooboohelffaaGreatDoor.F16
open Go.RowKit Go.Shelf
set_option linter.unusedVariables false
attribute [local go_sem] Oper.semAt_some

abbrev posV (r c : Int) : Value := .agg #[.int .i64 r, .int .i64 c]
def encF (x : Fd) : Array Value := #[.agg #[.int .i64 (x.1 : Int), .int .i64 (x.2.1 : Int), .int .i64 (x.2.2 : Int)]]
theorem roundIn_any {n m : Nat} {P : Program} {l : Nat} {f : FuncId} {tmps : Array Value} {assign body : Code} {w : World} {R : Ending → World → Prop}
  (h : RoundIn Fence.wide n P l f tmps assign body w R) : RoundIn Fence.wide m P l f tmps assign body w R :=
 ⟨h.1, fun c cs _ => h.2 c cs (room_wide _)⟩
theorem keepsB {B : Nat} {W W' : World} (h : Below W.heap.size W W') : KeepsFrom B W W' :=
 ⟨h.size, fun k o _ hk _ => (h.block k (Array.getElem?_eq_some_iff.1 hk).1).trans hk⟩
theorem rowF_end {gd : Nat → Bool} {n : Nat} (h : ¬ fstart gd n < n) : rowF gd n = fdone gd n := by simp [rowF, h]
theorem rowF_pre (gd : Nat → Bool) {k n : Nat} (h : k ≤ n) : ∃ t, rowF gd n = fdone gd k ++ t := by
 obtain ⟨t, ht⟩ := fdone_pre gd h
 unfold rowF
 split
 ·exact ⟨t ++ [(fstart gd n, n - 1)], by rw [ht, List.append_assoc]⟩
 ·exact ⟨t, ht⟩

set_option maxHeartbeats 8000000 in
theorem fields_in (G : Grid) (hok : G.Ok) (r : Nat) (hr : r < G.n) (l n : Nat) (hn1 : 1 ≤ n) (J Jx : List Fd → World → Prop) (hJd : ∀ s X, J s X → J s X.drew) (hJG : ∀ s X, J s X → ∃ B', G.In B' X)
  (N : Nat) (hY : ∀ pre x X, J pre X → pre.length < N → YieldAt Fence.wide (n - 1) Tryz.prog l (encF x) X fun e X' => (e = .returned (.bool true) ∧ J (pre ++ [x]) X') ∨ (e = .returned (.bool false) ∧ Jx (pre ++ [x]) X'))
  (p0 : List Fd) (hp0 : ∀ q, (∃ t, rowF (G.gd r) (G.len 0) = q ++ t) → p0.length + q.length ≤ N) (W : World) (hJ : J p0 W) :
  CallsIn Fence.wide n Tryz.prog 184 #[.slice (G.ra r) (G.len r) (G.rc r), .int .i64 (r : Int), .func (.yield l) #[] #[]] W fun e W' =>
   (e = .returned (.bool true) ∧ J (p0 ++ inRow r (rowF (G.gd r) (G.len 0))) W') ∨ (e = .returned (.bool false) ∧ ∃ q, (∃ t, rowF (G.gd r) (G.len 0) = q ++ t) ∧ Jx (p0 ++ inRow r q) W') := by
 obtain ⟨m1, m2, m3⟩ := hok.2.2 r hr
 have n255 : r < 255 := by have := hok.2.1; omega
 rw [m3] at m1 m2
 obtain ⟨B', hg⟩ := hJG _ _ hJ
 obtain ⟨rb, ro, er, hrb, hcc⟩ := hg.cells r hr (by omega)
 rw [er, m3]
 have HJ := Lib.hid hJ
 have HJd := Lib.hid hJd
 have HJG := Lib.hid hJG
 have HY := Lib.hid hY
 have M3 := Lib.hid m3
 have HP := Lib.hid hp0
 clear hp0
 have ER := Lib.hid er
 clear hJ hJd hJG hY m3 hg hcc er
 refine callsIn_of_wp Tryz.func184 rfl trivial ?_ rfl
 simp only [Tryz.ntmps184, List.size_toArray, List.length_cons, List.length_nil, Nat.reduceAdd, Nat.reduceSub, Array.replicate_succ, Array.replicate_zero, List.push_toArray, List.append_toArray, List.nil_append, List.cons_append]
 gi_wp2_with fail
 gi_loopw [7, 8] (fun f c wr => (∃ k : Nat, k ≤ G.len 0 ∧ c = .int .i64 (k : Int) ∧ f = .int .i64 (fstart (G.gd r) k : Int) ∧ J (p0 ++ inRow r (fdone (G.gd r) k)) wr) ∨ (c = .int .i64 ((G.len 0 : Int) + 1) ∧ J (p0 ++ inRow r (rowF (G.gd r) (G.len 0))) wr)) (fun _ c _ => (G.len 0 + 1) - (intOf c).toNat)
 case atStart => exact .inl ⟨0, Nat.zero_le _, rfl, rfl, by simpa [fdone, inRow] using HJ.out⟩
 case round =>
  rcases hrel with ⟨k, hk, rfl, rfl, hJ⟩ | ⟨rfl, hJ⟩
  ·obtain ⟨B'', hg⟩ := HJG.out _ _ hJ
   obtain ⟨rb', ro', er, hrb', hcc⟩ := hg.cells r hr (by rw [M3.out]; omega)
   rw [ER.out] at er
   injection er with er
   injection er with e1 e2
   subst e1 e2
   rw [M3.out] at hcc
   have Hcc := Lib.hid hcc
   have HJk := Lib.hid hJ
   have hfs := fstart_le (G.gd r) k
   have hfl := fdone_len (G.gd r) k
   have q1 : (k : Int) ≤ (G.len 0 : Int) := by omega
   clear hJ hg hcc
   by_cases hlt : k < G.len 0
   ·have q2 : (k : Int) < (G.len 0 : Int) := by omega
    have cd := (Hcc.out k hlt).2.2.1
    by_cases g : G.gd r k = true
    ·rw [g] at cd
     have Gd := Lib.hid g
     clear g
     by_cases hf : fstart (G.gd r) k < k
     ·have q3 : (fstart (G.gd r) k : Int) < (k : Int) := by omega
      obtain ⟨fn, tmps, assign, body, hy, hR⟩ := HY.out _ (r, fstart (G.gd r) k, k - 1) wr HJk.out (by have h9 := HP.out _ (rowF_pre _ (show k + 1 ≤ G.len 0 by omega)); rw [fdone_succ, if_pos ⟨Gd.out, hf⟩] at h9; simp at h9; simp [inRow_len]; omega)
      have e1 : ((k - 1 : Nat) : Int) = (k : Int) - 1 := by omega
      simp only [encF, e1] at hy
      have hR' := (roundIn_any (m := n - 1) hR).mono (R' := fun e X' => ∃ r : Bool, e = .returned (.bool r) ∧ Hid ((r = true ∧ J _ X') ∨ (r = false ∧ Jx _ X'))) (fun e X' h => by
       rcases h with ⟨rfl, a⟩ | ⟨rfl, a⟩
       ·exact ⟨true, rfl, .inl ⟨rfl, a⟩⟩
       ·exact ⟨false, rfl, .inr ⟨rfl, a⟩⟩)
      clear hR
      have q4 : (1 : Int) ≤ (k : Int) := by omega
      have Hq := Lib.hid (show p0 ++ inRow r (fdone (G.gd r) (k + 1)) = p0 ++ inRow r (fdone (G.gd r) k) ++ [(r, fstart (G.gd r) k, k - 1)] by rw [fdone_succ, if_pos ⟨Gd.out, hf⟩]; simp [inRow])
      gi_wp2_with (refine hR'.mono ?_; rintro e W' ⟨y, rfl, hpost⟩; cases y)
      all_goals rcases hpost with ⟨hy', hJ'⟩ | ⟨hy', hJx'⟩
      all_goals first | cases hy' | skip
      ·go_ret
       exact .inr ⟨rfl, _, rowF_pre _ (show k + 1 ≤ G.len 0 by omega), by rw [Hq.out]; exact hJx'⟩
      ·go_roundw
       case rel => exact .inl ⟨k + 1, by omega, by go_num, by rw [fstart_succ, Gd.out]; go_num, by rw [Hq.out]; exact hJ'⟩
       case measure => simp [intOf]; omega
     ·have q3 : ¬ (fstart (G.gd r) k : Int) < (k : Int) := by omega
      gi_wp2_with fail
      refine ⟨fun _ e => (by cases e), ?_⟩
      rename_i hKK _ _ _ _ _
      refine hKK _ _ ?_
      gi_wp2_with fail
      go_roundw
      case rel => exact .inl ⟨k + 1, by omega, by go_num, by rw [fstart_succ, Gd.out]; go_num, by rw [fdone_succ, if_neg (fun e => hf e.2)]; exact HJk.out⟩
      case measure => simp [intOf]; omega
    ·have gf : G.gd r k = false := by simpa using g
     rw [gf] at cd
     have Gf := Lib.hid gf
     clear g gf
     gi_wp2_with fail
     go_roundw
     case rel => exact .inl ⟨k + 1, by omega, by go_num, by rw [fstart_succ, Gf.out]; rfl, by rw [fdone_succ, if_neg (by rw [Gf.out]; simp)]; exact HJk.out⟩
     case measure => simp [intOf]; omega
   ·have ek : k = G.len 0 := by omega
    have Ek := Lib.hid ek
    have q2 : ¬ (k : Int) < (G.len 0 : Int) := by omega
    clear ek
    by_cases hf : fstart (G.gd r) k < k
    ·have q3 : (fstart (G.gd r) k : Int) < (k : Int) := by omega
     obtain ⟨fn, tmps, assign, body, hy, hR⟩ := HY.out _ (r, fstart (G.gd r) k, k - 1) wr HJk.out (by have h9 := HP.out (rowF (G.gd r) (G.len 0)) ⟨[], by simp⟩; rw [← Ek.out] at h9; simp only [rowF] at h9; rw [if_pos hf] at h9; simp at h9; simp [inRow_len]; omega)
     have e1 : ((k - 1 : Nat) : Int) = (k : Int) - 1 := by omega
     simp only [encF, e1] at hy
     have hR' := (roundIn_any (m := n - 1) hR).mono (R' := fun e X' => ∃ r : Bool, e = .returned (.bool r) ∧ Hid ((r = true ∧ J _ X') ∨ (r = false ∧ Jx _ X'))) (fun e X' h => by
      rcases h with ⟨rfl, a⟩ | ⟨rfl, a⟩
      ·exact ⟨true, rfl, .inl ⟨rfl, a⟩⟩
      ·exact ⟨false, rfl, .inr ⟨rfl, a⟩⟩)
     clear hR
     have q4 : (1 : Int) ≤ (k : Int) := by omega
     have Hq := Lib.hid (show p0 ++ inRow r (rowF (G.gd r) (G.len 0)) = p0 ++ inRow r (fdone (G.gd r) k) ++ [(r, fstart (G.gd r) k, k - 1)] by rw [← Ek.out]; simp only [rowF]; rw [if_pos hf]; simp [inRow])
     gi_wp2_with (refine hR'.mono ?_; rintro e W' ⟨y, rfl, hpost⟩; cases y)
     all_goals rcases hpost with ⟨hy', hJ'⟩ | ⟨hy', hJx'⟩
     all_goals first | cases hy' | skip
     ·go_ret
      exact .inr ⟨rfl, rowF (G.gd r) (G.len 0), ⟨[], by simp⟩, by rw [Hq.out]; exact hJx'⟩
     ·go_roundw
      case rel => exact .inr ⟨by rw [← Ek.out], by rw [Hq.out]; exact hJ'⟩
      case measure => simp [intOf]; omega
    ·have q3 : ¬ (fstart (G.gd r) k : Int) < (k : Int) := by omega
     gi_wp2_with fail
     refine ⟨fun _ e => (by cases e), ?_⟩
     rename_i hKK _ _ _ _ _
     refine hKK _ _ ?_
     gi_wp2_with fail
     go_roundw
     case rel => exact .inr ⟨by rw [← Ek.out], by rw [← Ek.out, rowF_end hf]; exact HJk.out⟩
     case measure => simp [intOf]; omega
  ·have HJ' := Lib.hid hJ
   clear hJ
   have q5 : ¬ (G.len 0 : Int) + 1 ≤ (G.len 0 : Int) := by omega
   gi_wp2_with fail
   go_ret
   exact .inl ⟨rfl, HJ'.out⟩
theorem allF_row {G : Grid} {k n : Nat} (hk : k < n) {q : List (Nat × Nat)} (hq : ∃ t, rowF (G.gd k) (G.len 0) = q ++ t) : ∃ t, allF G n = (allF G k ++ inRow k q) ++ t := by
 obtain ⟨t, ht⟩ := hq
 obtain ⟨u, hu⟩ := allF_pre G (show k + 1 ≤ n by omega)
 exact ⟨inRow k t ++ u, by rw [hu, allF, ht]; simp [inRow]⟩
set_option maxHeartbeats 8000000 in
theorem all_iter (G : Grid) (n : Nat) (hn1 : 1 ≤ n) (Bx B : Nat) (I : List Fd → World → Prop) (Kp : World → World → Prop)
  (hIc : ∀ pre W, I pre W → W.cell? ⟨Bx, 0, none⟩ = some G.v ∧ G.In W.heap.size W) (hId : ∀ pre W, I pre W → I pre W.drew) (hIb : ∀ pre W W', I pre W → Below W.heap.size W W' → I pre W') (W0 : World) :
  Iterates Tryz.prog n (n - 1) 183 #[.pointer (some ⟨Bx, 0, none⟩)] encF (fun ys => ys = fieldsOf G) (fun pre => ∃ t, fieldsOf G = pre ++ t) (fun _ _ => True) (fieldsOf G).length B I Kp W0 := by
 intro l J Jx hJ0 hJk _ hJI hY
 have hJb : ∀ s X X', J s X → Below X.heap.size X X' → J s X' := fun s X X' h hb => hJk _ _ _ h (hIb _ _ _ (hJI _ _ h) hb) (keepsB hb)
 have hJd : ∀ s X, J s X → J s X.drew := fun s X h => hJk _ _ _ h (hId _ _ (hJI _ _ h)) ((KeepsOthers.drew X).from _)
 have hJG : ∀ s X, J s X → G.In X.heap.size X := fun s X h => (hIc _ _ (hJI _ _ h)).2
 have hJx : ∀ s X, J s X → X.cell? ⟨Bx, 0, none⟩ = some G.v := fun s X h => (hIc _ _ (hJI _ _ h)).1
 have hY' : ∀ pre x X, J pre X → pre.length < (fieldsOf G).length → YieldAt Fence.wide (n - 1) Tryz.prog l (encF x) X fun e X' => (e = .returned (.bool true) ∧ J (pre ++ [x]) X') ∨ (e = .returned (.bool false) ∧ Jx (pre ++ [x]) X') := by
  intro pre x X h hl
  obtain ⟨fn, tmps, assign, body, hy, hR⟩ := hY pre x X h hl trivial
  exact ⟨fn, tmps, assign, body, hy, hR.mono fun e X' h => by
   rcases h with ⟨a, b, _⟩ | h
   ·exact .inl ⟨a, b⟩
   ·exact .inr h⟩
 clear hY hJI hJk hIc hId hIb
 have cx := hJx _ _ hJ0
 have HG := hJG _ _ hJ0
 have HC := check_any G _ HG
 unfold Fn at HC
 unfold Grid.v at *
 have HJ := Lib.hid hJ0
 have HJb := Lib.hid hJb
 have HJd := Lib.hid hJd
 have HJG := Lib.hid hJG
 have HJx := Lib.hid hJx
 have HY := Lib.hid hY'
 clear hJ0 hJb hJd hJG hJx hY'
 refine callsIn_of_wp Tryz.func183 rfl trivial ?_ rfl
 simp only [Tryz.ntmps183, List.size_toArray, List.length_cons, List.length_nil, Nat.reduceAdd, Nat.reduceSub, Array.replicate_succ, Array.replicate_zero, List.push_toArray, List.append_toArray, List.nil_append, List.cons_append]
 by_cases hok : G.Ok
 ·rw [okB_yes hok, show errOf true = 0 from rfl] at HC
  have HF := Lib.hid (show fieldsOf G = allF G G.n by simp [fieldsOf, okB_yes hok])
  have Hok := Lib.hid hok
  obtain ⟨b, off, ea, hb, hc⟩ := HG.rows hok.1
  rw [ea] at cx HC HJx
  clear hok
  have HC' := Lib.hid HC
  clear HC
  clear hc HG
  gi_wp2_with (refine ⟨trivial, ?_⟩; gi_at_call 37; refine (callsIn_wide.2 HC'.out).mono ?_; rintro e w1 ⟨rfl, hb1⟩; have k1 := HJb.out _ _ _ HJ.out hb1; have K1 := Lib.hid k1; have cx1 := HJx.out _ _ k1; clear k1 hb1)
  gi_loopw [3, 4, 10] (fun _ _ i wr => ∃ k : Nat, k ≤ G.n ∧ i = .int .i64 (k : Int) ∧ J (allF G k) wr) (fun _ _ i _ => G.n - (intOf i).toNat)
  case atStart => exact ⟨0, by omega, rfl, K1.out⟩
  case round =>
   obtain ⟨k, hk, rfl, hJ⟩ := hrel
   have HJk := Lib.hid hJ
   have Gw := HJG.out _ _ hJ
   obtain ⟨b', off', ea', hb', hc'⟩ := Gw.rows Hok.out.1
   rw [ea] at ea'
   injection ea' with ea'
   injection ea' with e1 e2
   subst e1 e2
   have n255 := Hok.out.2.1
   clear hJ Gw
   by_cases hlt : k < G.n
   ·have q1 : (k : Int) < (G.n : Int) := by omega
    have cr := hc' k hlt
    have hp := allF_len G k
    have hm := (Hok.out.2.2 0 (by omega)).2.1
    have hp1 : k * G.len 0 ≤ 255 * 255 := Nat.mul_le_mul (by omega) hm
    have HF1 := Lib.hid (fields_in G Hok.out k hlt l n hn1 J Jx HJd.out (fun s X h => ⟨_, HJG.out s X h⟩) _ HY.out (allF G k) (fun q hq => by rw [HF.out]; obtain ⟨t, ht⟩ := allF_row hlt hq; rw [ht]; simp [inRow_len]) wr HJk.out)
    clear hc'
    have EA := Lib.hid ea
    have HF2 := (callsIn_wide (n := n - 1)).2 ((callsIn_wide.1 HF1.out).mono (R' := fun e X' => ∃ y : Bool, e = .returned (.bool y) ∧ Hid ((y = true ∧ J _ X') ∨ (y = false ∧ ∃ q, (∃ t, rowF (G.gd k) (G.len 0) = q ++ t) ∧ Jx (allF G k ++ inRow k q) X'))) (fun e X' h => by
     rcases h with ⟨rfl, a⟩ | ⟨rfl, q, hq, a⟩
     ·exact ⟨true, rfl, .inl ⟨rfl, a⟩⟩
     ·exact ⟨false, rfl, .inr ⟨rfl, q, hq, a⟩⟩))
    clear HF1
    gi_wp2_with (refine ⟨trivial, ?_⟩; gi_at_call 184; refine HF2.mono ?_; rintro e w2 ⟨y, rfl, hpost⟩; cases y)
    all_goals rcases hpost with ⟨hy', hJ'⟩ | ⟨hy', q, hq, hJx'⟩
    all_goals first | cases hy' | skip
    ·refine bodyPost_ret (results_none rfl _ _ _) rfl ?_
     exact ⟨⟨_, rfl⟩, .inr ⟨_, by rw [HF.out]; exact allF_row hlt hq, hJx'⟩⟩
    ·go_roundw
     case rel => exact ⟨k + 1, by omega, by go_num, hJ'⟩
     case measure => simp [intOf]; omega
   ·have hk' : k = G.n := by omega
    have q1 : ¬ (k : Int) < (G.n : Int) := by omega
    have Hk := Lib.hid hk'
    clear hk'
    gi_wp2_with fail
    go_end0
    exact ⟨⟨_, rfl⟩, .inl (by rw [HF.out, ← Hk.out]; exact HJk.out)⟩
 ·rw [not_okB hok] at HC
  have HF := Lib.hid (show fieldsOf G = [] by simp [fieldsOf, not_okB hok])
  clear hok
  have HC' := Lib.hid HC
  clear HC HG
  gi_wp2_with (refine ⟨trivial, ?_⟩; gi_at_call 37; refine (callsIn_wide.2 HC'.out).mono ?_; rintro e w1 ⟨rfl, hb1⟩)
  refine bodyPost_ret (results_none rfl _ _ _) rfl ?_
  exact ⟨⟨_, rfl⟩, .inl ⟨_, HF.out.symm, HJb.out _ _ _ HJ.out hb1⟩⟩
end Go.Proofs.YtpjooboohelffaaGreatDoor.F16
