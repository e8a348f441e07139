/- TopLooks and TopSends, helper 23 of 27. It holds: wyse: one: its cases. By gone.py; a Wyse 60: goes. Each theorem states its own conditions. -/
import Derived.Test.YtpjooboohelffaaGreatDoorM10
import Derived.Test.YtpjooboohelffaaGreatDoorM20
import Derived.Test.YtpjooboohelffaaGreatDoorM21
import Derived.Test.YtpjooboohelffaaGreatDoorM18
/- Top: wyse: one: its cases. By gone.py. -/
namespace Go.Proofs.YtpjooboohelffaaGreatDoor
open Go.RowKit Go.Shelf T05
set_option linter.unusedVariables false
set_option linter.unusedSimpArgs false
set_option maxRecDepth 100000
theorem TmRel.refl (t : Tm) : TmRel t t := ⟨rfl, rfl, rfl⟩
/-- The terminal, but for modes and the queue. -/
def OneP (K : Nat → Prop) (L : Lay) (tm qb lb : Nat) (t : Tm) (f : Nat) (w w' : World) : Prop := (∃ t' Q' ov', WyA K L tm qb lb w' t' f Q' ov' ∧ TmRel t t') ∧ Kept K w w'
section
variable {K : Nat → Prop} {L : Lay} {tm qb lb : Nat} {t : Tm} {f : Nat} {Q : List Int} {ov : Bool} {rs : Nat → Nat} {cell : Nat → Nat → Cl} {r c : Int} {S : Int → Bool}
theorem OneP.mk {w w' : World} (h : WyA K L tm qb lb w' t f Q ov) (hk : Kept K w w') : OneP K L tm qb lb t f w w' := ⟨⟨_, _, _, h, TmRel.refl t⟩, hk⟩
set_option maxHeartbeats 2000000 in
theorem one_c3 (w : World) (hK : KB K w) (h : Wy K L tm qb lb w rs cell r c S t f Q ov) (ha : AllW L.R L.C cell) (g : Nat → Value) (g0 : g 0 = .pointer (some ⟨tm, 0, none⟩)) (g7 : g 7 = .bool t.pt) : Code.wp Tryz.prog (cs90 3) (OneR (OneP K L tm qb lb t f w) NoN) (fr176 g) w := by
 have HP := Lib.hid (fun W (hb : Below w.heap.size w W) => w_part h ha hK hb 5 (by simp) t.pt)
 have k0 := h.ti.t0
 have hgk := h.gk
 have hg0 := hgk.1
 obtain ⟨b0, b1', b2', b3'⟩ := h.scr.gl.blank 0 (by decide)
 simp only [Nat.zero_mul, Nat.zero_add, blankC] at b0 b1' b2' b3'
 have hf0 := blt b0
 have hl := blt k0
 clear h ha hK
 simp only [Cl.v, blankC] at HP
 unfold fr176
 simp only [g0, g7]
 clear g0 g7
 conv => arg 2; whnf
 go_wp2_with fail
 refine gen_wp ?_
 intro u hu0
 have FB : Below w.heap.size w u := by rw [hu0]; exact Below.refl _ _
 have KFu : ∀ W, Below u.heap.size u W → (W.cell? ⟨tm, 0, none⟩ = some (.pointer (some ⟨L.sb, 0, none⟩)) ∧ W.cell? ⟨0, 0, none⟩ = some (.int .i32 32) ∧ W.cell? ⟨0, 1, none⟩ = some (.int .i64 0) ∧ W.cell? ⟨0, 2, none⟩ = some (.bool false) ∧ W.cell? ⟨0, 3, none⟩ = some (.int .i64 0)) ∧ True ∧ True := by
  intro W hu
  refine ⟨⟨?_, ?_, ?_, ?_, ?_⟩, trivial, ?_⟩
  ·exact cellB (bel_call (by rw [hu0]; (repeat first | exact Below.refl _ _ | refine bel_alloc ?_ _)) hu) (k0)
  ·exact cellB (bel_call (by rw [hu0]; (repeat first | exact Below.refl _ _ | refine bel_alloc ?_ _)) hu) (b0)
  ·exact cellB (bel_call (by rw [hu0]; (repeat first | exact Below.refl _ _ | refine bel_alloc ?_ _)) hu) (b1')
  ·exact cellB (bel_call (by rw [hu0]; (repeat first | exact Below.refl _ _ | refine bel_alloc ?_ _)) hu) (b2')
  ·exact cellB (bel_call (by rw [hu0]; (repeat first | exact Below.refl _ _ | refine bel_alloc ?_ _)) hu) (b3')
  ·trivial
 clear hu0 k0 b0 b1' b2' b3'
 refine wp_region_held_drew (S := fun W => (W.cell? ⟨tm, 0, none⟩ = some (.pointer (some ⟨L.sb, 0, none⟩)) ∧ W.cell? ⟨0, 0, none⟩ = some (.int .i32 32) ∧ W.cell? ⟨0, 1, none⟩ = some (.int .i64 0) ∧ W.cell? ⟨0, 2, none⟩ = some (.bool false) ∧ W.cell? ⟨0, 3, none⟩ = some (.int .i64 0)) ∧ True ∧ True) (by kernel_rfl) (KFu _ (Below.refl _ _).drew) (fun hHeld => ?_)
 have FB := FB.drew
 refine sY 0 71 ?_
 refine sY 1 72 ?_
 refine sY 2 73 ?_
 refine sY 3 74 ?_
 refine sY 4 75 ?_
 refine sY 5 76 ?_
 refine sO 6 fun K hK => ?_
 obtain ⟨⟨fc0, fc1, fc2, fc3, fc4⟩, _, fb⟩ := hHeld
 go_simp
 refine (HP.out _ FB).mono ?_
 rintro e w1 ⟨rfl, h1, h2, h3⟩
 (try go_wp2_with fail)
 refine hK.out _ _ ?_ (fun hHeld => ?_)
 ·exact ⟨⟨((h2).cell (.inl (.inr (.inl rfl))) fc0), ((h2).cell (.inl (.inl hgk.1)) fc1), ((h2).cell (.inl (.inl hgk.1)) fc2), ((h2).cell (.inl (.inl hgk.1)) fc3), ((h2).cell (.inl (.inl hgk.1)) fc4)⟩, trivial, trivial⟩
 clear hK K
 try simp only [Act.put, List.setIfInBounds_toArray, List.set_cons_zero, List.set_cons_succ]
 refine wpAnyH_done (by kernel_rfl) ?_ _
 have Z := Lib.hid (OneP.mk h1 h3)
 clear h1 h2 h3 hHeld
 go_wp2_with fail
 exact ⟨rfl, rfl, rfl, Z.out⟩
set_option maxHeartbeats 2000000 in
theorem one_c4 (w : World) (hK : KB K w) (h : Wy K L tm qb lb w rs cell r c S t f Q ov) (ha : AllW L.R L.C cell) (g : Nat → Value) (g0 : g 0 = .pointer (some ⟨tm, 0, none⟩)) (g7 : g 7 = .bool t.pt) : Code.wp Tryz.prog (cs90 4) (OneR (OneP K L tm qb lb t f w) NoN) (fr176 g) w := by
 have HP := Lib.hid (fun W (hb : Below w.heap.size w W) => w_part h ha hK hb 2 (by simp) t.pt)
 have k0 := h.ti.t0
 have hgk := h.gk
 have hg0 := hgk.1
 obtain ⟨b0, b1', b2', b3'⟩ := h.scr.gl.blank 0 (by decide)
 simp only [Nat.zero_mul, Nat.zero_add, blankC] at b0 b1' b2' b3'
 have hf0 := blt b0
 have hl := blt k0
 clear h ha hK
 simp only [Cl.v, blankC] at HP
 unfold fr176
 simp only [g0, g7]
 clear g0 g7
 conv => arg 2; whnf
 go_wp2_with fail
 refine gen_wp ?_
 intro u hu0
 have FB : Below w.heap.size w u := by rw [hu0]; exact Below.refl _ _
 have KFu : ∀ W, Below u.heap.size u W → (W.cell? ⟨tm, 0, none⟩ = some (.pointer (some ⟨L.sb, 0, none⟩)) ∧ W.cell? ⟨0, 0, none⟩ = some (.int .i32 32) ∧ W.cell? ⟨0, 1, none⟩ = some (.int .i64 0) ∧ W.cell? ⟨0, 2, none⟩ = some (.bool false) ∧ W.cell? ⟨0, 3, none⟩ = some (.int .i64 0)) ∧ True ∧ True := by
  intro W hu
  refine ⟨⟨?_, ?_, ?_, ?_, ?_⟩, trivial, ?_⟩
  ·exact cellB (bel_call (by rw [hu0]; (repeat first | exact Below.refl _ _ | refine bel_alloc ?_ _)) hu) (k0)
  ·exact cellB (bel_call (by rw [hu0]; (repeat first | exact Below.refl _ _ | refine bel_alloc ?_ _)) hu) (b0)
  ·exact cellB (bel_call (by rw [hu0]; (repeat first | exact Below.refl _ _ | refine bel_alloc ?_ _)) hu) (b1')
  ·exact cellB (bel_call (by rw [hu0]; (repeat first | exact Below.refl _ _ | refine bel_alloc ?_ _)) hu) (b2')
  ·exact cellB (bel_call (by rw [hu0]; (repeat first | exact Below.refl _ _ | refine bel_alloc ?_ _)) hu) (b3')
  ·trivial
 clear hu0 k0 b0 b1' b2' b3'
 refine wp_region_held_drew (S := fun W => (W.cell? ⟨tm, 0, none⟩ = some (.pointer (some ⟨L.sb, 0, none⟩)) ∧ W.cell? ⟨0, 0, none⟩ = some (.int .i32 32) ∧ W.cell? ⟨0, 1, none⟩ = some (.int .i64 0) ∧ W.cell? ⟨0, 2, none⟩ = some (.bool false) ∧ W.cell? ⟨0, 3, none⟩ = some (.int .i64 0)) ∧ True ∧ True) (by kernel_rfl) (KFu _ (Below.refl _ _).drew) (fun hHeld => ?_)
 have FB := FB.drew
 refine sY 0 78 ?_
 refine sY 1 79 ?_
 refine sY 2 80 ?_
 refine sY 3 81 ?_
 refine sY 4 82 ?_
 refine sY 5 83 ?_
 refine sO 6 fun K hK => ?_
 obtain ⟨⟨fc0, fc1, fc2, fc3, fc4⟩, _, fb⟩ := hHeld
 go_simp
 refine (HP.out _ FB).mono ?_
 rintro e w1 ⟨rfl, h1, h2, h3⟩
 (try go_wp2_with fail)
 refine hK.out _ _ ?_ (fun hHeld => ?_)
 ·exact ⟨⟨((h2).cell (.inl (.inr (.inl rfl))) fc0), ((h2).cell (.inl (.inl hgk.1)) fc1), ((h2).cell (.inl (.inl hgk.1)) fc2), ((h2).cell (.inl (.inl hgk.1)) fc3), ((h2).cell (.inl (.inl hgk.1)) fc4)⟩, trivial, trivial⟩
 clear hK K
 try simp only [Act.put, List.setIfInBounds_toArray, List.set_cons_zero, List.set_cons_succ]
 refine wpAnyH_done (by kernel_rfl) ?_ _
 have Z := Lib.hid (OneP.mk h1 h3)
 clear h1 h2 h3 hHeld
 go_wp2_with fail
 exact ⟨rfl, rfl, rfl, Z.out⟩
set_option maxHeartbeats 2000000 in
theorem one_c6 (w : World) (hK : KB K w) (h : Wy K L tm qb lb w rs cell r c S t f Q ov) (ha : AllW L.R L.C cell) (g : Nat → Value) (g0 : g 0 = .pointer (some ⟨tm, 0, none⟩)) (g7 : g 7 = .bool t.pt) : Code.wp Tryz.prog (cs90 6) (OneR (OneP K L tm qb lb t f w) NoN) (fr176 g) w := by
 have HP := Lib.hid (fun W (hb : Below w.heap.size w W) => w_chars h ha hK hb 1 t.pt)
 have k0 := h.ti.t0
 have hgk := h.gk
 have hg0 := hgk.1
 obtain ⟨b0, b1', b2', b3'⟩ := h.scr.gl.blank 0 (by decide)
 simp only [Nat.zero_mul, Nat.zero_add, blankC] at b0 b1' b2' b3'
 have hf0 := blt b0
 have hl := blt k0
 clear h ha hK
 simp only [Cl.v, blankC] at HP
 unfold fr176
 simp only [g0, g7]
 clear g0 g7
 conv => arg 2; whnf
 go_wp2_with fail
 refine gen_wp ?_
 intro u hu0
 have FB : Below w.heap.size w u := by rw [hu0]; exact Below.refl _ _
 have KFu : ∀ W, Below u.heap.size u W → (W.cell? ⟨tm, 0, none⟩ = some (.pointer (some ⟨L.sb, 0, none⟩)) ∧ W.cell? ⟨0, 0, none⟩ = some (.int .i32 32) ∧ W.cell? ⟨0, 1, none⟩ = some (.int .i64 0) ∧ W.cell? ⟨0, 2, none⟩ = some (.bool false) ∧ W.cell? ⟨0, 3, none⟩ = some (.int .i64 0)) ∧ True ∧ True := by
  intro W hu
  refine ⟨⟨?_, ?_, ?_, ?_, ?_⟩, trivial, ?_⟩
  ·exact cellB (bel_call (by rw [hu0]; (repeat first | exact Below.refl _ _ | refine bel_alloc ?_ _)) hu) (k0)
  ·exact cellB (bel_call (by rw [hu0]; (repeat first | exact Below.refl _ _ | refine bel_alloc ?_ _)) hu) (b0)
  ·exact cellB (bel_call (by rw [hu0]; (repeat first | exact Below.refl _ _ | refine bel_alloc ?_ _)) hu) (b1')
  ·exact cellB (bel_call (by rw [hu0]; (repeat first | exact Below.refl _ _ | refine bel_alloc ?_ _)) hu) (b2')
  ·exact cellB (bel_call (by rw [hu0]; (repeat first | exact Below.refl _ _ | refine bel_alloc ?_ _)) hu) (b3')
  ·trivial
 clear hu0 k0 b0 b1' b2' b3'
 refine wp_region_held_drew (S := fun W => (W.cell? ⟨tm, 0, none⟩ = some (.pointer (some ⟨L.sb, 0, none⟩)) ∧ W.cell? ⟨0, 0, none⟩ = some (.int .i32 32) ∧ W.cell? ⟨0, 1, none⟩ = some (.int .i64 0) ∧ W.cell? ⟨0, 2, none⟩ = some (.bool false) ∧ W.cell? ⟨0, 3, none⟩ = some (.int .i64 0)) ∧ True ∧ True) (by kernel_rfl) (KFu _ (Below.refl _ _).drew) (fun hHeld => ?_)
 have FB := FB.drew
 refine sY 0 97 ?_
 refine sY 1 98 ?_
 refine sY 2 99 ?_
 refine sY 3 100 ?_
 refine sY 4 101 ?_
 refine sY 5 102 ?_
 refine sO 6 fun K hK => ?_
 obtain ⟨⟨fc0, fc1, fc2, fc3, fc4⟩, _, fb⟩ := hHeld
 go_simp
 refine (HP.out _ FB).mono ?_
 rintro e w1 ⟨rfl, h1, h2, h3⟩
 (try go_wp2_with fail)
 refine hK.out _ _ ?_ (fun hHeld => ?_)
 ·exact ⟨⟨((h2).cell (.inl (.inr (.inl rfl))) fc0), ((h2).cell (.inl (.inl hgk.1)) fc1), ((h2).cell (.inl (.inl hgk.1)) fc2), ((h2).cell (.inl (.inl hgk.1)) fc3), ((h2).cell (.inl (.inl hgk.1)) fc4)⟩, trivial, trivial⟩
 clear hK K
 try simp only [Act.put, List.setIfInBounds_toArray, List.set_cons_zero, List.set_cons_succ]
 refine wpAnyH_done (by kernel_rfl) ?_ _
 have Z := Lib.hid (OneP.mk h1 h3)
 clear h1 h2 h3 hHeld
 go_wp2_with fail
 exact ⟨rfl, rfl, rfl, Z.out⟩
set_option maxHeartbeats 2000000 in
theorem one_c7 (w : World) (hK : KB K w) (h : Wy K L tm qb lb w rs cell r c S t f Q ov) (ha : AllW L.R L.C cell) (g : Nat → Value) (g0 : g 0 = .pointer (some ⟨tm, 0, none⟩)) (g7 : g 7 = .bool t.pt) : Code.wp Tryz.prog (cs90 7) (OneR (OneP K L tm qb lb t f w) NoN) (fr176 g) w := by
 have HP := Lib.hid (fun W (hb : Below w.heap.size w W) => w_chars h ha hK hb (-1) t.pt)
 have k0 := h.ti.t0
 have hgk := h.gk
 have hg0 := hgk.1
 obtain ⟨b0, b1', b2', b3'⟩ := h.scr.gl.blank 0 (by decide)
 simp only [Nat.zero_mul, Nat.zero_add, blankC] at b0 b1' b2' b3'
 have hf0 := blt b0
 have hl := blt k0
 clear h ha hK
 simp only [Cl.v, blankC] at HP
 unfold fr176
 simp only [g0, g7]
 clear g0 g7
 conv => arg 2; whnf
 go_wp2_with fail
 refine gen_wp ?_
 intro u hu0
 have FB : Below w.heap.size w u := by rw [hu0]; exact Below.refl _ _
 have KFu : ∀ W, Below u.heap.size u W → (W.cell? ⟨tm, 0, none⟩ = some (.pointer (some ⟨L.sb, 0, none⟩)) ∧ W.cell? ⟨0, 0, none⟩ = some (.int .i32 32) ∧ W.cell? ⟨0, 1, none⟩ = some (.int .i64 0) ∧ W.cell? ⟨0, 2, none⟩ = some (.bool false) ∧ W.cell? ⟨0, 3, none⟩ = some (.int .i64 0)) ∧ True ∧ True := by
  intro W hu
  refine ⟨⟨?_, ?_, ?_, ?_, ?_⟩, trivial, ?_⟩
  ·exact cellB (bel_call (by rw [hu0]; (repeat first | exact Below.refl _ _ | refine bel_alloc ?_ _)) hu) (k0)
  ·exact cellB (bel_call (by rw [hu0]; (repeat first | exact Below.refl _ _ | refine bel_alloc ?_ _)) hu) (b0)
  ·exact cellB (bel_call (by rw [hu0]; (repeat first | exact Below.refl _ _ | refine bel_alloc ?_ _)) hu) (b1')
  ·exact cellB (bel_call (by rw [hu0]; (repeat first | exact Below.refl _ _ | refine bel_alloc ?_ _)) hu) (b2')
  ·exact cellB (bel_call (by rw [hu0]; (repeat first | exact Below.refl _ _ | refine bel_alloc ?_ _)) hu) (b3')
  ·trivial
 clear hu0 k0 b0 b1' b2' b3'
 refine wp_region_held_drew (S := fun W => (W.cell? ⟨tm, 0, none⟩ = some (.pointer (some ⟨L.sb, 0, none⟩)) ∧ W.cell? ⟨0, 0, none⟩ = some (.int .i32 32) ∧ W.cell? ⟨0, 1, none⟩ = some (.int .i64 0) ∧ W.cell? ⟨0, 2, none⟩ = some (.bool false) ∧ W.cell? ⟨0, 3, none⟩ = some (.int .i64 0)) ∧ True ∧ True) (by kernel_rfl) (KFu _ (Below.refl _ _).drew) (fun hHeld => ?_)
 have FB := FB.drew
 refine sY 0 104 ?_
 refine sY 1 105 ?_
 refine sY 2 106 ?_
 refine sY 3 107 ?_
 refine sY 4 108 ?_
 refine sY 5 109 ?_
 refine sO 6 fun K hK => ?_
 obtain ⟨⟨fc0, fc1, fc2, fc3, fc4⟩, _, fb⟩ := hHeld
 go_simp
 refine (HP.out _ FB).mono ?_
 rintro e w1 ⟨rfl, h1, h2, h3⟩
 (try go_wp2_with fail)
 refine hK.out _ _ ?_ (fun hHeld => ?_)
 ·exact ⟨⟨((h2).cell (.inl (.inr (.inl rfl))) fc0), ((h2).cell (.inl (.inl hgk.1)) fc1), ((h2).cell (.inl (.inl hgk.1)) fc2), ((h2).cell (.inl (.inl hgk.1)) fc3), ((h2).cell (.inl (.inl hgk.1)) fc4)⟩, trivial, trivial⟩
 clear hK K
 try simp only [Act.put, List.setIfInBounds_toArray, List.set_cons_zero, List.set_cons_succ]
 refine wpAnyH_done (by kernel_rfl) ?_ _
 have Z := Lib.hid (OneP.mk h1 h3)
 clear h1 h2 h3 hHeld
 go_wp2_with fail
 exact ⟨rfl, rfl, rfl, Z.out⟩
set_option maxHeartbeats 2000000 in
theorem one_c9 (w : World) (hK : KB K w) (h : Wy K L tm qb lb w rs cell r c S t f Q ov) (ha : AllW L.R L.C cell) (g : Nat → Value) (g0 : g 0 = .pointer (some ⟨tm, 0, none⟩)) : Code.wp Tryz.prog (cs90 9) (OneR (OneP K L tm qb lb t f w) NoN) (fr176 g) w := by
 have HP := Lib.hid (w_stops h ha hK (Below.refl _ _))
 have k0 := h.ti.t0
 have k1 := h.ti.t1
 have hl := blt k0
 clear h ha hK
 unfold fr176
 simp only [g0]
 clear g0
 conv => arg 2; whnf
 go_wp2_with fail
 refine HP.out.mono ?_
 intro e w1 hr
 obtain ⟨e1, h1, h2, h3⟩ := hr
 subst e1
 have Z := Lib.hid (OneP.mk h1 h3)
 clear h1 h2 h3
 go_wp2_with fail
 exact ⟨rfl, rfl, rfl, Z.out⟩
set_option maxHeartbeats 2000000 in
theorem one_c10 (w : World) (hK : KB K w) (h : Wy K L tm qb lb w rs cell r c S t f Q ov) (ha : AllW L.R L.C cell) (g : Nat → Value) (g0 : g 0 = .pointer (some ⟨tm, 0, none⟩)) : Code.wp Tryz.prog (cs90 10) (OneR (OneP K L tm qb lb t f w) NoN) (fr176 g) w := by
 have HP := Lib.hid (w_tab h ha hK (Below.refl _ _) 1 (by simp))
 have k0 := h.ti.t0
 have k1 := h.ti.t1
 have hl := blt k0
 clear h ha hK
 unfold fr176
 simp only [g0]
 clear g0
 conv => arg 2; whnf
 go_wp2_with fail
 refine HP.out.mono ?_
 intro e w1 hr
 obtain ⟨e1, h1, h2, h3⟩ := hr
 subst e1
 have Z := Lib.hid (OneP.mk h1 h3)
 clear h1 h2 h3
 go_wp2_with fail
 exact ⟨rfl, rfl, rfl, Z.out⟩
set_option maxHeartbeats 2000000 in
theorem one_c11 (w : World) (hK : KB K w) (h : Wy K L tm qb lb w rs cell r c S t f Q ov) (ha : AllW L.R L.C cell) (g : Nat → Value) (g0 : g 0 = .pointer (some ⟨tm, 0, none⟩)) : Code.wp Tryz.prog (cs90 11) (OneR (OneP K L tm qb lb t f w) NoN) (fr176 g) w := by
 have HP := Lib.hid (w_tab h ha hK (Below.refl _ _) (-1) (by simp))
 have k0 := h.ti.t0
 have k1 := h.ti.t1
 have hl := blt k0
 clear h ha hK
 unfold fr176
 simp only [g0]
 clear g0
 conv => arg 2; whnf
 go_wp2_with fail
 refine HP.out.mono ?_
 intro e w1 hr
 obtain ⟨e1, h1, h2, h3⟩ := hr
 subst e1
 have Z := Lib.hid (OneP.mk h1 h3)
 clear h1 h2 h3
 go_wp2_with fail
 exact ⟨rfl, rfl, Z.out⟩
set_option maxHeartbeats 2000000 in
theorem one_c12t (w : World) (hK : KB K w) (h : Wy K L tm qb lb w rs cell r c S t f Q ov) (ha : AllW L.R L.C cell) (g : Nat → Value) (g0 : g 0 = .pointer (some ⟨tm, 0, none⟩)) (g7 : g 7 = .bool true) : Code.wp Tryz.prog (cs90 12) (OneR (OneP K L tm qb lb t f w) NoN) (fr176 g) w := by
 have HP := Lib.hid (w_step h ha hK (Below.refl _ _) (-1) 0)
 have k0 := h.ti.t0
 have k1 := h.ti.t1
 have hl := blt k0
 clear h ha hK
 unfold fr176
 simp only [g0, g7]
 clear g0 g7
 conv => arg 2; whnf
 go_wp2_with fail
 refine HP.out.mono ?_
 intro e w1 hr
 obtain ⟨e1, h1, h2, h3⟩ := hr
 subst e1
 have Z := Lib.hid (OneP.mk h1 h3)
 clear h1 h2 h3
 go_wp2_with fail
 exact ⟨rfl, rfl, Z.out⟩
set_option maxHeartbeats 2000000 in
theorem one_c12f (w : World) (hK : KB K w) (h : Wy K L tm qb lb w rs cell r c S t f Q ov) (ha : AllW L.R L.C cell) (g : Nat → Value) (g0 : g 0 = .pointer (some ⟨tm, 0, none⟩)) (g7 : g 7 = .bool false) : Code.wp Tryz.prog (cs90 12) (OneR (OneP K L tm qb lb t f w) NoN) (fr176 g) w := by
 have HP := Lib.hid (w_feed h ha hK (Below.refl _ _) (-1) (by simp))
 have k0 := h.ti.t0
 have k1 := h.ti.t1
 have hl := blt k0
 clear h ha hK
 unfold fr176
 simp only [g0, g7]
 clear g0 g7
 conv => arg 2; whnf
 go_wp2_with fail
 refine HP.out.mono ?_
 intro e w1 hr
 obtain ⟨e1, h1, h2, h3⟩ := hr
 subst e1
 have Z := Lib.hid (OneP.mk h1 h3)
 clear h1 h2 h3
 go_wp2_with fail
 exact ⟨rfl, rfl, Z.out⟩
set_option maxHeartbeats 2000000 in
theorem one_c2 (w : World) (hK : KB K w) (hA : WyA K L tm qb lb w t f Q ov) (g : Nat → Value) (g0 : g 0 = .pointer (some ⟨tm, 0, none⟩)) : Code.wp Tryz.prog (cs90 2) (OneR (OneP K L tm qb lb t f w) NoN) (fr176 g) w := by
 have HP := Lib.hid (y_cleared w hK hA)
 clear hA hK
 unfold fr176
 simp only [g0]
 clear g0
 conv => arg 2; whnf
 go_wp2_with fail
 refine HP.out.mono ?_
 rintro e w1 ⟨rfl, h1, h2⟩
 have Z := Lib.hid (OneP.mk h1 h2)
 clear h1 h2
 go_wp2_with fail
 exact ⟨rfl, rfl, rfl, Z.out⟩
set_option maxHeartbeats 2000000 in
theorem one_c1 (w : World) (hK : KB K w) (h : Wy K L tm qb lb w rs cell r c S t f Q ov) (ha : AllW L.R L.C cell) (g : Nat → Value) (g0 : g 0 = .pointer (some ⟨tm, 0, none⟩)) (G : World → Prop) :
  Code.wp Tryz.prog (cs90 1) (OneR G (fun a w' => a.tmps.size = 176 ∧ a.defers = [] ∧ a.tmps.getD 0 undef = .pointer (some ⟨tm, 0, none⟩) ∧ WyA K L tm qb lb w' { t with gd := false, pt := false } f Q ov ∧ Kept K w w')) (fr176 g) w := by
 have HE := Lib.hid (h.own2 hK (((Kept.refl (fun k => k ≠ tm ∧ k < w.heap.size) w).set (p := ⟨tm, 2, none⟩) (fun h => h.1 rfl) (.bool false)).set (p := ⟨tm, 3, none⟩) (fun h => h.1 rfl) (.bool false)) ((h.ti.set_gd false).set_pt false))
 have HA := Lib.hid ha
 obtain ⟨_, k2, v2⟩ := h.ti.tB.blk.get 2 (by decide)
 obtain ⟨_, k3, v3⟩ := h.ti.tB.blk.get 3 (by decide)
 have hl := blt k2
 clear h hK ha
 unfold fr176
 simp only [g0]
 clear g0
 conv => arg 2; whnf
 go_wp2_with fail
 exact ⟨rfl, rfl, rfl, ⟨_, _, _, _, _, HE.out.1, HA.out⟩, HE.out.2⟩
set_option maxHeartbeats 2000000 in
theorem one_c5_69 (w : World) (hK : KB K w) (hA : WyA K L tm qb lb w t f Q ov) (g : Nat → Value) (g0 : g 0 = .pointer (some ⟨tm, 0, none⟩)) (g1 : g 1 = .int .u8 69) (g7 : g 7 = .bool t.pt) : Code.wp Tryz.prog (cs90 5) (OneR (OneP K L tm qb lb t f w) NoN) (fr176 g) w := by
 have HC := Lib.hid (y_column w hK hA 0)
 have HKK := Lib.hid hK
 clear hA hK
 unfold fr176
 simp only [g0, g1, g7]
 clear g0 g1 g7
 conv => arg 2; whnf
 go_wp2_with fail
 refine HC.out.mono ?_
 rintro e w1 ⟨rfl, ⟨rs, cell, r, c, S, h, ha⟩, hk⟩
 have hK1 := HKK.out.later hk
 have HP := Lib.hid (fun W (hb : Below w1.heap.size w1 W) => w_lines h ha hK1 hb 1 t.pt)
 have HK2 := Lib.hid hk
 have k0 := h.ti.t0
 have hgk := h.gk
 have hg0 := hgk.1
 obtain ⟨b0, b1', b2', b3'⟩ := h.scr.gl.blank 0 (by decide)
 simp only [Nat.zero_mul, Nat.zero_add, blankC] at b0 b1' b2' b3'
 have hf0 := blt b0
 have hl := blt k0
 clear h ha hk hK1
 simp only [Cl.v, blankC] at HP
 go_wp2_with fail
 refine gen_wp ?_
 intro u hu0
 have FB : Below w1.heap.size w1 u := by rw [hu0]; exact Below.refl _ _
 have KFu : ∀ W, Below u.heap.size u W → (W.cell? ⟨tm, 0, none⟩ = some (.pointer (some ⟨L.sb, 0, none⟩)) ∧ W.cell? ⟨0, 0, none⟩ = some (.int .i32 32) ∧ W.cell? ⟨0, 1, none⟩ = some (.int .i64 0) ∧ W.cell? ⟨0, 2, none⟩ = some (.bool false) ∧ W.cell? ⟨0, 3, none⟩ = some (.int .i64 0)) ∧ True ∧ True := by
  intro W hu
  refine ⟨⟨?_, ?_, ?_, ?_, ?_⟩, trivial, ?_⟩
  ·exact cellB (bel_call (by rw [hu0]; (repeat first | exact Below.refl _ _ | refine bel_alloc ?_ _)) hu) (k0)
  ·exact cellB (bel_call (by rw [hu0]; (repeat first | exact Below.refl _ _ | refine bel_alloc ?_ _)) hu) (b0)
  ·exact cellB (bel_call (by rw [hu0]; (repeat first | exact Below.refl _ _ | refine bel_alloc ?_ _)) hu) (b1')
  ·exact cellB (bel_call (by rw [hu0]; (repeat first | exact Below.refl _ _ | refine bel_alloc ?_ _)) hu) (b2')
  ·exact cellB (bel_call (by rw [hu0]; (repeat first | exact Below.refl _ _ | refine bel_alloc ?_ _)) hu) (b3')
  ·trivial
 clear hu0 k0 b0 b1' b2' b3'
 refine wp_region_held_drew (S := fun W => (W.cell? ⟨tm, 0, none⟩ = some (.pointer (some ⟨L.sb, 0, none⟩)) ∧ W.cell? ⟨0, 0, none⟩ = some (.int .i32 32) ∧ W.cell? ⟨0, 1, none⟩ = some (.int .i64 0) ∧ W.cell? ⟨0, 2, none⟩ = some (.bool false) ∧ W.cell? ⟨0, 3, none⟩ = some (.int .i64 0)) ∧ True ∧ True) (by kernel_rfl) (KFu _ (Below.refl _ _).drew) (fun hHeld => ?_)
 have FB := FB.drew
 refine sY 0 89 ?_
 refine sY 1 90 ?_
 refine sY 2 91 ?_
 refine sY 3 92 ?_
 refine sY 4 93 ?_
 refine sY 5 94 ?_
 refine sY 6 95 ?_
 refine sO 7 fun K hK => ?_
 obtain ⟨⟨fc0, fc1, fc2, fc3, fc4⟩, _, fb⟩ := hHeld
 go_simp
 refine (HP.out _ FB).mono ?_
 rintro e w2 ⟨rfl, h1, h2, h3⟩
 (try go_wp2_with fail)
 refine hK.out _ _ ?_ (fun hHeld => ?_)
 ·exact ⟨⟨((h2).cell (.inl (.inr (.inl rfl))) fc0), ((h2).cell (.inl (.inl hgk.1)) fc1), ((h2).cell (.inl (.inl hgk.1)) fc2), ((h2).cell (.inl (.inl hgk.1)) fc3), ((h2).cell (.inl (.inl hgk.1)) fc4)⟩, trivial, trivial⟩
 clear hK K
 try simp only [Act.put, List.setIfInBounds_toArray, List.set_cons_zero, List.set_cons_succ]
 refine wpAnyH_done (by kernel_rfl) ?_ _
 have Z := Lib.hid (OneP.mk h1 (HK2.out.trans h3))
 clear h1 h2 h3 hHeld
 go_wp2_with fail
 exact ⟨rfl, rfl, rfl, Z.out⟩
set_option maxHeartbeats 2000000 in
theorem one_c5_82 (w : World) (hK : KB K w) (hA : WyA K L tm qb lb w t f Q ov) (g : Nat → Value) (g0 : g 0 = .pointer (some ⟨tm, 0, none⟩)) (g1 : g 1 = .int .u8 82) (g7 : g 7 = .bool t.pt) : Code.wp Tryz.prog (cs90 5) (OneR (OneP K L tm qb lb t f w) NoN) (fr176 g) w := by
 have HC := Lib.hid (y_column w hK hA 0)
 have HKK := Lib.hid hK
 clear hA hK
 unfold fr176
 simp only [g0, g1, g7]
 clear g0 g1 g7
 conv => arg 2; whnf
 go_wp2_with fail
 refine HC.out.mono ?_
 rintro e w1 ⟨rfl, ⟨rs, cell, r, c, S, h, ha⟩, hk⟩
 have hK1 := HKK.out.later hk
 have HP := Lib.hid (fun W (hb : Below w1.heap.size w1 W) => w_lines h ha hK1 hb (-1) t.pt)
 have HK2 := Lib.hid hk
 have k0 := h.ti.t0
 have hgk := h.gk
 have hg0 := hgk.1
 obtain ⟨b0, b1', b2', b3'⟩ := h.scr.gl.blank 0 (by decide)
 simp only [Nat.zero_mul, Nat.zero_add, blankC] at b0 b1' b2' b3'
 have hf0 := blt b0
 have hl := blt k0
 clear h ha hk hK1
 simp only [Cl.v, blankC] at HP
 go_wp2_with fail
 refine gen_wp ?_
 intro u hu0
 have FB : Below w1.heap.size w1 u := by rw [hu0]; exact Below.refl _ _
 have KFu : ∀ W, Below u.heap.size u W → (W.cell? ⟨tm, 0, none⟩ = some (.pointer (some ⟨L.sb, 0, none⟩)) ∧ W.cell? ⟨0, 0, none⟩ = some (.int .i32 32) ∧ W.cell? ⟨0, 1, none⟩ = some (.int .i64 0) ∧ W.cell? ⟨0, 2, none⟩ = some (.bool false) ∧ W.cell? ⟨0, 3, none⟩ = some (.int .i64 0)) ∧ True ∧ True := by
  intro W hu
  refine ⟨⟨?_, ?_, ?_, ?_, ?_⟩, trivial, ?_⟩
  ·exact cellB (bel_call (by rw [hu0]; (repeat first | exact Below.refl _ _ | refine bel_alloc ?_ _)) hu) (k0)
  ·exact cellB (bel_call (by rw [hu0]; (repeat first | exact Below.refl _ _ | refine bel_alloc ?_ _)) hu) (b0)
  ·exact cellB (bel_call (by rw [hu0]; (repeat first | exact Below.refl _ _ | refine bel_alloc ?_ _)) hu) (b1')
  ·exact cellB (bel_call (by rw [hu0]; (repeat first | exact Below.refl _ _ | refine bel_alloc ?_ _)) hu) (b2')
  ·exact cellB (bel_call (by rw [hu0]; (repeat first | exact Below.refl _ _ | refine bel_alloc ?_ _)) hu) (b3')
  ·trivial
 clear hu0 k0 b0 b1' b2' b3'
 refine wp_region_held_drew (S := fun W => (W.cell? ⟨tm, 0, none⟩ = some (.pointer (some ⟨L.sb, 0, none⟩)) ∧ W.cell? ⟨0, 0, none⟩ = some (.int .i32 32) ∧ W.cell? ⟨0, 1, none⟩ = some (.int .i64 0) ∧ W.cell? ⟨0, 2, none⟩ = some (.bool false) ∧ W.cell? ⟨0, 3, none⟩ = some (.int .i64 0)) ∧ True ∧ True) (by kernel_rfl) (KFu _ (Below.refl _ _).drew) (fun hHeld => ?_)
 have FB := FB.drew
 refine sY 0 89 ?_
 refine sY 1 90 ?_
 refine sY 2 91 ?_
 refine sY 3 92 ?_
 refine sY 4 93 ?_
 refine sY 5 94 ?_
 refine sY 6 95 ?_
 refine sO 7 fun K hK => ?_
 obtain ⟨⟨fc0, fc1, fc2, fc3, fc4⟩, _, fb⟩ := hHeld
 go_simp
 refine (HP.out _ FB).mono ?_
 rintro e w2 ⟨rfl, h1, h2, h3⟩
 (try go_wp2_with fail)
 refine hK.out _ _ ?_ (fun hHeld => ?_)
 ·exact ⟨⟨((h2).cell (.inl (.inr (.inl rfl))) fc0), ((h2).cell (.inl (.inl hgk.1)) fc1), ((h2).cell (.inl (.inl hgk.1)) fc2), ((h2).cell (.inl (.inl hgk.1)) fc3), ((h2).cell (.inl (.inl hgk.1)) fc4)⟩, trivial, trivial⟩
 clear hK K
 try simp only [Act.put, List.setIfInBounds_toArray, List.set_cons_zero, List.set_cons_succ]
 refine wpAnyH_done (by kernel_rfl) ?_ _
 have Z := Lib.hid (OneP.mk h1 (HK2.out.trans h3))
 clear h1 h2 h3 hHeld
 go_wp2_with fail
 exact ⟨rfl, rfl, rfl, Z.out⟩
set_option maxHeartbeats 2000000 in
theorem one_c8_49 (w : World) (hK : KB K w) (h : Wy K L tm qb lb w rs cell r c S t f Q ov) (ha : AllW L.R L.C cell) (pb : Nat) (hp1 : w.cell? ⟨pb, 1, none⟩ = some (.int .i64 c)) (hpk : K pb) (g : Nat → Value) (g0 : g 0 = .pointer (some ⟨tm, 0, none⟩)) (g1 : g 1 = .int .u8 49) (g5 : g 5 = .pointer (some ⟨pb, 0, none⟩)) : Code.wp Tryz.prog (cs90 8) (OneR (OneP K L tm qb lb t f w) NoN) (fr176 g) w := by
 have HP := Lib.hid (fun W (hb : Below w.heap.size w W) => w_stop h ha hK hb c true)
 have k0 := h.ti.t0
 have hgk := h.gk
 have hl := blt k0
 have hlp := blt hp1
 clear h ha hK
 unfold fr176
 simp only [g0, g1, g5]
 clear g0 g1 g5
 conv => arg 2; whnf
 go_wp2_with fail
 refine gen_wp ?_
 intro u hu0
 have FB : Below w.heap.size w u := by rw [hu0]; exact Below.refl _ _
 have KFu : ∀ W, Below u.heap.size u W → (W.cell? ⟨tm, 0, none⟩ = some (.pointer (some ⟨L.sb, 0, none⟩)) ∧ W.cell? ⟨pb, 1, none⟩ = some (.int .i64 c)) ∧ True ∧ True := by
  intro W hu
  refine ⟨⟨?_, ?_⟩, trivial, ?_⟩
  ·exact cellB (bel_call (by rw [hu0]; (repeat first | exact Below.refl _ _ | refine bel_alloc ?_ _)) hu) (k0)
  ·exact cellB (bel_call (by rw [hu0]; (repeat first | exact Below.refl _ _ | refine bel_alloc ?_ _)) hu) (hp1)
  ·trivial
 clear hu0 k0 hp1
 refine wp_region_held_drew (S := fun W => (W.cell? ⟨tm, 0, none⟩ = some (.pointer (some ⟨L.sb, 0, none⟩)) ∧ W.cell? ⟨pb, 1, none⟩ = some (.int .i64 c)) ∧ True ∧ True) (by kernel_rfl) (KFu _ (Below.refl _ _).drew) (fun hHeld => ?_)
 have FB := FB.drew
 refine sY 0 111 ?_
 refine sY 1 112 ?_
 refine sY 2 113 ?_
 refine sY 3 114 ?_
 refine sY 4 115 ?_
 refine sY 5 116 ?_
 refine sY 6 117 ?_
 refine sY 7 118 ?_
 refine sO 8 fun K hK => ?_
 go_simp
 obtain ⟨⟨fc0, fc1⟩, _, fb⟩ := hHeld
 refine (HP.out _ FB).mono ?_
 rintro e w1 ⟨rfl, h1, h2, h3⟩
 (try go_wp2_with fail)
 refine hK.out _ _ ?_ (fun hHeld => ?_)
 ·exact ⟨⟨h2.cell (.inl (.inr (.inl rfl))) fc0, h2.cell (.inl (.inl hpk)) fc1⟩, trivial, trivial⟩
 clear hK K
 try simp only [Act.put, List.setIfInBounds_toArray, List.set_cons_zero, List.set_cons_succ]
 refine wpAnyH_done (by kernel_rfl) ?_ _
 have Z := Lib.hid (OneP.mk h1 h3)
 clear h1 h2 h3 hHeld
 go_wp2_with fail
 exact ⟨rfl, rfl, rfl, Z.out⟩
set_option maxHeartbeats 2000000 in
theorem one_c8_50 (w : World) (hK : KB K w) (h : Wy K L tm qb lb w rs cell r c S t f Q ov) (ha : AllW L.R L.C cell) (pb : Nat) (hp1 : w.cell? ⟨pb, 1, none⟩ = some (.int .i64 c)) (hpk : K pb) (g : Nat → Value) (g0 : g 0 = .pointer (some ⟨tm, 0, none⟩)) (g1 : g 1 = .int .u8 50) (g5 : g 5 = .pointer (some ⟨pb, 0, none⟩)) : Code.wp Tryz.prog (cs90 8) (OneR (OneP K L tm qb lb t f w) NoN) (fr176 g) w := by
 have HP := Lib.hid (fun W (hb : Below w.heap.size w W) => w_stop h ha hK hb c false)
 have k0 := h.ti.t0
 have hgk := h.gk
 have hl := blt k0
 have hlp := blt hp1
 clear h ha hK
 unfold fr176
 simp only [g0, g1, g5]
 clear g0 g1 g5
 conv => arg 2; whnf
 go_wp2_with fail
 refine gen_wp ?_
 intro u hu0
 have FB : Below w.heap.size w u := by rw [hu0]; exact Below.refl _ _
 have KFu : ∀ W, Below u.heap.size u W → (W.cell? ⟨tm, 0, none⟩ = some (.pointer (some ⟨L.sb, 0, none⟩)) ∧ W.cell? ⟨pb, 1, none⟩ = some (.int .i64 c)) ∧ True ∧ True := by
  intro W hu
  refine ⟨⟨?_, ?_⟩, trivial, ?_⟩
  ·exact cellB (bel_call (by rw [hu0]; (repeat first | exact Below.refl _ _ | refine bel_alloc ?_ _)) hu) (k0)
  ·exact cellB (bel_call (by rw [hu0]; (repeat first | exact Below.refl _ _ | refine bel_alloc ?_ _)) hu) (hp1)
  ·trivial
 clear hu0 k0 hp1
 refine wp_region_held_drew (S := fun W => (W.cell? ⟨tm, 0, none⟩ = some (.pointer (some ⟨L.sb, 0, none⟩)) ∧ W.cell? ⟨pb, 1, none⟩ = some (.int .i64 c)) ∧ True ∧ True) (by kernel_rfl) (KFu _ (Below.refl _ _).drew) (fun hHeld => ?_)
 have FB := FB.drew
 refine sY 0 111 ?_
 refine sY 1 112 ?_
 refine sY 2 113 ?_
 refine sY 3 114 ?_
 refine sY 4 115 ?_
 refine sY 5 116 ?_
 refine sY 6 117 ?_
 refine sY 7 118 ?_
 refine sO 8 fun K hK => ?_
 go_simp
 obtain ⟨⟨fc0, fc1⟩, _, fb⟩ := hHeld
 refine (HP.out _ FB).mono ?_
 rintro e w1 ⟨rfl, h1, h2, h3⟩
 (try go_wp2_with fail)
 refine hK.out _ _ ?_ (fun hHeld => ?_)
 ·exact ⟨⟨h2.cell (.inl (.inr (.inl rfl))) fc0, h2.cell (.inl (.inl hpk)) fc1⟩, trivial, trivial⟩
 clear hK K
 try simp only [Act.put, List.setIfInBounds_toArray, List.set_cons_zero, List.set_cons_succ]
 refine wpAnyH_done (by kernel_rfl) ?_ _
 have Z := Lib.hid (OneP.mk h1 h3)
 clear h1 h2 h3 hHeld
 go_wp2_with fail
 exact ⟨rfl, rfl, rfl, Z.out⟩
set_option maxHeartbeats 2000000 in
theorem one_c14 (w : World) (hK : KB K w) (h : Wy K L tm qb lb w rs cell r c S t f Q ov) (ha : AllW L.R L.C cell) (g : Nat → Value) (g0 : g 0 = .pointer (some ⟨tm, 0, none⟩)) : Code.wp Tryz.prog (cs90 14) (OneR (OneP K L tm qb lb t f w) NoN) (fr176 g) w := by
 have HP := Lib.hid (fun W (hb : Below w.heap.size w W) b hs hbb => w_push h hK hb b ⟨#[54, 48, 13]⟩ hs hbb (by decide))
 have HA := Lib.hid ha
 have k1 := h.ti.t1
 have hl := blt k1
 clear h ha hK
 unfold fr176
 simp only [g0]
 clear g0
 conv => arg 2; whnf
 go_wp2_with fail
 refine (HP.out _ (bel_alloc (Below.refl _ _) _) w.heap.size ?_ (Nat.le_refl _)).mono ?_
 ·first | exact World.cell?_alloc_new _ _ | simp [go_sem]
 rintro e w1 ⟨⟨z, rfl⟩, ⟨Q', ov', h1, -⟩, h3⟩
 have Z := Lib.hid (OneP.mk ⟨_, _, _, _, _, h1, HA.out⟩ h3)
 clear h1 h3
 go_wp2_with fail
 exact ⟨rfl, rfl, rfl, Z.out⟩
set_option maxHeartbeats 2000000 in
theorem one_c15 (w : World) (hK : KB K w) (i j : Nat) (h : Wy K L tm qb lb w rs cell i j S t f Q ov) (ha : AllW L.R L.C cell) (hR : L.R ≤ 6) (hC : L.C ≤ 12) (pb : Nat) (hp0 : w.cell? ⟨pb, 0, none⟩ = some (.int .i64 (i : Int))) (hp1 : w.cell? ⟨pb, 1, none⟩ = some (.int .i64 (j : Int))) (g : Nat → Value) (g0 : g 0 = .pointer (some ⟨tm, 0, none⟩)) (g5 : g 5 = .pointer (some ⟨pb, 0, none⟩)) : Code.wp Tryz.prog (cs90 15) (OneR (OneP K L tm qb lb t f w) NoN) (fr176 g) w := by
 have hi : i < L.R := by have := h.scr.rc; unfold inR at this; omega
 have hj : j < L.C := by have := h.scr.rc; unfold inR at this; omega
 have HS := Lib.hid (fun W (hb : Below w.heap.size w W) => (show Calls Tryz.prog 123 #[.pointer (some ⟨tm, 0, none⟩), pr i 0, pr i j] W (fun e w' => e = .returned (.tuple #[]) ∧ (∃ Q' ov', Wy K L tm qb lb w' rs cell i j S t f Q' ov' ∧ (Q = [] → SentP L cell i 0 i j Q')) ∧ Kept K w w') from
  (y_send W (hK.more hb.size) (h.later hb) ha hR hC i 0 i j (by omega) (by omega) hi hj (by first | omega | (simp; omega))).mono fun e w' ⟨h1, h2, h3⟩ => ⟨h1, h2, (Kept.ofBelow hb hK).trans h3⟩))
 have HA := Lib.hid ha
 have hl := blt hp0
 clear h ha hK hR hC
 unfold fr176
 simp only [g0, g5]
 clear g0 g5
 conv => arg 2; whnf
 go_wp2_with fail
 refine (HS.out _ (by (repeat first | exact Below.refl _ _ | refine bel_alloc ?_ _ | refine bel_set ?_ (by simp <;> omega) _))).mono ?_
 rintro e w1 ⟨rfl, ⟨Q', ov', h1, -⟩, h3⟩
 have Z := Lib.hid (OneP.mk ⟨_, _, _, _, _, h1, HA.out⟩ h3)
 clear h1 h3
 go_wp2_with fail
 exact ⟨rfl, rfl, rfl, Z.out⟩
set_option maxHeartbeats 2000000 in
theorem one_c16 (w : World) (hK : KB K w) (i j : Nat) (h : Wy K L tm qb lb w rs cell i j S t f Q ov) (ha : AllW L.R L.C cell) (hR : L.R ≤ 6) (hC : L.C ≤ 12) (pb : Nat) (hp0 : w.cell? ⟨pb, 0, none⟩ = some (.int .i64 (i : Int))) (hp1 : w.cell? ⟨pb, 1, none⟩ = some (.int .i64 (j : Int))) (g : Nat → Value) (g0 : g 0 = .pointer (some ⟨tm, 0, none⟩)) (g5 : g 5 = .pointer (some ⟨pb, 0, none⟩)) : Code.wp Tryz.prog (cs90 16) (OneR (fun w' => (∃ Q' ov', Wy K L tm qb lb w' rs cell i j S t f Q' ov' ∧ (Q = [] → SentP L cell 0 0 i j Q')) ∧ Kept K w w') NoN) (fr176 g) w := by
 have hi : i < L.R := by have := h.scr.rc; unfold inR at this; omega
 have hj : j < L.C := by have := h.scr.rc; unfold inR at this; omega
 have HS := Lib.hid (fun W (hb : Below w.heap.size w W) => (show Calls Tryz.prog 123 #[.pointer (some ⟨tm, 0, none⟩), pr 0 0, pr i j] W (fun e w' => e = .returned (.tuple #[]) ∧ (∃ Q' ov', Wy K L tm qb lb w' rs cell i j S t f Q' ov' ∧ (Q = [] → SentP L cell 0 0 i j Q')) ∧ Kept K w w') from
  (y_send W (hK.more hb.size) (h.later hb) ha hR hC 0 0 i j (by omega) (by omega) hi hj (by first | omega | (simp; omega))).mono fun e w' ⟨h1, h2, h3⟩ => ⟨h1, h2, (Kept.ofBelow hb hK).trans h3⟩))
 have HA := Lib.hid ha
 have hl := blt hp0
 clear h ha hK hR hC
 unfold fr176
 simp only [g0, g5]
 clear g0 g5
 conv => arg 2; whnf
 go_wp2_with fail
 refine (HS.out _ (by (repeat first | exact Below.refl _ _ | refine bel_alloc ?_ _ | refine bel_set ?_ (by simp <;> omega) _))).mono ?_
 rintro e w1 ⟨rfl, h1⟩
 have Z := Lib.hid h1
 clear h1
 go_wp2_with fail
 exact ⟨rfl, rfl, rfl, Z.out⟩
theorem cell_named {W w : World} {v : Value} {t : TypeId} (h : W = w.alloc (.cells #[v] t)) : W.cell? ⟨w.heap.size, 0, none⟩ = some v := by rw [h, World.cell?_alloc_new]; rfl
theorem bel_named {w w' W : World} {o : Obj} (h : W = w'.alloc o) (hb : Below w.heap.size w w') : Below w.heap.size w W := by rw [h]; exact bel_alloc hb o
theorem conv3 {W W' : World} {x y z : Int} (h : W' = W.alloc (.cells #[.int .u8 x, .int .u8 y, .int .u8 z] 5)) : Sem.run Tryz.prog (convert 84 9 (.slice (some ⟨W.heap.size, 0, none⟩) 3 3)) W' = .ok (.string (strOfNums [x, y, z])) W' := by
 subst h
 refine run_convert_bytes_arg _ 84 5 Tryz.underlying84 Tryz.underlying5 W.heap.size 0 3 3 [x, y, z] rfl (fun i hi => ?_) 9 Tryz.underlying9
 have hi3 : i < 3 := hi
 rcases (by omega : i = 0 ∨ i = 1 ∨ i = 2) with rfl | rfl | rfl <;> simp [go_sem]
set_option maxHeartbeats 2000000 in
theorem one_c13 (w : World) (hK : KB K w) (i j : Nat) (h : Wy K L tm qb lb w rs cell i j S t f Q ov) (ha : AllW L.R L.C cell) (hi : i < 256) (hj : j < 256) (pb : Nat) (hpk : K pb) (hp0 : w.cell? ⟨pb, 0, none⟩ = some (.int .i64 (i : Int))) (hp1 : w.cell? ⟨pb, 1, none⟩ = some (.int .i64 (j : Int))) (g : Nat → Value) (g0 : g 0 = .pointer (some ⟨tm, 0, none⟩)) (g5 : g 5 = .pointer (some ⟨pb, 0, none⟩)) : Code.wp Tryz.prog (cs90 13) (OneR (OneP K L tm qb lb t f w) NoN) (fr176 g) w := by
 have HP := Lib.hid (fun W (hb : Below w.heap.size w W) b x y hs hbb => w_push h hK hb b (strOfNums [x, y, 13]) hs hbb (by rw [strOfNums_size]; simp))
 have HT := Lib.hid (fun (n : Nat) (hn : n < 256) W => told_any n hn W)
 have HA := Lib.hid ha
 have Hi := Lib.hid hi
 have Hj := Lib.hid hj
 have k1 := h.ti.t1
 have hl := blt k1
 have hlp := blt hp0
 clear h ha hK hi hj
 unfold fr176
 simp only [g0, g5]
 clear g0 g5
 conv => arg 2; whnf
 go_wp2_with fail
 refine gen_wp ?_
 intro u hu0
 have FB : Below w.heap.size w u := by rw [hu0]; exact Below.refl _ _
 have P0 := Lib.hid hp0
 have P1 := Lib.hid hp1
 have KFu : ∀ W, Below u.heap.size u W → (W.cell? ⟨tm, 1, none⟩ = some (.pointer (some ⟨qb, 0, none⟩)) ∧ W.cell? ⟨pb, 0, none⟩ = some (.int .i64 (i : Int)) ∧ W.cell? ⟨pb, 1, none⟩ = some (.int .i64 (j : Int))) ∧ True ∧ True := by
  intro W hu
  refine ⟨⟨?_, ?_, ?_⟩, trivial, ?_⟩
  ·exact cellB (bel_call (by rw [hu0]; (repeat first | exact Below.refl _ _ | refine bel_alloc ?_ _)) hu) (k1)
  ·exact cellB (bel_call (by rw [hu0]; (repeat first | exact Below.refl _ _ | refine bel_alloc ?_ _)) hu) (hp0)
  ·exact cellB (bel_call (by rw [hu0]; (repeat first | exact Below.refl _ _ | refine bel_alloc ?_ _)) hu) (hp1)
  ·trivial
 clear hu0 k1 hp0 hp1
 refine wp_region_held_drew (S := fun W => (W.cell? ⟨tm, 1, none⟩ = some (.pointer (some ⟨qb, 0, none⟩)) ∧ W.cell? ⟨pb, 0, none⟩ = some (.int .i64 (i : Int)) ∧ W.cell? ⟨pb, 1, none⟩ = some (.int .i64 (j : Int))) ∧ True ∧ True) (by kernel_rfl) (KFu _ (Below.refl _ _).drew) (fun hHeld => ?_)
 have FB := FB.drew
 refine sY 0 146 ?_
 refine sY 1 147 ?_
 refine sY 2 148 ?_
 refine sY 3 149 ?_
 refine sY 4 150 ?_
 refine sY 5 151 ?_
 refine sY 7 153 ?_
 refine sY 8 154 ?_
 refine sO 6 fun K hK => ?_
 go_simp
 refine (HT.out _ (by first | exact Hi.out | exact Hj.out) _).mono ?_
 rintro e w1 ⟨⟨x, rfl, hx⟩, rfl⟩
 (try go_wp2_with fail)
 refine hK.out _ _ ?_ (fun hHeld => ?_)
 ·exact hHeld
 clear hK K
 refine wpAnyH_name ?_
 intro W6 hW6
 rw [← hW6] at hHeld
 have FB := (show Below w.heap.size w W6 from by rw [hW6]; exact FB)
 clear hW6
 try simp only [Act.put, List.setIfInBounds_toArray, List.set_cons_zero, List.set_cons_succ]
 refine sO 9 fun K hK => ?_
 go_simp
 refine (HT.out _ (by first | exact Hi.out | exact Hj.out) _).mono ?_
 rintro e w1 ⟨⟨x, rfl, hx⟩, rfl⟩
 (try go_wp2_with fail)
 refine hK.out _ _ ?_ (fun hHeld => ?_)
 ·exact hHeld
 clear hK K
 refine wpAnyH_name ?_
 intro W9 hW9
 rw [← hW9] at hHeld
 have FB := (show Below w.heap.size w W9 from by rw [hW9]; exact FB)
 clear hW9
 try simp only [Act.put, List.setIfInBounds_toArray, List.set_cons_zero, List.set_cons_succ]
 refine sO 10 fun K hK => ?_
 obtain ⟨⟨fc0, fc1, fc2⟩, _, fb⟩ := hHeld
 go_simp
 (try go_wp2_with fail)
 refine hK.out _ _ ?_ (fun hHeld => ?_)
 ·exact ⟨⟨cellB (bel_alloc (Below.refl _ _) _) fc0, cellB (bel_alloc (Below.refl _ _) _) fc1, cellB (bel_alloc (Below.refl _ _) _) fc2⟩, trivial, trivial⟩
 clear hK K
 refine wpAnyH_name ?_
 intro W10 hW10
 rw [← hW10] at hHeld
 first | (have xb10 := blk_named hW10 (n := 3) rfl) | (have xb10 := blk_named' hW10 (n := 3) rfl)
 have hw10 := FB.size
 have FB := bel_named hW10 FB
 have hz10_0 := blt fc0
 have hz10_1 := blt fc1
 have cv := conv3 hW10
 clear hW10
 try simp only [Act.put, List.setIfInBounds_toArray, List.set_cons_zero, List.set_cons_succ]
 refine sO 11 fun K hK => ?_
 go_simp
 (try go_wp2_with fail)
 refine hK.out _ _ ?_ (fun hHeld => ?_)
 ·exact hHeld
 clear hK K
 refine wpAnyH_name ?_
 intro W11 hW11
 rw [← hW11] at hHeld
 have FB := (show Below w.heap.size w W11 from by rw [hW11]; exact FB)
 have xb10 := (show Blk W11 _ 3 from by rw [hW11]; exact xb10)
 clear hW11
 try simp only [Act.put, List.setIfInBounds_toArray, List.set_cons_zero, List.set_cons_succ]
 refine sO 12 fun K hK => ?_
 obtain ⟨⟨fc0, fc1, fc2⟩, _, fb⟩ := hHeld
 go_simp
 (try go_wp2_with fail)
 refine hK.out _ _ ?_ (fun hHeld => ?_)
 ·exact ⟨⟨cellB (bel_alloc (Below.refl _ _) _) fc0, cellB (bel_alloc (Below.refl _ _) _) fc1, cellB (bel_alloc (Below.refl _ _) _) fc2⟩, trivial, trivial⟩
 clear hK K
 refine wpAnyH_name ?_
 intro W12 hW12
 rw [← hW12] at hHeld
 first | (have xb12 := blk_named hW12 (n := 1) rfl) | (have xb12 := blk_named' hW12 (n := 1) rfl)
 have hw12 := FB.size
 have FB := bel_named hW12 FB
 have hz12_0 := blt fc0
 have hz12_1 := blt fc1
 have hv12_10 := xb10.lt
 first | (have xb10 := xb10.named hW12) | (have xb10 := xb10.named' hW12)
 have cs12 := cell_named hW12
 clear hW12
 try simp only [Act.put, List.setIfInBounds_toArray, List.set_cons_zero, List.set_cons_succ]
 refine sO 13 fun K hK => ?_
 go_simp
 refine (HP.out _ FB _ _ _ cs12 hw12).mono ?_
 rintro e w5 ⟨⟨z, rfl⟩, ⟨Q', ov', h1, -⟩, h3⟩
 have Z := Lib.hid (OneP.mk ⟨_, _, _, _, _, h1, HA.out⟩ h3)
 have hh := (show _ ∧ _ ∧ _ from ⟨h1.ti.t1, h3.cell hpk P0.out, h3.cell hpk P1.out⟩)
 clear h1 h3
 (try go_wp2_with fail)
 refine hK.out _ _ ?_ (fun hHeld => ?_)
 ·exact ⟨hh, trivial, trivial⟩
 clear hK K
 refine wpAnyH_name ?_
 intro W13 hW13
 rw [← hW13] at hHeld
 have Z := Lib.hid (show OneP K L tm qb lb t f w W13 from by rw [hW13]; exact Z.out)
 clear hW13
 try simp only [Act.put, List.setIfInBounds_toArray, List.set_cons_zero, List.set_cons_succ]
 refine wpAnyH_done (by kernel_rfl) ?_ _
 go_wp2_with fail
 exact ⟨rfl, rfl, rfl, Z.out⟩
end
end Go.Proofs.YtpjooboohelffaaGreatDoor
/- Top: a Wyse 60: goes. -/
namespace Go.Proofs.YtpjooboohelffaaGreatDoor
open Go.RowKit Go.Shelf T05
set_option linter.unusedVariables false
set_option linter.unusedSimpArgs false
set_option maxRecDepth 100000
/-- Four cells of a block. -/
def At4 (W : World) (p : Nat) (x : Cl) : Prop := W.cell? ⟨p, 0, none⟩ = some (.int .i32 x.g) ∧ W.cell? ⟨p, 1, none⟩ = some (.int .i64 x.a) ∧ W.cell? ⟨p, 2, none⟩ = some (.bool x.d) ∧ W.cell? ⟨p, 3, none⟩ = some (.int .i64 x.m)
theorem Blk.set4 {W w : World} {b n : Nat} {p q r s : Addr} {t u v x : Value} (hb : Blk w b n) (h : W = (((w.setCell p t).setCell q u).setCell r v).setCell s x) : Blk W b n := by rw [h]; exact (((hb.set _ _).set _ _).set _ _).set _ _
theorem at4_set {W w : World} {b : Nat} {t u v x : Value} (h : W = (((w.setCell ⟨b, 0, none⟩ t).setCell ⟨b, 1, none⟩ u).setCell ⟨b, 2, none⟩ v).setCell ⟨b, 3, none⟩ x) (hb : Blk w b 4) : W.cell? ⟨b, 0, none⟩ = some t ∧ W.cell? ⟨b, 1, none⟩ = some u ∧ W.cell? ⟨b, 2, none⟩ = some v ∧ W.cell? ⟨b, 3, none⟩ = some x := by
 obtain ⟨_, e0, _⟩ := hb.get 0 (by decide)
 obtain ⟨_, e1, _⟩ := hb.get 1 (by decide)
 obtain ⟨_, e2, _⟩ := hb.get 2 (by decide)
 obtain ⟨_, e3, _⟩ := hb.get 3 (by decide)
 rw [h]
 refine ⟨?_, ?_, ?_, ?_⟩
 ·rw [World.cell?_setCell_other _ _ _ _ (by simp), World.cell?_setCell_other _ _ _ _ (by simp), World.cell?_setCell_other _ _ _ _ (by simp)]
  exact World.cell?_setCell_same' _ _ _ (by rw [e0]; rfl)
 ·rw [World.cell?_setCell_other _ _ _ _ (by simp), World.cell?_setCell_other _ _ _ _ (by simp)]
  exact World.cell?_setCell_same' _ _ _ (by rw [World.cell?_setCell_other _ _ _ _ (by simp), e1]; rfl)
 ·rw [World.cell?_setCell_other _ _ _ _ (by simp)]
  exact World.cell?_setCell_same' _ _ _ (by rw [World.cell?_setCell_other _ _ _ _ (by simp), World.cell?_setCell_other _ _ _ _ (by simp), e2]; rfl)
 ·exact World.cell?_setCell_same' _ _ _ (by rw [World.cell?_setCell_other _ _ _ _ (by simp), World.cell?_setCell_other _ _ _ _ (by simp), World.cell?_setCell_other _ _ _ _ (by simp), e3]; rfl)
section
variable {K : Nat → Prop} {L : Lay} {tm qb lb : Nat} {t : Tm} {f : Nat} {Q : List Int} {ov : Bool}
set_option maxHeartbeats 4000000 in
theorem y_goes (w : World) (hK : KB K w) (h : WyA K L tm qb lb w t f Q ov) (i j : Int) :
  Calls Tryz.prog 85 #[.pointer (some ⟨tm, 0, none⟩), .int .i64 i, .int .i64 j] w fun e w' => e = .returned (.tuple #[]) ∧ WyA K L tm qb lb w' t f Q ov ∧ Kept K w w' := by
 obtain ⟨rs, cell, r, c, S, h, ha⟩ := h
 have HA := Lib.hid (fun W (hb : Below w.heap.size w W) => (show Calls Tryz.prog 72 #[.pointer (some ⟨L.sb, 0, none⟩), pr i j] W (fun e w' => (∃ x z, e = .returned (.tuple #[Cl.v x, .int .i64 z])) ∧ Below W.heap.size W w') from by
  by_cases hij : inR L.R L.C i j
  ·obtain ⟨p, q, rfl, rfl, hi, hj⟩ := inR_nat hij
   exact (s_at W (h.scr.later hb) p q hi hj).mono fun e w' ⟨h1, h2⟩ => ⟨⟨_, _, h1⟩, h2⟩
  ·exact (s_at_out W (h.scr.later hb) i j hij).mono fun e w' ⟨h1, h2⟩ => ⟨⟨_, _, h1⟩, h2⟩))
 have HM := Lib.hid (fun W (hb : Below w.heap.size w W) => w_move h ha hK hb i j)
 have HE := Lib.hid (fun W (hb : Below w.heap.size w W) => (show WyA K L tm qb lb W t f Q ov ∧ Kept K w W from ⟨⟨_, _, _, _, _, h.later hb, ha⟩, Kept.ofBelow hb hK⟩))
 have k0 := h.ti.t0
 have hgk := h.gk
 have hl0 := blt k0
 clear h ha hK
 simp only [Cl.v] at HA
 go_enter Tryz.func85, Tryz.ntmps85
 go_wp2_with fail
 refine gen_wp ?_
 intro u hu0
 have FB : Below w.heap.size w u := by rw [hu0]; (repeat first | exact Below.refl _ _ | refine bel_alloc ?_ _ | refine bel_set ?_ (by simp <;> omega) _)
 have KFu : ∀ W, Below u.heap.size u W → (W.cell? ⟨tm, 0, none⟩ = some (.pointer (some ⟨L.sb, 0, none⟩)) ∧ W.cell? ⟨w.heap.size, 0, none⟩ = some (.int .i64 i) ∧ W.cell? ⟨w.heap.size, 1, none⟩ = some (.int .i64 j)) ∧ True ∧ Below w.heap.size w W := by
  intro W hu
  refine ⟨⟨?_, ?_, ?_⟩, trivial, ?_⟩
  ·exact cellB (bel_call (by rw [hu0]; (repeat first | exact Below.refl _ _ | refine bel_alloc ?_ _)) hu) (k0)
  ·exact (hu.cell (by rw [hu0]; simp <;> omega)).trans (by rw [hu0]; simp [go_sem])
  ·exact (hu.cell (by rw [hu0]; simp <;> omega)).trans (by rw [hu0]; simp [go_sem])
  ·exact bel_call (by rw [hu0]; (repeat first | exact Below.refl _ _ | refine bel_alloc ?_ _)) hu
 have hs1u : w.heap.size < u.heap.size := by rw [hu0]; simp <;> omega
 clear hu0 k0
 have hsu := FB.size
 go_cut [7, 8] from 9 (fun s t wx => ∃ z, t = .int .i64 z ∧ Hid (wx.cell? ⟨tm, 0, none⟩ = some (.pointer (some ⟨L.sb, 0, none⟩)) ∧ wx.cell? ⟨w.heap.size, 0, none⟩ = some (.int .i64 i) ∧ wx.cell? ⟨w.heap.size, 1, none⟩ = some (.int .i64 j) ∧ Below w.heap.size w wx))
 case first =>
  refine wp_region_held_drew (S := fun W => (W.cell? ⟨tm, 0, none⟩ = some (.pointer (some ⟨L.sb, 0, none⟩)) ∧ W.cell? ⟨w.heap.size, 0, none⟩ = some (.int .i64 i) ∧ W.cell? ⟨w.heap.size, 1, none⟩ = some (.int .i64 j)) ∧ True ∧ Below w.heap.size w W) (by kernel_rfl) (KFu _ (Below.refl _ _).drew) (fun hHeld => ?_)
  refine sY 0 13 ?_
  refine sY 1 14 ?_
  refine sY 2 15 ?_
  refine sY 3 16 ?_
  refine sY 4 17 ?_
  refine wpAnyH_ready (rs := [5, 9]) (by kernel_rfl) (by simp) ?_
  refine AllReadyH.cons rfl (fun K hK => ?_) (AllReadyH.cons rfl (fun K hK => ?_) (AllReadyH.nil))
  ·obtain ⟨⟨fc0, fc1, fc2⟩, _, fb⟩ := hHeld
   go_simp
   refine (HA.out _ fb).mono ?_
   rintro e w3 ⟨⟨x, z, rfl⟩, b3⟩
   (try go_wp2_with fail)
   refine hK.out _ _ ?_ (fun hHeld => ?_)
   ·exact ⟨⟨cellB b3 fc0, cellB b3 fc1, cellB b3 fc2⟩, trivial, bel_call fb b3⟩
   clear hK K
   refine wpAnyH_name ?_
   intro W5 hW5
   rw [← hW5] at hHeld
   clear hW5
   try simp only [Act.put, List.setIfInBounds_toArray, List.set_cons_zero, List.set_cons_succ]
   refine sY 6 12 ?_
   refine sY 7 19 ?_
   refine sY 8 20 ?_
   refine sO 9 fun K hK => ?_
   obtain ⟨⟨fc0, fc1, fc2⟩, _, fb⟩ := hHeld
   go_simp
   (try go_wp2_with fail)
   refine hK.out _ _ ?_ (fun hHeld => ?_)
   ·exact ⟨⟨cellB (bel_alloc (Below.refl _ _) _) fc0, cellB (bel_alloc (Below.refl _ _) _) fc1, cellB (bel_alloc (Below.refl _ _) _) fc2⟩, trivial, bel_alloc fb _⟩
   clear hK K
   refine wpAnyH_name ?_
   intro W9 hW9
   rw [← hW9] at hHeld
   first | (have xb9 := blk_named hW9 (n := 4) rfl) | (have xb9 := blk_named' hW9 (n := 4) rfl)
   have hw9 := fb.size
   have hz9_0 := blt fc0
   have hz9_1 := blt fc1
   clear hW9
   try simp only [Act.put, List.setIfInBounds_toArray, List.set_cons_zero, List.set_cons_succ]
   refine sO 10 fun K hK => ?_
   obtain ⟨⟨fc0, fc1, fc2⟩, _, fb⟩ := hHeld
   obtain ⟨x0, e0, z0⟩ := xb9.get 0 (by decide)
   obtain ⟨x1, e1, z1⟩ := xb9.get 1 (by decide)
   obtain ⟨x2, e2, z2⟩ := xb9.get 2 (by decide)
   obtain ⟨x3, e3, z3⟩ := xb9.get 3 (by decide)
   have hlx := blt e0
   have hfb := fb.size
   have hwx9 := hw9
   go_simp
   (try go_wp2_with fail)
   refine hK.out _ _ ?_ (fun hHeld => ?_)
   ·exact ⟨⟨(cs_other (cs_other (cs_other (cs_other fc0 (by simp <;> omega)) (by simp <;> omega)) (by simp <;> omega)) (by simp <;> omega)), (cs_other (cs_other (cs_other (cs_other fc1 (by simp <;> omega)) (by simp <;> omega)) (by simp <;> omega)) (by simp <;> omega)), (cs_other (cs_other (cs_other (cs_other fc2 (by simp <;> omega)) (by simp <;> omega)) (by simp <;> omega)) (by simp <;> omega))⟩, trivial, (bel_set (bel_set (bel_set (bel_set fb (by first | omega | (simp <;> omega)) _) (by first | omega | (simp <;> omega)) _) (by first | omega | (simp <;> omega)) _) (by first | omega | (simp <;> omega)) _)⟩
   clear hK K
   refine wpAnyH_name ?_
   intro W10 hW10
   rw [← hW10] at hHeld
   have y9 := at4_set hW10 xb9
   have xb9 := xb9.set4 hW10
   clear hW10
   try simp only [Act.put, List.setIfInBounds_toArray, List.set_cons_zero, List.set_cons_succ]
   refine sY 11 8 ?_
   refine wpAnyH_done (by kernel_rfl) ?_ _
   go_wp2_with fail
   go_meet
   exact ⟨_, rfl, Lib.hid ⟨hHeld.1.1, hHeld.1.2.1, hHeld.1.2.2, hHeld.2.2⟩⟩
  ·obtain ⟨⟨fc0, fc1, fc2⟩, _, fb⟩ := hHeld
   go_simp
   (try go_wp2_with fail)
   refine hK.out _ _ ?_ (fun hHeld => ?_)
   ·exact ⟨⟨cellB (bel_alloc (Below.refl _ _) _) fc0, cellB (bel_alloc (Below.refl _ _) _) fc1, cellB (bel_alloc (Below.refl _ _) _) fc2⟩, trivial, bel_alloc fb _⟩
   clear hK K
   refine wpAnyH_name ?_
   intro W9 hW9
   rw [← hW9] at hHeld
   first | (have xb9 := blk_named hW9 (n := 4) rfl) | (have xb9 := blk_named' hW9 (n := 4) rfl)
   have hw9 := fb.size
   have hz9_0 := blt fc0
   have hz9_1 := blt fc1
   clear hW9
   try simp only [Act.put, List.setIfInBounds_toArray, List.set_cons_zero, List.set_cons_succ]
   refine sO 5 fun K hK => ?_
   obtain ⟨⟨fc0, fc1, fc2⟩, _, fb⟩ := hHeld
   go_simp
   refine (HA.out _ fb).mono ?_
   rintro e w3 ⟨⟨x, z, rfl⟩, b3⟩
   (try go_wp2_with fail)
   refine hK.out _ _ ?_ (fun hHeld => ?_)
   ·exact ⟨⟨cellB b3 fc0, cellB b3 fc1, cellB b3 fc2⟩, trivial, bel_call fb b3⟩
   clear hK K
   refine wpAnyH_name ?_
   intro W5 hW5
   rw [← hW5] at hHeld
   have xb9 := xb9.later2 hW5 b3
   clear hW5
   try simp only [Act.put, List.setIfInBounds_toArray, List.set_cons_zero, List.set_cons_succ]
   refine sY 6 12 ?_
   refine sY 7 19 ?_
   refine sY 8 20 ?_
   refine sO 10 fun K hK => ?_
   obtain ⟨⟨fc0, fc1, fc2⟩, _, fb⟩ := hHeld
   obtain ⟨x0, e0, z0⟩ := xb9.get 0 (by decide)
   obtain ⟨x1, e1, z1⟩ := xb9.get 1 (by decide)
   obtain ⟨x2, e2, z2⟩ := xb9.get 2 (by decide)
   obtain ⟨x3, e3, z3⟩ := xb9.get 3 (by decide)
   have hlx := blt e0
   have hfb := fb.size
   have hwx9 := hw9
   go_simp
   (try go_wp2_with fail)
   refine hK.out _ _ ?_ (fun hHeld => ?_)
   ·exact ⟨⟨(cs_other (cs_other (cs_other (cs_other fc0 (by simp <;> omega)) (by simp <;> omega)) (by simp <;> omega)) (by simp <;> omega)), (cs_other (cs_other (cs_other (cs_other fc1 (by simp <;> omega)) (by simp <;> omega)) (by simp <;> omega)) (by simp <;> omega)), (cs_other (cs_other (cs_other (cs_other fc2 (by simp <;> omega)) (by simp <;> omega)) (by simp <;> omega)) (by simp <;> omega))⟩, trivial, (bel_set (bel_set (bel_set (bel_set fb (by first | omega | (simp <;> omega)) _) (by first | omega | (simp <;> omega)) _) (by first | omega | (simp <;> omega)) _) (by first | omega | (simp <;> omega)) _)⟩
   clear hK K
   refine wpAnyH_name ?_
   intro W10 hW10
   rw [← hW10] at hHeld
   have y9 := at4_set hW10 xb9
   have xb9 := xb9.set4 hW10
   clear hW10
   try simp only [Act.put, List.setIfInBounds_toArray, List.set_cons_zero, List.set_cons_succ]
   refine sY 11 8 ?_
   refine wpAnyH_done (by kernel_rfl) ?_ _
   go_wp2_with fail
   go_meet
   exact ⟨_, rfl, Lib.hid ⟨hHeld.1.1, hHeld.1.2.1, hHeld.1.2.2, hHeld.2.2⟩⟩
 case rest =>
  obtain ⟨z, rfl, HH⟩ := hcut
  obtain ⟨q0, m0, m1, FB⟩ := HH.out
  have hlp := blt m0
  have Fb := Lib.hid FB
  clear HH
  by_cases hz : z = 0
  ·subst hz
   go_wp2_with fail
   refine gen_wp ?_
   intro v hv0
   have FB2 : Below w.heap.size w v := by rw [hv0]; exact FB
   rw [← hv0] at m0 m1 q0
   clear hv0 KFu FB
   have FB := FB2
   clear FB2
   have KFv : ∀ W, Below v.heap.size v W → True ∧ True ∧ True := by
    intro W hv
    refine ⟨trivial, trivial, ?_⟩
    ·trivial
   refine wp_region_held_drew (S := fun W => True ∧ True ∧ True) (by kernel_rfl) (KFv _ (Below.refl _ _).drew) (fun hHeld => ?_)
   have FB := FB.drew
   refine sY 0 23 ?_
   refine sY 1 24 ?_
   refine sY 2 25 ?_
   refine wpAnyH_ready (rs := [3, 4]) (by kernel_rfl) (by simp) ?_
   refine AllReadyH.cons rfl (fun K hK => ?_) (AllReadyH.cons rfl (fun K hK => ?_) (AllReadyH.nil))
   ·have p0 := q0
    go_simp
    (try go_wp2_with fail)
    refine hK.out _ _ ?_ (fun hHeld => ?_)
    ·exact hHeld
    clear hK K
    try simp only [Act.put, List.setIfInBounds_toArray, List.set_cons_zero, List.set_cons_succ]
    refine sO 4 fun K hK => ?_
    have p0 := m0
    have p1 := m1
    go_simp
    (try go_wp2_with fail)
    refine hK.out _ _ ?_ (fun hHeld => ?_)
    ·exact hHeld
    clear hK K
    try simp only [Act.put, List.setIfInBounds_toArray, List.set_cons_zero, List.set_cons_succ]
    refine sO 5 fun K hK => ?_
    go_simp
    refine (HM.out _ FB).mono ?_
    rintro e w3 ⟨rfl, h1, h2, h3⟩
    (try go_wp2_with fail)
    refine hK.out _ _ ?_ (fun hHeld => ?_)
    ·exact ⟨trivial, trivial, trivial⟩
    clear hK K
    try simp only [Act.put, List.setIfInBounds_toArray, List.set_cons_zero, List.set_cons_succ]
    refine wpAnyH_done (by kernel_rfl) ?_ _
    go_wp2_with fail
    go_end0
    exact ⟨rfl, h1, h3⟩
   ·have p0 := m0
    have p1 := m1
    go_simp
    (try go_wp2_with fail)
    refine hK.out _ _ ?_ (fun hHeld => ?_)
    ·exact hHeld
    clear hK K
    try simp only [Act.put, List.setIfInBounds_toArray, List.set_cons_zero, List.set_cons_succ]
    refine sO 3 fun K hK => ?_
    have p0 := q0
    go_simp
    (try go_wp2_with fail)
    refine hK.out _ _ ?_ (fun hHeld => ?_)
    ·exact hHeld
    clear hK K
    try simp only [Act.put, List.setIfInBounds_toArray, List.set_cons_zero, List.set_cons_succ]
    refine sO 5 fun K hK => ?_
    go_simp
    refine (HM.out _ FB).mono ?_
    rintro e w3 ⟨rfl, h1, h2, h3⟩
    (try go_wp2_with fail)
    refine hK.out _ _ ?_ (fun hHeld => ?_)
    ·exact ⟨trivial, trivial, trivial⟩
    clear hK K
    try simp only [Act.put, List.setIfInBounds_toArray, List.set_cons_zero, List.set_cons_succ]
    refine wpAnyH_done (by kernel_rfl) ?_ _
    go_wp2_with fail
    go_end0
    exact ⟨rfl, h1, h3⟩
  ·have hz1 : (z == 0) = false := by simpa using hz
   go_wp2_with fail
   go_end0
   exact ⟨rfl, HE.out _ Fb.out⟩
end
end Go.Proofs.YtpjooboohelffaaGreatDoor
