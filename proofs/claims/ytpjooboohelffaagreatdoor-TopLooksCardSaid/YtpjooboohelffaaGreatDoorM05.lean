/- TopLooks and TopSends, helper 6 of 27. It holds: shift's Field; shift's Field, the walk; Chars; shift's Chars; ink's rise; ink's Put, ahead of the last column; ink's Put, in the last column. Each theorem states its own conditions. -/
import Derived.Test.YtpjooboohelffaaGreatDoorM04
import Derived.ScopeJumps
import Derived.WalkMore
/- Top: shift's Field. -/
namespace Go
/-- As Q; by a goto to a label: J of it. -/
def Exit.jumps (J : Nat → Act → World → Prop) (Q : Exit → Act → World → Prop) : Exit → Act → World → Prop
 | .goto l', a, w => J l' a w
 | e, a, w => Q e a w
section
variable {P : Program} {a : Act} {w : World} {Q : Exit → Act → World → Prop}
theorem wp_scope_multi {c : Code} (J : Nat → Act → World → Prop) (μ : Nat → Act → World → Nat) (hf : ∀ l a w, J l a w → (findLabel c l).isSome = true)
  (first : c.wp P (Exit.jumps J Q) a w)
  (pass : ∀ l rest a w, findLabel c l = some rest → J l a w → rest.wp P (Exit.jumps (fun l' a' w' => J l' a' w' ∧ μ l' a' w' < μ l a w) Q) a w) : (Code.scope c).wp P Q a w := by
 intro b k cs
 obtain ⟨rest, hrest⟩ : ∃ rest : Nat → Code, ∀ l a w, J l a w → findLabel c l = some (rest l) :=
  ⟨fun l => (findLabel c l).getD .skip, fun l a w h => by
   obtain ⟨r, hr⟩ := Option.isSome_iff_exists.1 (hf l a w h)
   simp [hr]⟩
 have hg : ∀ l a w, J l a w → gotoIn l (.inScope c :: k) = some (.code (rest l) :: .inScope c :: k) := fun l a w h => by simp [gotoIn, hrest l a w h]
 have key : ∀ n l a w, μ l a w = n → J l a w → ∃ e a' w', Q e a' w' ∧ Arrives P (lone (b.at a (.code (rest l) :: .inScope c :: k)) cs w) b k cs e a' w' := by
  intro n
  induction n using Nat.strongRecOn with
  | _ n ih =>
   intro l a w hn hJ
   obtain ⟨e, a₁, w₁, hq, harr⟩ := pass l (rest l) a w (hrest l a w hJ) hJ b (.inScope c :: k) cs
   cases e with
   | normal => exact ⟨.normal, a₁, w₁, hq, Steps.trans harr (.one step_inScope)⟩
   | exit id => exact ⟨.exit id, a₁, w₁, hq, fun k' hk => harr k' (by simp [exitTo, hk])⟩
   | goto l' =>
    obtain ⟨hJ', hlt⟩ := hq
    obtain ⟨e₂, a₂, w₂, hq₂, harr₂⟩ := ih _ (by omega) l' a₁ w₁ rfl hJ'
    exact ⟨e₂, a₂, w₂, hq₂, .of_steps (harr _ (hg _ _ _ hJ')) harr₂⟩
   | ret => exact ⟨_, a₁, w₁, hq, harr⟩
   | panic ch => exact ⟨_, a₁, w₁, hq, harr⟩
   | outgrown => exact ⟨_, a₁, w₁, hq, harr⟩
 obtain ⟨e, a₁, w₁, hq, harr⟩ := first b (.inScope c :: k) cs
 cases e with
 | normal => exact ⟨.normal, a₁, w₁, hq, .head step_scope (Steps.trans harr (.one step_inScope))⟩
 | exit id => exact ⟨.exit id, a₁, w₁, hq, fun k' hk => .head step_scope (harr k' (by simp [exitTo, hk]))⟩
 | goto l' =>
  obtain ⟨e₂, a₂, w₂, hq₂, harr₂⟩ := key _ l' a₁ w₁ rfl hq
  exact ⟨e₂, a₂, w₂, hq₂, .of_steps (.head step_scope (harr _ (hg _ _ _ hq))) harr₂⟩
 | ret => exact ⟨_, a₁, w₁, hq, .of_steps (.one step_scope) harr⟩
 | panic ch => exact ⟨_, a₁, w₁, hq, .of_steps (.one step_scope) harr⟩
 | outgrown => exact ⟨_, a₁, w₁, hq, .of_steps (.one step_scope) harr⟩
end
end Go
namespace Go.Proofs.YtpjooboohelffaaGreatDoor
open Go.RowKit Go.Shelf
set_option linter.unusedVariables false
set_option linter.unusedSimpArgs false
set_option maxRecDepth 100000
/-- Is a column of the row free? -/
def freeB (C : Nat) (c : Nat → Cl) (col : Int) : Bool := decide (0 ≤ col ∧ col < C) && !(c col.toNat).d
set_option maxHeartbeats 1000000 in
theorem free_any {K : Nat → Prop} {g rb cp R C : Nat} {rs : Nat → Nat} {cell : Nat → Nat → Cl} (w : World) (h : GridIs K w g rb cp R C rs cell) (i : Nat) (hi : i < R) (bg bp : Nat) (col : Int)
  (hg : w.cell? ⟨bg, 0, none⟩ = some (.pointer (some ⟨g, 0, none⟩))) (hp : w.cell? ⟨bp, 0, none⟩ = some (.int .i64 (i : Int))) :
  Fn w 225 #[.int .i64 col, .pointer (some ⟨bg, 0, none⟩), .pointer (some ⟨bp, 0, none⟩)] (.bool (freeB C (cell i) col)) := by
 by_cases hc : 0 ≤ col ∧ col < C
 ·obtain ⟨j, rfl⟩ := Int.eq_ofNat_of_zero_le hc.1
  have hj : j < C := by omega
  have hv : freeB C (cell i) (j : Int) = !(cell i j).d := by unfold freeB; simp [hj]
  rw [hv]
  have HT := Lib.hid (show Fn w 96 #[.pointer (some ⟨g, 0, none⟩), .agg #[.int .i64 (i : Int), .int .i64 (j : Int)]] (.tuple #[(cell i j).v, .int .i64 0]) from at_ok w h i j hi hj)
  have hlg := blt hg
  have hlp := blt hp
  clear h hv hc
  generalize cell i j = c at *
  unfold Cl.v at HT
  have kb := Below.refl w.heap.size w
  cases hd : c.d <;> (
  rw [hd] at HT
  go_enter Tryz.func225, Tryz.ntmps225
  go_wp2_with fail
  refine HT.out.mono ?_
  rintro e w1 ⟨rfl, b1⟩
  have B1 := Lib.hid b1
  clear b1
  go_wp2_with fail
  go_ret
  exact ⟨rfl, bel_call B1.out (by repeat first | exact Below.refl _ _ | refine bel_alloc ?_ _)⟩)
 ·have hv : freeB C (cell i) col = false := by unfold freeB; simp; omega
  rw [hv]
  have HT := Lib.hid (show Fn w 96 #[.pointer (some ⟨g, 0, none⟩), .agg #[.int .i64 (i : Int), .int .i64 col]] (.tuple #[.agg #[.int .i32 0, .int .i64 0, .bool false, .int .i64 0], .int .i64 11]) from at_out w h i col (by unfold inR; omega))
  have hlg := blt hg
  have hlp := blt hp
  clear h hv hc
  go_enter Tryz.func225, Tryz.ntmps225
  go_wp2_with fail
  refine HT.out.mono ?_
  rintro e w1 ⟨rfl, b1⟩
  have B1 := Lib.hid b1
  clear b1
  go_wp2_with fail
  go_ret
  exact ⟨rfl, bel_call B1.out (by repeat first | exact Below.refl _ _ | refine bel_alloc ?_ _)⟩
end Go.Proofs.YtpjooboohelffaaGreatDoor
/- Top: shift's Field, the walk; Chars. -/
namespace Go.Proofs.YtpjooboohelffaaGreatDoor
open Go.RowKit Go.Shelf
set_option linter.unusedVariables false
set_option linter.unusedSimpArgs false
set_option maxRecDepth 100000
/-- What holds at Field's labels. -/
def FieldJ (w : World) (C : Nat) (i j : Int) (g : Nat) (l : Nat) (a' : Act) (w' : World) : Prop := (l = 0 ∨ l = 1) ∧ ∃ (f t z : Int) (u0 u1 u2 u3 u7 u9 u10 u11 u12 u13 u14 u15 u16 u17 u18 u19 u20 u21 u22 u23 u24 u25 u26 u27 u28 u29 u30 u31 u32 u33 u34 u35 u36 u37 u38 u39 u40 : Value),
 a' = { tmps := #[u0, u1, u2, u3, .int .i64 f, .int .i64 t, .int .i64 z, u7, .func (.func 225) #[] #[.pointer (some ⟨w.heap.size, 0, none⟩), .pointer (some ⟨w.heap.size + 1, 0, none⟩)], u9, u10, u11, u12, u13, u14, u15, u16, u17, u18, u19, u20, u21, u22, u23, u24, u25, u26, u27, u28, u29, u30, u31, u32, u33, u34, u35, u36, u37, u38, u39, u40], defers := [] } ∧ 0 ≤ f ∧ f ≤ 255 ∧ 0 ≤ t ∧ t < C ∧ w'.cell? ⟨w.heap.size, 0, none⟩ = some (.pointer (some ⟨g, 0, none⟩)) ∧ w'.cell? ⟨w.heap.size + 1, 0, none⟩ = some (.int .i64 i) ∧ Below w.heap.size w w'
def fieldM (l : Nat) (a' : Act) : Nat := if l = 0 then 1000 + (intOf (a'.tmps.getD 4 undef)).toNat else 300 - (intOf (a'.tmps.getD 5 undef)).toNat
theorem freeB_true {C : Nat} {c : Nat → Cl} {col : Int} (h : freeB C c col = true) : 0 ≤ col ∧ col < C := by
 unfold freeB at h
 simp at h
 exact h.1
set_option maxHeartbeats 4000000 in
theorem field_any {K : Nat → Prop} {g rb cp R C : Nat} {rs : Nat → Nat} {cell : Nat → Nat → Cl} (w : World) (h : GridIs K w g rb cp R C rs cell) (i j : Nat) (hi : i < R) (hj : j < C) :
  Calls Tryz.prog 187 #[.pointer (some ⟨g, 0, none⟩), pr i j] w fun e w' => (∃ a b z, e = .returned (.tuple #[.int .i64 a, .int .i64 b, .int .i64 z])) ∧ Below w.heap.size w w' := by
 have hC2 := h.c2
 have HT := Lib.hid (fun W (hb : Below w.heap.size w W) => at_ok W (h.later hb) i j hi hj)
 have HF := Lib.hid (fun W (hb : Below w.heap.size w W) bg bp col hg hp => free_any W (h.later hb) i hi bg bp col hg hp)
 clear h
 go_enter Tryz.func187, Tryz.ntmps187
 go_wp2_with fail
 refine wp_scope_multi (FieldJ w C i j g) (fun l a' _ => fieldM l a') (fun l a w h => by rcases h.1 with rfl | rfl <;> kernel_rfl) ?_ ?_
 ·go_wp2_with fail
  refine gen_calls ?_
  intro u hu0
  have KFu : ∀ W, Below u.heap.size u W → (W.cell? ⟨w.heap.size, 0, none⟩ = some (.pointer (some ⟨g, 0, none⟩)) ∧ W.cell? ⟨w.heap.size + 1, 0, none⟩ = some (.int .i64 (i : Int)) ∧ W.cell? ⟨w.heap.size + 1, 1, none⟩ = some (.int .i64 (j : Int))) ∧ True ∧ Below w.heap.size w W := by
   intro W hu
   refine ⟨⟨?_, ?_, ?_⟩, trivial, ?_⟩
   ·exact (hu.cell (by rw [hu0]; simp <;> omega)).trans (by rw [hu0]; simp [go_sem])
   ·exact (hu.cell (by rw [hu0]; simp <;> omega)).trans (by rw [hu0]; simp [go_sem])
   ·exact (hu.cell (by rw [hu0]; simp <;> omega)).trans (by rw [hu0]; simp [go_sem])
   ·exact bel_call (by rw [hu0]; (repeat first | exact Below.refl _ _ | refine bel_alloc ?_ _)) hu
  clear hu0
  refine (HT.out _ (KFu _ (Below.refl _ _)).2.2).mono ?_
  rintro e w1 ⟨rfl, b1⟩
  obtain ⟨⟨k0, k1, k2⟩, _, kb⟩ := KFu _ b1
  have hl0 := blt k0
  have hl1 := blt k1
  cases hd : (cell i j).d with
  | true =>
   unfold Cl.v
   rw [hd]
   go_wp2_with fail
   simp only [Exit.jumps]
   exact bodyPost_ret (v := .tuple #[.int .i64 0, .int .i64 0, .int .i64 15]) (by simp [results, Tryz.results187, go_sem]) rfl ⟨⟨_, _, _, rfl⟩, by (repeat first | exact kb | exact Below.refl _ _ | refine bel_alloc ?_ _ | refine Below.drew ?_ | refine bel_set ?_ (by simp <;> omega) _)⟩
  | false =>
   unfold Cl.v
   rw [hd]
   go_wp2_with fail
   go_region
   go_wp2_with fail
   have kb' := Lib.hid (show Below w.heap.size w (w1.alloc (Obj.cells #[Value.int IntKind.i32 (cell i j).g, Value.int IntKind.i64 (cell i j).a, Value.bool false, Value.int IntKind.i64 (cell i j).m] 48)).drew from (bel_alloc kb _).drew)
   clear kb
   have K00 := Lib.hid (cellB (show Below w1.heap.size w1 (w1.alloc (Obj.cells #[Value.int IntKind.i32 (cell i j).g, Value.int IntKind.i64 (cell i j).a, Value.bool false, Value.int IntKind.i64 (cell i j).m] 48)).drew from (bel_alloc (Below.refl _ _) _).drew) k0)
   have K10 := Lib.hid (cellB (show Below w1.heap.size w1 (w1.alloc (Obj.cells #[Value.int IntKind.i32 (cell i j).g, Value.int IntKind.i64 (cell i j).a, Value.bool false, Value.int IntKind.i64 (cell i j).m] 48)).drew from (bel_alloc (Below.refl _ _) _).drew) k1)
   have s1 : IntKind.i64.wrap ((j : Int) - 1) = (j : Int) - 1 := IntWalk.i64_in _ (by omega)
   have s2 : IntKind.i64.wrap ((j : Int) + 1) = (j : Int) + 1 := IntWalk.i64_in _ (by omega)
   clear k0 k1 k2 hl0 hl1 KFu b1
   go_step3
   go_wp2_with fail
   refine (HF.out _ kb'.out _ _ _ K00.out K10.out).mono ?_
   rintro e w4 ⟨rfl, b4⟩
   have kb4 := bel_call kb'.out b4
   have k04 := cellB b4 K00.out
   have k14 := cellB b4 K10.out
   clear b4
   cases hf1 : freeB C (cell i) ((j : Int) - 1) with
   | true =>
    have hb1 := freeB_true hf1
    have Kb4 := Lib.hid kb4
    have K04 := Lib.hid k04
    have K14 := Lib.hid k14
    clear kb4 k04 k14
    go_wp2_with fail
    go_step3
    exact ⟨.inl rfl, (j : Int) - 1, (j : Int), _, _, _, _, _, _, _, _, _, _, _, _, _, _, _, _, _, _, _, _, _, _, _, _, _, _, _, _, _, _, _, _, _, _, _, _, _, _, rfl, by omega, by omega, by omega, by omega, K04.out, K14.out, Kb4.out⟩
   | false =>
    have Kb4 := Lib.hid kb4
    have K04 := Lib.hid k04
    have K14 := Lib.hid k14
    clear kb4 k04 k14
    go_wp2_with fail
    go_step3
    go_wp2_with fail
    refine (HF.out _ Kb4.out _ _ _ K04.out K14.out).mono ?_
    rintro e w5 ⟨rfl, b5⟩
    have kb5 := Lib.hid (bel_call Kb4.out b5)
    have k05 := Lib.hid (cellB b5 K04.out)
    have k15 := Lib.hid (cellB b5 K14.out)
    clear b5
    cases hf2 : freeB C (cell i) ((j : Int) + 1) with
    | false =>
     go_wp2_with fail
     simp only [Exit.jumps]
     exact bodyPost_ret (v := .tuple #[.int .i64 ((j : Int)), .int .i64 ((j : Int)), .int .i64 0]) (by simp [results, Tryz.results187, go_sem]) rfl ⟨⟨_, _, _, rfl⟩, kb5.out⟩
    | true =>
     have hb2 := freeB_true hf2
     go_wp2_with fail
     go_step3
     exact ⟨.inr rfl, (j : Int), (j : Int) + 1, _, _, _, _, _, _, _, _, _, _, _, _, _, _, _, _, _, _, _, _, _, _, _, _, _, _, _, _, _, _, _, _, _, _, _, _, _, _, rfl, by omega, by omega, by omega, by omega, k05.out, k15.out, kb5.out⟩
 ·rintro l rest a' w' hrest ⟨hl, f, t, z, u0, u1, u2, u3, u7, u9, u10, u11, u12, u13, u14, u15, u16, u17, u18, u19, u20, u21, u22, u23, u24, u25, u26, u27, u28, u29, u30, u31, u32, u33, u34, u35, u36, u37, u38, u39, u40, rfl, hf0, hf1, ht0, ht1, k0, k1, kb⟩
  have s1 : IntKind.i64.wrap (f - 1) = f - 1 := IntWalk.i64_in _ (by omega)
  have s2 : IntKind.i64.wrap (t + 1) = t + 1 := IntWalk.i64_in _ (by omega)
  have K00 := Lib.hid k0
  have K10 := Lib.hid k1
  have kb' := Lib.hid kb
  clear k0 k1 kb
  rcases hl with rfl | rfl
  ·have hr : some _ = some rest := hrest
   obtain rfl := Option.some.inj hr
   clear hr hrest
   go_wp2_with fail
   refine (HF.out _ kb'.out _ _ _ K00.out K10.out).mono ?_
   rintro e w4 ⟨rfl, b4⟩
   have kb4 := bel_call kb'.out b4
   have k04 := cellB b4 K00.out
   have k14 := cellB b4 K10.out
   clear b4
   cases hf1 : freeB C (cell i) (f - 1) with
   | true =>
    have hb1 := freeB_true hf1
    have Kb4 := Lib.hid kb4
    have K04 := Lib.hid k04
    have K14 := Lib.hid k14
    clear kb4 k04 k14
    go_wp2_with fail
    go_step3
    exact ⟨⟨.inl rfl, f - 1, t, _, _, _, _, _, _, _, _, _, _, _, _, _, _, _, _, _, _, _, _, _, _, _, _, _, _, _, _, _, _, _, _, _, _, _, _, _, _, rfl, by omega, by omega, by omega, by omega, K04.out, K14.out, Kb4.out⟩, by simp [fieldM, intOf]; omega⟩
   | false =>
    have Kb4 := Lib.hid kb4
    have K04 := Lib.hid k04
    have K14 := Lib.hid k14
    clear kb4 k04 k14
    go_wp2_with fail
    go_step3
    go_wp2_with fail
    refine (HF.out _ Kb4.out _ _ _ K04.out K14.out).mono ?_
    rintro e w5 ⟨rfl, b5⟩
    have kb5 := Lib.hid (bel_call Kb4.out b5)
    have k05 := Lib.hid (cellB b5 K04.out)
    have k15 := Lib.hid (cellB b5 K14.out)
    clear b5
    cases hf2 : freeB C (cell i) (t + 1) with
    | false =>
     go_wp2_with fail
     simp only [Exit.jumps]
     exact bodyPost_ret (v := .tuple #[.int .i64 (f), .int .i64 (t), .int .i64 0]) (by simp [results, Tryz.results187, go_sem]) rfl ⟨⟨_, _, _, rfl⟩, kb5.out⟩
    | true =>
     have hb2 := freeB_true hf2
     go_wp2_with fail
     go_step3
     exact ⟨⟨.inr rfl, f, t + 1, _, _, _, _, _, _, _, _, _, _, _, _, _, _, _, _, _, _, _, _, _, _, _, _, _, _, _, _, _, _, _, _, _, _, _, _, _, _, rfl, by omega, by omega, by omega, by omega, k05.out, k15.out, kb5.out⟩, by simp [fieldM, intOf]; omega⟩
  ·have hr : some _ = some rest := hrest
   obtain rfl := Option.some.inj hr
   clear hr hrest
   go_wp2_with fail
   refine (HF.out _ kb'.out _ _ _ K00.out K10.out).mono ?_
   rintro e w5 ⟨rfl, b5⟩
   have kb5 := Lib.hid (bel_call kb'.out b5)
   have k05 := Lib.hid (cellB b5 K00.out)
   have k15 := Lib.hid (cellB b5 K10.out)
   clear b5
   cases hf2 : freeB C (cell i) (t + 1) with
   | false =>
    go_wp2_with fail
    simp only [Exit.jumps]
    exact bodyPost_ret (v := .tuple #[.int .i64 (f), .int .i64 (t), .int .i64 0]) (by simp [results, Tryz.results187, go_sem]) rfl ⟨⟨_, _, _, rfl⟩, kb5.out⟩
   | true =>
    have hb2 := freeB_true hf2
    go_wp2_with fail
    go_step3
    exact ⟨⟨.inr rfl, f, t + 1, _, _, _, _, _, _, _, _, _, _, _, _, _, _, _, _, _, _, _, _, _, _, _, _, _, _, _, _, _, _, _, _, _, _, _, _, _, _, rfl, by omega, by omega, by omega, by omega, k05.out, k15.out, kb5.out⟩, by simp [fieldM, intOf]; omega⟩
end Go.Proofs.YtpjooboohelffaaGreatDoor
/- Top: shift's Chars. -/
namespace Go.Proofs.YtpjooboohelffaaGreatDoor
open Go.RowKit Go.Shelf
set_option linter.unusedVariables false
set_option linter.unusedSimpArgs false
set_option maxRecDepth 100000
set_option maxHeartbeats 4000000 in
theorem chars_any {K : Nat → Prop} {g rb cp R C : Nat} {rs : Nat → Nat} {cell : Nat → Nat → Cl} (w : World) (hK : KB K w) (h : GridIs K w g rb cp R C rs cell) (i j : Nat) (hi : i < R) (hj : j < C) (n : Int) (x : Cl) (gd : Bool) :
  Calls Tryz.prog 150 #[.pointer (some ⟨g, 0, none⟩), pr i j, .int .i64 n, x.v, .bool gd] w fun e w' => (∃ z, e = .returned (.int .i64 z)) ∧ SlideP K w w' g rb cp R C x cell := by
 have HS := Lib.hid (fun W (hb : Below w.heap.size w W) => (show Fn W 53 #[.pointer (some ⟨g, 0, none⟩)] (.agg #[.int .i64 (R : Int), .int .i64 (C : Int)]) from size_any W (h.later hb)))
 have HF := Lib.hid (fun W (hb : Below w.heap.size w W) => field_any W (h.later hb) i j hi hj)
 have HR := Lib.hid (fun W (hb : Below w.heap.size w W) b => slide_any (K := Loc K w W) W (hK.loc hb) (h.loc hb) (i : Int) (j : Int) b (minusI n) (minusI_bd n) x)
 have HB := Lib.hid (fun W W2 (hb : Below w.heap.size w W) (hs : SlideP (Loc K w W) W W2 g rb cp R C x cell) => hs.back hK h.kg hb)
 have Hsame := Lib.hid (fun W (hb : Below w.heap.size w W) => SlideP.same h hK hb x)
 have hr := h.sz
 have s1 : IntKind.i64.wrap ((C : Int) - 1) = (C : Int) - 1 := IntWalk.i64_in _ (by have := hr.2.2; omega)
 have hfd := field23_1
 have HM := fun W => minus_any W n
 clear h hK hr
 unfold Cl.v at *
 go_enter Tryz.func150, Tryz.ntmps150
 go_wp2_with fail
 refine gen_calls ?_
 intro u hu0
 have KFu : ∀ W, Below u.heap.size u W → (W.cell? ⟨w.heap.size, 0, none⟩ = some (.int .i64 (i : Int)) ∧ W.cell? ⟨w.heap.size, 1, none⟩ = some (.int .i64 (j : Int)) ∧ W.cell? ⟨w.heap.size + 1, 0, none⟩ = some (.int .i32 x.g) ∧ W.cell? ⟨w.heap.size + 1, 1, none⟩ = some (.int .i64 x.a) ∧ W.cell? ⟨w.heap.size + 1, 2, none⟩ = some (.bool x.d) ∧ W.cell? ⟨w.heap.size + 1, 3, none⟩ = some (.int .i64 x.m)) ∧ True ∧ Below w.heap.size w W := by
  intro W hu
  refine ⟨⟨?_, ?_, ?_, ?_, ?_, ?_⟩, trivial, ?_⟩
  ·exact (hu.cell (by rw [hu0]; simp <;> omega)).trans (by rw [hu0]; simp [go_sem])
  ·exact (hu.cell (by rw [hu0]; simp <;> omega)).trans (by rw [hu0]; simp [go_sem])
  ·exact (hu.cell (by rw [hu0]; simp <;> omega)).trans (by rw [hu0]; simp [go_sem])
  ·exact (hu.cell (by rw [hu0]; simp <;> omega)).trans (by rw [hu0]; simp [go_sem])
  ·exact (hu.cell (by rw [hu0]; simp <;> omega)).trans (by rw [hu0]; simp [go_sem])
  ·exact (hu.cell (by rw [hu0]; simp <;> omega)).trans (by rw [hu0]; simp [go_sem])
  ·exact bel_call (by rw [hu0]; (repeat first | exact Below.refl _ _ | refine bel_alloc ?_ _)) hu
 clear hu0
 refine (HS.out _ (KFu _ (Below.refl _ _)).2.2).mono ?_
 rintro e w1 ⟨rfl, b1⟩
 obtain ⟨⟨k0, k1, k2, k3, k4, k5⟩, _, kb0⟩ := KFu _ b1
 have Hkb := Lib.hid kb0
 clear kb0
 cases gd with
 | false =>
  obtain ⟨t, ht⟩ : ∃ t, (C : Int) - 1 = t := ⟨_, rfl⟩
  rw [ht] at s1
  go_wp2_with fail
  refine wp_region_held_drew (S := fun W => W.cell? ⟨w.heap.size, 0, none⟩ = some (.int .i64 (i : Int)) ∧ W.cell? ⟨w.heap.size, 1, none⟩ = some (.int .i64 (j : Int)) ∧ W.cell? ⟨w.heap.size + 1, 0, none⟩ = some (.int .i32 x.g) ∧ W.cell? ⟨w.heap.size + 1, 1, none⟩ = some (.int .i64 x.a) ∧ W.cell? ⟨w.heap.size + 1, 2, none⟩ = some (.bool x.d) ∧ W.cell? ⟨w.heap.size + 1, 3, none⟩ = some (.int .i64 x.m)) (by kernel_rfl) (⟨k0, k1, k2, k3, k4, k5⟩) (fun hHeld => ?_)
  refine sY 0 30 ?_
  refine sY 1 31 ?_
  refine sY 2 32 ?_
  refine sY 3 33 ?_
  refine sY 4 34 ?_
  refine sY 5 35 ?_
  refine sY 6 36 ?_
  refine sY 7 37 ?_
  refine sY 9 39 ?_
  refine sO 8 fun K hK => ?_
  go_simp
  refine (HM _).mono ?_
  rintro e w3 ⟨rfl, rfl⟩
  (try go_wp2_with fail)
  refine hK.out _ _ ?_ (fun hHeld => ?_)
  ·exact hHeld
  clear hK K
  try simp only [Act.put, List.setIfInBounds_toArray, List.set_cons_zero, List.set_cons_succ]
  refine sO 10 fun K hK => ?_
  go_simp
  have hl2 := blt hHeld.1
  have hl3 := blt hHeld.2.2.1
  refine (HR.out _ Hkb.out.drew _).mono ?_
  rintro e w4 ⟨⟨y, rfl⟩, hs⟩
  (try go_wp2_with fail)
  refine hK.out _ _ ?_ (fun hHeld => ?_)
  ·exact ⟨hs.2.cell (.inr ⟨by omega, hl2⟩) hHeld.1, hs.2.cell (.inr ⟨by omega, hl2⟩) hHeld.2.1, hs.2.cell (.inr ⟨by omega, hl3⟩) hHeld.2.2.1, hs.2.cell (.inr ⟨by omega, hl3⟩) hHeld.2.2.2.1, hs.2.cell (.inr ⟨by omega, hl3⟩) hHeld.2.2.2.2.1, hs.2.cell (.inr ⟨by omega, hl3⟩) hHeld.2.2.2.2.2⟩
  clear hK K
  try simp only [Act.put, List.setIfInBounds_toArray, List.set_cons_zero, List.set_cons_succ]
  refine sY 11 10 ?_
  refine wpAnyH_done (by kernel_rfl) ?_ _
  go_wp2_with fail
  go_ret
  exact ⟨⟨_, rfl⟩, HB.out _ _ Hkb.out.drew hs⟩
 | true =>
  go_wp2_with fail
  refine (HF.out _ Hkb.out).mono ?_
  rintro e w5 ⟨⟨a, t, z, rfl⟩, b5⟩
  have Hkb5 := Lib.hid (bel_call Hkb.out b5)
  have j0 := cellB b5 k0
  have j1 := cellB b5 k1
  have j2 := cellB b5 k2
  have j3 := cellB b5 k3
  have j4 := cellB b5 k4
  have j5 := cellB b5 k5
  clear k0 k1 k2 k3 k4 k5 b5
  by_cases hz : z = 15
  ·subst hz
   go_wp2_with fail
   go_ret
   exact ⟨⟨_, rfl⟩, Hsame.out _ Hkb5.out⟩
  ·have dz : (z == 15) = false := by simp [hz]
   have dz2 : decide (z = 15) = false := by simp [hz]
   go_wp2_with fail
   refine wp_region_held_drew (S := fun W => W.cell? ⟨w.heap.size, 0, none⟩ = some (.int .i64 (i : Int)) ∧ W.cell? ⟨w.heap.size, 1, none⟩ = some (.int .i64 (j : Int)) ∧ W.cell? ⟨w.heap.size + 1, 0, none⟩ = some (.int .i32 x.g) ∧ W.cell? ⟨w.heap.size + 1, 1, none⟩ = some (.int .i64 x.a) ∧ W.cell? ⟨w.heap.size + 1, 2, none⟩ = some (.bool x.d) ∧ W.cell? ⟨w.heap.size + 1, 3, none⟩ = some (.int .i64 x.m)) (by kernel_rfl) (⟨j0, j1, j2, j3, j4, j5⟩) (fun hHeld => ?_)
   refine sY 0 30 ?_
   refine sY 1 31 ?_
   refine sY 2 32 ?_
   refine sY 3 33 ?_
   refine sY 4 34 ?_
   refine sY 5 35 ?_
   refine sY 6 36 ?_
   refine sY 7 37 ?_
   refine sY 9 39 ?_
   refine sO 8 fun K hK => ?_
   go_simp
   refine (HM _).mono ?_
   rintro e w3 ⟨rfl, rfl⟩
   (try go_wp2_with fail)
   refine hK.out _ _ ?_ (fun hHeld => ?_)
   ·exact hHeld
   clear hK K
   try simp only [Act.put, List.setIfInBounds_toArray, List.set_cons_zero, List.set_cons_succ]
   refine sO 10 fun K hK => ?_
   go_simp
   have hl2 := blt hHeld.1
   have hl3 := blt hHeld.2.2.1
   refine (HR.out _ Hkb5.out.drew _).mono ?_
   rintro e w4 ⟨⟨y, rfl⟩, hs⟩
   (try go_wp2_with fail)
   refine hK.out _ _ ?_ (fun hHeld => ?_)
   ·exact ⟨hs.2.cell (.inr ⟨by omega, hl2⟩) hHeld.1, hs.2.cell (.inr ⟨by omega, hl2⟩) hHeld.2.1, hs.2.cell (.inr ⟨by omega, hl3⟩) hHeld.2.2.1, hs.2.cell (.inr ⟨by omega, hl3⟩) hHeld.2.2.2.1, hs.2.cell (.inr ⟨by omega, hl3⟩) hHeld.2.2.2.2.1, hs.2.cell (.inr ⟨by omega, hl3⟩) hHeld.2.2.2.2.2⟩
   clear hK K
   try simp only [Act.put, List.setIfInBounds_toArray, List.set_cons_zero, List.set_cons_succ]
   refine sY 11 10 ?_
   refine wpAnyH_done (by kernel_rfl) ?_ _
   go_wp2_with fail
   go_ret
   exact ⟨⟨_, rfl⟩, HB.out _ _ Hkb5.out.drew hs⟩
end Go.Proofs.YtpjooboohelffaaGreatDoor
/- Top: ink's rise. -/
namespace Go.Proofs.YtpjooboohelffaaGreatDoor
open Go.RowKit Go.Shelf
set_option linter.unusedVariables false
set_option linter.unusedSimpArgs false
set_option maxRecDepth 100000
theorem rise_no (w : World) (g : Option Addr) (x : Cl) : Fn w 192 #[.pointer g, .bool false, x.v] (.int .i64 0) := by
 unfold Cl.v
 go_enter Tryz.func192, Tryz.ntmps192
 go_wp2_with fail
 go_ret
 exact ⟨rfl, by (repeat first | exact kb | exact Below.refl _ _ | refine bel_alloc ?_ _ | refine Below.drew ?_ | refine bel_set ?_ (by simp <;> omega) _)⟩
theorem rise_yes {K : Nat → Prop} {g rb cp R C : Nat} {rs : Nat → Nat} {cell : Nat → Nat → Cl} (w : World) (hK : KB K w) (h : GridIs K w g rb cp R C rs cell) (x : Cl) :
  Calls Tryz.prog 192 #[.pointer (some ⟨g, 0, none⟩), .bool true, x.v] w fun e w' => e = .returned (.int .i64 1) ∧ SlideP K w w' g rb cp R C x cell := by
 have HU := Lib.hid (fun W (hb : Below w.heap.size w W) => up_any (K := Loc K w W) W (hK.loc hb) (h.loc hb) 1 (by omega) x)
 have HB := Lib.hid (fun W W2 (hb : Below w.heap.size w W) (hs : SlideP (Loc K w W) W W2 g rb cp R C x cell) => hs.back hK h.kg hb)
 clear h hK
 unfold Cl.v at *
 go_enter Tryz.func192, Tryz.ntmps192
 go_wp2_with fail
 have kb : Below w.heap.size w (w.alloc (.cells #[.int .i32 x.g, .int .i64 x.a, .bool x.d, .int .i64 x.m] 48)) := bel_alloc (Below.refl _ _) _
 have Kb := Lib.hid kb
 clear kb
 refine (HU.out _ Kb.out).mono ?_
 rintro e w4 ⟨⟨z, rfl⟩, hs⟩
 have Hs := Lib.hid hs
 clear hs
 go_wp2_with fail
 go_ret
 exact ⟨rfl, HB.out _ _ Kb.out Hs.out⟩
end Go.Proofs.YtpjooboohelffaaGreatDoor
/- Top: ink's Put, ahead of the last column. -/
namespace Go.Proofs.YtpjooboohelffaaGreatDoor
open Go.RowKit Go.Shelf
set_option linter.unusedVariables false
set_option linter.unusedSimpArgs false
set_option maxRecDepth 100000
theorem Blk.kept {K : Nat → Prop} {W W' : World} {b n : Nat} (h : Blk W b n) (hk : Kept K W W') (hb : K b) : Blk W' b n := h.to (hk.block b hb)
set_option maxHeartbeats 4000000 in
theorem put_in {K : Nat → Prop} {g rb cp R C : Nat} {rs : Nat → Nat} {cell : Nat → Nat → Cl} (w : World) (hK : KB K w) (h : GridIs K w g rb cp R C rs cell) (r c : Nat) (hr : r < R) (hc : c + 1 < C) (x bl : Cl) :
  Calls Tryz.prog 152 #[.pointer (some ⟨g, 0, none⟩), plc r c false, x.v, .int .i64 2, bl.v] w fun e w' => e = .returned (.tuple #[plc r ((c : Int) + 1) false, .int .i64 0, .int .i64 0]) ∧ GridIs K w' g rb cp R C rs (setCl rs cell r c x) ∧ Kept K w w' := by
 have HS := Lib.hid (fun W (hb : Below w.heap.size w W) => (show Fn W 53 #[.pointer (some ⟨g, 0, none⟩)] (.agg #[.int .i64 (R : Int), .int .i64 (C : Int)]) from size_any W (h.later hb)))
 have e1 : nearI (r : Int) R = r := nearI_id (by omega) (by omega)
 have e2 : nearI (c : Int) C = c := nearI_id (by omega) (by omega)
 have HAh := Lib.hid (fun W => (show Fn W 191 #[pr R C, plc r c false] (.tuple #[pr r c, .bool false]) from by have := ahead_no W R C r c h.sz; rwa [e1, e2] at this))
 have HRi := Lib.hid (fun W => rise_no W (some ⟨g, 0, none⟩) bl)
 have HSet := Lib.hid (fun W (hb : Below w.heap.size w W) => set_ok (K := Loc K w W) W (hK.loc hb) (h.loc hb) r c hr (by omega) x)
 have HBe := Lib.hid (fun W => behind_in W R C r c h.sz ⟨by omega, by omega⟩ ⟨by omega, by omega⟩)
 have Hend := Lib.hid (fun W W2 W3 W4 (hb : Below w.heap.size w W) (hG : GridIs (Loc K w W) W2 g rb cp R C rs (setCl rs cell r c x)) (hk : Kept (Loc K w W) W W2) (hb3 : Below W2.heap.size W2 W3) (hk4 : Kept (fun k => k < w.heap.size) W3 W4) =>
  (show GridIs K W4 g rb cp R C rs (setCl rs cell r c x) ∧ Kept K w W4 from ⟨((hG.later hb3).under (K' := K) h.kg (fun hk => hG.kr (.inl hk)) (fun i hi hk => hG.ks i hi (.inl hk))).to (hk4.block _ h.glt) (hk4.block _ h.rowB.blk.lt) (fun i hi => hk4.block _ (h.celB i hi).blk.lt),
   (((Kept.ofBelow hb hK).trans (hk.less (fun k hk => .inl hk))).trans (Kept.ofBelow hb3 (fun k hkk => Nat.lt_of_lt_of_le (Nat.lt_of_lt_of_le (hK k hkk) hb.size) hk.size))).trans (hk4.less (fun k hkk => hK k hkk))⟩))
 have hw0 : IntKind.i64.wrap 0 = 0 := by decide
 clear h hK e1 e2
 unfold Cl.v at *
 go_enter Tryz.func152, Tryz.ntmps152
 go_wp2_with fail
 refine gen_calls ?_
 intro u hu0
 have KFu : ∀ W, Below u.heap.size u W → (W.cell? ⟨w.heap.size, 0, none⟩ = some (.int .i64 (r : Int)) ∧ W.cell? ⟨w.heap.size, 1, none⟩ = some (.int .i64 (c : Int)) ∧ W.cell? ⟨w.heap.size, 2, none⟩ = some (.bool false) ∧ W.cell? ⟨w.heap.size + 1, 0, none⟩ = some (.int .i32 x.g) ∧ W.cell? ⟨w.heap.size + 1, 1, none⟩ = some (.int .i64 x.a) ∧ W.cell? ⟨w.heap.size + 1, 2, none⟩ = some (.bool x.d) ∧ W.cell? ⟨w.heap.size + 1, 3, none⟩ = some (.int .i64 x.m) ∧ W.cell? ⟨w.heap.size + 1 + 1, 0, none⟩ = some (.int .i32 bl.g) ∧ W.cell? ⟨w.heap.size + 1 + 1, 1, none⟩ = some (.int .i64 bl.a) ∧ W.cell? ⟨w.heap.size + 1 + 1, 2, none⟩ = some (.bool bl.d) ∧ W.cell? ⟨w.heap.size + 1 + 1, 3, none⟩ = some (.int .i64 bl.m)) ∧ (Blk W (w.heap.size + 1 + 1 + 1) 3) ∧ Below w.heap.size w W := by
  intro W hu
  refine ⟨⟨?_, ?_, ?_, ?_, ?_, ?_, ?_, ?_, ?_, ?_, ?_⟩, ?_, ?_⟩
  ·exact (hu.cell (by rw [hu0]; simp <;> omega)).trans (by rw [hu0]; simp [go_sem])
  ·exact (hu.cell (by rw [hu0]; simp <;> omega)).trans (by rw [hu0]; simp [go_sem])
  ·exact (hu.cell (by rw [hu0]; simp <;> omega)).trans (by rw [hu0]; simp [go_sem])
  ·exact (hu.cell (by rw [hu0]; simp <;> omega)).trans (by rw [hu0]; simp [go_sem])
  ·exact (hu.cell (by rw [hu0]; simp <;> omega)).trans (by rw [hu0]; simp [go_sem])
  ·exact (hu.cell (by rw [hu0]; simp <;> omega)).trans (by rw [hu0]; simp [go_sem])
  ·exact (hu.cell (by rw [hu0]; simp <;> omega)).trans (by rw [hu0]; simp [go_sem])
  ·exact (hu.cell (by rw [hu0]; simp <;> omega)).trans (by rw [hu0]; simp [go_sem])
  ·exact (hu.cell (by rw [hu0]; simp <;> omega)).trans (by rw [hu0]; simp [go_sem])
  ·exact (hu.cell (by rw [hu0]; simp <;> omega)).trans (by rw [hu0]; simp [go_sem])
  ·exact (hu.cell (by rw [hu0]; simp <;> omega)).trans (by rw [hu0]; simp [go_sem])
  ·exact Blk.later (by rw [hu0]; exact Blk.new (by simp) rfl) hu
  ·exact bel_call (by rw [hu0]; (repeat first | exact Below.refl _ _ | refine bel_alloc ?_ _)) hu
 clear hu0
 refine (HS.out _ (KFu _ (Below.refl _ _)).2.2).mono ?_
 rintro e w1 ⟨rfl, b1⟩
 obtain ⟨⟨k0, k1, k2, _⟩, _, _⟩ := KFu _ b1
 have hl0 := blt k0
 go_wp2_with fail
 refine gen_calls ?_
 intro u2 hu20
 have c2 : Below w1.heap.size w1 u2 := by rw [hu20]; exact bel_alloc (Below.refl _ _) _
 have KFu2 : ∀ W, Below u2.heap.size u2 W → (W.cell? ⟨w.heap.size, 0, none⟩ = some (.int .i64 (r : Int)) ∧ W.cell? ⟨w.heap.size, 1, none⟩ = some (.int .i64 (c : Int)) ∧ W.cell? ⟨w.heap.size, 2, none⟩ = some (.bool false) ∧ W.cell? ⟨w.heap.size + 1, 0, none⟩ = some (.int .i32 x.g) ∧ W.cell? ⟨w.heap.size + 1, 1, none⟩ = some (.int .i64 x.a) ∧ W.cell? ⟨w.heap.size + 1, 2, none⟩ = some (.bool x.d) ∧ W.cell? ⟨w.heap.size + 1, 3, none⟩ = some (.int .i64 x.m) ∧ W.cell? ⟨w.heap.size + 1 + 1, 0, none⟩ = some (.int .i32 bl.g) ∧ W.cell? ⟨w.heap.size + 1 + 1, 1, none⟩ = some (.int .i64 bl.a) ∧ W.cell? ⟨w.heap.size + 1 + 1, 2, none⟩ = some (.bool bl.d) ∧ W.cell? ⟨w.heap.size + 1 + 1, 3, none⟩ = some (.int .i64 bl.m) ∧ W.cell? ⟨w1.heap.size, 0, none⟩ = some (.int .i64 (R : Int)) ∧ W.cell? ⟨w1.heap.size, 1, none⟩ = some (.int .i64 (C : Int))) ∧ (Blk W (w.heap.size + 1 + 1 + 1) 3) ∧ Below w.heap.size w W := by
  intro W hu2
  obtain ⟨⟨pc0, pc1, pc2, pc3, pc4, pc5, pc6, pc7, pc8, pc9, pc10⟩, pr0, pb⟩ := KFu W (bel_call (bel_call b1 c2) hu2)
  refine ⟨⟨?_, ?_, ?_, ?_, ?_, ?_, ?_, ?_, ?_, ?_, ?_, ?_, ?_⟩, ?_, ?_⟩
  ·exact pc0
  ·exact pc1
  ·exact pc2
  ·exact pc3
  ·exact pc4
  ·exact pc5
  ·exact pc6
  ·exact pc7
  ·exact pc8
  ·exact pc9
  ·exact pc10
  ·exact (hu2.cell (by rw [hu20]; simp <;> omega)).trans (by rw [hu20]; simp [go_sem])
  ·exact (hu2.cell (by rw [hu20]; simp <;> omega)).trans (by rw [hu20]; simp [go_sem])
  ·exact pr0
  ·exact pb
 clear hu20 c2 k0 k1 k2 hl0
 refine (HAh.out _).mono ?_
 rintro e w2 ⟨rfl, b2⟩
 obtain ⟨⟨k0, k1, k2, k3, k4, k5, k6, k7, k8, k9, k10, k11, k12⟩, _, _⟩ := KFu2 _ b2
 have hl0 := blt k7
 go_wp2_with fail
 refine gen_calls ?_
 intro u3 hu30
 have c3 : Below w2.heap.size w2 u3 := by rw [hu30]; exact bel_alloc (Below.refl _ _) _
 have KFu3 : ∀ W, Below u3.heap.size u3 W → (W.cell? ⟨w.heap.size, 0, none⟩ = some (.int .i64 (r : Int)) ∧ W.cell? ⟨w.heap.size, 1, none⟩ = some (.int .i64 (c : Int)) ∧ W.cell? ⟨w.heap.size, 2, none⟩ = some (.bool false) ∧ W.cell? ⟨w.heap.size + 1, 0, none⟩ = some (.int .i32 x.g) ∧ W.cell? ⟨w.heap.size + 1, 1, none⟩ = some (.int .i64 x.a) ∧ W.cell? ⟨w.heap.size + 1, 2, none⟩ = some (.bool x.d) ∧ W.cell? ⟨w.heap.size + 1, 3, none⟩ = some (.int .i64 x.m) ∧ W.cell? ⟨w.heap.size + 1 + 1, 0, none⟩ = some (.int .i32 bl.g) ∧ W.cell? ⟨w.heap.size + 1 + 1, 1, none⟩ = some (.int .i64 bl.a) ∧ W.cell? ⟨w.heap.size + 1 + 1, 2, none⟩ = some (.bool bl.d) ∧ W.cell? ⟨w.heap.size + 1 + 1, 3, none⟩ = some (.int .i64 bl.m) ∧ W.cell? ⟨w1.heap.size, 0, none⟩ = some (.int .i64 (R : Int)) ∧ W.cell? ⟨w1.heap.size, 1, none⟩ = some (.int .i64 (C : Int)) ∧ W.cell? ⟨w2.heap.size, 0, none⟩ = some (.int .i64 (r : Int)) ∧ W.cell? ⟨w2.heap.size, 1, none⟩ = some (.int .i64 (c : Int))) ∧ (Blk W (w.heap.size + 1 + 1 + 1) 3) ∧ Below w.heap.size w W := by
  intro W hu3
  obtain ⟨⟨pc0, pc1, pc2, pc3, pc4, pc5, pc6, pc7, pc8, pc9, pc10, pc11, pc12⟩, pr0, pb⟩ := KFu2 W (bel_call (bel_call b2 c3) hu3)
  refine ⟨⟨?_, ?_, ?_, ?_, ?_, ?_, ?_, ?_, ?_, ?_, ?_, ?_, ?_, ?_, ?_⟩, ?_, ?_⟩
  ·exact pc0
  ·exact pc1
  ·exact pc2
  ·exact pc3
  ·exact pc4
  ·exact pc5
  ·exact pc6
  ·exact pc7
  ·exact pc8
  ·exact pc9
  ·exact pc10
  ·exact pc11
  ·exact pc12
  ·exact (hu3.cell (by rw [hu30]; simp <;> omega)).trans (by rw [hu30]; simp [go_sem])
  ·exact (hu3.cell (by rw [hu30]; simp <;> omega)).trans (by rw [hu30]; simp [go_sem])
  ·exact pr0
  ·exact pb
 clear hu30 c3 k0 k1 k2 k3 k4 k5 k6 k7 k8 k9 k10 k11 k12 hl0
 refine (HRi.out _).mono ?_
 rintro e w3 ⟨rfl, b3⟩
 obtain ⟨⟨k0, k1, k2, k3, k4, k5, k6, k7, k8, k9, k10, k11, k12, k13, k14⟩, fr0, kb3⟩ := KFu3 _ b3
 have Kb3 := Lib.hid kb3
 clear kb3
 go_wp2_with fail
 refine (HSet.out _ Kb3.out).mono ?_
 rintro e w4 ⟨rfl, hG4, hK4⟩
 have l7 := blt k7
 have l11 := blt k11
 have l13 := blt k13
 have lr := fr0.lt
 have hw1 := b1.size
 have hu := (KFu _ (Below.refl _ _)).2.2.size
 have hu2 := (KFu2 _ (Below.refl _ _)).2.2.size
 have hwu : w.heap.size + 1 + 1 + 1 < w1.heap.size := (KFu _ b1).2.1.lt
 have hwu2 : w1.heap.size < w2.heap.size := blt (KFu2 _ b2).1.2.2.2.2.2.2.2.2.2.2.2.1
 have m7 := hK4.cell (.inr ⟨by omega, l7⟩) k7
 have m8 := hK4.cell (.inr ⟨by omega, l7⟩) k8
 have m9 := hK4.cell (.inr ⟨by omega, l7⟩) k9
 have m10 := hK4.cell (.inr ⟨by omega, l7⟩) k10
 have m11 := hK4.cell (.inr ⟨by omega, l11⟩) k11
 have m12 := hK4.cell (.inr ⟨by omega, l11⟩) k12
 have m13 := hK4.cell (.inr ⟨by omega, l13⟩) k13
 have m14 := hK4.cell (.inr ⟨by omega, l13⟩) k14
 have fr4 := fr0.kept hK4 (.inr ⟨by omega, lr⟩)
 have HG4 := Lib.hid hG4
 have HK4 := Lib.hid hK4
 clear hG4 hK4 k0 k1 k2 k3 k4 k5 k6 k7 k8 k9 k10 k11 k12 k13 k14 fr0 b1 b2 b3 KFu KFu2 KFu3 hw1 hu hu2
 go_wp2_with fail
 refine (HBe.out _).mono ?_
 rintro e w5 ⟨rfl, b5⟩
 have n7 := cellB b5 m7
 have n8 := cellB b5 m8
 have n9 := cellB b5 m9
 have n10 := cellB b5 m10
 have fr5 := fr4.later b5
 have B5 := Lib.hid b5
 clear m7 m8 m9 m10 m11 m12 m13 m14 fr4 b5 l7 l11 l13 lr
 have hl7 := blt n7
 have hlr := fr5.lt
 go_wp2_with fail
 refine gen_wp ?_
 intro u6 hu60
 have c6 : Below w5.heap.size w5 u6 := by rw [hu60]; exact bel_alloc (Below.refl _ _) _
 have B6 := Lib.hid (bel_call B5.out c6)
 have p0 : u6.cell? ⟨w5.heap.size, 0, none⟩ = some (.int .i64 (r : Int)) := by rw [hu60]; simp [go_sem]
 have p1 : u6.cell? ⟨w5.heap.size, 1, none⟩ = some (.int .i64 ((c : Int) + 1)) := by rw [hu60]; simp [go_sem]
 have p2 : u6.cell? ⟨w5.heap.size, 2, none⟩ = some (.bool false) := by rw [hu60]; simp [go_sem]
 have p7 := cellB c6 n7
 have p8 := cellB c6 n8
 have p9 := cellB c6 n9
 have p10 := cellB c6 n10
 have fr6 := fr5.later c6
 clear hu60 n7 n8 n9 n10 fr5 hl7
 have hne : w.heap.size + 1 + 1 + 1 ≠ w5.heap.size := by omega
 have HSS := Lib.hid (fun W (hb : Below u6.heap.size u6 W) => (show (W.cell? ⟨w5.heap.size, 0, none⟩ = some (.int .i64 (r : Int)) ∧ W.cell? ⟨w5.heap.size, 1, none⟩ = some (.int .i64 ((c : Int) + 1)) ∧ W.cell? ⟨w5.heap.size, 2, none⟩ = some (.bool false) ∧ W.cell? ⟨w.heap.size + 1 + 1, 0, none⟩ = some (.int .i32 bl.g) ∧ W.cell? ⟨w.heap.size + 1 + 1, 1, none⟩ = some (.int .i64 bl.a) ∧ W.cell? ⟨w.heap.size + 1 + 1, 2, none⟩ = some (.bool bl.d) ∧ W.cell? ⟨w.heap.size + 1 + 1, 3, none⟩ = some (.int .i64 bl.m)) ∧ Blk W (w.heap.size + 1 + 1 + 1) 3 from
  ⟨⟨cellB hb p0, cellB hb p1, cellB hb p2, cellB hb p7, cellB hb p8, cellB hb p9, cellB hb p10⟩, fr6.later hb⟩))
 clear p0 p1 p2 p7 p8 p9 p10 fr6 c6
 refine wp_region_held_drew (S := fun W => (W.cell? ⟨w5.heap.size, 0, none⟩ = some (.int .i64 (r : Int)) ∧ W.cell? ⟨w5.heap.size, 1, none⟩ = some (.int .i64 ((c : Int) + 1)) ∧ W.cell? ⟨w5.heap.size, 2, none⟩ = some (.bool false) ∧ W.cell? ⟨w.heap.size + 1 + 1, 0, none⟩ = some (.int .i32 bl.g) ∧ W.cell? ⟨w.heap.size + 1 + 1, 1, none⟩ = some (.int .i64 bl.a) ∧ W.cell? ⟨w.heap.size + 1 + 1, 2, none⟩ = some (.bool bl.d) ∧ W.cell? ⟨w.heap.size + 1 + 1, 3, none⟩ = some (.int .i64 bl.m)) ∧ Blk W (w.heap.size + 1 + 1 + 1) 3) (by kernel_rfl) (HSS.out _ (Below.refl _ _).drew) (fun hHeld => ?_)
 refine sY 0 49 ?_
 refine sY 1 50 ?_
 refine sY 2 51 ?_
 refine sY 3 52 ?_
 refine sY 4 53 ?_
 refine sO 5 fun K hK => ?_
 go_simp
 refine (HRi.out _).mono ?_
 rintro e w7 ⟨rfl, b7⟩
 have B7 := Lib.hid ((Below.refl u6.heap.size u6).drew.trans b7)
 clear b7
 (try go_wp2_with fail)
 refine hK.out _ _ ?_ (fun hHeld => ?_)
 ·exact HSS.out _ B7.out
 clear hK K
 try simp only [Act.put, List.setIfInBounds_toArray, List.set_cons_zero, List.set_cons_succ]
 refine sY 6 55 ?_
 refine sO 7 fun K hK => ?_
 obtain ⟨⟨q0, q1, q2, q3, q4, q5, q6⟩, fr7⟩ := hHeld
 obtain ⟨x0, e0, z0⟩ := fr7.get 0 (by decide)
 obtain ⟨x1, e1, z1⟩ := fr7.get 1 (by decide)
 obtain ⟨x2, e2, z2⟩ := fr7.get 2 (by decide)
 go_simp
 (try go_wp2_with fail)
 refine hK.out _ _ ?_ (fun hHeld => ?_)
 ·exact ⟨⟨cs_other (cs_other (cs_other q0 hne) hne) hne, cs_other (cs_other (cs_other q1 hne) hne) hne, cs_other (cs_other (cs_other q2 hne) hne) hne, cs_other (cs_other (cs_other q3 (by simp <;> omega)) (by simp <;> omega)) (by simp <;> omega), cs_other (cs_other (cs_other q4 (by simp <;> omega)) (by simp <;> omega)) (by simp <;> omega), cs_other (cs_other (cs_other q5 (by simp <;> omega)) (by simp <;> omega)) (by simp <;> omega), cs_other (cs_other (cs_other q6 (by simp <;> omega)) (by simp <;> omega)) (by simp <;> omega)⟩, ((fr7.set _ _).set _ _).set _ _⟩
 clear hK K
 try simp only [Act.put, List.setIfInBounds_toArray, List.set_cons_zero, List.set_cons_succ]
 refine sY 8 11 ?_
 refine sY 9 12 ?_
 refine wpAnyH_done (by kernel_rfl) ?_ _
 go_wp2_with fail
 obtain ⟨f1, f2⟩ := Hend.out w3 w4 w7 (((w7.setCell ⟨w.heap.size + 1 + 1 + 1, 0, none⟩ (.int .i64 (r : Int))).setCell ⟨w.heap.size + 1 + 1 + 1, 1, none⟩ (.int .i64 ((c : Int) + 1))).setCell ⟨w.heap.size + 1 + 1 + 1, 2, none⟩ (.bool false)) Kb3.out HG4.out HK4.out (bel_call B6.out B7.out)
  ((((Kept.refl _ _).set (fun hh => by have hh' : w.heap.size + 1 + 1 + 1 < w.heap.size := hh; omega) _).set (fun hh => by have hh' : w.heap.size + 1 + 1 + 1 < w.heap.size := hh; omega) _).set (fun hh => by have hh' : w.heap.size + 1 + 1 + 1 < w.heap.size := hh; omega) _)
 exact bodyPost_ret (v := .tuple #[plc r ((c : Int) + 1) false, .int .i64 0, .int .i64 0]) (by simp [results, Tryz.results152, go_sem, e0, e1, e2, hw0]) rfl ⟨rfl, f1, f2⟩
end Go.Proofs.YtpjooboohelffaaGreatDoor
/- Top: ink's Put, in the last column. -/
namespace Go.Proofs.YtpjooboohelffaaGreatDoor
open Go.RowKit Go.Shelf
set_option linter.unusedVariables false
set_option linter.unusedSimpArgs false
set_option maxRecDepth 100000
def PutE (K : Nat → Prop) (w w' : World) (g rb cp R C : Nat) (bl : Cl) (cell : Nat → Nat → Cl) : Prop := GridF K w' g rb cp R C bl cell ∧ Kept K w w'
set_option maxHeartbeats 4000000 in
theorem put_edge {K : Nat → Prop} {g rb cp R C : Nat} {rs : Nat → Nat} {cell : Nat → Nat → Cl} (w : World) (hK : KB K w) (h : GridIs K w g rb cp R C rs cell) (r c : Nat) (hr : r < R) (hc : c + 1 = C) (x bl : Cl) :
  Calls Tryz.prog 152 #[.pointer (some ⟨g, 0, none⟩), plc r c false, x.v, .int .i64 2, bl.v] w fun e w' => (∃ n, e = .returned (.tuple #[plc (nextR R r) 0 false, .int .i64 n, .int .i64 0])) ∧ PutE K w w' g rb cp R C bl (setCl rs cell r c x) := by
 have HS := Lib.hid (fun W (hb : Below w.heap.size w W) => (show Fn W 53 #[.pointer (some ⟨g, 0, none⟩)] (.agg #[.int .i64 (R : Int), .int .i64 (C : Int)]) from size_any W (h.later hb)))
 have e1 : nearI (r : Int) R = r := nearI_id (by omega) (by omega)
 have e2 : nearI (c : Int) C = c := nearI_id (by omega) (by omega)
 have HAh := Lib.hid (fun W => (show Fn W 191 #[pr R C, plc r c false] (.tuple #[pr r c, .bool false]) from by have := ahead_no W R C r c h.sz; rwa [e1, e2] at this))
 have HRi := Lib.hid (fun W => rise_no W (some ⟨g, 0, none⟩) bl)
 have HSet := Lib.hid (fun W (hb : Below w.heap.size w W) => set_ok (K := Loc K w W) W (hK.loc hb) (h.loc hb) r c hr (by omega) x)
 have hcc : (c : Int) = (C : Int) - 1 := by omega
 obtain ⟨nr, hnr⟩ : ∃ nr, nextR R r = nr := ⟨_, rfl⟩
 obtain ⟨up, hup⟩ : ∃ up, decide (nextR R r = (r : Int)) = up := ⟨_, rfl⟩
 have HBe := Lib.hid (fun W => (show Fn W 193 #[pr R C, pr r c, .int .i64 2] (.tuple #[plc nr 0 false, .bool up]) from by have := behind_edge W R C r h.sz ⟨by omega, by omega⟩; rw [← hcc, hup, hnr] at this; exact this))
 have HUp := Lib.hid (fun W2 W3 (K2 : Nat → Prop) rs2 cell2 (hK2 : KB K2 W2) (hG : GridIs K2 W2 g rb cp R C rs2 cell2) (hb3 : Below W2.heap.size W2 W3) => rise_yes (K := Loc K2 W2 W3) W3 (hK2.loc hb3) (hG.loc hb3) bl)
 have HKB := Lib.hid (fun W W2 (hb : Below w.heap.size w W) (hk : Kept (Loc K w W) W W2) => (show KB (Loc K w W) W2 from (hK.loc hb).later hk))
 rw [hnr]
 clear hup hcc hnr
 have Hend := Lib.hid (fun W W2 W3 W4 (hb : Below w.heap.size w W) (hG : GridIs (Loc K w W) W2 g rb cp R C rs (setCl rs cell r c x)) (hk : Kept (Loc K w W) W W2) (hb3 : Below W2.heap.size W2 W3) (hk4 : Kept (fun k => k < w.heap.size) W3 W4) =>
  (show PutE K w W4 g rb cp R C bl (setCl rs cell r c x) from ⟨GridIs.toF (((hG.later hb3).under (K' := K) h.kg (fun hk => hG.kr (.inl hk)) (fun i hi hk => hG.ks i hi (.inl hk))).to (hk4.block _ h.glt) (hk4.block _ h.rowB.blk.lt) (fun i hi => hk4.block _ (h.celB i hi).blk.lt)) bl,
   (((Kept.ofBelow hb hK).trans (hk.less (fun k hk => .inl hk))).trans (Kept.ofBelow hb3 (fun k hkk => Nat.lt_of_lt_of_le (Nat.lt_of_lt_of_le (hK k hkk) hb.size) hk.size))).trans (hk4.less (fun k hkk => hK k hkk))⟩))
 have Hend2 := Lib.hid (fun W W2 W3 w7 W4 (hb : Below w.heap.size w W) (hG : GridIs (Loc K w W) W2 g rb cp R C rs (setCl rs cell r c x)) (hk : Kept (Loc K w W) W W2) (hb3 : Below W2.heap.size W2 W3) (hs : SlideP (Loc (Loc K w W) W2 W3) W3 w7 g rb cp R C bl (setCl rs cell r c x)) (n3 : Nat) (hn3 : w.heap.size ≤ n3 ∧ n3 < W.heap.size) (hk4 : Kept (fun k => k ≠ n3) w7 W4) =>
  (show PutE K w W4 g rb cp R C bl (setCl rs cell r c x) from by
   have hkg : Loc K w W g := .inl h.kg
   obtain ⟨⟨rs', cell', q1, q2⟩, q3⟩ := hs.back ((hK.loc hb).later hk) hkg hb3
   have hgn : g ≠ n3 := by have := h.glt; omega
   refine ⟨⟨rs', cell', (q1.to (hk4.block _ hgn) (hk4.block _ (fun e => q1.kr (.inr (by omega)))) (fun i hi => hk4.block _ (fun e => q1.ks i hi (.inr (by omega))))).under h.kg (fun hk => q1.kr (.inl hk)) (fun i hi hk => q1.ks i hi (.inl hk)), q2⟩,
    (((Kept.ofBelow hb hK).trans (hk.less (fun k hk => .inl hk))).trans (q3.less (fun k hk => .inl hk))).trans (hk4.less (fun k hkk e => by have := hK k hkk; omega))⟩))
 have hw0 : IntKind.i64.wrap 0 = 0 := by decide
 clear h hK e1 e2
 unfold Cl.v at *
 go_enter Tryz.func152, Tryz.ntmps152
 go_wp2_with fail
 refine gen_calls ?_
 intro u hu0
 have KFu : ∀ W, Below u.heap.size u W → (W.cell? ⟨w.heap.size, 0, none⟩ = some (.int .i64 (r : Int)) ∧ W.cell? ⟨w.heap.size, 1, none⟩ = some (.int .i64 (c : Int)) ∧ W.cell? ⟨w.heap.size, 2, none⟩ = some (.bool false) ∧ W.cell? ⟨w.heap.size + 1, 0, none⟩ = some (.int .i32 x.g) ∧ W.cell? ⟨w.heap.size + 1, 1, none⟩ = some (.int .i64 x.a) ∧ W.cell? ⟨w.heap.size + 1, 2, none⟩ = some (.bool x.d) ∧ W.cell? ⟨w.heap.size + 1, 3, none⟩ = some (.int .i64 x.m) ∧ W.cell? ⟨w.heap.size + 1 + 1, 0, none⟩ = some (.int .i32 bl.g) ∧ W.cell? ⟨w.heap.size + 1 + 1, 1, none⟩ = some (.int .i64 bl.a) ∧ W.cell? ⟨w.heap.size + 1 + 1, 2, none⟩ = some (.bool bl.d) ∧ W.cell? ⟨w.heap.size + 1 + 1, 3, none⟩ = some (.int .i64 bl.m)) ∧ (Blk W (w.heap.size + 1 + 1 + 1) 3) ∧ Below w.heap.size w W := by
  intro W hu
  refine ⟨⟨?_, ?_, ?_, ?_, ?_, ?_, ?_, ?_, ?_, ?_, ?_⟩, ?_, ?_⟩
  ·exact (hu.cell (by rw [hu0]; simp <;> omega)).trans (by rw [hu0]; simp [go_sem])
  ·exact (hu.cell (by rw [hu0]; simp <;> omega)).trans (by rw [hu0]; simp [go_sem])
  ·exact (hu.cell (by rw [hu0]; simp <;> omega)).trans (by rw [hu0]; simp [go_sem])
  ·exact (hu.cell (by rw [hu0]; simp <;> omega)).trans (by rw [hu0]; simp [go_sem])
  ·exact (hu.cell (by rw [hu0]; simp <;> omega)).trans (by rw [hu0]; simp [go_sem])
  ·exact (hu.cell (by rw [hu0]; simp <;> omega)).trans (by rw [hu0]; simp [go_sem])
  ·exact (hu.cell (by rw [hu0]; simp <;> omega)).trans (by rw [hu0]; simp [go_sem])
  ·exact (hu.cell (by rw [hu0]; simp <;> omega)).trans (by rw [hu0]; simp [go_sem])
  ·exact (hu.cell (by rw [hu0]; simp <;> omega)).trans (by rw [hu0]; simp [go_sem])
  ·exact (hu.cell (by rw [hu0]; simp <;> omega)).trans (by rw [hu0]; simp [go_sem])
  ·exact (hu.cell (by rw [hu0]; simp <;> omega)).trans (by rw [hu0]; simp [go_sem])
  ·exact Blk.later (by rw [hu0]; exact Blk.new (by simp) rfl) hu
  ·exact bel_call (by rw [hu0]; (repeat first | exact Below.refl _ _ | refine bel_alloc ?_ _)) hu
 clear hu0
 refine (HS.out _ (KFu _ (Below.refl _ _)).2.2).mono ?_
 rintro e w1 ⟨rfl, b1⟩
 obtain ⟨⟨k0, k1, k2, _⟩, _, _⟩ := KFu _ b1
 have hl0 := blt k0
 go_wp2_with fail
 refine gen_calls ?_
 intro u2 hu20
 have c2 : Below w1.heap.size w1 u2 := by rw [hu20]; exact bel_alloc (Below.refl _ _) _
 have KFu2 : ∀ W, Below u2.heap.size u2 W → (W.cell? ⟨w.heap.size, 0, none⟩ = some (.int .i64 (r : Int)) ∧ W.cell? ⟨w.heap.size, 1, none⟩ = some (.int .i64 (c : Int)) ∧ W.cell? ⟨w.heap.size, 2, none⟩ = some (.bool false) ∧ W.cell? ⟨w.heap.size + 1, 0, none⟩ = some (.int .i32 x.g) ∧ W.cell? ⟨w.heap.size + 1, 1, none⟩ = some (.int .i64 x.a) ∧ W.cell? ⟨w.heap.size + 1, 2, none⟩ = some (.bool x.d) ∧ W.cell? ⟨w.heap.size + 1, 3, none⟩ = some (.int .i64 x.m) ∧ W.cell? ⟨w.heap.size + 1 + 1, 0, none⟩ = some (.int .i32 bl.g) ∧ W.cell? ⟨w.heap.size + 1 + 1, 1, none⟩ = some (.int .i64 bl.a) ∧ W.cell? ⟨w.heap.size + 1 + 1, 2, none⟩ = some (.bool bl.d) ∧ W.cell? ⟨w.heap.size + 1 + 1, 3, none⟩ = some (.int .i64 bl.m) ∧ W.cell? ⟨w1.heap.size, 0, none⟩ = some (.int .i64 (R : Int)) ∧ W.cell? ⟨w1.heap.size, 1, none⟩ = some (.int .i64 (C : Int))) ∧ (Blk W (w.heap.size + 1 + 1 + 1) 3) ∧ Below w.heap.size w W := by
  intro W hu2
  obtain ⟨⟨pc0, pc1, pc2, pc3, pc4, pc5, pc6, pc7, pc8, pc9, pc10⟩, pr0, pb⟩ := KFu W (bel_call (bel_call b1 c2) hu2)
  refine ⟨⟨?_, ?_, ?_, ?_, ?_, ?_, ?_, ?_, ?_, ?_, ?_, ?_, ?_⟩, ?_, ?_⟩
  ·exact pc0
  ·exact pc1
  ·exact pc2
  ·exact pc3
  ·exact pc4
  ·exact pc5
  ·exact pc6
  ·exact pc7
  ·exact pc8
  ·exact pc9
  ·exact pc10
  ·exact (hu2.cell (by rw [hu20]; simp <;> omega)).trans (by rw [hu20]; simp [go_sem])
  ·exact (hu2.cell (by rw [hu20]; simp <;> omega)).trans (by rw [hu20]; simp [go_sem])
  ·exact pr0
  ·exact pb
 clear hu20 c2 k0 k1 k2 hl0
 refine (HAh.out _).mono ?_
 rintro e w2 ⟨rfl, b2⟩
 obtain ⟨⟨k0, k1, k2, k3, k4, k5, k6, k7, k8, k9, k10, k11, k12⟩, _, _⟩ := KFu2 _ b2
 have hl0 := blt k7
 go_wp2_with fail
 refine gen_calls ?_
 intro u3 hu30
 have c3 : Below w2.heap.size w2 u3 := by rw [hu30]; exact bel_alloc (Below.refl _ _) _
 have KFu3 : ∀ W, Below u3.heap.size u3 W → (W.cell? ⟨w.heap.size, 0, none⟩ = some (.int .i64 (r : Int)) ∧ W.cell? ⟨w.heap.size, 1, none⟩ = some (.int .i64 (c : Int)) ∧ W.cell? ⟨w.heap.size, 2, none⟩ = some (.bool false) ∧ W.cell? ⟨w.heap.size + 1, 0, none⟩ = some (.int .i32 x.g) ∧ W.cell? ⟨w.heap.size + 1, 1, none⟩ = some (.int .i64 x.a) ∧ W.cell? ⟨w.heap.size + 1, 2, none⟩ = some (.bool x.d) ∧ W.cell? ⟨w.heap.size + 1, 3, none⟩ = some (.int .i64 x.m) ∧ W.cell? ⟨w.heap.size + 1 + 1, 0, none⟩ = some (.int .i32 bl.g) ∧ W.cell? ⟨w.heap.size + 1 + 1, 1, none⟩ = some (.int .i64 bl.a) ∧ W.cell? ⟨w.heap.size + 1 + 1, 2, none⟩ = some (.bool bl.d) ∧ W.cell? ⟨w.heap.size + 1 + 1, 3, none⟩ = some (.int .i64 bl.m) ∧ W.cell? ⟨w1.heap.size, 0, none⟩ = some (.int .i64 (R : Int)) ∧ W.cell? ⟨w1.heap.size, 1, none⟩ = some (.int .i64 (C : Int)) ∧ W.cell? ⟨w2.heap.size, 0, none⟩ = some (.int .i64 (r : Int)) ∧ W.cell? ⟨w2.heap.size, 1, none⟩ = some (.int .i64 (c : Int))) ∧ (Blk W (w.heap.size + 1 + 1 + 1) 3) ∧ Below w.heap.size w W := by
  intro W hu3
  obtain ⟨⟨pc0, pc1, pc2, pc3, pc4, pc5, pc6, pc7, pc8, pc9, pc10, pc11, pc12⟩, pr0, pb⟩ := KFu2 W (bel_call (bel_call b2 c3) hu3)
  refine ⟨⟨?_, ?_, ?_, ?_, ?_, ?_, ?_, ?_, ?_, ?_, ?_, ?_, ?_, ?_, ?_⟩, ?_, ?_⟩
  ·exact pc0
  ·exact pc1
  ·exact pc2
  ·exact pc3
  ·exact pc4
  ·exact pc5
  ·exact pc6
  ·exact pc7
  ·exact pc8
  ·exact pc9
  ·exact pc10
  ·exact pc11
  ·exact pc12
  ·exact (hu3.cell (by rw [hu30]; simp <;> omega)).trans (by rw [hu30]; simp [go_sem])
  ·exact (hu3.cell (by rw [hu30]; simp <;> omega)).trans (by rw [hu30]; simp [go_sem])
  ·exact pr0
  ·exact pb
 clear hu30 c3 k0 k1 k2 k3 k4 k5 k6 k7 k8 k9 k10 k11 k12 hl0
 refine (HRi.out _).mono ?_
 rintro e w3 ⟨rfl, b3⟩
 obtain ⟨⟨k0, k1, k2, k3, k4, k5, k6, k7, k8, k9, k10, k11, k12, k13, k14⟩, fr0, kb3⟩ := KFu3 _ b3
 have Kb3 := Lib.hid kb3
 clear kb3
 go_wp2_with fail
 refine (HSet.out _ Kb3.out).mono ?_
 rintro e w4 ⟨rfl, hG4, hK4⟩
 have l7 := blt k7
 have l11 := blt k11
 have l13 := blt k13
 have lr := fr0.lt
 have hw1 := b1.size
 have hu := (KFu _ (Below.refl _ _)).2.2.size
 have hu2 := (KFu2 _ (Below.refl _ _)).2.2.size
 have hwu : w.heap.size + 1 + 1 + 1 < w1.heap.size := (KFu _ b1).2.1.lt
 have hwu2 : w1.heap.size < w2.heap.size := blt (KFu2 _ b2).1.2.2.2.2.2.2.2.2.2.2.2.1
 have m7 := hK4.cell (.inr ⟨by omega, l7⟩) k7
 have m8 := hK4.cell (.inr ⟨by omega, l7⟩) k8
 have m9 := hK4.cell (.inr ⟨by omega, l7⟩) k9
 have m10 := hK4.cell (.inr ⟨by omega, l7⟩) k10
 have m11 := hK4.cell (.inr ⟨by omega, l11⟩) k11
 have m12 := hK4.cell (.inr ⟨by omega, l11⟩) k12
 have m13 := hK4.cell (.inr ⟨by omega, l13⟩) k13
 have m14 := hK4.cell (.inr ⟨by omega, l13⟩) k14
 have fr4 := fr0.kept hK4 (.inr ⟨by omega, lr⟩)
 have HG4 := Lib.hid hG4
 have HK4 := Lib.hid hK4
 have hz2 : w.heap.size + 1 + 1 < w3.heap.size := l7
 have hz3 : w.heap.size + 1 + 1 + 1 < w3.heap.size := lr
 clear hG4 hK4 k0 k1 k2 k3 k4 k5 k6 k7 k8 k9 k10 k11 k12 k13 k14 fr0 b1 b2 b3 KFu KFu2 KFu3 hw1 hu hu2
 go_wp2_with fail
 refine (HBe.out _).mono ?_
 rintro e w5 ⟨rfl, b5⟩
 have n7 := cellB b5 m7
 have n8 := cellB b5 m8
 have n9 := cellB b5 m9
 have n10 := cellB b5 m10
 have fr5 := fr4.later b5
 have B5 := Lib.hid b5
 clear m7 m8 m9 m10 m11 m12 m13 m14 fr4 b5 l7 l11 l13 lr
 have hl7 := blt n7
 have hlr := fr5.lt
 go_wp2_with fail
 refine gen_wp ?_
 intro u6 hu60
 have c6 : Below w5.heap.size w5 u6 := by rw [hu60]; exact bel_alloc (Below.refl _ _) _
 have B6 := Lib.hid (bel_call B5.out c6)
 have p0 : u6.cell? ⟨w5.heap.size, 0, none⟩ = some (.int .i64 nr) := by rw [hu60]; simp [go_sem]
 have p1 : u6.cell? ⟨w5.heap.size, 1, none⟩ = some (.int .i64 0) := by rw [hu60]; simp [go_sem]
 have p2 : u6.cell? ⟨w5.heap.size, 2, none⟩ = some (.bool false) := by rw [hu60]; simp [go_sem]
 have p7 := cellB c6 n7
 have p8 := cellB c6 n8
 have p9 := cellB c6 n9
 have p10 := cellB c6 n10
 have fr6 := fr5.later c6
 clear hu60 n7 n8 n9 n10 fr5 hl7
 have hne : w.heap.size + 1 + 1 + 1 ≠ w5.heap.size := by omega
 have hz5 : w4.heap.size ≤ w5.heap.size := B5.out.size
 have HSS := Lib.hid (fun W (hb : Below u6.heap.size u6 W) => (show (W.cell? ⟨w5.heap.size, 0, none⟩ = some (.int .i64 nr) ∧ W.cell? ⟨w5.heap.size, 1, none⟩ = some (.int .i64 0) ∧ W.cell? ⟨w5.heap.size, 2, none⟩ = some (.bool false) ∧ W.cell? ⟨w.heap.size + 1 + 1, 0, none⟩ = some (.int .i32 bl.g) ∧ W.cell? ⟨w.heap.size + 1 + 1, 1, none⟩ = some (.int .i64 bl.a) ∧ W.cell? ⟨w.heap.size + 1 + 1, 2, none⟩ = some (.bool bl.d) ∧ W.cell? ⟨w.heap.size + 1 + 1, 3, none⟩ = some (.int .i64 bl.m)) ∧ Blk W (w.heap.size + 1 + 1 + 1) 3 from
  ⟨⟨cellB hb p0, cellB hb p1, cellB hb p2, cellB hb p7, cellB hb p8, cellB hb p9, cellB hb p10⟩, fr6.later hb⟩))
 clear p0 p1 p2 p7 p8 p9 p10 fr6 c6
 have hw1' : IntKind.i64.wrap 1 = 1 := by decide
 cases up with
 | false =>
  refine wp_region_held_drew (S := fun W => (W.cell? ⟨w5.heap.size, 0, none⟩ = some (.int .i64 nr) ∧ W.cell? ⟨w5.heap.size, 1, none⟩ = some (.int .i64 0) ∧ W.cell? ⟨w5.heap.size, 2, none⟩ = some (.bool false) ∧ W.cell? ⟨w.heap.size + 1 + 1, 0, none⟩ = some (.int .i32 bl.g) ∧ W.cell? ⟨w.heap.size + 1 + 1, 1, none⟩ = some (.int .i64 bl.a) ∧ W.cell? ⟨w.heap.size + 1 + 1, 2, none⟩ = some (.bool bl.d) ∧ W.cell? ⟨w.heap.size + 1 + 1, 3, none⟩ = some (.int .i64 bl.m)) ∧ Blk W (w.heap.size + 1 + 1 + 1) 3) (by kernel_rfl) (HSS.out _ (Below.refl _ _).drew) (fun hHeld => ?_)
  refine sY 0 49 ?_
  refine sY 1 50 ?_
  refine sY 2 51 ?_
  refine sY 3 52 ?_
  refine sY 4 53 ?_
  refine sO 5 fun K hK => ?_
  go_simp
  refine (HRi.out _).mono ?_
  rintro e w7 ⟨rfl, b7⟩
  have B7 := Lib.hid ((Below.refl u6.heap.size u6).drew.trans b7)
  clear b7
  (try go_wp2_with fail)
  refine hK.out _ _ ?_ (fun hHeld => ?_)
  ·exact HSS.out _ B7.out
  clear hK K
  try simp only [Act.put, List.setIfInBounds_toArray, List.set_cons_zero, List.set_cons_succ]
  refine sY 6 55 ?_
  refine sO 7 fun K hK => ?_
  obtain ⟨⟨q0, q1, q2, q3, q4, q5, q6⟩, fr7⟩ := hHeld
  obtain ⟨x0, e0, z0⟩ := fr7.get 0 (by decide)
  obtain ⟨x1, e1, z1⟩ := fr7.get 1 (by decide)
  obtain ⟨x2, e2, z2⟩ := fr7.get 2 (by decide)
  go_simp
  (try go_wp2_with fail)
  refine hK.out _ _ ?_ (fun hHeld => ?_)
  ·exact ⟨⟨cs_other (cs_other (cs_other q0 hne) hne) hne, cs_other (cs_other (cs_other q1 hne) hne) hne, cs_other (cs_other (cs_other q2 hne) hne) hne, cs_other (cs_other (cs_other q3 (by simp <;> omega)) (by simp <;> omega)) (by simp <;> omega), cs_other (cs_other (cs_other q4 (by simp <;> omega)) (by simp <;> omega)) (by simp <;> omega), cs_other (cs_other (cs_other q5 (by simp <;> omega)) (by simp <;> omega)) (by simp <;> omega), cs_other (cs_other (cs_other q6 (by simp <;> omega)) (by simp <;> omega)) (by simp <;> omega)⟩, ((fr7.set _ _).set _ _).set _ _⟩
  clear hK K
  try simp only [Act.put, List.setIfInBounds_toArray, List.set_cons_zero, List.set_cons_succ]
  refine sY 8 11 ?_
  refine sY 9 12 ?_
  refine wpAnyH_done (by kernel_rfl) ?_ _
  have HPut := Lib.hid (Hend.out w3 w4 w7 (((w7.setCell ⟨w.heap.size + 1 + 1 + 1, 0, none⟩ (.int .i64 nr)).setCell ⟨w.heap.size + 1 + 1 + 1, 1, none⟩ (.int .i64 0)).setCell ⟨w.heap.size + 1 + 1 + 1, 2, none⟩ (.bool false)) Kb3.out HG4.out HK4.out (bel_call B6.out B7.out)
   ((((Kept.refl _ _).set (fun hh => by have hh' : w.heap.size + 1 + 1 + 1 < w.heap.size := hh; omega) _).set (fun hh => by have hh' : w.heap.size + 1 + 1 + 1 < w.heap.size := hh; omega) _).set (fun hh => by have hh' : w.heap.size + 1 + 1 + 1 < w.heap.size := hh; omega) _))
  go_wp2_with fail
  exact bodyPost_ret (v := .tuple #[plc nr 0 false, .int .i64 0, .int .i64 0]) (by simp [results, Tryz.results152, go_sem, e0, e1, e2, hw0, hw1']) rfl ⟨⟨_, rfl⟩, HPut.out⟩
 | true =>
  refine wp_region_held_drew (S := fun W => (W.cell? ⟨w5.heap.size, 0, none⟩ = some (.int .i64 nr) ∧ W.cell? ⟨w5.heap.size, 1, none⟩ = some (.int .i64 0) ∧ W.cell? ⟨w5.heap.size, 2, none⟩ = some (.bool false) ∧ W.cell? ⟨w.heap.size + 1 + 1, 0, none⟩ = some (.int .i32 bl.g) ∧ W.cell? ⟨w.heap.size + 1 + 1, 1, none⟩ = some (.int .i64 bl.a) ∧ W.cell? ⟨w.heap.size + 1 + 1, 2, none⟩ = some (.bool bl.d) ∧ W.cell? ⟨w.heap.size + 1 + 1, 3, none⟩ = some (.int .i64 bl.m)) ∧ Blk W (w.heap.size + 1 + 1 + 1) 3) (by kernel_rfl) (HSS.out _ (Below.refl _ _).drew) (fun hHeld => ?_)
  refine sY 0 49 ?_
  refine sY 1 50 ?_
  refine sY 2 51 ?_
  refine sY 3 52 ?_
  refine sY 4 53 ?_
  refine sO 5 fun K hK => ?_
  obtain ⟨⟨q0, q1, q2, q3, q4, q5, q6⟩, fr7⟩ := hHeld
  have l0 := blt q0
  have l3 := blt q3
  have lf := fr7.lt
  go_simp
  refine (HUp.out w4 u6.drew _ rs _ (HKB.out w3 w4 Kb3.out HK4.out) HG4.out B6.out.drew).mono ?_
  rintro e w7 ⟨rfl, hs7⟩
  have HS7 := Lib.hid hs7
  have z := hs7.2
  clear hs7
  (try go_wp2_with fail)
  refine hK.out _ _ ?_ (fun hHeld => ?_)
  ·exact ⟨⟨z.cell (.inr ⟨hz5, l0⟩) q0, z.cell (.inr ⟨hz5, l0⟩) q1, z.cell (.inr ⟨hz5, l0⟩) q2, z.cell (.inl (.inr ⟨by omega, hz2⟩)) q3, z.cell (.inl (.inr ⟨by omega, hz2⟩)) q4, z.cell (.inl (.inr ⟨by omega, hz2⟩)) q5, z.cell (.inl (.inr ⟨by omega, hz2⟩)) q6⟩, fr7.kept z (.inl (.inr ⟨by omega, hz3⟩))⟩
  clear hK K
  try simp only [Act.put, List.setIfInBounds_toArray, List.set_cons_zero, List.set_cons_succ]
  refine sY 6 55 ?_
  refine sO 7 fun K hK => ?_
  obtain ⟨⟨q0, q1, q2, q3, q4, q5, q6⟩, fr7⟩ := hHeld
  obtain ⟨x0, e0, z0⟩ := fr7.get 0 (by decide)
  obtain ⟨x1, e1, z1⟩ := fr7.get 1 (by decide)
  obtain ⟨x2, e2, z2⟩ := fr7.get 2 (by decide)
  go_simp
  (try go_wp2_with fail)
  refine hK.out _ _ ?_ (fun hHeld => ?_)
  ·exact ⟨⟨cs_other (cs_other (cs_other q0 hne) hne) hne, cs_other (cs_other (cs_other q1 hne) hne) hne, cs_other (cs_other (cs_other q2 hne) hne) hne, cs_other (cs_other (cs_other q3 (by simp <;> omega)) (by simp <;> omega)) (by simp <;> omega), cs_other (cs_other (cs_other q4 (by simp <;> omega)) (by simp <;> omega)) (by simp <;> omega), cs_other (cs_other (cs_other q5 (by simp <;> omega)) (by simp <;> omega)) (by simp <;> omega), cs_other (cs_other (cs_other q6 (by simp <;> omega)) (by simp <;> omega)) (by simp <;> omega)⟩, ((fr7.set _ _).set _ _).set _ _⟩
  clear hK K
  try simp only [Act.put, List.setIfInBounds_toArray, List.set_cons_zero, List.set_cons_succ]
  refine sY 8 11 ?_
  refine sY 9 12 ?_
  refine wpAnyH_done (by kernel_rfl) ?_ _
  have HPut := Lib.hid (Hend2.out w3 w4 u6.drew w7 (((w7.setCell ⟨w.heap.size + 1 + 1 + 1, 0, none⟩ (.int .i64 nr)).setCell ⟨w.heap.size + 1 + 1 + 1, 1, none⟩ (.int .i64 0)).setCell ⟨w.heap.size + 1 + 1 + 1, 2, none⟩ (.bool false)) Kb3.out HG4.out HK4.out B6.out.drew HS7.out (w.heap.size + 1 + 1 + 1) ⟨by omega, hz3⟩
   ((((Kept.refl _ _).set (fun hh => hh rfl) _).set (fun hh => hh rfl) _).set (fun hh => hh rfl) _))
  go_wp2_with fail
  exact bodyPost_ret (v := .tuple #[plc nr 0 false, .int .i64 1, .int .i64 0]) (by simp [results, Tryz.results152, go_sem, e0, e1, e2, hw0, hw1']) rfl ⟨⟨_, rfl⟩, HPut.out⟩
end Go.Proofs.YtpjooboohelffaaGreatDoor
