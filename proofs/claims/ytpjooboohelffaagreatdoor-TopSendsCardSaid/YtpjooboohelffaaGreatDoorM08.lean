/- TopLooks and TopSends, helper 9 of 27. It holds: wipe's ahead, Part, and what Wipe does to a cell; slices.Sorted(maps.Keys(..)) at this program: the layings; tabs: New, Cols, List; tabs: Every, ints, Next; tabs: ints, Next; tabs: the iterator of slices.Backward. Each theorem states its own conditions. -/
import Derived.Test.YtpjooboohelffaaGreatDoorM05
import Derived.Deep.Cut
import Derived.Test.YtpjooboohelffaaGreatDoorProg
import Derived.Shelf.SlIterI.Nil
import Derived.Shelf.SortM.Plain
import Derived.Shelf.SortM.SortNone
import Derived.Ground.GgzProg
import Derived.Ground.SlgmProg
import Derived.Test.YtpjooboohelffaaGreatDoorM00
import Derived.Maps.OwnSet
import Derived.Lib.Hide
import Derived.Below
import Derived.BigQuiet
import Derived.Test.YtpjooboohelffaaGreatDoorM01
import Derived.Laws.EntriesVeiled
/- Top: wipe's ahead, Part, and what Wipe does to a cell. -/
namespace Go.Proofs.YtpjooboohelffaaGreatDoor
open Go.RowKit Go.Shelf
set_option linter.unusedVariables false
set_option linter.unusedSimpArgs false
set_option maxRecDepth 100000
/-- Two places of the call's own, of whatever ints. -/
structure Two (w1 : World) (p q : Nat) (W : World) : Prop where
 ne : p ≠ q
 hp : w1.heap.size ≤ p
 hq : w1.heap.size ≤ q
 c : ∃ a b c d, W.cell? ⟨p, 0, none⟩ = some (.int .i64 a) ∧ W.cell? ⟨p, 1, none⟩ = some (.int .i64 b) ∧ W.cell? ⟨q, 0, none⟩ = some (.int .i64 c) ∧ W.cell? ⟨q, 1, none⟩ = some (.int .i64 d)
 bp : Blk W p 2
 bq : Blk W q 2
 be : Below w1.heap.size w1 W
theorem two_ab (w1 : World) (a b c d : Int) : Two w1 w1.heap.size (w1.heap.size + 1) (((w1.alloc (.cells #[.int .i64 a, .int .i64 b] 36)).alloc (.cells #[.int .i64 c, .int .i64 d] 36)).drew) :=
 ⟨by omega, Nat.le_refl _, by omega, ⟨a, b, c, d, by simp [go_sem], by simp [go_sem], by simp [go_sem], by simp [go_sem]⟩, (Blk.new rfl rfl).alloc _, Blk.new (by simp) rfl, (bel_alloc (bel_alloc (Below.refl _ _) _) _).drew⟩
theorem two_ba (w1 : World) (a b c d : Int) : Two w1 (w1.heap.size + 1) w1.heap.size (((w1.alloc (.cells #[.int .i64 c, .int .i64 d] 36)).alloc (.cells #[.int .i64 a, .int .i64 b] 36)).drew) :=
 ⟨by omega, by omega, Nat.le_refl _, ⟨a, b, c, d, by simp [go_sem], by simp [go_sem], by simp [go_sem], by simp [go_sem]⟩, Blk.new (by simp) rfl, (Blk.new rfl rfl).alloc _, (bel_alloc (bel_alloc (Below.refl _ _) _) _).drew⟩
theorem Two.row {w1 W : World} {p q : Nat} (h : Two w1 p q W) (r s : Int) : Two w1 p q ((W.setCell ⟨p, 0, none⟩ (.int .i64 r)).setCell ⟨q, 0, none⟩ (.int .i64 s)) := by
 obtain ⟨hne, hp, hq, ⟨a, b, c, d, c0, c1, c2, c3⟩, bp, bq, be⟩ := h
 refine ⟨hne, hp, hq, ⟨r, b, s, d, ?_, ?_, ?_, ?_⟩, (bp.set _ _).set _ _, (bq.set _ _).set _ _, bel_set (bel_set be hp _) hq _⟩
 ·exact cs_other (World.cell?_setCell_same' _ _ _ (by rw [c0]; rfl)) (fun e => hne e.symm)
 ·exact cs_other ((World.cell?_setCell_other _ _ _ _ (by simp)).trans c1) (fun e => hne e.symm)
 ·exact World.cell?_setCell_same' _ _ _ (by rw [cs_other c2 hne]; rfl)
 ·exact (World.cell?_setCell_other _ _ _ _ (by simp)).trans (cs_other c3 hne)
theorem Two.drew {w1 W : World} {p q : Nat} (h : Two w1 p q W) : Two w1 p q W.drew := ⟨h.ne, h.hp, h.hq, h.c, h.bp, h.bq, h.be.drew⟩
theorem Two.swap {w1 W : World} {p q : Nat} (h : Two w1 p q W) : Two w1 q p W := by
 obtain ⟨hne, hp, hq, ⟨a, b, c, d, c0, c1, c2, c3⟩, bp, bq, be⟩ := h
 exact ⟨fun e => hne e.symm, hq, hp, ⟨c, d, a, b, c2, c3, c0, c1⟩, bq, bp, be⟩
set_option maxHeartbeats 4000000 in
theorem part_any (w : World) (R C : Nat) (h : SzOk R C) (r c : Nat) (hr : r < R) (hc : c < C) (part : Int) (hp : part = 1 ∨ part = 2 ∨ part = 5) :
  Calls Tryz.prog 148 #[pr R C, pr r c, .int .i64 part] w fun e w' => (∃ a b c' d z, e = .returned (.tuple #[pr a b, pr c' d, .int .i64 z])) ∧ Below w.heap.size w w' := by
 have H0 := fun W => may_ok W R C h
 have q1 : IntKind.i64.wrap ((R : Int) - 1) = (R : Int) - 1 := IntWalk.i64_in _ (by have := h.2.1; omega)
 have q2 : IntKind.i64.wrap ((C : Int) - 1) = (C : Int) - 1 := IntWalk.i64_in _ (by have := h.2.2; omega)
 have g1 : decide ((r : Int) < 0) = false := by simp <;> omega
 have g2 : decide ((R : Int) ≤ (r : Int)) = false := by simp <;> omega
 have g3 : decide ((c : Int) < 0) = false := by simp <;> omega
 have g4 : decide ((C : Int) ≤ (c : Int)) = false := by simp <;> omega
 have g5 : decide (R ≤ r) = false := by simp <;> omega
 have g6 : decide (C ≤ c) = false := by simp <;> omega
 clear h hr hc
 have HP := Lib.hid hp
 clear hp
 go_enter Tryz.func148, Tryz.ntmps148
 go_wp2_with fail
 refine gen_calls ?_
 intro u hu0
 have KFu : ∀ W, Below u.heap.size u W → (W.cell? ⟨w.heap.size, 0, none⟩ = some (.int .i64 (R : Int)) ∧ W.cell? ⟨w.heap.size, 1, none⟩ = some (.int .i64 (C : Int)) ∧ W.cell? ⟨w.heap.size + 1, 0, none⟩ = some (.int .i64 (r : Int)) ∧ W.cell? ⟨w.heap.size + 1, 1, none⟩ = some (.int .i64 (c : Int))) ∧ (Blk W (w.heap.size + 1 + 1) 2 ∧ Blk W (w.heap.size + 1 + 1 + 1) 2) ∧ Below w.heap.size w W := by
  intro W hu
  refine ⟨⟨?_, ?_, ?_, ?_⟩, ⟨?_, ?_⟩, ?_⟩
  ·exact (hu.cell (by rw [hu0]; simp <;> omega)).trans (by rw [hu0]; simp [go_sem])
  ·exact (hu.cell (by rw [hu0]; simp <;> omega)).trans (by rw [hu0]; simp [go_sem])
  ·exact (hu.cell (by rw [hu0]; simp <;> omega)).trans (by rw [hu0]; simp [go_sem])
  ·exact (hu.cell (by rw [hu0]; simp <;> omega)).trans (by rw [hu0]; simp [go_sem])
  ·exact Blk.later (by rw [hu0]; refine Blk.alloc ?_ _; exact Blk.new (by simp) rfl) hu
  ·exact Blk.later (by rw [hu0]; exact Blk.new (by simp) rfl) hu
  ·exact bel_call (by rw [hu0]; (repeat first | exact Below.refl _ _ | refine bel_alloc ?_ _)) hu
 clear hu0
 refine (H0 _).mono ?_
 rintro e w1 ⟨rfl, b1⟩
 obtain ⟨⟨k0, k1, k2, k3⟩, ⟨fr0, fr1⟩, kb⟩ := KFu _ b1
 obtain ⟨x0, e0, z0⟩ := fr0.get 0 (by decide)
 obtain ⟨x1, e1, z1⟩ := fr0.get 1 (by decide)
 obtain ⟨y0, f0, v0⟩ := fr1.get 0 (by decide)
 obtain ⟨y1, f1, v1⟩ := fr1.get 1 (by decide)
 have hs0 := blt k0
 have hs1 := blt k2
 have hs2 := blt e0
 have hs3 := blt f0
 have Hkb := Lib.hid kb
 have Fr0 := Lib.hid fr0
 have Fr1 := Lib.hid fr1
 clear fr0 fr1 kb
 have KK := Lib.hid (fun W (hb : Below w1.heap.size w1 W) => (show (W.cell? ⟨w.heap.size + 1, 0, none⟩ = some (.int .i64 (r : Int)) ∧ W.cell? ⟨w.heap.size + 1, 1, none⟩ = some (.int .i64 (c : Int))) ∧ Blk W (w.heap.size + 1 + 1) 2 ∧ Blk W (w.heap.size + 1 + 1 + 1) 2 ∧ Below w.heap.size w W from
  ⟨⟨cellB hb k2, cellB hb k3⟩, Fr0.out.later hb, Fr1.out.later hb, bel_call Hkb.out hb⟩))
 have hx3 : w.heap.size + 1 + 1 + 1 < w1.heap.size := hs3
 go_wp2_with fail
 go_cut [10, 11] from 12 (fun s t wx => ∃ p q, s = .pointer (some ⟨p, 0, none⟩) ∧ t = .pointer (some ⟨q, 0, none⟩) ∧ Hid (Two w1 p q wx))
 case first =>
  go_region
  all_goals go_wp2_with fail
  all_goals go_meet
  all_goals first | exact ⟨_, _, rfl, rfl, Lib.hid (two_ab _ _ _ _ _)⟩ | exact ⟨_, _, rfl, rfl, Lib.hid (two_ba _ _ _ _ _)⟩
 case rest =>
  obtain ⟨p, q, rfl, rfl, H⟩ := hcut
  clear k2 k3 e0 e1 f0 f1 z0 z1 v0 v1 x0 x1 y0 y1 hs0 hs1 hs2 hs3 k0 k1 Fr0 Fr1 g1 g2 g3 g4 g5 g6 q1 q2 KFu b1 H0
  obtain ⟨⟨k2, k3⟩, -⟩ := KK.out wc H.out.be
  have hs1 := blt k2
  have T1 := H.out
  obtain ⟨_, m0, z0⟩ := T1.bp.get 0 (by decide)
  obtain ⟨_, m1, z1⟩ := T1.bp.get 1 (by decide)
  obtain ⟨_, n0, y0⟩ := T1.bq.get 0 (by decide)
  obtain ⟨_, n1, y1⟩ := T1.bq.get 1 (by decide)
  have lp := blt m0
  have lq := blt n0
  have hne := T1.ne
  have hne2 : q ≠ p := fun e => hne e.symm
  clear m0 m1 n0 n1 T1
  rcases HP.out with rfl | rfl | rfl
  ·go_wp2_with fail
   obtain ⟨a, b, c', d, m0, m1, n0, n1⟩ := H.out.c
   obtain ⟨⟨k2, k3⟩, r0, r1, kb0⟩ := KK.out wc H.out.be
   obtain ⟨x0, e0, z0⟩ := r0.get 0 (by decide)
   obtain ⟨x1, e1, z1⟩ := r0.get 1 (by decide)
   obtain ⟨y0, f0, v0⟩ := r1.get 0 (by decide)
   obtain ⟨y1, f1, v1⟩ := r1.get 1 (by decide)
   have d1 : w.heap.size + 1 + 1 ≠ p := by have := H.out.hp; omega
   have d2 : w.heap.size + 1 + 1 ≠ q := by have := H.out.hq; omega
   have d3 : w.heap.size + 1 + 1 + 1 ≠ p := by have := H.out.hp; omega
   have d4 : w.heap.size + 1 + 1 + 1 ≠ q := by have := H.out.hq; omega
   have d5 : p ≠ w.heap.size + 1 + 1 := fun e => d1 e.symm
   have d6 : q ≠ w.heap.size + 1 + 1 := fun e => d2 e.symm
   have d7 : p ≠ w.heap.size + 1 + 1 + 1 := fun e => d3 e.symm
   have d8 : q ≠ w.heap.size + 1 + 1 + 1 := fun e => d4 e.symm
   have Kb0 := Lib.hid kb0
   clear r0 r1 kb0
   go_region
   all_goals go_wp2_with fail
   all_goals have kb := Kb0.out
   all_goals exact bodyPost_ret (v := .tuple #[pr a b, pr c' d, .int .i64 0]) (by simp [results, Tryz.results148, go_sem, e0, e1, f0, f1]) rfl ⟨⟨_, _, _, _, _, rfl⟩, by (repeat first | exact kb | exact Below.refl _ _ | refine bel_alloc ?_ _ | refine Below.drew ?_ | refine bel_set ?_ (by simp <;> omega) _)⟩
  ·go_wp2_with fail
   obtain ⟨a, b, c', d, m0, m1, n0, n1⟩ := H.out.c
   obtain ⟨⟨k2, k3⟩, r0, r1, kb0⟩ := KK.out wc H.out.be
   obtain ⟨x0, e0, z0⟩ := r0.get 0 (by decide)
   obtain ⟨x1, e1, z1⟩ := r0.get 1 (by decide)
   obtain ⟨y0, f0, v0⟩ := r1.get 0 (by decide)
   obtain ⟨y1, f1, v1⟩ := r1.get 1 (by decide)
   have d1 : w.heap.size + 1 + 1 ≠ p := by have := H.out.hp; omega
   have d2 : w.heap.size + 1 + 1 ≠ q := by have := H.out.hq; omega
   have d3 : w.heap.size + 1 + 1 + 1 ≠ p := by have := H.out.hp; omega
   have d4 : w.heap.size + 1 + 1 + 1 ≠ q := by have := H.out.hq; omega
   have d5 : p ≠ w.heap.size + 1 + 1 := fun e => d1 e.symm
   have d6 : q ≠ w.heap.size + 1 + 1 := fun e => d2 e.symm
   have d7 : p ≠ w.heap.size + 1 + 1 + 1 := fun e => d3 e.symm
   have d8 : q ≠ w.heap.size + 1 + 1 + 1 := fun e => d4 e.symm
   have Kb0 := Lib.hid kb0
   clear r0 r1 kb0
   go_region
   all_goals go_wp2_with fail
   all_goals have kb := Kb0.out
   all_goals exact bodyPost_ret (v := .tuple #[pr r c, pr c' d, .int .i64 0]) (by simp [results, Tryz.results148, go_sem, e0, e1, f0, f1]) rfl ⟨⟨_, _, _, _, _, rfl⟩, by (repeat first | exact kb | exact Below.refl _ _ | refine bel_alloc ?_ _ | refine Below.drew ?_ | refine bel_set ?_ (by simp <;> omega) _)⟩
  ·go_wp2_with fail
   have H1 := H.out
   obtain ⟨_, m0, z0⟩ := H1.bp.get 0 (by decide)
   obtain ⟨_, n0, y0⟩ := H1.bq.get 0 (by decide)
   have d1 : w.heap.size + 1 ≠ p := by have := H1.hp; omega
   have d2 : w.heap.size + 1 ≠ q := by have := H1.hq; omega
   have d3 : p ≠ w.heap.size + 1 := fun e => d1 e.symm
   have d4 : q ≠ w.heap.size + 1 := fun e => d2 e.symm
   clear H1
   go_cut [10, 11] from 12 (fun s t wx => s = .pointer (some ⟨p, 0, none⟩) ∧ t = .pointer (some ⟨q, 0, none⟩) ∧ Hid (Two w1 p q wx))
   case first =>
    go_region
    all_goals go_wp2_with fail
    all_goals go_meet
    all_goals first | exact ⟨rfl, rfl, Lib.hid (H.out.row _ _).drew⟩ | exact ⟨rfl, rfl, Lib.hid (H.out.swap.row _ _).swap.drew⟩
   case rest =>
   obtain ⟨rfl, rfl, H2⟩ := hcut
   clear k2 k3 hs1 m0 n0 z0 y0 d1 d2 d3 d4
   go_wp2_with fail
   obtain ⟨a, b, c', d, m0, m1, n0, n1⟩ := H2.out.c
   obtain ⟨⟨k2, k3⟩, r0, r1, kb0⟩ := KK.out wc H2.out.be
   obtain ⟨x0, e0, z0⟩ := r0.get 0 (by decide)
   obtain ⟨x1, e1, z1⟩ := r0.get 1 (by decide)
   obtain ⟨y0, f0, v0⟩ := r1.get 0 (by decide)
   obtain ⟨y1, f1, v1⟩ := r1.get 1 (by decide)
   have d1 : w.heap.size + 1 + 1 ≠ p := by have := H2.out.hp; omega
   have d2 : w.heap.size + 1 + 1 ≠ q := by have := H2.out.hq; omega
   have d3 : w.heap.size + 1 + 1 + 1 ≠ p := by have := H2.out.hp; omega
   have d4 : w.heap.size + 1 + 1 + 1 ≠ q := by have := H2.out.hq; omega
   have d5 : p ≠ w.heap.size + 1 + 1 := fun e => d1 e.symm
   have d6 : q ≠ w.heap.size + 1 + 1 := fun e => d2 e.symm
   have d7 : p ≠ w.heap.size + 1 + 1 + 1 := fun e => d3 e.symm
   have d8 : q ≠ w.heap.size + 1 + 1 + 1 := fun e => d4 e.symm
   have Kb0 := Lib.hid kb0
   clear r0 r1 kb0
   go_region
   all_goals go_wp2_with fail
   all_goals have kb := Kb0.out
   all_goals exact bodyPost_ret (v := .tuple #[pr r c, pr c' d, .int .i64 0]) (by simp [results, Tryz.results148, go_sem, e0, e1, f0, f1]) rfl ⟨⟨_, _, _, _, _, rfl⟩, by (repeat first | exact kb | exact Below.refl _ _ | refine bel_alloc ?_ _ | refine Below.drew ?_ | refine bel_set ?_ (by simp <;> omega) _)⟩
end Go.Proofs.YtpjooboohelffaaGreatDoor
/- slices.Sorted(maps.Keys(..)) at this program: the layings. -/
namespace Go.Proofs.YtpjooboohelffaaGreatDoor.T05
open Go.RowKit Go.Maps Go.Sort Go.Shelf
def Tryz.keysA_ren : Go.Shelf.Ren := ⟨fun | 7 => 92 | 10 => 126 | n => n, fun | 23 => 140 | 26 => 3 | 3 => 161 | 28 => 158 | 0 => 0 | 27 => 157 | 33 => 192 | 4 => 4 | n => n, fun | n => n⟩
theorem Tryz.keysA : Go.Proofs.SlLaysZI.n7 Tryz.prog Tryz.keysA_ren := {
 mixed := by kernel_rfl
 f7 := ⟨Tryz.f92.name, by decide, Tryz.func92.trans (congrArg some (by kernel_rfl))⟩
 f10 := ⟨Tryz.f126.name, by decide, Tryz.func126.trans (congrArg some (by kernel_rfl))⟩
 t0 := Tryz.underlying0
 a0 := Tryz.isAgg0
 z0 := Tryz.sizeOf0
 v0 := Tryz.zeroValue0
 t4 := Tryz.underlying4
 a4 := Tryz.isAgg4
 z4 := Tryz.sizeOf4
 v4 := Tryz.zeroValue4
 t23 := Tryz.underlying140
 a23 := Tryz.isAgg140
 z23 := Tryz.sizeOf140
 v23 := Tryz.zeroValue140
 t26 := Tryz.underlying3
 a26 := Tryz.isAgg3
 z26 := Tryz.sizeOf3
 v26 := Tryz.zeroValue3
 t27 := Tryz.underlying157
 a27 := Tryz.isAgg157
 z27 := Tryz.sizeOf157
 v27 := Tryz.zeroValue157
 t28 := Tryz.underlying158
 a28 := Tryz.isAgg158
 z28 := Tryz.sizeOf158
 v28 := Tryz.zeroValue158
 t33 := Tryz.underlying192
 a33 := Tryz.isAgg192
 z33 := Tryz.sizeOf192
 v33 := Tryz.zeroValue192 }
def Tryz.sortedA_ren : Go.Shelf.Ren := ⟨fun | 6 => 91 | 8 => 124 | 9 => 125 | 11 => 171 | 13 => 173 | 12 => 172 | 23 => 217 | 24 => 175 | 14 => 208 | 15 => 209 | 16 => 210 | 17 => 211 | 18 => 212 | 19 => 213 | 20 => 214 | 21 => 215 | 22 => 216 | 25 => 237 | 26 => 238 | 27 => 239 | 28 => 240 | 29 => 241 | 30 => 242 | 31 => 247 | n => n, fun | 26 => 3 | 28 => 158 | 24 => 39 | 0 => 0 | 3 => 3 | 37 => 177 | 48 => 205 | 50 => 200 | 4 => 4 | 40 => 283 | 39 => 282 | 45 => 154 | 5 => 5 | 9 => 9 | 51 => 308 | 55 => 312 | 57 => 322 | 58 => 133 | 33 => 192 | n => n, fun | n => n⟩
theorem Tryz.sortedA : Go.Proofs.SlLaysZI.n6 Tryz.prog Tryz.sortedA_ren := {
 mixed := by kernel_rfl
 f6 := ⟨Tryz.f91.name, by decide, Tryz.func91.trans (congrArg some (by kernel_rfl))⟩
 f8 := ⟨Tryz.f124.name, by decide, Tryz.func124.trans (congrArg some (by kernel_rfl))⟩
 f11 := ⟨Tryz.f171.name, by decide, Tryz.func171.trans (congrArg some (by kernel_rfl))⟩
 t0 := Tryz.underlying0
 a0 := Tryz.isAgg0
 z0 := Tryz.sizeOf0
 v0 := Tryz.zeroValue0
 t24 := Tryz.underlying39
 a24 := Tryz.isAgg39
 z24 := Tryz.sizeOf39
 v24 := Tryz.zeroValue39
 t26 := Tryz.underlying3
 a26 := Tryz.isAgg3
 z26 := Tryz.sizeOf3
 v26 := Tryz.zeroValue3
 t28 := Tryz.underlying158
 a28 := Tryz.isAgg158
 z28 := Tryz.sizeOf158
 v28 := Tryz.zeroValue158
 i26 := by kernel_rfl }
def Tryz.sortA_ren : Go.Shelf.Ren := ⟨fun | 5 => 125 | 8 => 173 | 7 => 172 | 19 => 217 | 20 => 175 | 10 => 208 | 11 => 209 | 12 => 210 | 13 => 211 | 14 => 212 | 15 => 213 | 16 => 214 | 17 => 215 | 18 => 216 | 30 => 237 | 31 => 238 | 32 => 239 | 33 => 240 | 34 => 241 | 35 => 242 | 40 => 247 | n => n, fun | 23 => 39 | 25 => 3 | 3 => 3 | 32 => 177 | 22 => 39 | 0 => 0 | 44 => 205 | 46 => 200 | 4 => 4 | 36 => 283 | 35 => 282 | 41 => 154 | 5 => 5 | 9 => 9 | 53 => 308 | 57 => 312 | 63 => 322 | 64 => 133 | n => n, fun | n => n⟩
theorem Tryz.sortA : Go.Proofs.SlLaysM.n5 Tryz.prog Tryz.sortA_ren := {
 mixed := by kernel_rfl
 f5 := ⟨Tryz.f125.name, by decide, Tryz.func125.trans (congrArg some (by kernel_rfl))⟩
 f7 := ⟨Tryz.f172.name, by decide, Tryz.func172.trans (congrArg some (by kernel_rfl))⟩
 f8 := Tryz.func173.trans (congrArg some (by kernel_rfl))
 f10 := ⟨Tryz.f208.name, by decide, Tryz.func208.trans (congrArg some (by kernel_rfl))⟩
 f11 := ⟨Tryz.f209.name, by decide, Tryz.func209.trans (congrArg some (by kernel_rfl))⟩
 f12 := ⟨Tryz.f210.name, by decide, Tryz.func210.trans (congrArg some (by kernel_rfl))⟩
 f13 := ⟨Tryz.f211.name, by decide, Tryz.func211.trans (congrArg some (by kernel_rfl))⟩
 f14 := ⟨Tryz.f212.name, by decide, Tryz.func212.trans (congrArg some (by kernel_rfl))⟩
 f15 := ⟨Tryz.f213.name, by decide, Tryz.func213.trans (congrArg some (by kernel_rfl))⟩
 f16 := ⟨Tryz.f214.name, by decide, Tryz.func214.trans (congrArg some (by kernel_rfl))⟩
 f17 := ⟨Tryz.f215.name, by decide, Tryz.func215.trans (congrArg some (by kernel_rfl))⟩
 f18 := ⟨Tryz.f216.name, by decide, Tryz.func216.trans (congrArg some (by kernel_rfl))⟩
 f19 := Tryz.func217.trans (congrArg some (by kernel_rfl))
 f20 := Tryz.func175.trans (congrArg some (by kernel_rfl))
 f30 := ⟨Tryz.f237.name, by decide, Tryz.func237.trans (congrArg some (by kernel_rfl))⟩
 f31 := Tryz.func238.trans (congrArg some (by kernel_rfl))
 f32 := Tryz.func239.trans (congrArg some (by kernel_rfl))
 f33 := ⟨Tryz.f240.name, by decide, Tryz.func240.trans (congrArg some (by kernel_rfl))⟩
 f34 := ⟨Tryz.f241.name, by decide, Tryz.func241.trans (congrArg some (by kernel_rfl))⟩
 f35 := ⟨Tryz.f242.name, by decide, Tryz.func242.trans (congrArg some (by kernel_rfl))⟩
 f40 := ⟨Tryz.f247.name, by decide, Tryz.func247.trans (congrArg some (by kernel_rfl))⟩
 t0 := Tryz.underlying0
 a0 := Tryz.isAgg0
 z0 := Tryz.sizeOf0
 v0 := Tryz.zeroValue0
 t3 := Tryz.underlying3
 a3 := Tryz.isAgg3
 z3 := Tryz.sizeOf3
 v3 := Tryz.zeroValue3
 t4 := Tryz.underlying4
 a4 := Tryz.isAgg4
 z4 := Tryz.sizeOf4
 v4 := Tryz.zeroValue4
 t5 := Tryz.underlying5
 a5 := Tryz.isAgg5
 z5 := Tryz.sizeOf5
 v5 := Tryz.zeroValue5
 t9 := Tryz.underlying9
 a9 := Tryz.isAgg9
 z9 := Tryz.sizeOf9
 v9 := Tryz.zeroValue9
 t22 := Tryz.underlying39
 a22 := Tryz.isAgg39
 z22 := Tryz.sizeOf39
 v22 := Tryz.zeroValue39
 t23 := Tryz.underlying39
 a23 := Tryz.isAgg39
 z23 := Tryz.sizeOf39
 v23 := Tryz.zeroValue39
 t25 := Tryz.underlying3
 a25 := Tryz.isAgg3
 z25 := Tryz.sizeOf3
 v25 := Tryz.zeroValue3
 t32 := Tryz.underlying177
 a32 := Tryz.isAgg177
 z32 := Tryz.sizeOf177
 v32 := Tryz.zeroValue177
 t35 := Tryz.underlying282
 a35 := Tryz.isAgg282
 z35 := Tryz.sizeOf282
 v35 := Tryz.zeroValue282
 t36 := Tryz.underlying283
 a36 := Tryz.isAgg283
 z36 := Tryz.sizeOf283
 v36 := Tryz.zeroValue283
 t41 := Tryz.underlying154
 a41 := Tryz.isAgg154
 z41 := Tryz.sizeOf154
 v41 := Tryz.zeroValue154
 t44 := Tryz.underlying205
 a44 := Tryz.isAgg205
 z44 := Tryz.sizeOf205
 v44 := Tryz.zeroValue205
 t46 := Tryz.underlying200
 a46 := Tryz.isAgg200
 z46 := Tryz.sizeOf200
 v46 := Tryz.zeroValue200
 t53 := Tryz.underlying308
 a53 := Tryz.isAgg308
 z53 := Tryz.sizeOf308
 v53 := Tryz.zeroValue308
 t57 := Tryz.underlying312
 a57 := Tryz.isAgg312
 z57 := Tryz.sizeOf312
 v57 := Tryz.zeroValue312
 t63 := Tryz.underlying322
 a63 := Tryz.isAgg322
 z63 := Tryz.sizeOf322
 v63 := Tryz.zeroValue322
 t64 := Tryz.underlying133
 a64 := Tryz.isAgg133
 z64 := Tryz.sizeOf133
 v64 := Tryz.zeroValue133 }
theorem Tryz.sortsA (m : Nat) : AnyZI.SortsIn Tryz.prog Tryz.sortedA_ren Fence.wide m :=
 ⟨fun blk off cap ss W hH hblk hsz => callsIn_wide.2 (AnyM.slices_Sort_int Tryz.sortA blk off cap ss W hH hblk hsz),
 fun p cap W => callsIn_wide.2 (AnyM.slices_Sort_int_none Tryz.sortA p cap W)⟩
end Go.Proofs.YtpjooboohelffaaGreatDoor.T05
/- tabs: New, Cols, List. -/
namespace Go.Proofs.YtpjooboohelffaaGreatDoor.T05
open Go.RowKit Go.Maps Go.Sort Go.Shelf
set_option linter.unusedVariables false
set_option linter.unusedSimpArgs false
set_option maxRecDepth 100000
abbrev Set3 := DataW Unit
abbrev OwnS (W : World) (b n : Nat) (D : Set3) : Prop := W.ownsMap Tryz.prog 3 (unitElem (H := Unit)) b n D
/-- Tabs behind a pointer: p: the fields' block; b: the map's. -/
structure TObj (W : World) (p b : Nat) (cols : Int) (n : Nat) (D : Set3) : Prop where
 c0 : W.cell? ⟨p, 0, none⟩ = some (.int .i64 cols)
 c1 : W.cell? ⟨p, 1, none⟩ = some (.map (some b))
 m : OwnS W b n D
theorem OwnS.kept {W W' : World} {b n : Nat} {D : Set3} (h : OwnS W b n D) (hb : W'.heap[b]? = W.heap[b]?) : OwnS W' b n D := by
 obtain ⟨es, clock, hh, r⟩ := h
 exact ⟨es, clock, hb.trans hh, r⟩
theorem TObj.lt {W : World} {p b : Nat} {c : Int} {n : Nat} {D : Set3} (h : TObj W p b c n D) : p < W.heap.size := World.block_lt_of_cell? W ⟨p, 0, none⟩ h.c0
theorem TObj.later {W W' : World} {p b : Nat} {c : Int} {n : Nat} {D : Set3} (h : TObj W p b c n D) (hb : Below W.heap.size W W') : TObj W' p b c n D :=
 ⟨cellB hb h.c0, cellB hb h.c1, OwnS.kept h.m (hb.block b (World.ownsMap.lt h.m))⟩
theorem new_ok (cols : Int) (h1 : 1 ≤ cols) (h2 : cols ≤ 255) (w : World) : Calls Tryz.prog 47 #[.int .i64 cols] w fun e w' => e = .returned (.tuple #[.pointer (some ⟨w.heap.size + 1, 0, none⟩), .int .i64 0]) ∧ w' = (w.alloc (.map #[] 0)).alloc (.cells #[.int .i64 cols, .map (some w.heap.size)] 142) := by
 have hmm := @run_makeMap Tryz.prog
 have g1 : ¬ cols < 1 := by omega
 have g2 : ¬ (255 : Int) < cols := by omega
 go_enter Tryz.func47, Tryz.ntmps47
 go_wp2_with fail
 go_ret2
 exact ⟨by simp, rfl⟩
theorem cols_any (w : World) (p b : Nat) (c : Int) (n : Nat) (D : Set3) (h : TObj w p b c n D) : Calls Tryz.prog 180 #[.pointer (some ⟨p, 0, none⟩)] w fun e w' => e = .returned (.int .i64 c) ∧ w' = w := by
 have k := h.c0
 clear h
 go_enter Tryz.func180, Tryz.ntmps180
 go_wp2_with fail
 go_ret
 exact ⟨rfl, rfl⟩
theorem cols_nil (w : World) : Calls Tryz.prog 180 #[.pointer none] w fun e w' => e = .returned (.int .i64 0) ∧ w' = w := by
 go_enter Tryz.func180, Tryz.ntmps180
 go_wp2_with fail
 go_ret
 exact ⟨rfl, rfl⟩
theorem list_nil (w : World) : Calls Tryz.prog 54 #[.pointer none] w fun e w' => e = .returned (.slice none 0 0) ∧ w' = w := by
 go_enter Tryz.func54, Tryz.ntmps54
 go_wp2_with fail
 go_ret
 exact ⟨rfl, rfl⟩
/-- A slice of ints of the call's own. -/
def OwnI (w : World) (base : Nat) (v : Value) (L : List Int) : Prop := w.ownsRow base 3 1 v L.length (L.map encZ)
set_option maxHeartbeats 1000000 in
theorem list_any (w : World) (p b : Nat) (c : Int) (nn : Nat) (D : Set3) (h : TObj w p b c nn D) (hmax : Maps.size D ≤ 100000) :
  Calls Tryz.prog 54 #[.pointer (some ⟨p, 0, none⟩)] w fun e w' => ∃ (v : Value) (ss : List Int), e = .returned v ∧ ss.Perm (intKeys D) ∧
   w'.ownsRow w.heap.size 3 1 v ss.length ((ss.mergeSort (fun x y => decide (x ≤ y))).map encZ) ∧ Below w.heap.size w w' := by
 refine (callsIn_wide (n := 6)).1 ?_
 have hown := h.m
 have k1 := h.c1
 have hbl := World.ownsMap.lt hown
 have hseq : SeqGives Fence.wide 2 Tryz.prog 126 #[.pointer (some ⟨w.heap.size, 0, none⟩)] encZ (fun ss => ss.Perm (intKeys D)) (Maps.size D) (w.alloc (.cells #[.map (some b)] 140)) :=
  AnyZI.keys_gives (ρ := Tryz.keysA_ren) { Tryz.keysA with } Fence.wide _ trivial rfl (by omega) w.heap.size b nn D _ (by simp) (by simp) (by
   obtain ⟨es, clock, hb, Ft, hs, hD⟩ := hown
   exact ⟨es, clock, (Below.heap_alloc _ _ b hbl).trans hb, Ft, hs, hD⟩)
 have cK : ∀ mb W, CallsIn Fence.wide 5 Tryz.prog 92 #[.map mb] W fun e w' => e = .returned (.func (.func 126) #[] #[.pointer (some ⟨W.heap.size, 0, none⟩)]) ∧ w' = W.alloc (.cells #[.map mb] 140) := fun mb W => AnyZI.keys_in Tryz.keysA Fence.wide 5 trivial rfl mb W
 have cS := AnyZI.sorted_in Tryz.sortedA Fence.wide 5 trivial trivial trivial trivial rfl (by omega) (Tryz.sortsA _) (enters_of Tryz.func125 (by kernel_rfl) rfl) 126 #[.pointer (some ⟨w.heap.size, 0, none⟩)] trivial (enters_of Tryz.func126 (by kernel_rfl) rfl) _ _ (by unfold maxLen; omega) (by omega) _ hseq
 change CallsIn _ _ Tryz.prog 91 _ _ _ at cS
 have hfK : Fence.wide.fn 92 := trivial
 have hfS : Fence.wide.fn 91 := trivial
 clear h hown
 refine callsIn_of_wp Tryz.func54 rfl trivial ?_ rfl
 simp only [Tryz.ntmps54, List.size_toArray, List.length_cons, List.length_nil, Nat.reduceAdd, Nat.reduceSub, Array.replicate_succ, Array.replicate_zero, List.push_toArray, List.append_toArray, List.nil_append, List.cons_append]
 gi_wp2_with (first
  | (gi_at_call 92; refine (cK _ _).mono ?_; rintro e w' ⟨rfl, rfl⟩)
  | (gi_at_call 91; refine cS.mono ?_; rintro e w' ⟨v, ss, rfl, hS, hrow, hnil, hb⟩))
 go_ret
 exact ⟨v, ss, rfl, hS, ownsRow_base_a hrow (by simp), ((Below.refl _ w).alloc (Nat.le_refl _) _).trans (hb.mono (by simp))⟩
end Go.Proofs.YtpjooboohelffaaGreatDoor.T05
/- tabs: Every, ints, Next. -/
namespace Go.Proofs.YtpjooboohelffaaGreatDoor.T05
open Go.RowKit Go.Maps Go.Sort Go.Shelf Go.ChangeMaps Go.WideMaps Go.WideElems
set_option linter.unusedVariables false
set_option linter.unusedSimpArgs false
set_option maxRecDepth 100000
def leB : Int → Int → Bool := fun x y => decide (x ≤ y)
/-- The columns, rising. -/
def keysOf (D : Set3) : List Int := (intKeys D).mergeSort leB
theorem sort_perm {a b : List Int} (h : a.Perm b) : a.mergeSort leB = b.mergeSort leB := by
 have tr : ∀ x y z : Int, leB x y = true → leB y z = true → leB x z = true := fun x y z h1 h2 => by simp [leB] at *; omega
 have tot : ∀ x y : Int, (leB x y || leB y x) = true := fun x y => by simp [leB]; omega
 refine List.Perm.eq_of_pairwise (le := fun x y => leB x y = true) (fun x y _ _ h1 h2 => by simp [leB] at *; omega) (List.pairwise_mergeSort tr tot a) (List.pairwise_mergeSort tr tot b) ?_
 exact ((List.mergeSort_perm a leB).trans h).trans (List.mergeSort_perm b leB).symm
theorem list_is (w : World) (p b : Nat) (c : Int) (nn : Nat) (D : Set3) (h : TObj w p b c nn D) (hmax : Maps.size D ≤ 100000) :
  Calls Tryz.prog 54 #[.pointer (some ⟨p, 0, none⟩)] w fun e w' => ∃ v, e = .returned v ∧ OwnI w' w.heap.size v (keysOf D) ∧ Below w.heap.size w w' := by
 refine (list_any w p b c nn D h hmax).mono ?_
 rintro e w' ⟨v, ss, rfl, hp, hrow, hb⟩
 refine ⟨v, rfl, ?_, hb⟩
 have e1 : ss.mergeSort (fun x y => decide (x ≤ y)) = keysOf D := sort_perm hp
 have e2 : ss.length = (keysOf D).length := by rw [← e1]; simp [List.length_mergeSort]
 rw [e1, e2] at hrow
 exact hrow
theorem run_clear53 (W : World) (b : Nat) (n : Nat) (D : Set3) (h : OwnS W b n D) (ty : TypeId) :
  ∃ W', (Builtin.clear_ #[140] ty #[.map (some b)]).run Tryz.prog W = .ok (.tuple #[]) W' ∧ OwnS W' b 0 (.map []) ∧ W.grownBy W' (some b) := by
 obtain ⟨es, clock, hb, F, hs, hD⟩ := h
 have hu := run_underlying Tryz.underlying140
 have hlt := (Array.getElem?_eq_some_iff.1 hb).1
 refine ⟨W.putObj b (.map #[] clock), ?_, ?_, ?_⟩
 ·simp [Builtin.clear_, hu, MapKept.run_getObj_map hb, MapKept.run_setObj_map _ hb, Result.andThen, World.putObj]
 ·exact ⟨#[], clock, World.putObj_heap_same hlt, ⟨by simp, MapKept.stamped_empty clock, by simp⟩, Nat.le_refl _, rfl⟩
 ·exact ⟨rfl, rfl, rfl, by simp [World.putObj], fun i hi hne => World.putObj_heap_other (by rintro rfl; exact hne rfl)⟩
/-- The set of the first j multiples of n. -/
def multD (n : Int) (j : Nat) : Set3 := Maps.setOf (.agg []) ((List.range j).map fun (i : Nat) => Lit.int .i64 (((i : Int) + 1) * n))
theorem multD_succ (n : Int) (j : Nat) : multD n (j + 1) = (multD n j).put (.int .i64 (((j : Int) + 1) * n)) (.agg []) := by
 unfold multD
 rw [List.range_succ, List.map_append]
 exact Maps.setOf_snoc _ _ _
theorem grown_cell {W W3 : World} {b q o : Nat} {v : Value} (hg : W.grownBy W3 (some b)) (hq : q ≠ b) (h : W.cell? ⟨q, o, none⟩ = some v) : W3.cell? ⟨q, o, none⟩ = some v :=
 (World.cell?_of_block (hg.block q (World.block_lt_of_cell? W ⟨q, o, none⟩ h) (fun e => hq (by cases e; rfl)))).trans h
theorem grown_trans {W W1 W2 : World} {b : Nat} (h : W.grownBy W1 (some b)) (k : W1.grownBy W2 (some b)) : W.grownBy W2 (some b) := h.trans k
set_option maxHeartbeats 1000000 in
theorem every_pos (w : World) (p b : Nat) (cols : Int) (n0 : Nat) (D : Set3) (h : TObj w p b cols n0 D) (h1 : 1 ≤ cols) (h2 : cols ≤ 255) (n : Int) (hn : 1 ≤ n) (hn2 : n ≤ 1000) :
  Calls Tryz.prog 168 #[.pointer (some ⟨p, 0, none⟩), .int .i64 n] w fun e w' => e = .returned (.int .i64 0) ∧ ∃ j : Nat, (cols ≤ ((j : Int) + 1) * n) ∧ (∀ i, i < j → ((i : Int) + 1) * n < cols) ∧ TObj w' p b cols j (multD n j) ∧ w.grownBy w' (some b) := by
 have hne : p ≠ b := by
  rintro rfl
  obtain ⟨es, clock, hb, _⟩ := h.m
  have := h.c0
  simp [World.cell?, hb] at this
 have k0 := h.c0
 have k1 := h.c1
 have HCl := Lib.hid (fun ty => run_clear53 w b n0 D h.m ty)
 have hpl := h.lt
 have Hne := Lib.hid hne
 have Hpl := Lib.hid hpl
 have K0 := Lib.hid k0
 have K1 := Lib.hid k1
 have g1 : ¬ n < 0 := by omega
 have g2 : 0 < n := by omega
 clear h hne hpl
 obtain ⟨w1, hrun, hown1, hg1⟩ := HCl.out 0
 have Hown1 := Lib.hid hown1
 have Hg1 := Lib.hid hg1
 clear hown1 hg1 HCl
 go_enter Tryz.func168, Tryz.ntmps168
 go_wp2_with fail
 go_loopw [5] (fun c wr => ∃ j : Nat, c = .int .i64 (((j : Int) + 1) * n) ∧ OwnS wr b j (multD n j) ∧ w.grownBy wr (some b) ∧ ∀ i, i < j → ((i : Int) + 1) * n < cols) (fun c _ => (1300 - intOf c).toNat)
 case atStart => exact ⟨0, by simp, Hown1.out, Hg1.out, fun i hi => absurd hi (Nat.not_lt_zero i)⟩
 case round =>
  obtain ⟨j, rfl, hown, hg, hall⟩ := hrel
  have c0 := grown_cell hg Hne.out K0.out
  have c1 := grown_cell hg Hne.out K1.out
  have hge : (j : Int) + 1 ≤ ((j : Int) + 1) * n := by
   have := Int.mul_le_mul_of_nonneg_left hn (show (0 : Int) ≤ (j : Int) + 1 by omega)
   simpa using this
  have hnext : (((j + 1 : Nat) : Int) + 1) * n = ((j : Int) + 1) * n + n := by push_cast; rw [Int.add_mul ((j : Int) + 1) 1 n]; omega
  have hD := multD_succ n j
  have hall' : ((j : Int) + 1) * n < cols → ∀ i, i < j + 1 → ((i : Int) + 1) * n < cols := fun hc i hi => by
   by_cases e : i = j
   ·subst e; exact hc
   ·exact hall i (by omega)
  generalize hcc : ((j : Int) + 1) * n = c at *
  have Hown := Lib.hid hown
  have Hg := Lib.hid hg
  have Hall := Lib.hid hall
  have Hall' := Lib.hid hall'
  have Hnext := Lib.hid hnext
  have HD := Lib.hid hD
  have Hcc := Lib.hid hcc
  clear hown hg hall hall' hnext hD hcc
  by_cases hlt : c < cols
  ·have hkey : keyOf Tryz.prog 3 (.int .i64 c) = some (.int .i64 c) := keyOf_int_mk Tryz.underlying3 (WalkArith.wf_i64 (by omega))
   have Hkey := Lib.hid hkey
   clear hkey
   go_wp2_with (at_mapUpdate; refine wpList_mapUpdate_own _ rfl _ _ _ 140 rfl 3 161 (int_keyed Tryz.underlying3) Tryz.underlying140 _ b j _ rfl Hown.out (by unfold maxLen; omega) _ _ _ rfl rfl Hkey.out _ [] unitElem_mk ?_; intro w2 hown2 hg2)
   go_roundw
   case rel => exact ⟨j + 1, by rw [Hnext.out]; try go_num, by rw [HD.out]; exact hown2, Hg.out.trans hg2, Hall'.out hlt⟩
   case measure => simp [intOf]; omega
  ·have HTo := Lib.hid (show TObj wr p b cols j (multD n j) from ⟨c0, c1, Hown.out⟩)
   go_wp2_with fail
   go_ret
   exact ⟨rfl, j, by rw [Hcc.out]; omega, Hall.out, HTo.out, Hg.out⟩
end Go.Proofs.YtpjooboohelffaaGreatDoor.T05
/- tabs: ints, Next. -/
namespace Go.Proofs.YtpjooboohelffaaGreatDoor.T05
open Go.RowKit Go.Maps Go.Sort Go.Shelf
set_option linter.unusedVariables false
set_option linter.unusedSimpArgs false
set_option maxRecDepth 100000
/-- A slice of ints, as it is read. -/
def IntsAt (W : World) (v : Value) (L : List Int) : Prop := ∃ ad cap, v = .slice ad L.length cap ∧ (0 < L.length → ∃ g off, ad = some ⟨g, off, none⟩ ∧ g < W.heap.size ∧ ∀ i (hi : i < L.length), W.cell? ⟨g, off + i, none⟩ = some (.int .i64 L[i]))
theorem OwnI.at {w : World} {base : Nat} {v : Value} {L : List Int} (h : OwnI w base v L) : IntsAt w v L := by
 obtain ⟨h1, h2⟩ := h
 rcases h2 with ⟨rfl, h0⟩ | ⟨g, cap, cur, hv, hg, hh, hc, hm, hsz, ht⟩
 ·exact ⟨none, 0, by rw [h0], fun h => by omega⟩
 ·refine ⟨_, cap, hv, fun _ => ⟨g, 0, rfl, (Array.getElem?_eq_some_iff.1 hh).1, fun i hi => ?_⟩⟩
  have e1 : (L.map encZ)[i]? = some (.int .i64 L[i]) := by rw [List.getElem?_map, List.getElem?_eq_getElem hi]; rfl
  rw [← ht, List.getElem?_take, if_pos (by omega)] at e1
  simp only [World.cell?, hh, Nat.zero_add]
  simpa using e1
theorem IntsAt.later {W W' : World} {v : Value} {L : List Int} (h : IntsAt W v L) (hb : Below W.heap.size W W') : IntsAt W' v L := by
 obtain ⟨ad, cap, hv, hc⟩ := h
 refine ⟨ad, cap, hv, fun h0 => ?_⟩
 obtain ⟨g, off, ha, hg, hcc⟩ := hc h0
 exact ⟨g, off, ha, Nat.lt_of_lt_of_le hg hb.size, fun i hi => cellB hb (hcc i hi)⟩
/-- What Next answers. -/
def nextIn (L : List Int) (cols col : Int) : Int := (L.find? (fun x => decide (col < x))).getD (max (cols - 1) 0)
theorem next_nil (col : Int) (w : World) : Calls Tryz.prog 181 #[.pointer none, .int .i64 col] w fun e w' => e = .returned (.int .i64 0) ∧ w' = w := by
 have HL := Lib.hid (fun W => list_nil W)
 have HC := Lib.hid (fun W => cols_nil W)
 go_enter Tryz.func181, Tryz.ntmps181
 go_wp2_with fail
 refine (HL.out _).mono ?_
 rintro e w1 ⟨rfl, rfl⟩
 go_wp2_with fail
 go_loopw [10] (fun i wr => i = .int .i64 0 ∧ wr = w1) (fun i _ => 0)
 case atStart => exact ⟨rfl, rfl⟩
 case round =>
  obtain ⟨rfl, rfl⟩ := hrel
  go_wp2_with fail
  refine (HC.out _).mono ?_
  rintro e w2 ⟨rfl, rfl⟩
  go_wp2_with fail
  go_ret
  exact ⟨rfl, rfl⟩
set_option maxHeartbeats 1000000 in
theorem next_any (w : World) (p b : Nat) (cols : Int) (nn : Nat) (D : Set3) (h : TObj w p b cols nn D) (hmax : Maps.size D ≤ 100000) (h1 : 1 ≤ cols) (h2 : cols ≤ 255) (col : Int) (hl : (keysOf D).length ≤ 100000) :
  Calls Tryz.prog 181 #[.pointer (some ⟨p, 0, none⟩), .int .i64 col] w fun e w' => e = .returned (.int .i64 (nextIn (keysOf D) cols col)) ∧ Below w.heap.size w w' := by
 have HL := Lib.hid (list_is w p b cols nn D h hmax)
 have HC := Lib.hid (fun W hW => cols_any W p b cols nn D (h.later hW))
 clear h hmax
 generalize keysOf D = L at *
 go_enter Tryz.func181, Tryz.ntmps181
 go_wp2_with fail
 refine HL.out.mono ?_
 rintro e w1 ⟨v, rfl, hown, hb1⟩
 obtain ⟨ad, cap, rfl, hc⟩ := hown.at
 have HCc := Lib.hid hc
 have HCo := Lib.hid (HC.out w1 hb1)
 have Hb1 := Lib.hid hb1
 obtain ⟨n, hn⟩ : ∃ n, L.length = n := ⟨_, rfl⟩
 have HN := Lib.hid hn
 rw [hn] at hl ⊢
 clear hn hown hb1 hc HC HL
 have hw : IntKind.i64.wrap (cols - 1) = cols - 1 := IntWalk.i64_in _ (by omega)
 go_wp2_with fail
 go_loopw [10] (fun i wr => ∃ k : Nat, k ≤ n ∧ i = .int .i64 (k : Int) ∧ (∀ j (hj : j < L.length), j < k → ¬ col < L[j]) ∧ wr = w1) (fun i _ => n - (intOf i).toNat)
 case atStart => exact ⟨0, Nat.zero_le _, rfl, fun j _ h => absurd h (Nat.not_lt_zero j), rfl⟩
 case round =>
  obtain ⟨k, hk, rfl, hno, rfl⟩ := hrel
  have Hno := Lib.hid hno
  clear hno
  by_cases hlt : k < n
  ·have q1 : (k : Int) < (n : Int) := by omega
   obtain ⟨g, off, rfl, hg, hcc⟩ := HCc.out (by rw [HN.out]; omega)
   have hkL : k < L.length := by rw [HN.out]; omega
   have d1 := hcc k hkL
   have hfound : col < L[k] → nextIn L cols col = L[k] := fun h => by
    unfold nextIn
    have : L.find? (fun x => decide (col < x)) = some L[k] := by
     rw [List.find?_eq_some_iff_getElem]
     exact ⟨by simpa using h, k, hkL, rfl, fun j hj => by simpa using Hno.out j (by omega) hj⟩
    rw [this]; rfl
   have hstep : ¬ col < L[k] → ∀ j (hj : j < L.length), j < k + 1 → ¬ col < L[j] := fun h j hj hjk => by
    by_cases e : j = k
    ·subst e; exact h
    ·exact Hno.out j hj (by omega)
   have Hf := Lib.hid hfound
   have Hs := Lib.hid hstep
   clear hcc hg hfound hstep
   generalize L[k] = x at *
   by_cases hx : col < x
   ·have Hr := Lib.hid (Hf.out hx)
    clear Hf Hs
    go_wp2_with fail
    go_ret
    exact ⟨by rw [Hr.out]; rfl, Hb1.out⟩
   ·have Hr := Lib.hid (Hs.out hx)
    clear Hf Hs
    go_wp2_with fail
    go_roundw
    case rel => exact ⟨k + 1, by omega, by go_num, Hr.out, trivial⟩
    case measure => simp [intOf]; omega
  ·have q1 : ¬ (k : Int) < (n : Int) := by omega
   have hnone : nextIn L cols col = max (cols - 1) 0 := by
    unfold nextIn
    have : L.find? (fun x => decide (col < x)) = none := List.find?_eq_none.2 fun f hf => by
     obtain ⟨j, hj, rfl⟩ := List.getElem_of_mem hf
     have := Hno.out j hj (by rw [HN.out] at hj; omega)
     simpa using this
    rw [this]; rfl
   have Hn := Lib.hid (hnone.trans (show max (cols - 1) 0 = cols - 1 by omega))
   clear hnone
   go_wp2_with fail
   refine HCo.out.mono ?_
   rintro e w2 ⟨rfl, rfl⟩
   have hmx : max (cols - 1) 0 = cols - 1 := by omega
   go_wp2_with fail
   go_ret
   exact ⟨by rw [Hn.out]; rfl, Hb1.out⟩
end Go.Proofs.YtpjooboohelffaaGreatDoor.T05
/- tabs: the iterator of slices.Backward. -/
namespace Go.Proofs.YtpjooboohelffaaGreatDoor.T05
open Go.RowKit Go.Maps Go.Sort Go.Shelf
set_option linter.unusedVariables false
set_option linter.unusedSimpArgs false
set_option maxRecDepth 100000
attribute [local go_sem] Oper.semAt_some
/-- The last k, from the end on: where, and what. -/
def backs (L : List Int) (k : Nat) : List (Int × Int) := (List.range k).map fun j => (((L.length - 1 - j : Nat) : Int), L.getD (L.length - 1 - j) 0)
theorem backs_succ (L : List Int) (k : Nat) : backs L (k + 1) = backs L k ++ [(((L.length - 1 - k : Nat) : Int), L.getD (L.length - 1 - k) 0)] := by simp [backs, List.range_succ]
theorem backs_pre (L : List Int) {k n : Nat} (h : k ≤ n) : ∃ t, backs L n = backs L k ++ t := by
 obtain ⟨d, rfl⟩ := Nat.exists_eq_add_of_le h
 clear h
 induction d with
 | zero => exact ⟨[], by simp⟩
 | succ d ih =>
  obtain ⟨t, ht⟩ := ih
  exact ⟨t ++ [(((L.length - 1 - (k + d) : Nat) : Int), L.getD (L.length - 1 - (k + d)) 0)], by rw [← Nat.add_assoc, backs_succ, ht, List.append_assoc]⟩
def encB (x : Int × Int) : Array Value := #[.int .i64 x.1, .int .i64 x.2]
set_option maxHeartbeats 2000000 in
theorem back_iter (v : Value) (L : List Int) (hlen : L.length ≤ 100000) (n : Nat) (hn1 : 1 ≤ n) (Bx B : Nat) (I : List (Int × Int) → World → Prop) (Kp : World → World → Prop)
  (hIc : ∀ pre W, I pre W → W.cell? ⟨Bx, 0, none⟩ = some v ∧ IntsAt W v L) (W0 : World) :
  Iterates Tryz.prog n (n - 1) 243 #[.pointer (some ⟨Bx, 0, none⟩)] encB (fun ys => ys = backs L L.length) (fun pre => ∃ t, backs L L.length = pre ++ t)
   (fun pre x => ∃ t, backs L L.length = pre ++ x :: t) L.length B I Kp W0 := by
 intro l J Jx hJ0 hJk _ hJI hY
 have hJc : ∀ s X, J s X → X.cell? ⟨Bx, 0, none⟩ = some v ∧ IntsAt X v L := fun s X h => hIc _ _ (hJI _ _ h)
 have hY' : ∀ k X, k < L.length → J (backs L k) X → YieldAt Fence.wide (n - 1) Tryz.prog l (encB (((L.length - 1 - k : Nat) : Int), L.getD (L.length - 1 - k) 0)) X fun e X' => (e = .returned (.bool true) ∧ J (backs L (k + 1)) X') ∨ (e = .returned (.bool false) ∧ Jx (backs L (k + 1)) X') := by
  intro k X hk h
  obtain ⟨t, ht⟩ := backs_pre L (show k + 1 ≤ L.length by omega)
  rw [backs_succ] at ht
  obtain ⟨fn, tmps, assign, body, hy, hR⟩ := hY (backs L k) (((L.length - 1 - k : Nat) : Int), L.getD (L.length - 1 - k) 0) X h (by simp [backs]; exact hk) ⟨t, by rw [ht]; simp⟩
  refine ⟨fn, tmps, assign, body, hy, hR.mono fun e X' h => ?_⟩
  rw [backs_succ]
  rcases h with ⟨a, b, _⟩ | h
  ·exact .inl ⟨a, b⟩
  ·exact .inr h
 clear hY hJI hJk hIc
 obtain ⟨cx, hat⟩ := hJc _ _ hJ0
 obtain ⟨ad, cap, rfl, _⟩ := hat
 have HJ := Lib.hid hJ0
 have HJc := Lib.hid hJc
 have HY := Lib.hid hY'
 clear hJ0 hJc hY'
 obtain ⟨nn, hnn⟩ : ∃ nn, L.length = nn := ⟨_, rfl⟩
 have HN := Lib.hid hnn
 rw [hnn] at cx hlen HJc ⊢
 clear hnn
 have hw1 : IntKind.i64.wrap ((nn : Int) - 1) = (nn : Int) - 1 := IntWalk.i64_in _ (by omega)
 refine callsIn_of_wp Tryz.func243 rfl trivial ?_ rfl
 simp only [Tryz.ntmps243, List.size_toArray, List.length_cons, List.length_nil, Nat.reduceAdd, Nat.reduceSub, Array.replicate_succ, Array.replicate_zero, List.push_toArray, List.append_toArray, List.nil_append, List.cons_append]
 gi_wp2_with fail
 gi_loopw [3] (fun i wr => ∃ k : Nat, k ≤ nn ∧ i = .int .i64 ((nn : Int) - 1 - (k : Int)) ∧ J (backs L k) wr) (fun i _ => (intOf i + 1).toNat)
 case atStart => exact ⟨0, Nat.zero_le _, by simp, HJ.out⟩
 case round =>
  obtain ⟨k, hk, rfl, hJ⟩ := hrel
  obtain ⟨cx1, hat⟩ := HJc.out _ _ hJ
  have HJr := Lib.hid hJ
  clear hJ cx
  by_cases hlt : k < nn
  ·obtain ⟨m, hm⟩ : ∃ m : Nat, (nn : Int) - 1 - (k : Int) = (m : Int) := ⟨nn - 1 - k, by omega⟩
   rw [hm]
   have hmk : L.length - 1 - k = m := by rw [HN.out]; omega
   have hml : m < L.length := by rw [HN.out]; omega
   obtain ⟨fn, tmps, assign, body, hy, hR⟩ := HY.out k wr (by rw [HN.out]; exact hlt) HJr.out
   obtain ⟨_, _, e0, hc⟩ := hat
   simp only [Value.slice.injEq] at e0
   obtain ⟨rfl, -, rfl⟩ := e0
   obtain ⟨g, off, rfl, hg, hcc⟩ := hc (by omega)
   have d1 := hcc m hml
   rw [hmk] at hy
   have hgd : L.getD m 0 = L[m] := by simp [List.getD, List.getElem?_eq_getElem hml]
   rw [hgd] at hy
   simp only [encB] at hy
   generalize L[m] = x at *
   have hR' := (roundIn_any (m := n - 1) hR).mono (R' := fun e X' => ∃ r : Bool, e = .returned (.bool r) ∧ Hid ((r = true ∧ J (backs L (k + 1)) X') ∨ (r = false ∧ Jx (backs L (k + 1)) X'))) (fun e X' h => by
    rcases h with ⟨rfl, a⟩ | ⟨rfl, a⟩
    ·exact ⟨true, rfl, .inl ⟨rfl, a⟩⟩
    ·exact ⟨false, rfl, .inr ⟨rfl, a⟩⟩)
   have HM := Lib.hid hm
   have q1 : (0 : Int) ≤ (m : Int) := by omega
   have q2 : m < nn := by omega
   have q3 : (m : Int) < (nn : Int) := by omega
   have HPre := Lib.hid (backs_pre L (show k + 1 ≤ nn by omega))
   clear hR hcc hg hc hm hmk hgd hml
   gi_wp2_with (refine hR'.mono ?_; rintro e W' ⟨y, rfl, hpost⟩; cases y)
   all_goals rcases hpost with ⟨hy', hJ'⟩ | ⟨hy', hJx'⟩
   all_goals first | cases hy' | skip
   ·refine bodyPost_ret (results_none rfl _ _ _) rfl ?_
    exact ⟨⟨_, rfl⟩, .inr ⟨_, HPre.out, hJx'⟩⟩
   ·go_roundw
    case rel => exact ⟨k + 1, by omega, congrArg (Value.int .i64) (by have := HM.out; omega), hJ'⟩
    case measure => have := HM.out; simp [intOf] <;> omega
  ·have q1 : ¬ (0 : Int) ≤ (nn : Int) - 1 - (k : Int) := by omega
   have hkn : k = nn := by omega
   subst hkn
   gi_wp2_with fail
   go_end0
   exact ⟨⟨_, rfl⟩, .inl HJr.out⟩
end Go.Proofs.YtpjooboohelffaaGreatDoor.T05
