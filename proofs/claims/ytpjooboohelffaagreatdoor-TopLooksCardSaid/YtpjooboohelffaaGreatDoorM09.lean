/- TopLooks and TopSends, helper 10 of 27. It holds: tabs: Prev; tabs: Go; tabs: the columns that are stops; tabs: the library's functions: ContainsFunc, maps.Clone, maps.DeleteFunc; Put; tabs: Put. Each theorem states its own conditions. -/
import Derived.Test.YtpjooboohelffaaGreatDoorM08
import Derived.Shelf.SlicesE.IndexFunc
import Derived.Ground.SlgfProg
/- tabs: Prev. -/
namespace Go.Proofs.YtpjooboohelffaaGreatDoor.T05
open Go.RowKit Go.Maps Go.Sort Go.Shelf
set_option linter.unusedVariables false
set_option linter.unusedSimpArgs false
set_option maxRecDepth 100000
attribute [local go_sem] Oper.semAt_some
theorem back_any (v : Value) (w : World) (L : List Int) (h : IntsAt w v L) : Calls Tryz.prog 220 #[v] w fun e w' => e = .returned (.func (.func 243) #[] #[.pointer (some ⟨w.heap.size, 0, none⟩)]) ∧ w' = w.alloc (.cells #[v] 39) := by
 obtain ⟨ad, cap, rfl, _⟩ := h
 go_enter Tryz.func220, Tryz.ntmps220
 go_wp2_with fail
 go_ret
 exact ⟨rfl, rfl⟩
/-- What Prev answers. -/
def prevIn (L : List Int) (col : Int) : Int := (((backs L L.length).find? (fun x => decide (x.2 < col))).map (fun x => x.2)).getD 0
theorem findB_none {P : Int × Int → Bool} {l : List (Int × Int)} (h : ∀ p ∈ l, P p = false) : l.find? P = none := by
 rw [List.find?_eq_none]; intro p hp; simp [h p hp]
theorem findB_some {P : Int × Int → Bool} {l t : List (Int × Int)} {x : Int × Int} (h : ∀ p ∈ l, P p = false) (hx : P x = true) : (l ++ [x] ++ t).find? P = some x := by
 rw [List.append_assoc, List.find?_append, findB_none h]
 simp [hx]
set_option maxHeartbeats 2000000 in
theorem prev_gen (tv : Value) (htv : tv = .pointer none ∨ ∃ p, tv = .pointer (some ⟨p, 0, none⟩)) (w : World) (L : List Int) (hl : L.length ≤ 100000) (col : Int)
  (HLi : ∀ W, Below w.heap.size w W → Calls Tryz.prog 54 #[tv] W fun e w' => ∃ v, e = .returned v ∧ IntsAt w' v L ∧ Below W.heap.size W w') :
  Calls Tryz.prog 182 #[tv, .int .i64 col] w fun e w' => e = .returned (.int .i64 (prevIn L col)) ∧ Below w.heap.size w w' := by
 have fin : ∀ tv', tv' = tv → Calls Tryz.prog 182 #[tv', .int .i64 col] w fun e w' => e = .returned (.int .i64 (prevIn L col)) ∧ Below w.heap.size w w' := by
  rintro tv' rfl
  refine (callsIn_wide (n := 3)).1 (callsIn_of_wp_marks Tryz.func182 rfl trivial ?_ rfl)
  simp only [Tryz.ntmps182, List.size_toArray, List.length_cons, List.length_nil, Nat.reduceAdd, Nat.reduceSub, Array.replicate_succ, Array.replicate_zero, List.push_toArray, List.append_toArray, List.nil_append, List.cons_append]
  have HL := Lib.hid HLi
  clear HLi
  have hB0 : Below w.heap.size w ((w.alloc (.cells #[.int .i64 col] 3)).alloc (.cells #[.int .i64 0] 3)) := bel_alloc (bel_alloc (Below.refl _ _) _) _
  rcases htv with rfl | ⟨p, rfl⟩
  ·gi_wp2_with (first
    | (refine ⟨trivial, ?_⟩; gi_at_call 54; refine (callsIn_wide.2 (HL.out _ hB0)).mono ?_; rintro e w1 ⟨v, rfl, hat, hb1⟩; obtain ⟨adv, capv, rfl, hcv⟩ := id hat; have Hat := Lib.hid hat; have Hb1 := Lib.hid hb1; clear hat hb1 hcv)
    | (refine ⟨trivial, ?_⟩; gi_at_call 220; refine (callsIn_wide.2 (back_any _ _ L Hat.out)).mono ?_; rintro e w2 ⟨rfl, rfl⟩))
   have hz1 : w.heap.size + 2 ≤ w1.heap.size := by have := Hb1.out.size; simp at this; omega
   have B1 := bel_call hB0 Hb1.out
   have y3 := cellB Hb1.out (show ((w.alloc (.cells #[.int .i64 col] 3)).alloc (.cells #[.int .i64 0] 3)).cell? ⟨w.heap.size, 0, none⟩ = some (.int .i64 col) by simp [go_sem])
   have y4 := cellB Hb1.out (show ((w.alloc (.cells #[.int .i64 col] 3)).alloc (.cells #[.int .i64 0] 3)).cell? ⟨w.heap.size + 1, 0, none⟩ = some (.int .i64 0) by simp [go_sem])
   have yf := (Hb1.out.frozen (p := ⟨w.heap.size + 1, 0, none⟩) (by simp)).trans (show ((w.alloc (.cells #[.int .i64 col] 3)).alloc (.cells #[.int .i64 0] 3)).frozen? ⟨w.heap.size + 1, 0, none⟩ = false by simp [go_sem])
   obtain ⟨w2, hw2⟩ : ∃ w2, w1.alloc (.cells #[.slice adv L.length capv] 39) = w2 := ⟨_, rfl⟩
   have B12 : Below w1.heap.size w1 w2 := by rw [← hw2]; exact bel_alloc (Below.refl _ _) _
   have B2 := bel_call B1 B12
   have hz2 : w2.heap.size = w1.heap.size + 1 := by rw [← hw2]; simp
   have C3 := Lib.hid (cellB B12 y3)
   have C4 := Lib.hid (cellB B12 y4)
   have CF := Lib.hid ((B12.frozen (p := ⟨w.heap.size + 1, 0, none⟩) (by simp; omega)).trans yf)
   have CX := Lib.hid (show w2.cell? ⟨w1.heap.size, 0, none⟩ = some (.slice adv L.length capv) by rw [← hw2]; simp [go_sem])
   have HA2 := Lib.hid (Hat.out.later B12)
   rw [hw2]
   clear hw2 y3 y4 yf
   have hN : w2.heap.size ≤ w2.heap.size := Nat.le_refl _
   have hNw : w.heap.size ≤ w2.heap.size := by omega
   refine range_law (n := 2) (m := 1) (gf := 243) (lb := #[.pointer (some ⟨w1.heap.size, 0, none⟩)]) rfl (enters_of Tryz.func243 (by kernel_rfl) rfl) (encs := encB) (fun _ => rfl)
    (S := fun ys => ys = backs L L.length) (Sp := fun pre => ∃ t, backs L L.length = pre ++ t) (V := fun pre x => ∃ t, backs L L.length = pre ++ x :: t) (N := L.length) (Kp := fun _ _ => True) (fun _ _ => trivial) (fun _ _ _ _ _ _ _ _ => trivial)
    (fun pre W => (∀ x ∈ pre, ¬ x.2 < col) ∧ Below w2.heap.size w2 W)
    (fun c pre W => (c = .ret ∧ ∃ pre' x, pre = pre' ++ [x] ∧ (∀ y ∈ pre', ¬ y.2 < col) ∧ x.2 < col ∧ W.cell? ⟨w.heap.size + 1, 0, none⟩ = some (.int .i64 x.2)) ∧ Below w.heap.size w2 W)
    ?hI ?hIx ⟨by simp, Below.refl _ _⟩
    (fun x a' W => a' = { tmps := #[.pointer none, .int .i64 col, undef, .pointer (some ⟨w.heap.size, 0, none⟩), .pointer (some ⟨w.heap.size + 1, 0, none⟩), undef, .int .i64 x.2, .pointer none, .slice adv L.length capv,
      .func (.func 243) #[] #[.pointer (some ⟨w1.heap.size, 0, none⟩)], .int .i64 x.1, .int .i64 x.2, undef, undef, undef, undef], defers := [] })
    ?hAx ?hit ?assign ?body ?done ?stop
   case hI => exact fun s W W' row h hg hr => ⟨h.1, ownFrom_below (β := Unit) (B := w2.heap.size) (w₀ := w2) (by omega) (by omega) () W W' row h.2 hg hr⟩
   case hIx =>
    rintro c pre W W' row ⟨⟨rfl, pre', x, hp, ho, hx, k0⟩, hb⟩ hg hr
    exact ⟨⟨rfl, pre', x, hp, ho, hx, cell_kept k0 hg (fun r e => (hr r e).2)⟩, ownFrom_below (β := Unit) (B := w2.heap.size) (w₀ := w2) (by omega) (by omega) () W W' row hb hg hr⟩
   case hAx => exact fun x a' _ W W' row e _ _ => e
   case hit =>
    rintro W0 ⟨o, o', _, _, rfl⟩ hI0
    refine back_iter (.slice adv L.length capv) L hl 2 (by decide) w1.heap.size w2.heap.size _ _ ?_ _
    rintro pre W ⟨_, hW⟩
    exact ⟨(hW.cell (p := ⟨w1.heap.size, 0, none⟩) (by simp; omega)).trans CX.out, HA2.out.later hW⟩
   case assign =>
    rintro l pre x W K ⟨hp, hW⟩ hK
    simp only [encB]
    gi_wp2
    exact hK _ _ (keepsB (Below.refl _ _)) trivial ⟨hp, hW⟩ rfl
   case body =>
    rintro l pre x a' W ⟨hp, hW⟩ rfl hlen _
    have c3 := cellB hW C3.out
    have c4 := cellB hW C4.out
    have cf := (hW.frozen (p := ⟨w.heap.size + 1, 0, none⟩) (by simp; omega)).trans CF.out
    have HWh := Lib.hid hW
    have Hp := Lib.hid hp
    clear hW hp
    by_cases hx : x.2 < col
    ·have HX := Lib.hid hx
     gi_wp2_with fail
     have z0 : (W.setCell ⟨w.heap.size + 1, 0, none⟩ (.int .i64 x.2)).cell? ⟨w.heap.size + 1, 0, none⟩ = some (.int .i64 x.2) := World.cell?_setCell_same' _ _ _ (by rw [c4]; rfl)
     refine ⟨(KeepsOthers.setCell _ _ _).from _, ?_, (HWh.out.mono hNw).setCell (p := ⟨w.heap.size + 1, 0, none⟩) (by simp) _⟩
     first
      | exact ⟨rfl, pre, x, rfl, Hp.out, HX.out, z0⟩
      | exact ⟨rfl, pre, x.1, x.2, rfl, fun a b hy => Hp.out (a, b) hy, HX.out, z0⟩
      | exact ⟨rfl, pre, x.1, x.2, rfl, fun a b hy => by have := Hp.out (a, b) hy; simpa using this, HX.out, z0⟩
    ·have HX := Lib.hid hx
     gi_wp2_with fail
     have hall : ∀ y ∈ pre ++ [x], ¬ y.2 < col := fun y hy => by
      have h1 := Hp.out y
      have h2 := HX.out
      rcases List.mem_append.1 hy with h | h
      ·have := h1 h; omega
      ·simp at h; rw [h]; omega
     refine ⟨keepsB (Below.refl _ _), trivial, ?_, by first | exact HWh.out | (rw [← hz2]; exact HWh.out)⟩
     first
      | exact hall
      | exact fun a b hy => hall (a, b) hy
      | exact fun a b hy => by have := hall (a, b) (by simpa using hy); simpa using this
   case done =>
    rintro D ys W hD rfl ⟨hp, hW⟩ hK
    have c4 := cellB hW C4.out
    have cf := (hW.frozen (p := ⟨w.heap.size + 1, 0, none⟩) (by simp; omega)).trans CF.out
    have HWh := Lib.hid hW
    have Hp := Lib.hid hp
    have HK := Lib.hid hK
    clear hW hp hK
    gi_wp2
    have z0 : (W.setCell ⟨w.heap.size + 1, 0, none⟩ (.int .i64 0)).cell? ⟨w.heap.size + 1, 0, none⟩ = some (.int .i64 0) := World.cell?_setCell_same' _ _ _ (by rw [c4]; rfl)
    have hK4 := (KeepsOthers.setCell W ⟨w.heap.size + 1, 0, none⟩ (.int .i64 0)).same D _ HK.out rfl
    have hBe : Below w.heap.size w (W.setCell ⟨w.heap.size + 1, 0, none⟩ (.int .i64 0)) := (B2.trans (HWh.out.mono hNw)).setCell (p := ⟨w.heap.size + 1, 0, none⟩) (by simp) _
    have y0 := cell_kept z0 (grownBy_putObj' _ D (.deferred none)) (fun r e => by cases e; exact ⟨_, hK4, rfl⟩)
    refine ⟨by simp, .inl ⟨_, _, rfl, run_takeDeferred hK4, ?_⟩⟩
    have hpr : prevIn L col = 0 := by
     unfold prevIn
     rw [findB_none (fun p hp => by simpa using Hp.out p hp)]
     rfl
    refine ⟨.int .i64 0, ?_, by rw [hpr], ?_⟩
    ·simp [results, Tryz.results182, go_sem, y0]
    ·exact hBe.trans (belowK_b (w := w2) (by omega) _ D _ _ (by omega) hK4 rfl rfl)
   case stop =>
    rintro D c pre W hD ⟨t, ht⟩ ⟨⟨rfl, pre', x, he, ho, hx, k0⟩, hb⟩ hK
    gi_wp2
    refine ⟨by simp, .inl ⟨_, _, rfl, run_takeDeferred hK, ?_⟩⟩
    have z0 := cell_kept k0 (grownBy_putObj' _ D (.deferred none)) (fun r e => by cases e; exact ⟨_, hK, rfl⟩)
    have hpr : prevIn L col = x.2 := by
     unfold prevIn
     rw [ht, he, findB_some (P := fun x => decide (x.2 < col)) (fun p hp => by simpa using ho p hp) (by simpa using hx)]
     rfl
    refine ⟨.int .i64 x.2, ?_, by rw [hpr], ?_⟩
    ·simp [results, Tryz.results182, go_sem, z0]
    ·exact (B2.trans hb).trans (belowK_b (w := w2) (by omega) W D _ _ (by omega) hK rfl rfl)
  ·gi_wp2_with (first
    | (refine ⟨trivial, ?_⟩; gi_at_call 54; refine (callsIn_wide.2 (HL.out _ hB0)).mono ?_; rintro e w1 ⟨v, rfl, hat, hb1⟩; obtain ⟨adv, capv, rfl, hcv⟩ := id hat; have Hat := Lib.hid hat; have Hb1 := Lib.hid hb1; clear hat hb1 hcv)
    | (refine ⟨trivial, ?_⟩; gi_at_call 220; refine (callsIn_wide.2 (back_any _ _ L Hat.out)).mono ?_; rintro e w2 ⟨rfl, rfl⟩))
   have hz1 : w.heap.size + 2 ≤ w1.heap.size := by have := Hb1.out.size; simp at this; omega
   have B1 := bel_call hB0 Hb1.out
   have y3 := cellB Hb1.out (show ((w.alloc (.cells #[.int .i64 col] 3)).alloc (.cells #[.int .i64 0] 3)).cell? ⟨w.heap.size, 0, none⟩ = some (.int .i64 col) by simp [go_sem])
   have y4 := cellB Hb1.out (show ((w.alloc (.cells #[.int .i64 col] 3)).alloc (.cells #[.int .i64 0] 3)).cell? ⟨w.heap.size + 1, 0, none⟩ = some (.int .i64 0) by simp [go_sem])
   have yf := (Hb1.out.frozen (p := ⟨w.heap.size + 1, 0, none⟩) (by simp)).trans (show ((w.alloc (.cells #[.int .i64 col] 3)).alloc (.cells #[.int .i64 0] 3)).frozen? ⟨w.heap.size + 1, 0, none⟩ = false by simp [go_sem])
   obtain ⟨w2, hw2⟩ : ∃ w2, w1.alloc (.cells #[.slice adv L.length capv] 39) = w2 := ⟨_, rfl⟩
   have B12 : Below w1.heap.size w1 w2 := by rw [← hw2]; exact bel_alloc (Below.refl _ _) _
   have B2 := bel_call B1 B12
   have hz2 : w2.heap.size = w1.heap.size + 1 := by rw [← hw2]; simp
   have C3 := Lib.hid (cellB B12 y3)
   have C4 := Lib.hid (cellB B12 y4)
   have CF := Lib.hid ((B12.frozen (p := ⟨w.heap.size + 1, 0, none⟩) (by simp; omega)).trans yf)
   have CX := Lib.hid (show w2.cell? ⟨w1.heap.size, 0, none⟩ = some (.slice adv L.length capv) by rw [← hw2]; simp [go_sem])
   have HA2 := Lib.hid (Hat.out.later B12)
   rw [hw2]
   clear hw2 y3 y4 yf
   have hN : w2.heap.size ≤ w2.heap.size := Nat.le_refl _
   have hNw : w.heap.size ≤ w2.heap.size := by omega
   refine range_law (n := 2) (m := 1) (gf := 243) (lb := #[.pointer (some ⟨w1.heap.size, 0, none⟩)]) rfl (enters_of Tryz.func243 (by kernel_rfl) rfl) (encs := encB) (fun _ => rfl)
    (S := fun ys => ys = backs L L.length) (Sp := fun pre => ∃ t, backs L L.length = pre ++ t) (V := fun pre x => ∃ t, backs L L.length = pre ++ x :: t) (N := L.length) (Kp := fun _ _ => True) (fun _ _ => trivial) (fun _ _ _ _ _ _ _ _ => trivial)
    (fun pre W => (∀ x ∈ pre, ¬ x.2 < col) ∧ Below w2.heap.size w2 W)
    (fun c pre W => (c = .ret ∧ ∃ pre' x, pre = pre' ++ [x] ∧ (∀ y ∈ pre', ¬ y.2 < col) ∧ x.2 < col ∧ W.cell? ⟨w.heap.size + 1, 0, none⟩ = some (.int .i64 x.2)) ∧ Below w.heap.size w2 W)
    ?hI ?hIx ⟨by simp, Below.refl _ _⟩
    (fun x a' W => a' = { tmps := #[.pointer (some ⟨p, 0, none⟩), .int .i64 col, undef, .pointer (some ⟨w.heap.size, 0, none⟩), .pointer (some ⟨w.heap.size + 1, 0, none⟩), undef, .int .i64 x.2, .pointer (some ⟨p, 0, none⟩), .slice adv L.length capv,
      .func (.func 243) #[] #[.pointer (some ⟨w1.heap.size, 0, none⟩)], .int .i64 x.1, .int .i64 x.2, undef, undef, undef, undef], defers := [] })
    ?hAx ?hit ?assign ?body ?done ?stop
   case hI => exact fun s W W' row h hg hr => ⟨h.1, ownFrom_below (β := Unit) (B := w2.heap.size) (w₀ := w2) (by omega) (by omega) () W W' row h.2 hg hr⟩
   case hIx =>
    rintro c pre W W' row ⟨⟨rfl, pre', x, hp, ho, hx, k0⟩, hb⟩ hg hr
    exact ⟨⟨rfl, pre', x, hp, ho, hx, cell_kept k0 hg (fun r e => (hr r e).2)⟩, ownFrom_below (β := Unit) (B := w2.heap.size) (w₀ := w2) (by omega) (by omega) () W W' row hb hg hr⟩
   case hAx => exact fun x a' _ W W' row e _ _ => e
   case hit =>
    rintro W0 ⟨o, o', _, _, rfl⟩ hI0
    refine back_iter (.slice adv L.length capv) L hl 2 (by decide) w1.heap.size w2.heap.size _ _ ?_ _
    rintro pre W ⟨_, hW⟩
    exact ⟨(hW.cell (p := ⟨w1.heap.size, 0, none⟩) (by simp; omega)).trans CX.out, HA2.out.later hW⟩
   case assign =>
    rintro l pre x W K ⟨hp, hW⟩ hK
    simp only [encB]
    gi_wp2
    exact hK _ _ (keepsB (Below.refl _ _)) trivial ⟨hp, hW⟩ rfl
   case body =>
    rintro l pre x a' W ⟨hp, hW⟩ rfl hlen _
    have c3 := cellB hW C3.out
    have c4 := cellB hW C4.out
    have cf := (hW.frozen (p := ⟨w.heap.size + 1, 0, none⟩) (by simp; omega)).trans CF.out
    have HWh := Lib.hid hW
    have Hp := Lib.hid hp
    clear hW hp
    by_cases hx : x.2 < col
    ·have HX := Lib.hid hx
     gi_wp2_with fail
     have z0 : (W.setCell ⟨w.heap.size + 1, 0, none⟩ (.int .i64 x.2)).cell? ⟨w.heap.size + 1, 0, none⟩ = some (.int .i64 x.2) := World.cell?_setCell_same' _ _ _ (by rw [c4]; rfl)
     refine ⟨(KeepsOthers.setCell _ _ _).from _, ?_, (HWh.out.mono hNw).setCell (p := ⟨w.heap.size + 1, 0, none⟩) (by simp) _⟩
     first
      | exact ⟨rfl, pre, x, rfl, Hp.out, HX.out, z0⟩
      | exact ⟨rfl, pre, x.1, x.2, rfl, fun a b hy => Hp.out (a, b) hy, HX.out, z0⟩
      | exact ⟨rfl, pre, x.1, x.2, rfl, fun a b hy => by have := Hp.out (a, b) hy; simpa using this, HX.out, z0⟩
    ·have HX := Lib.hid hx
     gi_wp2_with fail
     have hall : ∀ y ∈ pre ++ [x], ¬ y.2 < col := fun y hy => by
      have h1 := Hp.out y
      have h2 := HX.out
      rcases List.mem_append.1 hy with h | h
      ·have := h1 h; omega
      ·simp at h; rw [h]; omega
     refine ⟨keepsB (Below.refl _ _), trivial, ?_, by first | exact HWh.out | (rw [← hz2]; exact HWh.out)⟩
     first
      | exact hall
      | exact fun a b hy => hall (a, b) hy
      | exact fun a b hy => by have := hall (a, b) (by simpa using hy); simpa using this
   case done =>
    rintro D ys W hD rfl ⟨hp, hW⟩ hK
    have c4 := cellB hW C4.out
    have cf := (hW.frozen (p := ⟨w.heap.size + 1, 0, none⟩) (by simp; omega)).trans CF.out
    have HWh := Lib.hid hW
    have Hp := Lib.hid hp
    have HK := Lib.hid hK
    clear hW hp hK
    gi_wp2
    have z0 : (W.setCell ⟨w.heap.size + 1, 0, none⟩ (.int .i64 0)).cell? ⟨w.heap.size + 1, 0, none⟩ = some (.int .i64 0) := World.cell?_setCell_same' _ _ _ (by rw [c4]; rfl)
    have hK4 := (KeepsOthers.setCell W ⟨w.heap.size + 1, 0, none⟩ (.int .i64 0)).same D _ HK.out rfl
    have hBe : Below w.heap.size w (W.setCell ⟨w.heap.size + 1, 0, none⟩ (.int .i64 0)) := (B2.trans (HWh.out.mono hNw)).setCell (p := ⟨w.heap.size + 1, 0, none⟩) (by simp) _
    have y0 := cell_kept z0 (grownBy_putObj' _ D (.deferred none)) (fun r e => by cases e; exact ⟨_, hK4, rfl⟩)
    refine ⟨by simp, .inl ⟨_, _, rfl, run_takeDeferred hK4, ?_⟩⟩
    have hpr : prevIn L col = 0 := by
     unfold prevIn
     rw [findB_none (fun p hp => by simpa using Hp.out p hp)]
     rfl
    refine ⟨.int .i64 0, ?_, by rw [hpr], ?_⟩
    ·simp [results, Tryz.results182, go_sem, y0]
    ·exact hBe.trans (belowK_b (w := w2) (by omega) _ D _ _ (by omega) hK4 rfl rfl)
   case stop =>
    rintro D c pre W hD ⟨t, ht⟩ ⟨⟨rfl, pre', x, he, ho, hx, k0⟩, hb⟩ hK
    gi_wp2
    refine ⟨by simp, .inl ⟨_, _, rfl, run_takeDeferred hK, ?_⟩⟩
    have z0 := cell_kept k0 (grownBy_putObj' _ D (.deferred none)) (fun r e => by cases e; exact ⟨_, hK, rfl⟩)
    have hpr : prevIn L col = x.2 := by
     unfold prevIn
     rw [ht, he, findB_some (P := fun x => decide (x.2 < col)) (fun p hp => by simpa using ho p hp) (by simpa using hx)]
     rfl
    refine ⟨.int .i64 x.2, ?_, by rw [hpr], ?_⟩
    ·simp [results, Tryz.results182, go_sem, z0]
    ·exact (B2.trans hb).trans (belowK_b (w := w2) (by omega) W D _ _ (by omega) hK rfl rfl)
 exact fin tv rfl
theorem prev_nil (col : Int) (w : World) : Calls Tryz.prog 182 #[.pointer none, .int .i64 col] w fun e w' => e = .returned (.int .i64 0) ∧ Below w.heap.size w w' :=
 prev_gen (.pointer none) (.inl rfl) w [] (by decide) col (fun W _ => (list_nil W).mono fun e w' ⟨he, hw⟩ => ⟨_, he, ⟨none, 0, rfl, fun h => absurd h (by decide)⟩, by rw [hw]; exact Below.refl _ _⟩)
theorem prev_any (w : World) (p b : Nat) (cols : Int) (nn : Nat) (D : Set3) (h : TObj w p b cols nn D) (hmax : Maps.size D ≤ 100000) (hl : (keysOf D).length ≤ 100000) (col : Int) :
  Calls Tryz.prog 182 #[.pointer (some ⟨p, 0, none⟩), .int .i64 col] w fun e w' => e = .returned (.int .i64 (prevIn (keysOf D) col)) ∧ Below w.heap.size w w' :=
 prev_gen _ (.inr ⟨p, rfl⟩) w (keysOf D) hl col (fun W hW => (list_is W p b cols nn D (h.later hW) hmax).mono fun e w' ⟨v, he, ho, hb⟩ => ⟨v, he, ho.at, hb⟩)
end Go.Proofs.YtpjooboohelffaaGreatDoor.T05
/- tabs: Go. -/
namespace Go.Proofs.YtpjooboohelffaaGreatDoor.T05
open Go.RowKit Go.Maps Go.Sort Go.Shelf
set_option linter.unusedVariables false
set_option linter.unusedSimpArgs false
set_option maxRecDepth 100000
def iter (f : Int → Int) : Nat → Int → Int
 | 0, x => x
 | k + 1, x => f (iter f k x)
/-- What Go answers. -/
def goIn (nx pv : Int → Int) (c col n : Int) : Int := if n = 0 then max 0 (min col (c - 1)) else if 0 < n then iter nx (min n 255).toNat col else iter pv (min (-(max n (-255))) 255).toNat col
set_option maxHeartbeats 1000000 in
theorem go_none (w : World) (nx pv : Int → Int) (c col n : Int) (hc : 0 ≤ c ∧ c ≤ 255) (hn0 : -9223372036854775808 ≤ n) (hn1 : n ≤ 9223372036854775807)
  (HNx : ∀ W x, Below w.heap.size w W → Calls Tryz.prog 181 #[.pointer none, .int .i64 x] W fun e w' => e = .returned (.int .i64 (nx x)) ∧ Below W.heap.size W w')
  (HPv : ∀ W x, Below w.heap.size w W → Calls Tryz.prog 182 #[.pointer none, .int .i64 x] W fun e w' => e = .returned (.int .i64 (pv x)) ∧ Below W.heap.size W w')
  (HCo : ∀ W, Below w.heap.size w W → Calls Tryz.prog 180 #[.pointer none] W fun e w' => e = .returned (.int .i64 c) ∧ w' = W) :
  Calls Tryz.prog 140 #[.pointer none, .int .i64 col, .int .i64 n] w fun e w' => e = .returned (.int .i64 (goIn nx pv c col n)) ∧ Below w.heap.size w w' := by
 have HX := Lib.hid HNx
 have HP := Lib.hid HPv
 have HC := Lib.hid HCo
 clear HNx HPv HCo
 obtain ⟨hc0, hc1⟩ := hc
 by_cases h0 : n = 0
 ·subst h0
  have e : goIn nx pv c col 0 = max 0 (min col (c - 1)) := by unfold goIn; rw [if_pos rfl]
  rw [e]
  have hw : IntKind.i64.wrap (c - 1) = c - 1 := IntWalk.i64_in _ (by omega)
  go_enter Tryz.func140, Tryz.ntmps140
  go_wp2_with fail
  refine (HC.out _ (Below.refl _ _)).mono ?_
  rintro e w1 ⟨rfl, rfl⟩
  go_wp2_with fail
  go_ret
  exact ⟨rfl, Below.refl _ _⟩
 ·have q0 : decide (n = 0) = false := by simp [h0]
  have q0' : (n == 0) = false := by simp [h0]
  by_cases hp : 0 < n
  ·have e : goIn nx pv c col n = iter nx (min n 255).toNat col := by unfold goIn; rw [if_neg h0, if_pos hp]
   rw [e]
   obtain ⟨N, hN⟩ : ∃ N : Nat, min n 255 = (N : Int) := ⟨(min n 255).toNat, by omega⟩
   have hN2 : (min n 255).toNat = N := by omega
   rw [hN2]
   have hNb : N ≤ 255 := by omega
   have m1 : max n (-255) = n := by omega
   have m2 : IntKind.i64.wrap (-n) = -n := IntWalk.i64_in _ (by omega)
   have m3 : min (-n) 255 = -n := by omega
   have m4 : ¬ 0 < -n := by omega
   clear hN2 e
   go_enter Tryz.func140, Tryz.ntmps140
   go_wp2_with fail
   go_loopw [1, 17] (fun x i wr => ∃ k : Nat, k ≤ N ∧ i = .int .i64 (k : Int) ∧ x = .int .i64 (iter nx k col) ∧ Below w.heap.size w wr) (fun _ i _ => N - (intOf i).toNat)
   case atStart => exact ⟨0, Nat.zero_le _, rfl, rfl, Below.refl _ _⟩
   case round =>
    obtain ⟨k, hk, rfl, rfl, hb⟩ := hrel
    by_cases hlt : k < N
    ·have q1 : (k : Int) < (N : Int) := by omega
     have Hb := Lib.hid hb
     clear hb
     go_wp2_with fail
     refine (HX.out _ _ Hb.out).mono ?_
     rintro e w1 ⟨rfl, hb1⟩
     go_wp2_with fail
     go_roundw
     case rel => exact ⟨k + 1, by omega, by go_num, rfl, bel_call Hb.out hb1⟩
     case measure => simp [intOf]; omega
    ·have q1 : ¬ (k : Int) < (N : Int) := by omega
     obtain rfl : k = N := by omega
     have Hb := Lib.hid hb
     clear hb
     go_wp2_with fail
     go_loopw [1, 27] (fun x i wx => i = .int .i64 0 ∧ x = .int .i64 (iter nx k col) ∧ wx = wr) (fun _ i _ => 0)
     case atStart => exact ⟨rfl, rfl, rfl⟩
     case round =>
      obtain ⟨rfl, rfl, rfl⟩ := hrel
      go_wp2_with fail
      go_ret
      exact ⟨rfl, Hb.out⟩
  ·have e : goIn nx pv c col n = iter pv (min (-(max n (-255))) 255).toNat col := by unfold goIn; rw [if_neg h0, if_neg hp]
   rw [e]
   obtain ⟨m, hm⟩ : ∃ m, max n (-255) = m := ⟨_, rfl⟩
   have hm1 : -255 ≤ m := by omega
   have hm2 : m < 0 := by omega
   rw [hm]
   obtain ⟨N, hN⟩ : ∃ N : Nat, min (-m) 255 = (N : Int) := ⟨(min (-m) 255).toNat, by omega⟩
   have hN2 : (min (-m) 255).toNat = N := by omega
   rw [hN2]
   have hNb : N ≤ 255 := by omega
   have m0 : min n 255 = n := by omega
   have m2 : IntKind.i64.wrap (-m) = -m := IntWalk.i64_in _ (by omega)
   have m4 : ¬ 0 < n := hp
   clear hN2 e
   go_enter Tryz.func140, Tryz.ntmps140
   go_wp2_with fail
   go_loopw [1, 17] (fun x i wr => i = .int .i64 0 ∧ x = .int .i64 col ∧ wr = w) (fun _ i _ => 0)
   case atStart => exact ⟨rfl, rfl, rfl⟩
   case round =>
    obtain ⟨rfl, rfl, rfl⟩ := hrel
    go_wp2_with fail
    go_loopw [1, 27] (fun x i wx => ∃ k : Nat, k ≤ N ∧ i = .int .i64 (k : Int) ∧ x = .int .i64 (iter pv k col) ∧ Below wr.heap.size wr wx) (fun _ i _ => N - (intOf i).toNat)
    case atStart => exact ⟨0, Nat.zero_le _, rfl, rfl, Below.refl _ _⟩
    case round =>
     obtain ⟨k, hk, rfl, rfl, hb⟩ := hrel
     by_cases hlt : k < N
     ·have q1 : (k : Int) < (N : Int) := by omega
      have Hb := Lib.hid hb
      clear hb
      go_wp2_with fail
      refine (HP.out _ _ Hb.out).mono ?_
      rintro e w1 ⟨rfl, hb1⟩
      go_wp2_with fail
      go_roundw
      case rel => exact ⟨k + 1, by omega, by go_num, rfl, bel_call Hb.out hb1⟩
      case measure => simp [intOf]; omega
     ·have q1 : ¬ (k : Int) < (N : Int) := by omega
      obtain rfl : k = N := by omega
      have Hb := Lib.hid hb
      clear hb
      go_wp2_with fail
      go_ret
      exact ⟨rfl, Hb.out⟩
set_option maxHeartbeats 1000000 in
theorem go_some (p : Nat) (w : World) (nx pv : Int → Int) (c col n : Int) (hc : 0 ≤ c ∧ c ≤ 255) (hn0 : -9223372036854775808 ≤ n) (hn1 : n ≤ 9223372036854775807)
  (HNx : ∀ W x, Below w.heap.size w W → Calls Tryz.prog 181 #[.pointer (some ⟨p, 0, none⟩), .int .i64 x] W fun e w' => e = .returned (.int .i64 (nx x)) ∧ Below W.heap.size W w')
  (HPv : ∀ W x, Below w.heap.size w W → Calls Tryz.prog 182 #[.pointer (some ⟨p, 0, none⟩), .int .i64 x] W fun e w' => e = .returned (.int .i64 (pv x)) ∧ Below W.heap.size W w')
  (HCo : ∀ W, Below w.heap.size w W → Calls Tryz.prog 180 #[.pointer (some ⟨p, 0, none⟩)] W fun e w' => e = .returned (.int .i64 c) ∧ w' = W) :
  Calls Tryz.prog 140 #[.pointer (some ⟨p, 0, none⟩), .int .i64 col, .int .i64 n] w fun e w' => e = .returned (.int .i64 (goIn nx pv c col n)) ∧ Below w.heap.size w w' := by
 have HX := Lib.hid HNx
 have HP := Lib.hid HPv
 have HC := Lib.hid HCo
 clear HNx HPv HCo
 obtain ⟨hc0, hc1⟩ := hc
 by_cases h0 : n = 0
 ·subst h0
  have e : goIn nx pv c col 0 = max 0 (min col (c - 1)) := by unfold goIn; rw [if_pos rfl]
  rw [e]
  have hw : IntKind.i64.wrap (c - 1) = c - 1 := IntWalk.i64_in _ (by omega)
  go_enter Tryz.func140, Tryz.ntmps140
  go_wp2_with fail
  refine (HC.out _ (Below.refl _ _)).mono ?_
  rintro e w1 ⟨rfl, rfl⟩
  go_wp2_with fail
  go_ret
  exact ⟨rfl, Below.refl _ _⟩
 ·have q0 : decide (n = 0) = false := by simp [h0]
  have q0' : (n == 0) = false := by simp [h0]
  by_cases hp : 0 < n
  ·have e : goIn nx pv c col n = iter nx (min n 255).toNat col := by unfold goIn; rw [if_neg h0, if_pos hp]
   rw [e]
   obtain ⟨N, hN⟩ : ∃ N : Nat, min n 255 = (N : Int) := ⟨(min n 255).toNat, by omega⟩
   have hN2 : (min n 255).toNat = N := by omega
   rw [hN2]
   have hNb : N ≤ 255 := by omega
   have m1 : max n (-255) = n := by omega
   have m2 : IntKind.i64.wrap (-n) = -n := IntWalk.i64_in _ (by omega)
   have m3 : min (-n) 255 = -n := by omega
   have m4 : ¬ 0 < -n := by omega
   clear hN2 e
   go_enter Tryz.func140, Tryz.ntmps140
   go_wp2_with fail
   go_loopw [1, 17] (fun x i wr => ∃ k : Nat, k ≤ N ∧ i = .int .i64 (k : Int) ∧ x = .int .i64 (iter nx k col) ∧ Below w.heap.size w wr) (fun _ i _ => N - (intOf i).toNat)
   case atStart => exact ⟨0, Nat.zero_le _, rfl, rfl, Below.refl _ _⟩
   case round =>
    obtain ⟨k, hk, rfl, rfl, hb⟩ := hrel
    by_cases hlt : k < N
    ·have q1 : (k : Int) < (N : Int) := by omega
     have Hb := Lib.hid hb
     clear hb
     go_wp2_with fail
     refine (HX.out _ _ Hb.out).mono ?_
     rintro e w1 ⟨rfl, hb1⟩
     go_wp2_with fail
     go_roundw
     case rel => exact ⟨k + 1, by omega, by go_num, rfl, bel_call Hb.out hb1⟩
     case measure => simp [intOf]; omega
    ·have q1 : ¬ (k : Int) < (N : Int) := by omega
     obtain rfl : k = N := by omega
     have Hb := Lib.hid hb
     clear hb
     go_wp2_with fail
     go_loopw [1, 27] (fun x i wx => i = .int .i64 0 ∧ x = .int .i64 (iter nx k col) ∧ wx = wr) (fun _ i _ => 0)
     case atStart => exact ⟨rfl, rfl, rfl⟩
     case round =>
      obtain ⟨rfl, rfl, rfl⟩ := hrel
      go_wp2_with fail
      go_ret
      exact ⟨rfl, Hb.out⟩
  ·have e : goIn nx pv c col n = iter pv (min (-(max n (-255))) 255).toNat col := by unfold goIn; rw [if_neg h0, if_neg hp]
   rw [e]
   obtain ⟨m, hm⟩ : ∃ m, max n (-255) = m := ⟨_, rfl⟩
   have hm1 : -255 ≤ m := by omega
   have hm2 : m < 0 := by omega
   rw [hm]
   obtain ⟨N, hN⟩ : ∃ N : Nat, min (-m) 255 = (N : Int) := ⟨(min (-m) 255).toNat, by omega⟩
   have hN2 : (min (-m) 255).toNat = N := by omega
   rw [hN2]
   have hNb : N ≤ 255 := by omega
   have m0 : min n 255 = n := by omega
   have m2 : IntKind.i64.wrap (-m) = -m := IntWalk.i64_in _ (by omega)
   have m4 : ¬ 0 < n := hp
   clear hN2 e
   go_enter Tryz.func140, Tryz.ntmps140
   go_wp2_with fail
   go_loopw [1, 17] (fun x i wr => i = .int .i64 0 ∧ x = .int .i64 col ∧ wr = w) (fun _ i _ => 0)
   case atStart => exact ⟨rfl, rfl, rfl⟩
   case round =>
    obtain ⟨rfl, rfl, rfl⟩ := hrel
    go_wp2_with fail
    go_loopw [1, 27] (fun x i wx => ∃ k : Nat, k ≤ N ∧ i = .int .i64 (k : Int) ∧ x = .int .i64 (iter pv k col) ∧ Below wr.heap.size wr wx) (fun _ i _ => N - (intOf i).toNat)
    case atStart => exact ⟨0, Nat.zero_le _, rfl, rfl, Below.refl _ _⟩
    case round =>
     obtain ⟨k, hk, rfl, rfl, hb⟩ := hrel
     by_cases hlt : k < N
     ·have q1 : (k : Int) < (N : Int) := by omega
      have Hb := Lib.hid hb
      clear hb
      go_wp2_with fail
      refine (HP.out _ _ Hb.out).mono ?_
      rintro e w1 ⟨rfl, hb1⟩
      go_wp2_with fail
      go_roundw
      case rel => exact ⟨k + 1, by omega, by go_num, rfl, bel_call Hb.out hb1⟩
      case measure => simp [intOf]; omega
     ·have q1 : ¬ (k : Int) < (N : Int) := by omega
      obtain rfl : k = N := by omega
      have Hb := Lib.hid hb
      clear hb
      go_wp2_with fail
      go_ret
      exact ⟨rfl, Hb.out⟩
end Go.Proofs.YtpjooboohelffaaGreatDoor.T05
/- tabs: the columns that are stops. -/
namespace Go.Proofs.YtpjooboohelffaaGreatDoor.T05
open Go.RowKit Go.Maps Go.Sort Go.Shelf
set_option linter.unusedVariables false
set_option linter.unusedSimpArgs false
set_option maxRecDepth 100000
/-- The columns of which S holds, rising. -/
def rise (c : Nat) (S : Int → Bool) : List Int := ((List.range c).map (fun (i : Nat) => (i : Int))).filter S
theorem base_lt (c : Nat) : ((List.range c).map (fun (i : Nat) => (i : Int))).Pairwise (· < ·) := by
 rw [List.pairwise_map]
 exact List.pairwise_lt_range.imp (fun h => by omega)
theorem rise_lt (c : Nat) (S : Int → Bool) : (rise c S).Pairwise (· < ·) := (base_lt c).filter _
theorem mem_rise {c : Nat} {S : Int → Bool} {x : Int} : x ∈ rise c S ↔ (0 ≤ x ∧ x < (c : Int)) ∧ S x = true := by
 unfold rise
 rw [List.mem_filter, List.mem_map]
 constructor
 ·rintro ⟨⟨i, hi, rfl⟩, hs⟩
  rw [List.mem_range] at hi
  exact ⟨⟨by omega, by omega⟩, hs⟩
 ·rintro ⟨⟨h1, h2⟩, hs⟩
  exact ⟨⟨x.toNat, by rw [List.mem_range]; omega, by omega⟩, hs⟩
theorem rise_len (c : Nat) (S : Int → Bool) : (rise c S).length ≤ c := by
 unfold rise
 exact Nat.le_trans (List.length_filter_le _ _) (by simp)
theorem rise_cong (c : Nat) (S T : Int → Bool) (h : ∀ x, 0 ≤ x → x < (c : Int) → S x = T x) : rise c S = rise c T := by
 unfold rise
 refine List.filter_congr fun x hx => ?_
 rw [List.mem_map] at hx
 obtain ⟨i, hi, rfl⟩ := hx
 rw [List.mem_range] at hi
 exact h _ (by omega) (by omega)
theorem perm_rise {W : World} {b n : Nat} {D : Set3} (h : OwnS W b n D) {c : Nat} {S : Int → Bool} (hS : ∀ x, Maps.has D (.int .i64 x) = S x) (hb : ∀ x, S x = true → 0 ≤ x ∧ x < (c : Int)) : (rise c S).Perm (intKeys D) := by
 refine CollectedI.perm (left := fun _ => false) ⟨?_, fun x => ?_⟩ h (int_keyed Tryz.underlying3) Tryz.underlying3 (fun _ => rfl)
 ·exact (rise_lt c S).imp (fun h => by omega)
 ·rw [mem_rise, hS x]
  constructor
  ·rintro ⟨_, h⟩; exact ⟨h, rfl⟩
  ·rintro ⟨h, _⟩; exact ⟨hb x h, h⟩
theorem keysOf_rise {W : World} {b n : Nat} {D : Set3} (h : OwnS W b n D) {c : Nat} {S : Int → Bool} (hS : ∀ x, Maps.has D (.int .i64 x) = S x) (hb : ∀ x, S x = true → 0 ≤ x ∧ x < (c : Int)) : keysOf D = rise c S := by
 unfold keysOf
 rw [← sort_perm (perm_rise h hS hb)]
 exact List.mergeSort_of_pairwise ((rise_lt c S).imp (fun h => by simp [leB]; omega))
theorem size_rise {W : World} {b n : Nat} {D : Set3} (h : OwnS W b n D) {c : Nat} {S : Int → Bool} (hS : ∀ x, Maps.has D (.int .i64 x) = S x) (hb : ∀ x, S x = true → 0 ≤ x ∧ x < (c : Int)) : Maps.size D ≤ c := by
 have h1 := (perm_rise h hS hb).length_eq
 have h2 := rise_len c S
 obtain ⟨es, clock, _, F, _, rfl⟩ := h
 simp only [intKeys, List.length_map] at h1
 simp only [Maps.size]
 omega
theorem OwnS.renorm {W : World} {b n : Nat} {D : Set3} (h : OwnS W b n D) {m : Nat} (hm : Maps.size D ≤ m) : OwnS W b m D := by
 obtain ⟨es, clock, hb, F, hs, rfl⟩ := h
 refine ⟨es, clock, hb, F, ?_, rfl⟩
 have := length_read (H := Unit) (P := Tryz.prog) (k := 3) (R0 := unitElem) es
 simp only [Maps.size] at hm
 omega
/-- Tabs behind a pointer whose stops are the columns of S. -/
structure TS (W : World) (p b c : Nat) (S : Int → Bool) : Prop where
 lo : 1 ≤ c
 hi : c ≤ 255
 bd : ∀ x, S x = true → 0 ≤ x ∧ x < (c : Int)
 blk : W.heap[p]? = some (.cells #[.int .i64 c, .map (some b)] 142)
 ob : ∃ D, TObj W p b (c : Int) 300 D ∧ ∀ x, Maps.has D (.int .i64 x) = S x
theorem TS.lt {W : World} {p b c : Nat} {S : Int → Bool} (h : TS W p b c S) : p < W.heap.size := (Array.getElem?_eq_some_iff.1 h.blk).1
theorem ts_of {W : World} {p b c n : Nat} {S : Int → Bool} {D : Set3} (h : TObj W p b (c : Int) n D) (hS : ∀ x, Maps.has D (.int .i64 x) = S x) (hlo : 1 ≤ c) (hhi : c ≤ 255) (hbd : ∀ x, S x = true → 0 ≤ x ∧ x < (c : Int)) (hblk : W.heap[p]? = some (.cells #[.int .i64 c, .map (some b)] 142)) : TS W p b c S :=
 ⟨hlo, hhi, hbd, hblk, D, ⟨h.c0, h.c1, h.m.renorm (Nat.le_trans (size_rise h.m hS hbd) (by omega))⟩, hS⟩
theorem TS.later {W W' : World} {p b c : Nat} {S : Int → Bool} (h : TS W p b c S) (hb : Below W.heap.size W W') : TS W' p b c S :=
 ⟨h.lo, h.hi, h.bd, (hb.block p h.lt).trans h.blk, by obtain ⟨D, hT, hS⟩ := h.ob; exact ⟨D, hT.later hb, hS⟩⟩
theorem TObj.apart {W : World} {p b n : Nat} {c : Int} {D : Set3} (h : TObj W p b c n D) : p ≠ b := by
 rintro rfl
 obtain ⟨es, clock, hb, _⟩ := h.m
 have := h.c0
 simp [World.cell?, hb] at this
/-- Another block than these two is written. -/
theorem TObj.kept {W W' : World} {p b n g : Nat} {c : Int} {D : Set3} (h : TObj W p b c n D) (hg : W.grownBy W' (some g)) (h1 : p ≠ g) (h2 : b ≠ g) : TObj W' p b c n D :=
 ⟨grown_cell hg h1 h.c0, grown_cell hg h1 h.c1, OwnS.kept h.m (hg.block b (World.ownsMap.lt h.m) (fun e => h2 (by cases e; rfl)))⟩
theorem TS.kept {W W' : World} {p b c g : Nat} {S : Int → Bool} (h : TS W p b c S) (hg : W.grownBy W' (some g)) (h1 : p ≠ g) (h2 : b ≠ g) : TS W' p b c S :=
 ⟨h.lo, h.hi, h.bd, (hg.block p h.lt (fun e => h1 (by cases e; rfl))).trans h.blk, by obtain ⟨D, hT, hS⟩ := h.ob; exact ⟨D, hT.kept hg h1 h2, hS⟩⟩
theorem IntsAt.kept {W W' : World} {v : Value} {L : List Int} {b n : Nat} {D : Set3} (h : IntsAt W v L) (hm : OwnS W b n D) (hg : W.grownBy W' (some b)) : IntsAt W' v L := by
 obtain ⟨ad, cap, hv, hc⟩ := h
 refine ⟨ad, cap, hv, fun h0 => ?_⟩
 obtain ⟨g, off, ha, hgl, hcc⟩ := hc h0
 have hne : g ≠ b := by
  rintro rfl
  obtain ⟨es, clock, hb, _⟩ := hm
  have := hcc 0 h0
  simp [World.cell?, hb] at this
 exact ⟨g, off, ha, Nat.lt_of_lt_of_le hgl hg.size, fun i hi => grown_cell hg hne (hcc i hi)⟩
theorem grown_of_below {W W' : World} {b : Option Nat} (h : Below W.heap.size W W') : W.grownBy W' b := ⟨h.os, h.tape, h.output, h.size, fun k hk _ => h.block k hk⟩
theorem below_of_grown {W W' : World} {b B : Nat} (h : W.grownBy W' (some b)) (hB : B ≤ W.heap.size) (hb : B ≤ b) : Below B W W' :=
 ⟨h.os, h.tape, h.output, h.size, fun k hk => h.block k (by omega) (fun e => by cases e; omega)⟩
/-- The methods that only read, in these words. -/
theorem list_ts (w : World) (p b c : Nat) (S : Int → Bool) (h : TS w p b c S) : Calls Tryz.prog 54 #[.pointer (some ⟨p, 0, none⟩)] w fun e w' => ∃ v, e = .returned v ∧ OwnI w' w.heap.size v (rise c S) ∧ Below w.heap.size w w' := by
 obtain ⟨D, hT, hS⟩ := h.ob
 have hk := keysOf_rise hT.m hS h.bd
 have := size_rise hT.m hS h.bd
 have h255 := h.hi
 rw [← hk]
 exact list_is w p b _ _ D hT (by omega)
theorem next_ts (w : World) (p b c : Nat) (S : Int → Bool) (h : TS w p b c S) (col : Int) : Calls Tryz.prog 181 #[.pointer (some ⟨p, 0, none⟩), .int .i64 col] w fun e w' => e = .returned (.int .i64 (nextIn (rise c S) c col)) ∧ Below w.heap.size w w' := by
 obtain ⟨D, hT, hS⟩ := h.ob
 have hk := keysOf_rise hT.m hS h.bd
 have := size_rise hT.m hS h.bd
 have h255 := h.hi
 have hlo := h.lo
 have := rise_len c S
 rw [← hk] at this ⊢
 exact next_any w p b _ _ D hT (by omega) (by omega) (by omega) col (by omega)
theorem prev_ts (w : World) (p b c : Nat) (S : Int → Bool) (h : TS w p b c S) (col : Int) : Calls Tryz.prog 182 #[.pointer (some ⟨p, 0, none⟩), .int .i64 col] w fun e w' => e = .returned (.int .i64 (prevIn (rise c S) col)) ∧ Below w.heap.size w w' := by
 obtain ⟨D, hT, hS⟩ := h.ob
 have hk := keysOf_rise hT.m hS h.bd
 have := size_rise hT.m hS h.bd
 have h255 := h.hi
 have hlo := h.lo
 have := rise_len c S
 rw [← hk] at this ⊢
 exact prev_any w p b _ _ D hT (by omega) (by omega) col
theorem cols_ts (w : World) (p b c : Nat) (S : Int → Bool) (h : TS w p b c S) : Calls Tryz.prog 180 #[.pointer (some ⟨p, 0, none⟩)] w fun e w' => e = .returned (.int .i64 c) ∧ w' = w := by
 obtain ⟨D, hT, hS⟩ := h.ob
 exact cols_any w p b _ _ D hT
end Go.Proofs.YtpjooboohelffaaGreatDoor.T05
/- tabs: the library's functions: ContainsFunc, maps.Clone, maps.DeleteFunc; Put. -/
namespace Go.Proofs.YtpjooboohelffaaGreatDoor.T05
open Go.RowKit Go.Maps Go.Sort Go.Shelf
set_option linter.unusedVariables false
set_option linter.unusedSimpArgs false
set_option maxRecDepth 100000
def Tryz.containsA_ren : Go.Shelf.Ren := ⟨fun | 8 => 206 | 6 => 236 | n => n, fun | 22 => 39 | 23 => 3 | 25 => 192 | 4 => 4 | 3 => 3 | 0 => 0 | n => n, fun | n => n⟩
theorem Tryz.containsA : Go.Proofs.SlLaysH.n8 Tryz.prog Tryz.containsA_ren := {
 mixed := by kernel_rfl
 f6 := ⟨Tryz.f236.name, by decide, Tryz.func236.trans (congrArg some (by kernel_rfl))⟩
 f8 := ⟨Tryz.f206.name, by decide, Tryz.func206.trans (congrArg some (by kernel_rfl))⟩
 t0 := Tryz.underlying0
 a0 := Tryz.isAgg0
 z0 := Tryz.sizeOf0
 v0 := Tryz.zeroValue0
 t3 := Tryz.underlying3
 a3 := Tryz.isAgg3
 z3 := Tryz.sizeOf3
 v3 := Tryz.zeroValue3
 t4 := Tryz.underlying4
 a4 := Tryz.isAgg4
 z4 := Tryz.sizeOf4
 v4 := Tryz.zeroValue4
 t22 := Tryz.underlying39
 a22 := Tryz.isAgg39
 z22 := Tryz.sizeOf39
 v22 := Tryz.zeroValue39
 a23 := Tryz.isAgg3
 z23 := Tryz.sizeOf3
 t25 := Tryz.underlying192
 a25 := Tryz.isAgg192
 z25 := Tryz.sizeOf192
 v25 := Tryz.zeroValue192 }
theorem bad_any (w : World) (p b Bx : Nat) (c : Nat) (S : Int → Bool) (h : TS w p b c S) (hx : w.cell? ⟨Bx, 0, none⟩ = some (.pointer (some ⟨p, 0, none⟩))) (x : Int) :
  Calls Tryz.prog 207 #[.int .i64 x, .pointer (some ⟨Bx, 0, none⟩)] w fun e w' => e = .returned (.bool (decide (x < 0 ∨ (c : Int) ≤ x))) ∧ ∃ q, w' = w.drewN q := by
 obtain ⟨D, hT, _⟩ := h.ob
 have k0 := hT.c0
 clear h hT
 by_cases h1 : x < 0
 ·rw [show decide (x < 0 ∨ (c : Int) ≤ x) = true by simp [h1]]
  go_enter Tryz.func207, Tryz.ntmps207
  go_wp2_with fail
  go_ret
  exact ⟨rfl, 0, rfl⟩
 ·by_cases h2 : (c : Int) ≤ x
  ·rw [show decide (x < 0 ∨ (c : Int) ≤ x) = true by simp [h2]]
   go_enter Tryz.func207, Tryz.ntmps207
   go_wp2_with fail
   go_ret
   exact ⟨rfl, 0, rfl⟩
  ·rw [show decide (x < 0 ∨ (c : Int) ≤ x) = false by simp [h1, h2] <;> omega]
   have h3 : ¬ x < 0 := h1
   have h4 : ¬ (c : Int) ≤ x := h2
   go_enter Tryz.func207, Tryz.ntmps207
   go_wp2_with fail
   go_ret
   exact ⟨rfl, 0, rfl⟩
/-- Whether one of the columns is not there. -/
def anyBad (c : Nat) (L : List Int) : Bool := L.any fun x => decide (x < 0 ∨ (c : Int) ≤ x)
theorem contains_any (w : World) (p b Bx : Nat) (c : Nat) (S : Int → Bool) (h : TS w p b c S) (hx : w.cell? ⟨Bx, 0, none⟩ = some (.pointer (some ⟨p, 0, none⟩))) (v : Value) (L : List Int) (hL : IntsAt w v L) (hl : L.length ≤ 100000) :
  Calls Tryz.prog 206 #[v, .func (.func 207) #[] #[.pointer (some ⟨Bx, 0, none⟩)]] w fun e w' => e = .returned (.bool (anyBad c L)) ∧ ∃ q, w' = w.drewN q := by
 obtain ⟨ad, cap, rfl, hc⟩ := hL
 by_cases h0 : 0 < L.length
 ·obtain ⟨g, off, rfl, hg, hcc⟩ := hc h0
  have hcon := AnyE.slices_ContainsFunc Tryz.containsA (Value.int .i64) (fun x => decide (x < 0 ∨ (c : Int) ≤ x)) 207 #[.pointer (some ⟨Bx, 0, none⟩)] (enters_of Tryz.func207 (by kernel_rfl) rfl) g off L.length cap L w
   (fun W x hb => bad_any W p b Bx c S (h.later hb) (cellB hb hx) x) (Nat.le_refl _) (by omega) (fun j hj => by rw [hcc j hj, getElem!_pos L j hj])
  rw [List.take_length] at hcon
  exact hcon
 ·have : L = [] := List.eq_nil_of_length_eq_zero (by omega)
  subst this
  refine (AnyE.slices_ContainsFunc_empty Tryz.containsA ad cap _ w).mono ?_
  rintro e w' ⟨rfl, rfl⟩
  exact ⟨rfl, 0, rfl⟩
theorem anyBad_none {c : Nat} {L : List Int} (h : anyBad c L = false) : ∀ x ∈ L, 0 ≤ x ∧ x < (c : Int) := by
 intro x hx
 have := List.any_eq_false.1 h x hx
 simp at this
 omega
theorem mem_take_step (L : List Int) (k : Nat) (h : k < L.length) (x : Int) : x ∈ L.take (k + 1) ↔ x ∈ L.take k ∨ x = L[k] := by
 rw [List.take_succ_eq_append_getElem h, List.mem_append, List.mem_singleton]
/-- S behind a Put. -/
def putS (on : Bool) (L : List Int) (S : Int → Bool) : Int → Bool := fun x => if x ∈ L then on else S x
/-- The map in the midst of a Put. -/
def MS (W : World) (b c : Nat) (S : Int → Bool) : Prop := ∃ D, OwnS W b 300 D ∧ ∀ x, Maps.has D (.int .i64 x) = S x
theorem ms_of {W : World} {b c n : Nat} {S : Int → Bool} {D : Set3} (h : OwnS W b n D) (hS : ∀ x, Maps.has D (.int .i64 x) = S x) (hhi : c ≤ 255) (hbd : ∀ x, S x = true → 0 ≤ x ∧ x < (c : Int)) : MS W b c S :=
 ⟨D, h.renorm (Nat.le_trans (size_rise h hS hbd) (by omega)), hS⟩
theorem ms_put {W W' : World} {b c : Nat} {S : Int → Bool} {D : Set3} {L : List Int} {k : Nat} (hD : Maps.IsMap D) (hS : ∀ x, Maps.has D (.int .i64 x) = putS true (L.take k) S x) (hk : k < L.length) (hhi : c ≤ 255) (hbd : ∀ x, S x = true → 0 ≤ x ∧ x < (c : Int)) (hL : ∀ x ∈ L, 0 ≤ x ∧ x < (c : Int))
  (hown : OwnS W' b 301 (D.put (.int .i64 L[k]) (.agg []))) : MS W' b c (putS true (L.take (k + 1)) S) := by
 refine ms_of hown (fun x => ?_) hhi (fun x hx => ?_)
 ·unfold putS
  by_cases e : x = L[k]
  ·subst e
   rw [Maps.has_put_same hD (show WideAt.IsKeyLit (.int .i64 L[k]) from trivial), if_pos ((mem_take_step L k hk _).2 (.inr rfl))]
  ·rw [Maps.has_put_other (fun h => e (by simpa using h)), hS]
   unfold putS
   by_cases h2 : x ∈ L.take k
   ·rw [if_pos h2, if_pos ((mem_take_step L k hk _).2 (.inl h2))]
   ·rw [if_neg h2, if_neg (fun h => by rcases (mem_take_step L k hk _).1 h with h | h; exact h2 h; exact e h)]
 ·unfold putS at hx
  split at hx
  ·rename_i h; exact hL x (List.mem_of_mem_take h)
  ·exact hbd x hx
theorem ms_del {W W' : World} {b c : Nat} {S : Int → Bool} {D : Set3} {L : List Int} {k : Nat} (hS : ∀ x, Maps.has D (.int .i64 x) = putS false (L.take k) S x) (hk : k < L.length) (hhi : c ≤ 255) (hbd : ∀ x, S x = true → 0 ≤ x ∧ x < (c : Int))
  (hown : OwnS W' b 300 (D.del (.int .i64 L[k]))) : MS W' b c (putS false (L.take (k + 1)) S) := by
 refine ms_of hown (fun x => ?_) hhi (fun x hx => ?_)
 ·unfold putS
  by_cases e : x = L[k]
  ·subst e
   rw [Maps.has_del_same, if_pos ((mem_take_step L k hk _).2 (.inr rfl))]
  ·rw [Maps.has_del_other (fun h => e (by simpa using h)), hS]
   unfold putS
   by_cases h2 : x ∈ L.take k
   ·rw [if_pos h2, if_pos ((mem_take_step L k hk _).2 (.inl h2))]
   ·rw [if_neg h2, if_neg (fun h => by rcases (mem_take_step L k hk _).1 h with h | h; exact h2 h; exact e h)]
 ·unfold putS at hx
  split at hx
  ·cases hx
  ·exact hbd x hx
end Go.Proofs.YtpjooboohelffaaGreatDoor.T05
/- tabs: Put. -/
namespace Go.Proofs.YtpjooboohelffaaGreatDoor.T05
open Go.RowKit Go.Maps Go.Sort Go.Shelf Go.ChangeMaps Go.WideMaps Go.WideElems
set_option linter.unusedVariables false
set_option linter.unusedSimpArgs false
set_option maxRecDepth 100000
theorem grown_cellG {W W3 : World} {b : Option Nat} {q o : Nat} {v : Value} (hg : W.grownBy W3 b) (hq : b ≠ some q) (h : W.cell? ⟨q, o, none⟩ = some v) : W3.cell? ⟨q, o, none⟩ = some v :=
 (World.cell?_of_block (hg.block q (World.block_lt_of_cell? W ⟨q, o, none⟩ h) (fun e => hq e.symm))).trans h
def putR (on : Bool) (c : Nat) (L : List Int) (S : Int → Bool) : Int → Bool := if anyBad c L then S else putS on L S
def putE (c : Nat) (L : List Int) : Int := if anyBad c L then 11 else 0
theorem putS_bd {c : Nat} {S : Int → Bool} {L : List Int} {on : Bool} (hb : anyBad c L = false) (hbd : ∀ x, S x = true → 0 ≤ x ∧ x < (c : Int)) : ∀ x, putS on L S x = true → 0 ≤ x ∧ x < (c : Int) := by
 intro x hx
 unfold putS at hx
 split at hx
 ·rename_i h; exact anyBad_none hb x h
 ·exact hbd x hx
theorem putS_nil (on : Bool) (L : List Int) (S : Int → Bool) : putS on (L.take 0) S = S := by funext x; simp [putS]
set_option maxHeartbeats 1000000 in
theorem put_any (w : World) (p b : Nat) (c : Nat) (S : Int → Bool) (h : TS w p b c S) (on : Bool) (v : Value) (L : List Int) (hL : IntsAt w v L) (hl : L.length ≤ 100000) :
  Calls Tryz.prog 167 #[.pointer (some ⟨p, 0, none⟩), .bool on, v] w fun e w' => e = .returned (.int .i64 (putE c L)) ∧ TS w' p b c (putR on c L S) ∧ w.grownBy w' (some b) := by
 have hne : p ≠ b := by obtain ⟨D, hT, _⟩ := h.ob; exact hT.apart
 have hplt : p < w.heap.size := by obtain ⟨D, hT, _⟩ := h.ob; exact hT.lt
 have hblt : b < w.heap.size := by obtain ⟨D, hT, _⟩ := h.ob; exact World.ownsMap.lt hT.m
 have hB1 : Below w.heap.size w (w.alloc (.cells #[.pointer (some ⟨p, 0, none⟩)] 80)) := bel_alloc (Below.refl _ w) _
 have hC := contains_any (w.alloc (.cells #[.pointer (some ⟨p, 0, none⟩)] 80)) p b w.heap.size c S (h.later hB1) (by simp [go_sem]) v L (hL.later hB1) hl
 obtain ⟨ad, cap, rfl, hcc⟩ := hL
 cases hbad : anyBad c L with
 | true =>
  rw [hbad] at hC
  have HC := Lib.hid hC
  have Hend := Lib.hid (fun q => (show TS ((w.alloc (.cells #[.pointer (some ⟨p, 0, none⟩)] 80)).drewN q) p b c (putR on c L S) ∧ w.grownBy ((w.alloc (.cells #[.pointer (some ⟨p, 0, none⟩)] 80)).drewN q) (some b) from by
   have : Below w.heap.size w ((w.alloc (.cells #[.pointer (some ⟨p, 0, none⟩)] 80)).drewN q) := bel_drewN hB1 q
   unfold putR
   rw [hbad]
   exact ⟨h.later this, grown_of_below this⟩))
  have He : putE c L = 11 := by unfold putE; rw [hbad]; rfl
  rw [He]
  clear hC h hcc hbad He hne hplt hblt hB1
  go_enter Tryz.func167, Tryz.ntmps167
  go_wp2_with fail
  refine HC.out.mono ?_
  rintro e w1 ⟨rfl, q, rfl⟩
  go_wp2_with fail
  go_ret
  exact ⟨rfl, Hend.out q⟩
 | false =>
  rw [hbad] at hC
  have He : putE c L = 0 := by unfold putE; rw [hbad]; rfl
  have Hr : putR on c L S = putS on L S := by unfold putR; rw [hbad]; rfl
  rw [He, Hr]
  obtain ⟨n, hn⟩ : ∃ n, L.length = n := ⟨_, rfl⟩
  have HN := Lib.hid hn
  have HC := Lib.hid hC
  have hcc1 : ∀ W, w.grownBy W (some b) → 0 < L.length → ∃ g off, ad = some ⟨g, off, none⟩ ∧ ∀ i (hi : i < L.length), W.cell? ⟨g, off + i, none⟩ = some (.int .i64 L[i]) := by
   intro W hg h0
   have hI : IntsAt w (.slice ad L.length cap) L := ⟨ad, cap, rfl, hcc⟩
   obtain ⟨D, hT, _⟩ := h.ob
   obtain ⟨ad', cap', hv, hc'⟩ := hI.kept hT.m hg
   obtain ⟨g, off, e, _, hx⟩ := hc' h0
   simp at hv
   exact ⟨g, off, hv.1.trans e, hx⟩
  have HCc := Lib.hid hcc1
  have hlit := anyBad_none hbad
  have HL := Lib.hid hlit
  have HT := Lib.hid h
  have HM0 : ∀ W, Below w.heap.size w W → MS W b c (putS on (L.take 0) S) := by
   intro W hW
   rw [putS_nil]
   obtain ⟨D, hT, hS⟩ := (h.later hW).ob
   exact ⟨D, hT.m, hS⟩
  have HM := Lib.hid HM0
  have HK := Lib.hid (fun W (hg : w.grownBy W (some b)) => (show W.cell? ⟨p, 1, none⟩ = some (.map (some b)) from by
   obtain ⟨D, hT, hS⟩ := h.ob
   exact grown_cell hg hne hT.c1))
  have HBx := Lib.hid (fun W (hg : (w.alloc (.cells #[.pointer (some ⟨p, 0, none⟩)] 80)).grownBy W (some b)) => (show W.cell? ⟨w.heap.size, 0, none⟩ = some (.pointer (some ⟨p, 0, none⟩)) from
   grown_cell hg (by omega) (by simp [go_sem])))
  have HG := Lib.hid (fun W (hg : (w.alloc (.cells #[.pointer (some ⟨p, 0, none⟩)] 80)).grownBy W (some b)) => (show w.grownBy W (some b) from (grown_of_below hB1).trans hg))
  have HEnd := Lib.hid (fun W (hg : w.grownBy W (some b)) (hm : MS W b c (putS on L S)) => (show TS W p b c (putS on L S) from by
   obtain ⟨D, hT, hS⟩ := h.ob
   obtain ⟨D', hm', hS'⟩ := hm
   exact ⟨h.lo, h.hi, putS_bd hbad h.bd, (hg.block p h.lt (fun e => hne (by cases e; rfl))).trans h.blk, D', ⟨grown_cell hg hne hT.c0, grown_cell hg hne hT.c1, hm'⟩, hS'⟩))
  have HB1 := Lib.hid hB1
  have Hhi := Lib.hid h.hi
  have Hbd := Lib.hid h.bd
  rw [hn] at hl ⊢ HC
  clear hC h hcc hcc1 hbad He Hr hne hplt hblt hB1 hn hlit HM0
  go_enter Tryz.func167, Tryz.ntmps167
  go_wp2_with fail
  refine HC.out.mono ?_
  rintro e w1 ⟨rfl, q, rfl⟩
  have hg0 : (w.alloc (.cells #[.pointer (some ⟨p, 0, none⟩)] 80)).grownBy ((w.alloc (.cells #[.pointer (some ⟨p, 0, none⟩)] 80)).drewN q) (some b) := grown_of_below (bel_drewN (Below.refl _ _) q)
  have Hg0 := Lib.hid hg0
  have HM1 := Lib.hid (HM.out ((w.alloc (.cells #[.pointer (some ⟨p, 0, none⟩)] 80)).drewN q) (bel_drewN HB1.out q))
  clear hg0
  obtain ⟨w2, hw2⟩ : ∃ w2, (w.alloc (.cells #[.pointer (some ⟨p, 0, none⟩)] 80)).drewN q = w2 := ⟨_, rfl⟩
  rw [hw2] at Hg0 HM1 ⊢
  clear hw2
  go_wp2_with fail
  go_loopw [18] (fun i wr => ∃ k : Nat, k ≤ n ∧ i = .int .i64 (k : Int) ∧ MS wr b c (putS on (L.take k) S) ∧ (w.alloc (.cells #[.pointer (some ⟨p, 0, none⟩)] 80)).grownBy wr (some b)) (fun i _ => n - (intOf i).toNat)
  case atStart => exact ⟨0, Nat.zero_le _, rfl, HM1.out, Hg0.out⟩
  case round =>
   obtain ⟨k, hk, rfl, hM, hg⟩ := hrel
   have Hg := Lib.hid hg
   have HMk := Lib.hid hM
   clear hg hM
   by_cases hlt : k < n
   ·have q1 : (k : Int) < (n : Int) := by omega
    have hkL : k < L.length := by rw [HN.out]; omega
    obtain ⟨g, off, rfl, hx⟩ := HCc.out wr (HG.out wr Hg.out) (by omega)
    have d1 := hx k hkL
    have d2 := HBx.out wr Hg.out
    have d3 := HK.out wr (HG.out wr Hg.out)
    obtain ⟨D, hown, hS⟩ := HMk.out
    have HS := Lib.hid hS
    have hwx := HL.out L[k] (List.getElem_mem hkL)
    have hkey : keyOf Tryz.prog 3 (.int .i64 L[k]) = some (.int .i64 L[k]) := keyOf_int_mk Tryz.underlying3 (WalkArith.wf_i64 (by have := Hhi.out; omega))
    have Hkey := Lib.hid hkey
    have Hown := Lib.hid hown
    have HkL := Lib.hid hkL
    have HD := Lib.hid (World.ownsMap.isMap hown)
    clear hx hS hkey hown hwx
    cases on with
    | true =>
     obtain ⟨x, hxx⟩ : ∃ x, L[k]'hkL = x := ⟨_, rfl⟩
     rw [hxx] at d1 Hkey
     have HNext := Lib.hid (fun (W : World) (ho : OwnS W b 301 (D.put (.int .i64 x) (.agg []))) => ms_put (W := wr) (W' := W) HD.out HS.out hkL Hhi.out Hbd.out HL.out (by rw [hxx]; exact ho))
     clear hxx hkL
     go_wp2_with (at_mapUpdate; refine wpList_mapUpdate_own _ rfl _ _ _ 140 rfl 3 161 (int_keyed Tryz.underlying3) Tryz.underlying140 _ b 300 _ rfl Hown.out (by decide) _ _ _ rfl rfl Hkey.out _ [] unitElem_mk ?_; intro w3 hown3 hg3)
     go_roundw
     case rel => exact ⟨k + 1, by omega, by go_num, HNext.out _ hown3, Hg.out.trans hg3⟩
     case measure => simp [intOf]; omega
    | false =>
     obtain ⟨x, hxx⟩ : ∃ x, L[k]'hkL = x := ⟨_, rfl⟩
     rw [hxx] at d1 Hkey
     have HNext := Lib.hid (fun (W : World) (ho : OwnS W b 300 (D.del (.int .i64 x))) => ms_del (W := wr) (W' := W) HS.out hkL Hhi.out Hbd.out (by rw [hxx]; exact ho))
     clear hxx hkL
     go_wp2_with (at_delete; refine wpList_delete_own _ rfl _ _ 140 3 rfl 161 (int_keyed Tryz.underlying3) Tryz.underlying140 _ b 300 _ rfl Hown.out _ _ rfl Hkey.out ?_; intro w3 hown3 hg3)
     go_roundw
     case rel => exact ⟨k + 1, by omega, by go_num, HNext.out _ hown3, Hg.out.trans hg3.grown⟩
     case measure => simp [intOf]; omega
   ·have q1 : ¬ (k : Int) < (n : Int) := by omega
    have hkn : k = n := by omega
    subst hkn
    have HE := Lib.hid (HEnd.out wr (HG.out wr Hg.out) (by have := HMk.out; rwa [List.take_of_length_le (by rw [HN.out]; exact Nat.le_refl _)] at this))
    go_wp2_with fail
    go_ret
    exact ⟨rfl, HE.out, HG.out wr Hg.out⟩
end Go.Proofs.YtpjooboohelffaaGreatDoor.T05
