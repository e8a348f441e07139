/- tabs: Prev. -/
import Derived.Test.YtpjodppcedkneaaT5
namespace Go.Proofs.Ytpjodppcedkneaa
open Go.RowKit Go.Maps Go.Sort Go.Shelf
set_option linter.unusedVariables false
set_option linter.unusedSimpArgs false
set_option maxRecDepth 100000
attribute [local go_sem] Oper.semAt_some
theorem back_any (v : Value) (w : World) (L : List Int) (h : IntsAt w v L) : Calls Try.prog 34 #[v] w fun e w' => e = .returned (.func (.func 43) #[] #[.pointer (some ⟨w.heap.size, 0, none⟩)]) ∧ w' = w.alloc (.cells #[v] 22) := by
  obtain ⟨ad, cap, rfl, _⟩ := h
  go_enter Try.func34, Try.ntmps34
  go_wp2_with fail
  go_ret
  exact ⟨rfl, rfl⟩
/-- What Prev answers. -/
def prevIn (L : List Int) (col : Int) : Int := (((backs L L.length).find? (fun x => decide (x.2 < col))).map (fun x => x.2)).getD 0
theorem findB_none {P : Int × Int → Bool} {l : List (Int × Int)} (h : ∀ p ∈ l, P p = false) : l.find? P = none := by
  rw [List.find?_eq_none]; intro p hp; simp [h p hp]
theorem findB_some {P : Int × Int → Bool} {l t : List (Int × Int)} {x : Int × Int} (h : ∀ p ∈ l, P p = false) (hx : P x = true) : (l ++ [x] ++ t).find? P = some x := by
  rw [List.append_assoc, List.find?_append, findB_none h]
  simp [hx]
set_option maxHeartbeats 2000000 in
theorem prev_gen (tv : Value) (htv : tv = .pointer none ∨ ∃ p, tv = .pointer (some ⟨p, 0, none⟩)) (w : World) (L : List Int) (hl : L.length ≤ 100000) (col : Int)
    (HLi : ∀ W, Below w.heap.size w W → Calls Try.prog 11 #[tv] W fun e w' => ∃ v, e = .returned v ∧ IntsAt w' v L ∧ Below W.heap.size W w') :
    Calls Try.prog 20 #[tv, .int .i64 col] w fun e w' => e = .returned (.int .i64 (prevIn L col)) ∧ Below w.heap.size w w' := by
  have fin : ∀ tv', tv' = tv → Calls Try.prog 20 #[tv', .int .i64 col] w fun e w' => e = .returned (.int .i64 (prevIn L col)) ∧ Below w.heap.size w w' := by
    rintro tv' rfl
    refine (callsIn_wide (n := 3)).1 (callsIn_of_wp_marks Try.func20 rfl trivial ?_ rfl)
    simp only [Try.ntmps20, List.size_toArray, List.length_cons, List.length_nil, Nat.reduceAdd, Nat.reduceSub, Array.replicate_succ, Array.replicate_zero, List.push_toArray, List.append_toArray, List.nil_append, List.cons_append]
    have HL := Lib.hid HLi
    clear HLi
    have hB0 : Below w.heap.size w ((w.alloc (.cells #[.int .i64 col] 3)).alloc (.cells #[.int .i64 0] 3)) := bel_alloc (bel_alloc (Below.refl _ _) _) _
    rcases htv with rfl | ⟨p, rfl⟩
    · gi_wp2_with (first
        | (refine ⟨trivial, ?_⟩; gi_at_call 11; refine (callsIn_wide.2 (HL.out _ hB0)).mono ?_; rintro e w1 ⟨v, rfl, hat, hb1⟩; obtain ⟨adv, capv, rfl, hcv⟩ := id hat; have Hat := Lib.hid hat; have Hb1 := Lib.hid hb1; clear hat hb1 hcv)
        | (refine ⟨trivial, ?_⟩; gi_at_call 34; refine (callsIn_wide.2 (back_any _ _ L Hat.out)).mono ?_; rintro e w2 ⟨rfl, rfl⟩))
      have hz1 : w.heap.size + 2 ≤ w1.heap.size := by have := Hb1.out.size; simp at this; omega
      have B1 := bel_call hB0 Hb1.out
      have y3 := cellB Hb1.out (show ((w.alloc (.cells #[.int .i64 col] 3)).alloc (.cells #[.int .i64 0] 3)).cell? ⟨w.heap.size, 0, none⟩ = some (.int .i64 col) by simp [go_sem])
      have y4 := cellB Hb1.out (show ((w.alloc (.cells #[.int .i64 col] 3)).alloc (.cells #[.int .i64 0] 3)).cell? ⟨w.heap.size + 1, 0, none⟩ = some (.int .i64 0) by simp [go_sem])
      have yf := (Hb1.out.frozen (p := ⟨w.heap.size + 1, 0, none⟩) (by simp)).trans (show ((w.alloc (.cells #[.int .i64 col] 3)).alloc (.cells #[.int .i64 0] 3)).frozen? ⟨w.heap.size + 1, 0, none⟩ = false by simp [go_sem])
      obtain ⟨w2, hw2⟩ : ∃ w2, w1.alloc (.cells #[.slice adv L.length capv] 22) = w2 := ⟨_, rfl⟩
      have B12 : Below w1.heap.size w1 w2 := by rw [← hw2]; exact bel_alloc (Below.refl _ _) _
      have B2 := bel_call B1 B12
      have hz2 : w2.heap.size = w1.heap.size + 1 := by rw [← hw2]; simp
      have C3 := Lib.hid (cellB B12 y3)
      have C4 := Lib.hid (cellB B12 y4)
      have CF := Lib.hid ((B12.frozen (p := ⟨w.heap.size + 1, 0, none⟩) (by simp; omega)).trans yf)
      have CX := Lib.hid (show w2.cell? ⟨w1.heap.size, 0, none⟩ = some (.slice adv L.length capv) by rw [← hw2]; simp [go_sem])
      have HA2 := Lib.hid (Hat.out.later B12)
      rw [hw2]
      clear hw2 y3 y4 yf
      have hN : w2.heap.size ≤ w2.heap.size := Nat.le_refl _
      have hNw : w.heap.size ≤ w2.heap.size := by omega
      refine range_law (n := 2) (m := 1) (gf := 43) (lb := #[.pointer (some ⟨w1.heap.size, 0, none⟩)]) rfl (enters_of Try.func43 (by kernel_rfl) rfl) (encs := encB) (fun _ => rfl)
        (S := fun ys => ys = backs L L.length) (Sp := fun pre => ∃ t, backs L L.length = pre ++ t) (V := fun pre x => ∃ t, backs L L.length = pre ++ x :: t) (N := L.length) (Kp := fun _ _ => True) (fun _ _ => trivial) (fun _ _ _ _ _ _ _ _ => trivial)
        (fun pre W => (∀ x ∈ pre, ¬ x.2 < col) ∧ Below w2.heap.size w2 W)
        (fun c pre W => (c = .ret ∧ ∃ pre' x, pre = pre' ++ [x] ∧ (∀ y ∈ pre', ¬ y.2 < col) ∧ x.2 < col ∧ W.cell? ⟨w.heap.size + 1, 0, none⟩ = some (.int .i64 x.2)) ∧ Below w.heap.size w2 W)
        ?hI ?hIx ⟨by simp, Below.refl _ _⟩
        (fun x a' W => a' = { tmps := #[.pointer none, .int .i64 col, undef, .pointer (some ⟨w.heap.size, 0, none⟩), .pointer (some ⟨w.heap.size + 1, 0, none⟩), undef, .int .i64 x.2, .pointer none, .slice adv L.length capv,
            .func (.func 43) #[] #[.pointer (some ⟨w1.heap.size, 0, none⟩)], .int .i64 x.1, .int .i64 x.2, undef, undef, undef, undef], defers := [] })
        ?hAx ?hit ?assign ?body ?done ?stop
      case hI => exact fun s W W' row h hg hr => ⟨h.1, ownFrom_below (β := Unit) (B := w2.heap.size) (w₀ := w2) (by omega) (by omega) () W W' row h.2 hg hr⟩
      case hIx =>
        rintro c pre W W' row ⟨⟨rfl, pre', x, hp, ho, hx, k0⟩, hb⟩ hg hr
        exact ⟨⟨rfl, pre', x, hp, ho, hx, cell_kept k0 hg (fun r e => (hr r e).2)⟩, ownFrom_below (β := Unit) (B := w2.heap.size) (w₀ := w2) (by omega) (by omega) () W W' row hb hg hr⟩
      case hAx => exact fun x a' _ W W' row e _ _ => e
      case hit =>
        rintro W0 ⟨o, o', _, _, rfl⟩ hI0
        refine back_iter (.slice adv L.length capv) L hl 2 (by decide) w1.heap.size w2.heap.size _ _ ?_ _
        rintro pre W ⟨_, hW⟩
        exact ⟨(hW.cell (p := ⟨w1.heap.size, 0, none⟩) (by simp; omega)).trans CX.out, HA2.out.later hW⟩
      case assign =>
        rintro l pre x W K ⟨hp, hW⟩ hK
        simp only [encB]
        gi_wp2
        exact hK _ _ (keepsB (Below.refl _ _)) trivial ⟨hp, hW⟩ rfl
      case body =>
        rintro l pre x a' W ⟨hp, hW⟩ rfl hlen _
        have c3 := cellB hW C3.out
        have c4 := cellB hW C4.out
        have cf := (hW.frozen (p := ⟨w.heap.size + 1, 0, none⟩) (by simp; omega)).trans CF.out
        have HWh := Lib.hid hW
        have Hp := Lib.hid hp
        clear hW hp
        by_cases hx : x.2 < col
        · have HX := Lib.hid hx
          gi_wp2_with fail
          have z0 : (W.setCell ⟨w.heap.size + 1, 0, none⟩ (.int .i64 x.2)).cell? ⟨w.heap.size + 1, 0, none⟩ = some (.int .i64 x.2) := World.cell?_setCell_same' _ _ _ (by rw [c4]; rfl)
          refine ⟨(KeepsOthers.setCell _ _ _).from _, ?_, (HWh.out.mono hNw).setCell (p := ⟨w.heap.size + 1, 0, none⟩) (by simp) _⟩
          first
            | exact ⟨rfl, pre, x, rfl, Hp.out, HX.out, z0⟩
            | exact ⟨rfl, pre, x.1, x.2, rfl, fun a b hy => Hp.out (a, b) hy, HX.out, z0⟩
            | exact ⟨rfl, pre, x.1, x.2, rfl, fun a b hy => by have := Hp.out (a, b) hy; simpa using this, HX.out, z0⟩
        · have HX := Lib.hid hx
          gi_wp2_with fail
          have hall : ∀ y ∈ pre ++ [x], ¬ y.2 < col := fun y hy => by
            have h1 := Hp.out y
            have h2 := HX.out
            rcases List.mem_append.1 hy with h | h
            · have := h1 h; omega
            · simp at h; rw [h]; omega
          refine ⟨keepsB (Below.refl _ _), trivial, ?_, by first | exact HWh.out | (rw [← hz2]; exact HWh.out)⟩
          first
            | exact hall
            | exact fun a b hy => hall (a, b) hy
            | exact fun a b hy => by have := hall (a, b) (by simpa using hy); simpa using this
      case done =>
        rintro D ys W hD rfl ⟨hp, hW⟩ hK
        have c4 := cellB hW C4.out
        have cf := (hW.frozen (p := ⟨w.heap.size + 1, 0, none⟩) (by simp; omega)).trans CF.out
        have HWh := Lib.hid hW
        have Hp := Lib.hid hp
        have HK := Lib.hid hK
        clear hW hp hK
        gi_wp2
        have z0 : (W.setCell ⟨w.heap.size + 1, 0, none⟩ (.int .i64 0)).cell? ⟨w.heap.size + 1, 0, none⟩ = some (.int .i64 0) := World.cell?_setCell_same' _ _ _ (by rw [c4]; rfl)
        have hK4 := (KeepsOthers.setCell W ⟨w.heap.size + 1, 0, none⟩ (.int .i64 0)).same D _ HK.out rfl
        have hBe : Below w.heap.size w (W.setCell ⟨w.heap.size + 1, 0, none⟩ (.int .i64 0)) := (B2.trans (HWh.out.mono hNw)).setCell (p := ⟨w.heap.size + 1, 0, none⟩) (by simp) _
        have y0 := cell_kept z0 (grownBy_putObj' _ D (.deferred none)) (fun r e => by cases e; exact ⟨_, hK4, rfl⟩)
        refine ⟨by simp, .inl ⟨_, _, rfl, run_takeDeferred hK4, ?_⟩⟩
        have hpr : prevIn L col = 0 := by
          unfold prevIn
          rw [findB_none (fun p hp => by simpa using Hp.out p hp)]
          rfl
        refine ⟨.int .i64 0, ?_, by rw [hpr], ?_⟩
        · simp [results, Try.results20, go_sem, y0]
        · exact hBe.trans (belowK_b (w := w2) (by omega) _ D _ _ (by omega) hK4 rfl rfl)
      case stop =>
        rintro D c pre W hD ⟨t, ht⟩ ⟨⟨rfl, pre', x, he, ho, hx, k0⟩, hb⟩ hK
        gi_wp2
        refine ⟨by simp, .inl ⟨_, _, rfl, run_takeDeferred hK, ?_⟩⟩
        have z0 := cell_kept k0 (grownBy_putObj' _ D (.deferred none)) (fun r e => by cases e; exact ⟨_, hK, rfl⟩)
        have hpr : prevIn L col = x.2 := by
          unfold prevIn
          rw [ht, he, findB_some (P := fun x => decide (x.2 < col)) (fun p hp => by simpa using ho p hp) (by simpa using hx)]
          rfl
        refine ⟨.int .i64 x.2, ?_, by rw [hpr], ?_⟩
        · simp [results, Try.results20, go_sem, z0]
        · exact (B2.trans hb).trans (belowK_b (w := w2) (by omega) W D _ _ (by omega) hK rfl rfl)
    · gi_wp2_with (first
        | (refine ⟨trivial, ?_⟩; gi_at_call 11; refine (callsIn_wide.2 (HL.out _ hB0)).mono ?_; rintro e w1 ⟨v, rfl, hat, hb1⟩; obtain ⟨adv, capv, rfl, hcv⟩ := id hat; have Hat := Lib.hid hat; have Hb1 := Lib.hid hb1; clear hat hb1 hcv)
        | (refine ⟨trivial, ?_⟩; gi_at_call 34; refine (callsIn_wide.2 (back_any _ _ L Hat.out)).mono ?_; rintro e w2 ⟨rfl, rfl⟩))
      have hz1 : w.heap.size + 2 ≤ w1.heap.size := by have := Hb1.out.size; simp at this; omega
      have B1 := bel_call hB0 Hb1.out
      have y3 := cellB Hb1.out (show ((w.alloc (.cells #[.int .i64 col] 3)).alloc (.cells #[.int .i64 0] 3)).cell? ⟨w.heap.size, 0, none⟩ = some (.int .i64 col) by simp [go_sem])
      have y4 := cellB Hb1.out (show ((w.alloc (.cells #[.int .i64 col] 3)).alloc (.cells #[.int .i64 0] 3)).cell? ⟨w.heap.size + 1, 0, none⟩ = some (.int .i64 0) by simp [go_sem])
      have yf := (Hb1.out.frozen (p := ⟨w.heap.size + 1, 0, none⟩) (by simp)).trans (show ((w.alloc (.cells #[.int .i64 col] 3)).alloc (.cells #[.int .i64 0] 3)).frozen? ⟨w.heap.size + 1, 0, none⟩ = false by simp [go_sem])
      obtain ⟨w2, hw2⟩ : ∃ w2, w1.alloc (.cells #[.slice adv L.length capv] 22) = w2 := ⟨_, rfl⟩
      have B12 : Below w1.heap.size w1 w2 := by rw [← hw2]; exact bel_alloc (Below.refl _ _) _
      have B2 := bel_call B1 B12
      have hz2 : w2.heap.size = w1.heap.size + 1 := by rw [← hw2]; simp
      have C3 := Lib.hid (cellB B12 y3)
      have C4 := Lib.hid (cellB B12 y4)
      have CF := Lib.hid ((B12.frozen (p := ⟨w.heap.size + 1, 0, none⟩) (by simp; omega)).trans yf)
      have CX := Lib.hid (show w2.cell? ⟨w1.heap.size, 0, none⟩ = some (.slice adv L.length capv) by rw [← hw2]; simp [go_sem])
      have HA2 := Lib.hid (Hat.out.later B12)
      rw [hw2]
      clear hw2 y3 y4 yf
      have hN : w2.heap.size ≤ w2.heap.size := Nat.le_refl _
      have hNw : w.heap.size ≤ w2.heap.size := by omega
      refine range_law (n := 2) (m := 1) (gf := 43) (lb := #[.pointer (some ⟨w1.heap.size, 0, none⟩)]) rfl (enters_of Try.func43 (by kernel_rfl) rfl) (encs := encB) (fun _ => rfl)
        (S := fun ys => ys = backs L L.length) (Sp := fun pre => ∃ t, backs L L.length = pre ++ t) (V := fun pre x => ∃ t, backs L L.length = pre ++ x :: t) (N := L.length) (Kp := fun _ _ => True) (fun _ _ => trivial) (fun _ _ _ _ _ _ _ _ => trivial)
        (fun pre W => (∀ x ∈ pre, ¬ x.2 < col) ∧ Below w2.heap.size w2 W)
        (fun c pre W => (c = .ret ∧ ∃ pre' x, pre = pre' ++ [x] ∧ (∀ y ∈ pre', ¬ y.2 < col) ∧ x.2 < col ∧ W.cell? ⟨w.heap.size + 1, 0, none⟩ = some (.int .i64 x.2)) ∧ Below w.heap.size w2 W)
        ?hI ?hIx ⟨by simp, Below.refl _ _⟩
        (fun x a' W => a' = { tmps := #[.pointer (some ⟨p, 0, none⟩), .int .i64 col, undef, .pointer (some ⟨w.heap.size, 0, none⟩), .pointer (some ⟨w.heap.size + 1, 0, none⟩), undef, .int .i64 x.2, .pointer (some ⟨p, 0, none⟩), .slice adv L.length capv,
            .func (.func 43) #[] #[.pointer (some ⟨w1.heap.size, 0, none⟩)], .int .i64 x.1, .int .i64 x.2, undef, undef, undef, undef], defers := [] })
        ?hAx ?hit ?assign ?body ?done ?stop
      case hI => exact fun s W W' row h hg hr => ⟨h.1, ownFrom_below (β := Unit) (B := w2.heap.size) (w₀ := w2) (by omega) (by omega) () W W' row h.2 hg hr⟩
      case hIx =>
        rintro c pre W W' row ⟨⟨rfl, pre', x, hp, ho, hx, k0⟩, hb⟩ hg hr
        exact ⟨⟨rfl, pre', x, hp, ho, hx, cell_kept k0 hg (fun r e => (hr r e).2)⟩, ownFrom_below (β := Unit) (B := w2.heap.size) (w₀ := w2) (by omega) (by omega) () W W' row hb hg hr⟩
      case hAx => exact fun x a' _ W W' row e _ _ => e
      case hit =>
        rintro W0 ⟨o, o', _, _, rfl⟩ hI0
        refine back_iter (.slice adv L.length capv) L hl 2 (by decide) w1.heap.size w2.heap.size _ _ ?_ _
        rintro pre W ⟨_, hW⟩
        exact ⟨(hW.cell (p := ⟨w1.heap.size, 0, none⟩) (by simp; omega)).trans CX.out, HA2.out.later hW⟩
      case assign =>
        rintro l pre x W K ⟨hp, hW⟩ hK
        simp only [encB]
        gi_wp2
        exact hK _ _ (keepsB (Below.refl _ _)) trivial ⟨hp, hW⟩ rfl
      case body =>
        rintro l pre x a' W ⟨hp, hW⟩ rfl hlen _
        have c3 := cellB hW C3.out
        have c4 := cellB hW C4.out
        have cf := (hW.frozen (p := ⟨w.heap.size + 1, 0, none⟩) (by simp; omega)).trans CF.out
        have HWh := Lib.hid hW
        have Hp := Lib.hid hp
        clear hW hp
        by_cases hx : x.2 < col
        · have HX := Lib.hid hx
          gi_wp2_with fail
          have z0 : (W.setCell ⟨w.heap.size + 1, 0, none⟩ (.int .i64 x.2)).cell? ⟨w.heap.size + 1, 0, none⟩ = some (.int .i64 x.2) := World.cell?_setCell_same' _ _ _ (by rw [c4]; rfl)
          refine ⟨(KeepsOthers.setCell _ _ _).from _, ?_, (HWh.out.mono hNw).setCell (p := ⟨w.heap.size + 1, 0, none⟩) (by simp) _⟩
          first
            | exact ⟨rfl, pre, x, rfl, Hp.out, HX.out, z0⟩
            | exact ⟨rfl, pre, x.1, x.2, rfl, fun a b hy => Hp.out (a, b) hy, HX.out, z0⟩
            | exact ⟨rfl, pre, x.1, x.2, rfl, fun a b hy => by have := Hp.out (a, b) hy; simpa using this, HX.out, z0⟩
        · have HX := Lib.hid hx
          gi_wp2_with fail
          have hall : ∀ y ∈ pre ++ [x], ¬ y.2 < col := fun y hy => by
            have h1 := Hp.out y
            have h2 := HX.out
            rcases List.mem_append.1 hy with h | h
            · have := h1 h; omega
            · simp at h; rw [h]; omega
          refine ⟨keepsB (Below.refl _ _), trivial, ?_, by first | exact HWh.out | (rw [← hz2]; exact HWh.out)⟩
          first
            | exact hall
            | exact fun a b hy => hall (a, b) hy
            | exact fun a b hy => by have := hall (a, b) (by simpa using hy); simpa using this
      case done =>
        rintro D ys W hD rfl ⟨hp, hW⟩ hK
        have c4 := cellB hW C4.out
        have cf := (hW.frozen (p := ⟨w.heap.size + 1, 0, none⟩) (by simp; omega)).trans CF.out
        have HWh := Lib.hid hW
        have Hp := Lib.hid hp
        have HK := Lib.hid hK
        clear hW hp hK
        gi_wp2
        have z0 : (W.setCell ⟨w.heap.size + 1, 0, none⟩ (.int .i64 0)).cell? ⟨w.heap.size + 1, 0, none⟩ = some (.int .i64 0) := World.cell?_setCell_same' _ _ _ (by rw [c4]; rfl)
        have hK4 := (KeepsOthers.setCell W ⟨w.heap.size + 1, 0, none⟩ (.int .i64 0)).same D _ HK.out rfl
        have hBe : Below w.heap.size w (W.setCell ⟨w.heap.size + 1, 0, none⟩ (.int .i64 0)) := (B2.trans (HWh.out.mono hNw)).setCell (p := ⟨w.heap.size + 1, 0, none⟩) (by simp) _
        have y0 := cell_kept z0 (grownBy_putObj' _ D (.deferred none)) (fun r e => by cases e; exact ⟨_, hK4, rfl⟩)
        refine ⟨by simp, .inl ⟨_, _, rfl, run_takeDeferred hK4, ?_⟩⟩
        have hpr : prevIn L col = 0 := by
          unfold prevIn
          rw [findB_none (fun p hp => by simpa using Hp.out p hp)]
          rfl
        refine ⟨.int .i64 0, ?_, by rw [hpr], ?_⟩
        · simp [results, Try.results20, go_sem, y0]
        · exact hBe.trans (belowK_b (w := w2) (by omega) _ D _ _ (by omega) hK4 rfl rfl)
      case stop =>
        rintro D c pre W hD ⟨t, ht⟩ ⟨⟨rfl, pre', x, he, ho, hx, k0⟩, hb⟩ hK
        gi_wp2
        refine ⟨by simp, .inl ⟨_, _, rfl, run_takeDeferred hK, ?_⟩⟩
        have z0 := cell_kept k0 (grownBy_putObj' _ D (.deferred none)) (fun r e => by cases e; exact ⟨_, hK, rfl⟩)
        have hpr : prevIn L col = x.2 := by
          unfold prevIn
          rw [ht, he, findB_some (P := fun x => decide (x.2 < col)) (fun p hp => by simpa using ho p hp) (by simpa using hx)]
          rfl
        refine ⟨.int .i64 x.2, ?_, by rw [hpr], ?_⟩
        · simp [results, Try.results20, go_sem, z0]
        · exact (B2.trans hb).trans (belowK_b (w := w2) (by omega) W D _ _ (by omega) hK rfl rfl)
  exact fin tv rfl
theorem prev_nil (col : Int) (w : World) : Calls Try.prog 20 #[.pointer none, .int .i64 col] w fun e w' => e = .returned (.int .i64 0) ∧ Below w.heap.size w w' :=
  prev_gen (.pointer none) (.inl rfl) w [] (by decide) col (fun W _ => (list_nil W).mono fun e w' ⟨he, hw⟩ => ⟨_, he, ⟨none, 0, rfl, fun h => absurd h (by decide)⟩, by rw [hw]; exact Below.refl _ _⟩)
theorem prev_any (w : World) (p b : Nat) (cols : Int) (nn : Nat) (D : Set3) (h : TObj w p b cols nn D) (hmax : Maps.size D ≤ 100000) (hl : (keysOf D).length ≤ 100000) (col : Int) :
    Calls Try.prog 20 #[.pointer (some ⟨p, 0, none⟩), .int .i64 col] w fun e w' => e = .returned (.int .i64 (prevIn (keysOf D) col)) ∧ Below w.heap.size w w' :=
  prev_gen _ (.inr ⟨p, rfl⟩) w (keysOf D) hl col (fun W hW => (list_is W p b cols nn D (h.later hW) hmax).mono fun e w' ⟨v, he, ho, hb⟩ => ⟨v, he, ho.at, hb⟩)
end Go.Proofs.Ytpjodppcedkneaa
