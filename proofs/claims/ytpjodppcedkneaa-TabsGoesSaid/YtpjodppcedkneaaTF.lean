/- tabs: Resize, Copy. -/
import Derived.Test.YtpjodppcedkneaaTE
namespace Go.Proofs.Ytpjodppcedkneaa
open Go.RowKit Go.Maps Go.Sort Go.Shelf Go.ChangeMaps Go.WideMaps Go.WideElems
set_option linter.unusedVariables false
set_option linter.unusedSimpArgs false
set_option maxRecDepth 100000
/-- Nothing but some blocks is written. -/
structure Chg (w w' : World) (X : List Nat) : Prop where
  os : w'.os = w.os
  tape : w'.tape = w.tape
  output : w'.output = w.output
  size : w.heap.size ≤ w'.heap.size
  block : ∀ k, k < w.heap.size → k ∉ X → w'.heap[k]? = w.heap[k]?
theorem resize_bad (w : World) (p : Nat) (n : Int) (hn : n < 1 ∨ 255 < n) : Calls Try.prog 23 #[.pointer (some ⟨p, 0, none⟩), .int .i64 n] w fun e w' => e = .returned (.int .i64 10) ∧ Below w.heap.size w w' := by
  by_cases h1 : n < 1
  · go_enter Try.func23, Try.ntmps23
    go_wp2_with fail
    go_ret
    exact ⟨rfl, bel_alloc (Below.refl _ _) _⟩
  · have h2 : 255 < n := by omega
    go_enter Try.func23, Try.ntmps23
    go_wp2_with fail
    go_ret
    exact ⟨rfl, bel_alloc (Below.refl _ _) _⟩
theorem Chg.trans {w w1 w2 : World} {X : List Nat} (h : Chg w w1 X) (k : Chg w1 w2 X) : Chg w w2 X :=
  ⟨k.os.trans h.os, k.tape.trans h.tape, k.output.trans h.output, Nat.le_trans h.size k.size, fun i hi hX => (k.block i (Nat.lt_of_lt_of_le hi h.size) hX).trans (h.block i hi hX)⟩
theorem Chg.of_below {w w1 : World} {X : List Nat} (h : Below w.heap.size w w1) : Chg w w1 X := ⟨h.os, h.tape, h.output, h.size, fun i hi _ => h.block i hi⟩
theorem Chg.of_grown {w w1 : World} {X : List Nat} {b : Nat} (h : w.grownBy w1 (some b)) (hb : b ∈ X) : Chg w w1 X := ⟨h.os, h.tape, h.output, h.size, fun i hi hX => h.block i hi (fun e => hX (by cases e; exact hb))⟩
theorem Chg.below {w w1 : World} {X : List Nat} {B : Nat} (h : Chg w w1 X) (hB : B ≤ w.heap.size) (hX : ∀ x ∈ X, B ≤ x) : Below B w w1 := ⟨h.os, h.tape, h.output, h.size, fun k hk => h.block k (by omega) (fun hm => by have := hX k hm; omega)⟩
theorem Chg.wider {w w1 : World} {X Y : List Nat} (h : Chg w w1 X) (hs : ∀ x ∈ X, x ∈ Y) : Chg w w1 Y := ⟨h.os, h.tape, h.output, h.size, fun i hi hY => h.block i hi (fun hX => hY (hs i hX))⟩
theorem Chg.cell {w w1 : World} {X : List Nat} (h : Chg w w1 X) {q o : Nat} {v : Value} (hq : q ∉ X) (hc : w.cell? ⟨q, o, none⟩ = some v) : w1.cell? ⟨q, o, none⟩ = some v :=
  (World.cell?_of_block (h.block q (World.block_lt_of_cell? w ⟨q, o, none⟩ hc) hq)).trans hc
theorem has_gone (n : Int) (D : Set3) (hD : Maps.IsMap D) (x : Int) : Maps.has (Lib.deleteFuncD (pdOf n) D) (.int .i64 x) = (Maps.has D (.int .i64 x) && decide (x < n)) := by
  obtain ⟨es, rfl⟩ := hD
  show (es.filter _).any _ = (es.any _ && _)
  rw [Bool.eq_iff_iff, Bool.and_eq_true, List.any_eq_true, List.any_eq_true, decide_eq_true_iff]
  constructor
  · rintro ⟨q, hq, hs⟩
    obtain ⟨hq1, hq2⟩ := List.mem_filter.1 hq
    have e := WideAt.sameKey_eq hs
    rw [e] at hq2
    simp [pdOf] at hq2
    exact ⟨⟨q, hq1, hs⟩, hq2⟩
  · rintro ⟨⟨q, hq, hs⟩, hx⟩
    have e := WideAt.sameKey_eq hs
    refine ⟨q, List.mem_filter.2 ⟨hq, ?_⟩, hs⟩
    rw [e]
    simp [pdOf, hx]
set_option maxHeartbeats 1000000 in
theorem resize_go (w : World) (p b nn : Nat) (c0 : Int) (D : Set3) (h : TObj w p b c0 nn D) (hblk : w.heap[p]? = some (.cells #[.int .i64 c0, .map (some b)] 55)) (n : Int) (h1 : 1 ≤ n) (h2 : n ≤ 255) : Calls Try.prog 23 #[.pointer (some ⟨p, 0, none⟩), .int .i64 n] w fun e w' => e = .returned (.int .i64 0) ∧ TObj w' p b n nn (Lib.deleteFuncD (pdOf n) D) ∧ Chg w w' [p, b] ∧ w'.heap[p]? = some (.cells #[.int .i64 n, .map (some b)] 55) := by
  have hne : p ≠ b := h.apart
  have hpl := h.lt
  have k0 := h.c0
  have k1 := h.c1
  have hfz : w.frozen? ⟨p, 0, none⟩ = false := by simp [World.frozen?, hblk]
  have g1 : ¬ n < 1 := by omega
  have g2 : ¬ 255 < n := by omega
  have hblk1 : (w.setCell ⟨p, 0, none⟩ (.int .i64 n)).heap[p]? = some (.cells #[.int .i64 n, .map (some b)] 55) := by
    rw [heap_setCell_same w p 0 _ _ _ hblk]; rfl
  have hblk2 : ((w.setCell ⟨p, 0, none⟩ (.int .i64 n)).alloc (.cells #[.int .i64 n] 3)).heap[p]? = some (.cells #[.int .i64 n, .map (some b)] 55) := by
    rw [Below.heap_alloc _ _ p (by simpa using hpl)]; exact hblk1
  have hM : OwnS ((w.setCell ⟨p, 0, none⟩ (.int .i64 n)).alloc (.cells #[.int .i64 n] 3)) b nn D := World.ownsMap.alloc (World.ownsMap.setCell h.m (by simpa using hne.symm) _) _
  have hC := delete_any b nn D _ w.heap.size n (by simp [go_sem]) hM
  have HC := Lib.hid hC
  have HB := Lib.hid hblk2
  have hchg : Chg w ((w.setCell ⟨p, 0, none⟩ (.int .i64 n)).alloc (.cells #[.int .i64 n] 3)) [p, b] := by
    refine Chg.trans (w1 := w.setCell ⟨p, 0, none⟩ (.int .i64 n)) ⟨rfl, rfl, rfl, by simp [World.setCell], fun i hi hX => ?_⟩ (Chg.of_below (bel_alloc (Below.refl _ _) _))
    exact heap_setCell_other _ _ _ _ (fun e => hX (by rw [e]; simp))
  have HG := Lib.hid hchg
  have Hne := Lib.hid hne
  have Hpl := Lib.hid hpl
  clear h hblk hblk1 hblk2 hM hC hchg hne
  go_enter Try.func23, Try.ntmps23
  go_wp2_with fail
  refine HC.out.mono ?_
  rintro e w1 ⟨rfl, hown, hg⟩
  have hb2 : w1.heap[p]? = some (.cells #[.int .i64 n, .map (some b)] 55) := (hg.block p (by have := Hpl.out; simp; omega) (fun e => Hne.out (by cases e; rfl))).trans HB.out
  have HE := Lib.hid (show TObj w1 p b n nn (Lib.deleteFuncD (pdOf n) D) ∧ Chg w w1 [p, b] from ⟨⟨by simp [World.cell?, hb2], by simp [World.cell?, hb2], hown⟩, HG.out.trans (Chg.of_grown hg (by simp))⟩)
  have Hb2 := Lib.hid hb2
  clear hb2 hown hg
  go_wp2_with fail
  go_ret
  exact ⟨rfl, HE.out.1, HE.out.2, Hb2.out⟩
/-- The stops behind Resize. -/
def cutS (n : Int) (S : Int → Bool) : Int → Bool := fun x => S x && decide (x < n)
theorem resize_ts (w : World) (p b c : Nat) (S : Int → Bool) (h : TS w p b c S) (n : Nat) (h1 : 1 ≤ n) (h2 : n ≤ 255) :
    Calls Try.prog 23 #[.pointer (some ⟨p, 0, none⟩), .int .i64 n] w fun e w' => e = .returned (.int .i64 0) ∧ TS w' p b n (cutS n S) ∧ Chg w w' [p, b] := by
  obtain ⟨D, hT, hS⟩ := h.ob
  have hM := World.ownsMap.isMap hT.m
  refine (resize_go w p b 300 c D hT h.blk n (by omega) (by omega)).mono ?_
  rintro e w' ⟨he, hT', hg, hb⟩
  refine ⟨he, ts_of hT' (fun x => ?_) h1 h2 (fun x hx => ?_) hb, hg⟩
  · rw [has_gone _ _ hM, hS]; rfl
  · unfold cutS at hx
    simp only [Bool.and_eq_true, decide_eq_true_eq] at hx
    exact ⟨(h.bd x hx.1).1, hx.2⟩
end Go.Proofs.Ytpjodppcedkneaa
