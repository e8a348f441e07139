/- remap: the parts as they lie there; take. -/
import Derived.Test.YtnfpfpppnfighaaDoorR3
import Derived.Laws.AppendOwn
namespace Go.Proofs.YtnfpfpppnfighaaDoor
open Go.Shelf Go.RowKit
set_option linter.unusedVariables false
set_option linter.unusedSimpArgs false
set_option maxRecDepth 100000
def icells (x : Itm) : List Value := [.bool x.num, .int .i64 x.n, .string (st x.text)]
/-- A slice of parts of the call's own. -/
def OwnT (w : World) (base : Nat) (v : Value) (L : List Itm) : Prop := w.ownsRow base 66 3 v L.length (L.flatMap icells)
theorem info66 : (Tryd.prog.info? 66).map (fun i => (i.zero, i.size, i.bytes)) = some (some (.agg #[.bool false, .int .i64 0, .string ⟨#[]⟩]), 3, 32) := by kernel_rfl
theorem icells_get {L : List Itm} {i : Nat} (h : i < L.length) :
    (L.flatMap icells)[i * 3]? = some (.bool L[i].num) ∧ (L.flatMap icells)[i * 3 + 1]? = some (.int .i64 L[i].n) ∧ (L.flatMap icells)[i * 3 + 2]? = some (.string (st L[i].text)) := by
  induction L generalizing i with
  | nil => simp at h
  | cons x l ih =>
    cases i with
    | zero => simp [icells]
    | succ i =>
      have := ih (i := i) (by simpa using h)
      simp only [List.flatMap_cons, icells, List.getElem_cons_succ]
      rw [show (i + 1) * 3 = i * 3 + 3 by omega]
      simpa using this
/-- Nothing but some blocks is written. -/
structure Chg (w w' : World) (X : List Nat) : Prop where
  os : w'.os = w.os
  tape : w'.tape = w.tape
  output : w'.output = w.output
  size : w.heap.size ≤ w'.heap.size
  block : ∀ k, k < w.heap.size → k ∉ X → w'.heap[k]? = w.heap[k]?
theorem Chg.trans {w w1 w2 : World} {X : List Nat} (h : Chg w w1 X) (k : Chg w1 w2 X) : Chg w w2 X :=
  ⟨k.os.trans h.os, k.tape.trans h.tape, k.output.trans h.output, Nat.le_trans h.size k.size, fun i hi hX => (k.block i (Nat.lt_of_lt_of_le hi h.size) hX).trans (h.block i hi hX)⟩
theorem Chg.of_below {w w1 : World} {X : List Nat} (h : Below w.heap.size w w1) : Chg w w1 X := ⟨h.os, h.tape, h.output, h.size, fun i hi _ => h.block i hi⟩
theorem Chg.below {w w1 : World} {X : List Nat} {B : Nat} (h : Chg w w1 X) (hB : B ≤ w.heap.size) (hX : ∀ x ∈ X, B ≤ x) : Below B w w1 := ⟨h.os, h.tape, h.output, h.size, fun k hk => h.block k (by omega) (fun hm => by have := hX k hm; omega)⟩
theorem Chg.cell {w w1 : World} {X : List Nat} (h : Chg w w1 X) {q o : Nat} {v : Value} (hq : q ∉ X) (hc : w.cell? ⟨q, o, none⟩ = some v) : w1.cell? ⟨q, o, none⟩ = some v :=
  (World.cell?_of_block (h.block q (World.block_lt_of_cell? w ⟨q, o, none⟩ hc) hq)).trans hc
theorem chg_set (W : World) (g i : Nat) (v : Value) : Chg W (W.setCell ⟨g, i, none⟩ v) [g] :=
  ⟨rfl, rfl, rfl, by simp [World.setCell], fun k hk hX => heap_setCell_other _ _ _ _ (fun e => hX (by rw [e]; simp))⟩
/-- A list that things are taken off. -/
structure ListAt (W : World) (lb : Nat) (xs : List Itm) (B : Nat) : Prop where
  lt : lb < B
  bw : B ≤ W.heap.size
  blk : ∃ ad cap, W.heap[lb]? = some (.cells #[.slice ad xs.length cap] 97) ∧ xs.length ≤ cap ∧ (0 < xs.length → ∃ g off cs, ad = some ⟨g, off, none⟩ ∧ g < B ∧ W.heap[g]? = some (.cells cs 66 (0, 0)) ∧
    ∀ i (hi : i < xs.length), cs[off + i * 3]? = some (.bool xs[i].num) ∧ cs[off + i * 3 + 1]? = some (.int .i64 xs[i].n) ∧ cs[off + i * 3 + 2]? = some (.string (st xs[i].text)))
/-- Whatever stands that lies ahead of B. -/
theorem ListAt.keep {W W' : World} {lb B : Nat} {xs : List Itm} (h : ListAt W lb xs B) (hs : W.heap.size ≤ W'.heap.size) (hb : ∀ k, k < B → W'.heap[k]? = W.heap[k]?) : ListAt W' lb xs B := by
  obtain ⟨ad, cap, h1, hcp, h2⟩ := h.blk
  refine ⟨h.lt, Nat.le_trans h.bw hs, ad, cap, (hb lb h.lt).trans h1, hcp, fun h0 => ?_⟩
  obtain ⟨g, off, cs, ha, hgB, hg, hc⟩ := h2 h0
  exact ⟨g, off, cs, ha, hgB, (hb g hgB).trans hg, hc⟩
theorem ListAt.later {W W' : World} {lb B : Nat} {xs : List Itm} (h : ListAt W lb xs B) (hb : Below W.heap.size W W') : ListAt W' lb xs B :=
  h.keep hb.size fun k hk => hb.block k (Nat.lt_of_lt_of_le hk h.bw)
theorem ListAt.above {W W' : World} {lb B : Nat} {xs : List Itm} (h : ListAt W lb xs B) (hb : Below B W W') : ListAt W' lb xs B :=
  h.keep hb.size fun k hk => hb.block k hk
set_option maxHeartbeats 400000 in
theorem take_none (w : World) (lb B : Nat) (h : ListAt w lb [] B) :
    Calls Tryd.prog 28 #[.pointer (some ⟨lb, 0, none⟩)] w fun e w' => e = .returned (.tuple #[(⟨false, 0, []⟩ : Itm).val, .bool false]) ∧ Below w.heap.size w w' := by
  obtain ⟨ad, cap, h1, -, -⟩ := h.blk
  have d0 : ∀ o1 o2, ((w.alloc o1).alloc o2).cell? ⟨lb, 0, none⟩ = some (.slice ad 0 cap) := fun o1 o2 => cellB (bel_alloc (bel_alloc (Below.refl _ _) o1) o2) (by simp [World.cell?, h1])
  clear h h1
  go_enter Tryd.func28, Tryd.ntmps28
  go_wp2_with fail
  refine bodyPost_ret (v := .tuple #[.agg #[.bool false, .int .i64 0, .string ⟨#[]⟩], .bool false]) (by simp [results, Tryd.results28, go_sem]) rfl ⟨rfl, bel_alloc (bel_alloc (Below.refl _ _) _) _⟩
set_option maxHeartbeats 4000000 in
theorem take_some (w : World) (lb B : Nat) (x : Itm) (r : List Itm) (h : ListAt w lb (x :: r) B) :
    Calls Tryd.prog 28 #[.pointer (some ⟨lb, 0, none⟩)] w fun e w' => e = .returned (.tuple #[x.val, .bool true]) ∧ ListAt w' lb r B ∧ Chg w w' [lb] := by
  obtain ⟨ad, cap, h1, hcp, h2⟩ := h.blk
  obtain ⟨g, off, cs, rfl, hgB, hg, hc⟩ := h2 (by simp)
  have hlt := h.lt
  have hbw := h.bw
  have hll : lb < w.heap.size := (Array.getElem?_eq_some_iff.1 h1).1
  have hgl : g < w.heap.size := (Array.getElem?_eq_some_iff.1 hg).1
  have hne : g ≠ lb := by rintro rfl; rw [h1] at hg; simp at hg
  have d0 : ∀ o1 o2, ((w.alloc o1).alloc o2).cell? ⟨lb, 0, none⟩ = some (.slice (some ⟨g, off, none⟩) (r.length + 1) cap) := fun o1 o2 => cellB (bel_alloc (bel_alloc (Below.refl _ _) o1) o2) (by simp [World.cell?, h1])
  obtain ⟨k0, k1, k2⟩ := hc 0 (by simp)
  have e0 : ∀ o1 o2, ((w.alloc o1).alloc o2).cell? ⟨g, off, none⟩ = some (.bool x.num) := fun o1 o2 => cellB (bel_alloc (bel_alloc (Below.refl _ _) o1) o2) (by simpa [World.cell?, hg] using k0)
  have e1 : ∀ o1 o2, ((w.alloc o1).alloc o2).cell? ⟨g, off + 1, none⟩ = some (.int .i64 x.n) := fun o1 o2 => cellB (bel_alloc (bel_alloc (Below.refl _ _) o1) o2) (by simpa [World.cell?, hg] using k1)
  have e2 : ∀ o1 o2, ((w.alloc o1).alloc o2).cell? ⟨g, off + 2, none⟩ = some (.string (st x.text)) := fun o1 o2 => cellB (bel_alloc (bel_alloc (Below.refl _ _) o1) o2) (by simpa [World.cell?, hg] using k2)
  have f0 : w.frozen? ⟨lb, 0, none⟩ = false := Lib.frozen_of_heap h1 0
  have q1 : ¬ ((r.length : Int) + 1 = 0) := by omega
  have q2 : ((r.length : Int) + 1 == 0) = false := by simp; omega
  have q3 : (0 : Int) < (r.length : Int) + 1 := by omega
  have q4 : (1 : Int) ≤ (r.length : Int) + 1 := by omega
  have HEnd := Lib.hid (fun (ad : Option Addr) (had : cap ≠ 1 → ad = some ⟨g, off + 3, none⟩) o1 o2 => (show ListAt (((w.setCell ⟨lb, 0, none⟩ (.slice ad r.length (cap - 1))).alloc o1).alloc o2) lb r B ∧ Chg w (((w.setCell ⟨lb, 0, none⟩ (.slice ad r.length (cap - 1))).alloc o1).alloc o2) [lb] from by
    have hch : Chg w (((w.setCell ⟨lb, 0, none⟩ (.slice ad r.length (cap - 1))).alloc o1).alloc o2) [lb] := (chg_set w lb 0 _).trans (Chg.of_below (bel_alloc (bel_alloc (Below.refl _ _) o1) o2))
    refine ⟨⟨hlt, Nat.le_trans hbw hch.size, ad, cap - 1, ?_, by simp at hcp; omega, fun h0 => ⟨g, off + 3, cs, had (by simp at hcp; omega), hgB, (hch.block g hgl (by simpa using hne)).trans hg, fun i hi => ?_⟩⟩, hch⟩
    · have := heap_setCell_same w lb 0 _ _ (.slice ad r.length (cap - 1)) h1
      have e := (bel_alloc (bel_alloc (Below.refl _ (w.setCell ⟨lb, 0, none⟩ (.slice ad r.length (cap - 1)))) o1) o2).block lb (by simpa using hll)
      rw [e, this]; rfl
    · have := hc (i + 1) (by simpa using hi)
      simp only [List.getElem_cons_succ] at this
      rw [show off + 3 + i * 3 = off + (i + 1) * 3 by omega]
      exact this))
  clear h h1 h2 hg hc k0 k1 k2 hcp hgB hlt hbw
  by_cases hcap : cap = 1
  · subst hcap
    go_enter Tryd.func28, Tryd.ntmps28
    go_wp2_with fail
    go_region
    go_wp2_with fail
    refine bodyPost_ret (v := .tuple #[x.val, .bool true]) (by simp [results, Tryd.results28, go_sem, Itm.val]) rfl ⟨rfl, ?_⟩
    obtain ⟨a, b⟩ := HEnd.out (some ⟨g, off, none⟩) (fun h => absurd rfl h) (.cells #[.bool x.num, .int .i64 x.n, .string (st x.text)] 66) (.cells #[.bool x.num, .int .i64 x.n, .string (st x.text)] 66)
    exact ⟨a.later (bel_drew1 _), b.trans (Chg.of_below (bel_drew1 _))⟩
  · go_enter Tryd.func28, Tryd.ntmps28
    go_wp2_with fail
    go_region
    go_wp2_with fail
    refine bodyPost_ret (v := .tuple #[x.val, .bool true]) (by simp [results, Tryd.results28, go_sem, Itm.val]) rfl ⟨rfl, ?_⟩
    obtain ⟨a, b⟩ := HEnd.out (some ⟨g, off + 3, none⟩) (fun h => rfl) (.cells #[.bool x.num, .int .i64 x.n, .string (st x.text)] 66) (.cells #[.bool x.num, .int .i64 x.n, .string (st x.text)] 66)
    exact ⟨a.later (bel_drew1 _), b.trans (Chg.of_below (bel_drew1 _))⟩
end Go.Proofs.YtnfpfpppnfighaaDoor
