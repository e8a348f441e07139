/- remap: the 512 texts that were read, kept in a slice. -/
import Derived.Test.YtnfpfpppnfighaaDoorRM
import Derived.Deep.OwnRows
import Derived.Deep.RegionHeld3
namespace Go.Proofs.YtnfpfpppnfighaaDoor
open Go.Shelf Go.RowKit Go.Maps
set_option linter.unusedVariables false
set_option linter.unusedSimpArgs false
set_option maxRecDepth 100000
/-- The texts as they were read: the first k of 512. -/
def Was (W : World) (q : Nat) (m : MF) (k : Nat) : Prop := ∃ cs : Array Value, W.heap[q]? = some (.cells cs 9 (0, 0)) ∧ cs.size = 512 ∧ ∀ j, j < 512 → ∃ s, cs[j]? = some (.string (st s)) ∧ (j < k → s = (m (decide (256 ≤ j)) ((j % 256 : Nat) : Int)).getD [])
theorem Was.lt {W : World} {q k : Nat} {m : MF} (h : Was W q m k) : q < W.heap.size := by
  obtain ⟨cs, h1, -⟩ := h
  exact (Array.getElem?_eq_some_iff.1 h1).1
theorem Was.kept {W W' : World} {q k : Nat} {m : MF} (h : Was W q m k) (hb : W'.heap[q]? = W.heap[q]?) : Was W' q m k := by
  obtain ⟨cs, h1, h2⟩ := h
  exact ⟨cs, hb.trans h1, h2⟩
theorem Was.later {W W' : World} {q k : Nat} {m : MF} (h : Was W q m k) (hb : Below W.heap.size W W') : Was W' q m k := h.kept (hb.block q h.lt)
theorem Was.cell {W : World} {q k : Nat} {m : MF} (h : Was W q m k) (j : Nat) (hj : j < 512) : W.frozen? ⟨q, j, none⟩ = false ∧ ∃ s, W.cell? ⟨q, j, none⟩ = some (.string (st s)) ∧ (j < k → s = (m (decide (256 ≤ j)) ((j % 256 : Nat) : Int)).getD []) := by
  obtain ⟨cs, h1, h2, h3⟩ := h
  obtain ⟨s, h4, h5⟩ := h3 j hj
  exact ⟨Lib.frozen_of_heap h1 j, s, by simp [World.cell?, h1, h4], h5⟩
theorem Was.set {W : World} {q k : Nat} {m : MF} (h : Was W q m k) (hk : k < 512) (s : List UInt8) (hs : s = (m (decide (256 ≤ k)) ((k % 256 : Nat) : Int)).getD []) : Was (W.setCell ⟨q, k, none⟩ (.string (st s))) q m (k + 1) := by
  obtain ⟨cs, h1, h2, h3⟩ := h
  refine ⟨_, heap_setCell_same W q k _ _ _ h1, by simp [h2], fun j hj => ?_⟩
  by_cases hjk : j = k
  · subst hjk
    exact ⟨s, by simp [Array.getElem?_setIfInBounds, h2, hj], fun _ => hs⟩
  · obtain ⟨s', h4, h5⟩ := h3 j hj
    exact ⟨s', by rw [Array.getElem?_setIfInBounds, if_neg (fun e => hjk e.symm)]; exact h4, fun hlt => h5 (by omega)⟩
theorem info9 : (Tryd.prog.info? 9).map (fun i => (i.zero, i.size, i.bytes)) = some (some (.string ⟨#[]⟩), 1, 16) := by kernel_rfl
theorem heap_made (w : World) (O : Obj) : (w.alloc O).heap[w.heap.size]? = some O := by
  show (w.heap.push O)[w.heap.size]? = some O
  exact Array.getElem?_push_size
theorem was_made : ∃ O : Obj, (∀ w : World, (Instr.makeSlice 47 (.int .i64 512) (.int .i64 512)).run Tryd.prog w = .ok (.slice (some ⟨w.heap.size, 0, none⟩) 512 512) (w.alloc O)) ∧ ∀ (m : MF) (w : World), Was (w.alloc O) w.heap.size m 0 := by
  refine ⟨.cells (madeCells #[.string ⟨#[]⟩] 512) 9, fun w => Go.run_make_row' (P := Tryd.prog) 47 9 (.string ⟨#[]⟩) 16 Tryd.underlying47 info9 rfl .i64 .i64 512 (by decide) (by decide) w, fun m w => ⟨madeCells #[.string ⟨#[]⟩] 512, heap_made w _, size_madeCells _ _, fun j hj => ⟨[], ?_, fun h => by omega⟩⟩⟩
  have : (st []) = ⟨#[]⟩ := rfl
  rw [this]
  simp [madeCells, hj, Nat.mod_one]
theorem MObj.setOther {W : World} {base p b N : Nat} {most : Int} {m : MF} {over : Bool} (h : MObj W base p b N most m over) (q o : Nat) (u : Value) (h1 : p ≠ q) (h2 : b ≠ q) : MObj (W.setCell ⟨q, o, none⟩ u) base p b N most m over :=
  ⟨(Below.heap_setCell _ _ _ _ h1).trans h.blk, h.map.kept (Below.heap_setCell _ _ _ _ h2), h.lo⟩
theorem Was.not {W : World} {base p b N q k : Nat} {most : Int} {m m' : MF} {over : Bool} (h : Was W q m k) (ho : MObj W base p b N most m' over) : q ≠ p ∧ q ≠ b := by
  obtain ⟨cs, h1, h2, h3⟩ := h
  constructor
  · rintro rfl
    rw [ho.blk] at h1
    simp at h1
  · rintro rfl
    obtain ⟨es, clock, hh⟩ := ho.map.block
    rw [h1] at hh
    simp at hh
theorem bel_at {base : Nat} {a W W' : World} (h : Below base a W) (hs : base ≤ a.heap.size) (hb : Below W.heap.size W W') : Below base a W' := h.trans (hb.mono (Nat.le_trans hs h.size))
/-- The calls' cells in a later world. -/
theorem ops_cell {w W : World} {v : Value} {l : List OpD} (h : OpsAt w v l) (hb : Below w.heap.size w W) {ad : Option Addr} {n cap : Nat} (hv : v = .slice ad n cap) (k : Nat) (hk : k < l.length) :
    ∃ g off, ad = some ⟨g, off, none⟩ ∧ OpAt W g (off + k * 4) l[k] ∧ l[k].ok := by
  obtain ⟨ad2, cap2, hv2, hx, ho, _⟩ := h.later hb
  rw [hv] at hv2
  simp only [Value.slice.injEq] at hv2
  obtain ⟨rfl, rfl, rfl⟩ := hv2
  obtain ⟨g, off, ha, hg, hc⟩ := hx (by omega)
  exact ⟨g, off, ha, hc k hk, ho _ (List.getElem_mem hk)⟩
/-- Each text's length is at most the sum. -/
theorem lens_mem (l : List OpD) (i : Nat) (hi : i < l.length) (k : Nat) (hk : i < k) : l[i].t.length ≤ lens l k := by
  induction k with
  | zero => omega
  | succ k ih =>
    unfold lens
    by_cases h : i = k
    · subst h
      rw [List.getElem?_eq_getElem hi]
      exact Nat.le_add_left _ _
    · have := ih (by omega)
      omega
theorem few_text {l : List OpD} (h : fewB l = true) (i : Nat) (hi : i < l.length) : l[i].t.length ≤ 10000 := by
  unfold fewB at h
  rw [Bool.and_eq_true, decide_eq_true_eq, decide_eq_true_eq] at h
  exact Nat.le_trans (lens_mem l i hi _ hi) h.2
theorem few_num {l : List OpD} (h : fewB l = true) : l.length ≤ 60 := by
  unfold fewB at h
  rw [Bool.and_eq_true, decide_eq_true_eq] at h
  exact h.1
/-- What Set leaves at the code, and elsewhere. -/
theorem set_facts (most : Int) (m : MF) (over : Bool) (e : Bool) (n : Int) (s : List UInt8) :
    (setE most m e n s = 0 → (setM most m e n s e n).getD [] = s ∧ (setM most m e n s e n).isSome = !s.isEmpty ∧ ∀ e' n', ¬ (e' = e ∧ n' = n) → setM most m e n s e' n' = m e' n') ∧
    (setE most m e n s ≠ 0 → setM most m e n s = m) ∧ (setE most m e n s = 13 → setO most m over e n s = true) ∧
    (setE most m e n s = 0 ∨ setE most m e n s = 1 ∨ setE most m e n s = 13) := by
  unfold setE setM setO
  by_cases hm : mayB e n = true
  · simp only [hm, if_true]
    by_cases hs : s = []
    · simp only [if_pos hs]
      refine ⟨fun _ => ⟨?_, ?_, fun e' n' h => ?_⟩, fun h => absurd rfl h, fun h => by omega, .inl trivial⟩
      · unfold MF.put; rw [if_pos ⟨rfl, rfl⟩, hs]; rfl
      · unfold MF.put; rw [if_pos ⟨rfl, rfl⟩, hs]; rfl
      · unfold MF.put; rw [if_neg h]
    · simp only [if_neg hs]
      by_cases ho : most < (tot m : Int) - costO (m e n) + 3 + s.length
      · simp only [if_pos ho]
        exact ⟨fun h => by omega, fun _ => trivial, fun _ => trivial, .inr (.inr trivial)⟩
      · simp only [if_neg ho]
        refine ⟨fun _ => ⟨?_, ?_, fun e' n' h => ?_⟩, fun h => absurd rfl h, fun h => by omega, .inl trivial⟩
        · unfold MF.put; rw [if_pos ⟨rfl, rfl⟩]; rfl
        · unfold MF.put; rw [if_pos ⟨rfl, rfl⟩]; cases s <;> simp_all
        · unfold MF.put; rw [if_neg h]
  · simp only [hm]
    exact ⟨fun h => by simp at h, fun _ => rfl, fun h => by simp at h, .inr (.inl (by simp))⟩
theorem st_full {s : List UInt8} (h : s ≠ []) : ¬ (st s).toList = [] ∧ (st s).toList.isEmpty = false := by
  have h1 : ¬ (st s).toList = [] := fun e => h (by rw [ByteArray.toList_eq] at e; simpa [st] using e)
  exact ⟨h1, by simpa using h1⟩
end Go.Proofs.YtnfpfpppnfighaaDoor
