/- remap: Clear; same: a map against the document's. -/
import Derived.Test.YtnfpfpppnfighaaDoorPC
import Derived.Sort.QuietIn
namespace Go.Proofs.YtnfpfpppnfighaaDoor
open Go.Shelf Go.RowKit Go.Maps Go.Lib
set_option linter.unusedVariables false
set_option linter.unusedSimpArgs false
set_option maxRecDepth 100000
theorem run_clear83 (W : World) (b N : Nat) (m : MF) (h : MapT W b N m) (ty : TypeId) :
    ∃ W', (Builtin.clear_ #[83] ty #[.map (some b)]).run Tryd.prog W = .ok (.tuple #[]) W' ∧ MapT W' b 0 (fun _ _ => none) ∧ W.grownBy W' (some b) := by
  obtain ⟨D, ⟨es, clock, hb, F, hs, hD⟩, hm⟩ := h
  have hu := run_underlying Tryd.underlying83
  have hlt := (Array.getElem?_eq_some_iff.1 hb).1
  refine ⟨W.putObj b (.map #[] clock), ?_, ⟨.map [], ?_, fun e n l hl => ⟨rfl, fun s hs => by cases hs⟩⟩, ?_⟩
  · simp [Builtin.clear_, hu, MapKept.run_getObj_map hb, MapKept.run_setObj_map _ hb, Result.andThen, World.putObj]
  · exact ⟨#[], clock, World.putObj_heap_same hlt, ⟨by simp, MapKept.stamped_empty clock, by simp⟩, Nat.le_refl _, rfl⟩
  · exact ⟨rfl, rfl, rfl, by simp [World.putObj], fun i hi hne => World.putObj_heap_other (by rintro rfl; exact hne rfl)⟩
set_option maxHeartbeats 1000000 in
theorem clear_any (W : World) (base p b N : Nat) (most : Int) (m : MF) (over : Bool) (h : MObj W base p b N most m over) :
    Calls Tryd.prog 23 #[.pointer (some ⟨p, 0, none⟩)] W fun r w' => r = .returned (.tuple #[]) ∧ MObj w' base p b 0 most (fun _ _ => none) false ∧ TO p b W w' := by
  have hne := h.ne
  obtain ⟨⟨k0, k1, k2, k3⟩, f2, f3⟩ := h.cells
  obtain ⟨W1, hrun, hm1, hg1⟩ := run_clear83 W b N m h.map 0
  have hp1 : W1.heap[p]? = some (.cells #[.map (some b), .int .i64 most, .int .i64 (tot m), .bool over] 85 (0, 0)) := (hg1.block p h.lt (fun e => hne (by cases e; rfl))).trans h.blk
  have s1 := heap_setCell_same W1 p 2 _ _ (.int .i64 0) hp1
  have s2 := heap_setCell_same (W1.setCell ⟨p, 2, none⟩ (.int .i64 0)) p 3 _ _ (.bool false) s1
  have HF := Lib.hid (show MObj ((W1.setCell ⟨p, 2, none⟩ (.int .i64 0)).setCell ⟨p, 3, none⟩ (.bool false)) base p b 0 most (fun _ _ => none) false ∧ TO p b W ((W1.setCell ⟨p, 2, none⟩ (.int .i64 0)).setCell ⟨p, 3, none⟩ (.bool false)) from by
    refine ⟨⟨by rw [s2, tot_none]; rfl, (hm1.kept (heap_setCell_other _ _ _ _ (by show b ≠ p; exact hne))).kept (heap_setCell_other _ _ _ _ (by show b ≠ p; exact hne)), h.lo⟩, ?_⟩
    exact ((TO.of_below (Below.refl _ _)).grown hg1 |>.setP 2 _).setP 3 _)
  have c2 : W1.cell? ⟨p, 2, none⟩ = some (.int .i64 (tot m)) := by simp [World.cell?, hp1]
  have f21 : W1.frozen? ⟨p, 2, none⟩ = false := Lib.frozen_of_heap hp1 2
  have c3 : W1.cell? ⟨p, 3, none⟩ = some (.bool over) := by simp [World.cell?, hp1]
  have f31 : W1.frozen? ⟨p, 3, none⟩ = false := Lib.frozen_of_heap hp1 3
  have c3' : (W1.setCell ⟨p, 2, none⟩ (.int .i64 0)).cell? ⟨p, 3, none⟩ = some (.bool over) := by simp [World.cell?, s1]
  have f31' : (W1.setCell ⟨p, 2, none⟩ (.int .i64 0)).frozen? ⟨p, 3, none⟩ = false := Lib.frozen_of_heap s1 3
  clear h hm1 hg1 hp1 s1 s2 hne
  go_enter Tryd.func23, Tryd.ntmps23
  go_wp2_with fail
  go_end0
  exact ⟨rfl, HF.out⟩
end Go.Proofs.YtnfpfpppnfighaaDoor
