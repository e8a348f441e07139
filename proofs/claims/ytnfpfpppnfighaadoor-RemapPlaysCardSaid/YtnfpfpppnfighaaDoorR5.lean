/- remap: items: plain, and the walk. -/
import Derived.Test.YtnfpfpppnfighaaDoorR4
import Derived.Deep.AppendLies
import Derived.Deep.RegionLaw
namespace Go.Proofs.YtnfpfpppnfighaaDoor
open Go.Shelf Go.RowKit
set_option linter.unusedVariables false
set_option linter.unusedSimpArgs false
set_option maxRecDepth 100000
theorem itemsF_fuel : ∀ (f g : Nat) (t : List UInt8), t.length < f → t.length < g → itemsF f t = itemsF g t := by
  intro f
  induction f with
  | zero => intro g t h; omega
  | succ f ih =>
    intro g t h1 h2
    cases g with
    | zero => omega
    | succ g =>
      simp only [itemsF]
      cases hi : itemP t with
      | none => rfl
      | some p =>
        obtain ⟨x, r⟩ := p
        have := (itemP_len hi).1
        cases r with
        | nil => rfl
        | cons b r =>
          simp only
          by_cases hb : b = 59
          · rw [if_pos hb, if_pos hb, ih g r (by simp at this; omega) (by simp at this; omega)]
          · rw [if_neg hb, if_neg hb]
/-- A body's parts. -/
def items (l : List UInt8) : Option (List Itm) := itemsF (l.length + 1) l
theorem items_none {l : List UInt8} (h : itemP l = none) : items l = none := by unfold items itemsF; rw [h]
theorem items_last {l : List UInt8} {x : Itm} (h : itemP l = some (x, [])) : items l = some [x] := by unfold items itemsF; rw [h]
theorem items_bad {l r : List UInt8} {x : Itm} {b : UInt8} (h : itemP l = some (x, b :: r)) (hb : b ≠ 59) : items l = none := by unfold items itemsF; rw [h]; simp only; rw [if_neg hb]
theorem items_more {l r : List UInt8} {x : Itm} (h : itemP l = some (x, 59 :: r)) : items l = (items r).map (x :: ·) := by
  have := (itemP_len h).1
  unfold items
  rw [itemsF, h]
  simp only [if_true]
  rw [itemsF_fuel l.length (r.length + 1) r (by simp at this; omega) (by omega)]
theorem OwnT.nil (w : World) (base : Nat) : OwnT w base (.slice none 0 0) [] := World.ownsRow_nil _ _ _ _
theorem OwnT.call {w w' : World} {base : Nat} {v : Value} {L : List Itm} (h : OwnT w base v L) (hb : Below w.heap.size w w') : OwnT w' base v L := by
  obtain ⟨h1, h2⟩ := h
  refine ⟨h1, ?_⟩
  rcases h2 with h2 | ⟨g, cap, cur, hv, hg, hh, r⟩
  · exact .inl h2
  · exact .inr ⟨g, cap, cur, hv, hg, (hb.block g (Array.getElem?_eq_some_iff.1 hh).1).trans hh, r⟩
theorem OwnT.blocks {w w' : World} {base : Nat} {v : Value} {L : List Itm} (h : OwnT w base v L) (hb : ∀ k, v.ownBlock = some k → w'.heap[k]? = w.heap[k]?) : OwnT w' base v L := by
  obtain ⟨h1, h2⟩ := h
  refine ⟨h1, ?_⟩
  rcases h2 with h2 | ⟨g, cap, cur, hv, hg, hh, r⟩
  · exact .inl h2
  · exact .inr ⟨g, cap, cur, hv, hg, (hb g (by rw [hv]; rfl)).trans hh, r⟩
theorem OwnT.form {w : World} {base : Nat} {v : Value} {L : List Itm} (h : OwnT w base v L) : ∃ ad cap, v = .slice ad L.length cap ∧ L.length ≤ cap ∧ (0 < L.length → ∃ g cs, ad = some ⟨g, 0, none⟩ ∧ base ≤ g ∧ w.heap[g]? = some (.cells cs 66 (0, 0)) ∧
    ∀ i (hi : i < L.length), cs[i * 3]? = some (.bool L[i].num) ∧ cs[i * 3 + 1]? = some (.int .i64 L[i].n) ∧ cs[i * 3 + 2]? = some (.string (st L[i].text))) := by
  obtain ⟨h1, h2⟩ := h
  rcases h2 with ⟨rfl, h0⟩ | ⟨g, cap, cur, hv, hg, hh, hc, hm, hsz, ht⟩
  · exact ⟨none, 0, by rw [h0], by omega, by omega⟩
  · refine ⟨_, cap, hv, hc, fun h0 => ⟨g, cur, rfl, hg, hh, fun i hi => ?_⟩⟩
    obtain ⟨k0, k1, k2⟩ := icells_get hi
    rw [← ht] at k0 k1 k2
    rw [List.getElem?_take] at k0 k1 k2
    rw [if_pos (by omega)] at k0 k1 k2
    simp only [Array.getElem?_toList] at k0 k1 k2
    exact ⟨k0, k1, k2⟩
theorem OwnT.own {w : World} {base : Nat} {v : Value} {L : List Itm} (h : OwnT w base v L) {k : Nat} (hk : v.ownBlock = some k) : base ≤ k ∧ ∃ cs, w.heap[k]? = some (.cells cs 66 (0, 0)) := by
  rcases h.2 with ⟨rfl, _⟩ | ⟨g, cap, cur, rfl, hg, hgb, _⟩
  · simp [Value.ownBlock] at hk
  · simp [Value.ownBlock] at hk
    subst hk
    exact ⟨hg, _, hgb⟩
/-- One part more, at a step of a region that draws. -/
theorem step_appT {ops : Array Oper} {o : Oper} {a : Act} {K : Act → World → Prop} {Q : Exit → Act → World → Prop} {E : Prop} (hgd : o.guard = none) (s x : Operand)
    (ho : o.op = .call { callee := .builtin .append, args := #[s, x], argTypes := #[95, 95] }) (base : Nat) (v : Value) (L : List Itm) (W : World) (y : Itm) (B : Nat)
    (hs : a.eval s = v) (hx : a.eval x = .slice (some ⟨B, 0, none⟩) 1 1) (hB : W.heap.size = B) (hown : OwnT W base v L) (hbase : base ≤ W.heap.size) (hn : L.length ≤ 1000000)
    (h : ∀ ad cap w', OwnT w' base (.slice ad (L.length + 1) cap) (L ++ [y]) → Below base W w' → (∀ k, k < W.heap.size → v.ownBlock ≠ some k → w'.heap[k]? = W.heap[k]?) → K (a.put o.dst (.slice ad (L.length + 1) cap)) w') :
    if Region.wanted o (yielded ops a.tmps) = true then Oper.wp Tryd.prog o a (W.alloc (.cells #[.bool y.num, .int .i64 y.n, .string (st y.text)] 66)).drew K Q else E := by
  obtain ⟨i0, hi, hz0, hz1, hz2⟩ := info_parts info66
  subst hB
  refine step_append_lies _ hgd s x 95 ho base 66 i0 _ 3 32 Tryd.underlying95 hi hz0 hz1 hz2 rfl (by decide) v L.length _ hs (World.ownsRow.alloc hown _) ⟨W.heap.size, 0, none⟩ 1 1 (icells y) hx rfl ?_ (by simp [icells, Value.oneCell']) (by decide) (by unfold maxLen; omega) (by omega) (by show base ≤ (W.alloc _).heap.size; simp; omega) _ rfl ?_
  · intro j u hj
    have hj3 : j < 3 := by
      have := (List.getElem?_eq_some_iff.1 hj).1
      simpa [icells] using this
    have h3 : j = 0 ∨ j = 1 ∨ j = 2 := by omega
    rcases h3 with rfl | rfl | rfl <;> (simp [icells] at hj; subst hj; simp [go_sem, Addr.add])
  · intro g cap w' h1 h2 _ _
    refine h _ cap w' (by unfold OwnT; simpa using h1) ?_ (fun k hk hne => (h2.block k (by show k < (W.alloc _).heap.size; simp; omega) (fun e => hne e.symm)).trans (Below.heap_alloc _ _ _ hk))
    have b1 : Below base W (W.alloc (.cells #[.bool y.num, .int .i64 y.n, .string (st y.text)] 66)).drew := ((Below.refl _ _).alloc hbase _).drew
    exact b1.grown h2 (by show base ≤ (W.alloc _).heap.size; simp; omega) (fun k hk => by
      have := World.ownsRow.lt hown k hk
      omega)
end Go.Proofs.YtnfpfpppnfighaaDoor
