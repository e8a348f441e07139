/- KeysAll: slices of keys that a call makes by append; what its body keeps. -/
import Derived.Test.YtkenihkfjepdfaaKL
import Derived.Test.YtkenihkfjepdfaaK9
namespace Go.Proofs.Ytkenihkfjepdfaa
open Go.RowKit Go.Shelf
set_option linter.unusedVariables false
set_option linter.unusedSimpArgs false
attribute [local go_sem] Oper.semAt_some

/-- As w was below N, but for block By. -/
structure Sav (By N : Nat) (w W : World) : Prop where
  os : W.os = w.os
  tape : W.tape = w.tape
  output : W.output = w.output
  size : w.heap.size ≤ W.heap.size
  block : ∀ k, k < N → k ≠ By → W.heap[k]? = w.heap[k]?
theorem Sav.refl (By N : Nat) (w : World) : Sav By N w w := ⟨rfl, rfl, rfl, Nat.le_refl _, fun _ _ _ => rfl⟩
theorem Sav.below {By N n₁ : Nat} {w W : World} (h : Sav By N w W) (h1 : n₁ ≤ By) (h2 : n₁ ≤ N) : Below n₁ w W :=
  ⟨h.os, h.tape, h.output, h.size, fun k hk => h.block k (by omega) (by omega)⟩
theorem Sav.cell {By N : Nat} {w W : World} (h : Sav By N w W) {b o : Nat} (h1 : b < N) (h2 : b ≠ By) : W.cell? ⟨b, o, none⟩ = w.cell? ⟨b, o, none⟩ :=
  World.cell?_of_block (h.block b h1 h2)
theorem Sav.frozen {By N : Nat} {w W : World} (h : Sav By N w W) {b o : Nat} (h1 : b < N) (h2 : b ≠ By) : W.frozen? ⟨b, o, none⟩ = w.frozen? ⟨b, o, none⟩ :=
  World.frozen?_of_block (h.block b h1 h2)
theorem Sav.set {By N : Nat} {w W : World} (h : Sav By N w W) (u : Value) : Sav By N w (W.setCell ⟨By, 0, none⟩ u) :=
  ⟨h.os, h.tape, h.output, by simpa [World.setCell] using h.size, fun k h1 h2 => (Below.heap_setCell _ _ _ _ h2).trans (h.block k h1 h2)⟩
theorem Sav.step {By N n : Nat} {w W W' : World} (h : Sav By N w W) (hN : N ≤ n) (hb : Below n W W') : Sav By N w W' :=
  ⟨hb.os.trans h.os, hb.tape.trans h.tape, hb.output.trans h.output, Nat.le_trans h.size hb.size, fun k h1 h2 => (hb.block k (by omega)).trans (h.block k h1 h2)⟩
theorem Sav.ownFrom {β : Type} {By N B : Nat} {w : World} (hN : N ≤ B) (hw : N ≤ w.heap.size) : OwnFrom B (fun (_ : β) W => Sav By N w W) := fun _ W W' row h hg hr => by
  have hne : ∀ k, k < B → some k ≠ row := fun k hk e => by have := (hr k e.symm).1; omega
  exact ⟨hg.os.trans h.os, hg.tape.trans h.tape, hg.output.trans h.output, Nat.le_trans h.size hg.size,
    fun k h1 h2 => (hg.block k (by have := h.size; omega) (hne k (by omega))).trans (h.block k h1 h2)⟩
/-- A slice of keys of the call's own. -/
def kcells (x : Ky) : List Value := [.int .i64 x.1, .int .i64 x.2, .bool false, .bool false]
def OwnK (w : World) (base : Nat) (v : Value) (L : List Ky) : Prop := w.ownsRow base 23 4 v L.length (L.flatMap kcells)
theorem info23 : (Try.prog.info? 23).map (fun i => (i.zero, i.size, i.bytes)) = some (some (.agg #[.int .i64 0, .int .i64 0, .bool false, .bool false]), 4, 24) := by kernel_rfl
theorem OwnK.nil (w : World) (base : Nat) : OwnK w base (.slice none 0 0) [] := World.ownsRow_nil _ _ _ _
theorem OwnK.alloc {w : World} {base : Nat} {v : Value} {L : List Ky} (h : OwnK w base v L) (o : Obj) : OwnK (w.alloc o) base v L := World.ownsRow.alloc h o
theorem kcells_len (L : List Ky) : (L.flatMap kcells).length = L.length * 4 := by
  induction L with
  | nil => rfl
  | cons x l ih => simp [kcells, ih]; omega
theorem kcells_last (L : List Ky) (y : Ky) : ((L ++ [y]).flatMap kcells)[L.length * 4]? = some (.int .i64 y.1) ∧ ((L ++ [y]).flatMap kcells)[L.length * 4 + 1]? = some (.int .i64 y.2) := by
  have h := kcells_len L
  rw [List.flatMap_append, ← h]
  constructor
  · rw [List.getElem?_append_right (by omega)]; simp [kcells]
  · rw [List.getElem?_append_right (by omega)]; simp [kcells]
theorem OwnK.last {w : World} {base : Nat} {v : Value} {L : List Ky} {y : Ky} (h : OwnK w base v (L ++ [y])) : ∃ g cap, v = .slice (some ⟨g, 0, none⟩) (L.length + 1) cap ∧ g < w.heap.size ∧
    w.cell? ⟨g, L.length * 4, none⟩ = some (.int .i64 y.1) ∧ w.cell? ⟨g, L.length * 4 + 1, none⟩ = some (.int .i64 y.2) := by
  obtain ⟨h1, h2⟩ := h
  rcases h2 with ⟨_, h0⟩ | ⟨g, cap, cur, hv, hg, hh, hc, hm, hsz, ht⟩
  · simp at h0
  · refine ⟨g, cap, by rw [hv]; simp, (Array.getElem?_eq_some_iff.1 hh).1, ?_⟩
    obtain ⟨k0, k1⟩ := kcells_last L y
    rw [← ht, List.getElem?_take] at k0 k1
    simp only [List.length_append, List.length_cons, List.length_nil] at k0 k1
    rw [if_pos (by omega)] at k0 k1
    simp only [World.cell?, hh]
    simp only [Array.getElem?_toList] at k0 k1
    exact ⟨k0, k1⟩
theorem OwnK.call {w w' : World} {base : Nat} {v : Value} {L : List Ky} (h : OwnK w base v L) (hb : Below w.heap.size w w') : OwnK w' base v L := by
  obtain ⟨h1, h2⟩ := h
  refine ⟨h1, ?_⟩
  rcases h2 with h2 | ⟨g, cap, cur, hv, hg, hh, r⟩
  · exact .inl h2
  · exact .inr ⟨g, cap, cur, hv, hg, (hb.block g (Array.getElem?_eq_some_iff.1 hh).1).trans hh, r⟩
theorem OwnK.shape {w : World} {base : Nat} {v : Value} {L : List Ky} (h : OwnK w base v L) : ∃ ad cap, v = .slice ad L.length cap := by
  rcases h.2 with ⟨rfl, h0⟩ | ⟨g, cap, cur, hv, _⟩
  · exact ⟨none, 0, by rw [h0]⟩
  · exact ⟨_, _, hv⟩
theorem OwnK.kept {w w' : World} {base : Nat} {v : Value} {L : List Ky} {row : Option Nat} (h : OwnK w base v L) (hg : w.grownBy w' row) (hr : ∀ r, row = some r → ∃ o : Obj, w.heap[r]? = some o ∧ o.isCells = false) : OwnK w' base v L := by
  refine World.ownsRow.kept h hg ?_
  rcases h.2 with ⟨rfl, _⟩ | ⟨g, cap, cur, rfl, _, hgb, _⟩
  · exact .inl rfl
  · refine .inr fun e => ?_
    obtain ⟨o, ho, hc⟩ := hr g (by rw [← e]; rfl)
    rw [ho] at hgb
    cases hgb
    cases hc
theorem boxed_kept {W W' : World} {row : Option Nat} {B : Nat} {t : TypeId} {v : Value} (h : Boxed W B t v) (hg : W.grownBy W' row) (hr : ∀ r, row = some r → ∃ o : Obj, W.heap[r]? = some o ∧ o.isCells = false) : Boxed W' B t v := by
  refine h.kept hg fun e => ?_
  obtain ⟨o, ho, hc⟩ := hr B e.symm
  rw [show W.heap[B]? = _ from h] at ho
  cases ho
  cases hc
theorem OwnK.other {w : World} {base By : Nat} {v u : Value} {L : List Ky} (h : OwnK w base v L) (hB : By < base) : OwnK (w.setCell ⟨By, 0, none⟩ u) base v L := by
  obtain ⟨h1, h2⟩ := h
  refine ⟨h1, ?_⟩
  rcases h2 with h2 | ⟨g, cap, cur, hv, hg, hh, r⟩
  · exact .inl h2
  · exact .inr ⟨g, cap, cur, hv, hg, (Below.heap_setCell _ _ _ _ (by simp; omega)).trans hh, r⟩
theorem OwnK.mono {w : World} {base base' : Nat} {v : Value} {L : List Ky} (h : OwnK w base v L) (hb : base' ≤ base) : OwnK w base' v L := by
  obtain ⟨h1, h2⟩ := h
  refine ⟨h1, ?_⟩
  rcases h2 with h2 | ⟨g, cap, cur, hv, hg, r⟩
  · exact .inl h2
  · exact .inr ⟨g, cap, cur, hv, by omega, r⟩
theorem OwnK.row {w : World} {base : Nat} {v : Value} {L : List Ky} (h : OwnK w base v L) {k : Nat} (hk : v.ownBlock = some k) : base ≤ k ∧ ∃ o : Obj, w.heap[k]? = some o ∧ o.isCells = true := by
  rcases h.2 with ⟨rfl, _⟩ | ⟨g, cap, cur, rfl, hg, hgb, _⟩
  · simp [Value.ownBlock] at hk
  · simp [Value.ownBlock] at hk
    subst hk
    exact ⟨hg, _, hgb, rfl⟩
theorem wpIn_appK {F : Fence} {n : Nat} {ops : Array Oper} {rest : List Oper} {o : Oper} {a : Act} {Q : Exit → Act → World → Prop} (hgd : o.guard = none) (s x : Operand)
    (ho : o.op = .call { callee := .builtin .append, args := #[s, x], argTypes := #[40, 40] }) (base : Nat) (v : Value) (L : List Ky) (W : World) (y : Ky) (B : Nat)
    (hs : a.eval s = v) (hx : a.eval x = .slice (some ⟨B, 0, none⟩) 1 1) (hB : W.heap.size = B) (hown : OwnK W base v L) (hbase : base ≤ W.heap.size) (hn : L.length ≤ 1000000)
    (h : ∀ v' w', OwnK w' base v' (L ++ [y]) → (W.alloc (.cells #[.int .i64 y.1, .int .i64 y.2, .bool false, .bool false] 23)).grownBy w' v.ownBlock → wpListIn F n Try.prog ops Q rest (a.put o.dst v') w') :
    wpListIn F n Try.prog ops Q (o :: rest) a (W.alloc (.cells #[.int .i64 y.1, .int .i64 y.2, .bool false, .bool false] 23)) := by
  obtain ⟨i0, hi, hz0, hz1, hz2⟩ := info_parts info23
  subst hB
  refine wpListIn_append_own _ hgd s x 40 ho base 23 i0 _ 4 24 Try.underlying40 hi hz0 hz1 hz2 rfl (by decide) v L.length _ hs (hown.alloc _) ⟨W.heap.size, 0, none⟩ 1 1 (kcells y) hx rfl ?_ (by simp [kcells, Value.oneCell']) (by unfold maxLen; omega) (by omega) (by simp; omega) ?_
  · intro j u hj
    have hj3 : j < 4 := by
      have := (List.getElem?_eq_some_iff.1 hj).1
      simpa [kcells] using this
    have h3 : j = 0 ∨ j = 1 ∨ j = 2 ∨ j = 3 := by omega
    rcases h3 with rfl | rfl | rfl | rfl <;> (simp [kcells] at hj; subst hj; simp [go_sem, Addr.add])
  · intro v' w' h1 h2 _
    exact h v' w' (by unfold OwnK; simpa using h1) h2
theorem OwnK.typed {w : World} {base : Nat} {v : Value} {L : List Ky} (h : OwnK w base v L) {k : Nat} (hk : v.ownBlock = some k) : ∃ cs, w.heap[k]? = some (Obj.cells cs 23 (0, 0)) := by
  rcases h.2 with ⟨rfl, _⟩ | ⟨g, cap, cur, rfl, hg, hgb, _⟩
  · simp [Value.ownBlock] at hk
  · simp [Value.ownBlock] at hk
    subst hk
    exact ⟨_, hgb⟩
/-- The whole step of an append to a slice that lies in a box. -/
theorem box_append {By base : Nat} {W W1 w2 : World} {v v1 x1 : Value} {L L1 : List Ky} {o : Obj} {B : Nat} (hW : Sav By base w2 W) (hbase : base ≤ W.heap.size) (hBy : By < base) (ho : OwnK W base v L) (h1 : OwnK W1 base v1 L1) (hg : (W.alloc o).grownBy W1 v.ownBlock) (hb : Boxed W1 By 40 x1) :
    KeepsFrom B W (W1.setCell ⟨By, 0, none⟩ v1) ∧ Kp54 W (W1.setCell ⟨By, 0, none⟩ v1) ∧ Sav By base w2 (W1.setCell ⟨By, 0, none⟩ v1) ∧ Boxed (W1.setCell ⟨By, 0, none⟩ v1) By 40 v1 ∧ OwnK (W1.setCell ⟨By, 0, none⟩ v1) base v1 L1 := by
  refine ⟨?_, ?_, ?_, hb.set v1, h1.other hBy⟩
  · refine (((KeepsOthers.alloc _ _).from B).trans ⟨hg.size, fun k p _ hk hc => ?_⟩).trans ((KeepsOthers.setCell _ _ _).from _)
    refine (hg.block k (Array.getElem?_eq_some_iff.1 hk).1 fun e => ?_).trans hk
    obtain ⟨_, q, hq, hqc⟩ := (ho.alloc o).row e.symm
    rw [hq] at hk
    cases hk
    rw [hc] at hqc
    cases hqc
  · intro b cs fz e
    have hlt := (Array.getElem?_eq_some_iff.1 e).1
    have e1 : W1.heap[b]? = some (Obj.cells cs 54 fz) := by
      refine (hg.block b (by simp; omega) fun e' => ?_).trans ((Below.heap_alloc _ _ _ hlt).trans e)
      obtain ⟨cs', h'⟩ := (ho.alloc o).typed e'.symm
      rw [(Below.heap_alloc _ _ _ hlt).trans e] at h'
      cases h'
    refine (Below.heap_setCell _ _ _ _ ?_).trans e1
    intro e2
    subst e2
    rw [show W1.heap[b]? = _ from hb] at e1
    cases e1
  · refine Sav.set ?_ v1
    have hs1 := hg.size
    simp at hs1
    refine ⟨hg.os.trans hW.os, hg.tape.trans hW.tape, hg.output.trans hW.output, Nat.le_trans hW.size (by omega), fun k k1 k2 => ?_⟩
    refine ((hg.block k (by simp; omega) fun e => ?_).trans (Below.heap_alloc _ _ _ (by omega))).trans (hW.block k k1 k2)
    have := (ho.row e.symm).1
    omega
end Go.Proofs.Ytkenihkfjepdfaa
