/- The fields of a row, and of rows, as lists; slices of fields that a call makes by append. -/
import Derived.Test.YtooikmialpfdkaaF4
import Derived.OwnWalkIn
namespace Go.Proofs.Ytooikmialpfdkaa
open Go.RowKit
set_option linter.unusedVariables false

/-- Where the field begins that is under way ahead of column k. -/
def fstart (gd : Nat → Bool) : Nat → Nat
  | 0 => 0
  | k + 1 => if gd k then k + 1 else fstart gd k
/-- The fields that are ended ahead of column k. -/
def fdone (gd : Nat → Bool) : Nat → List (Nat × Nat)
  | 0 => []
  | k + 1 => if gd k = true ∧ fstart gd k < k then fdone gd k ++ [(fstart gd k, k - 1)] else fdone gd k
/-- The fields of k columns. -/
def rowF (gd : Nat → Bool) (k : Nat) : List (Nat × Nat) := if fstart gd k < k then fdone gd k ++ [(fstart gd k, k - 1)] else fdone gd k
theorem fstart_le (gd : Nat → Bool) (k : Nat) : fstart gd k ≤ k := by
  induction k with
  | zero => exact Nat.le_refl _
  | succ k ih => unfold fstart; split <;> omega
theorem rowF_guard {gd : Nat → Bool} {k : Nat} (h : gd k = true) : rowF gd (k + 1) = rowF gd k := by
  simp [rowF, fdone, fstart, h]
theorem fstart_new {gd : Nat → Bool} {k : Nat} (h : k = 0 ∨ gd (k - 1) = true) : fstart gd k = k := by
  cases k with
  | zero => rfl
  | succ k =>
    simp at h
    simp [fstart, h]
theorem rowF_new {gd : Nat → Bool} {k : Nat} (h : gd k = false) (h1 : k = 0 ∨ gd (k - 1) = true) : rowF gd (k + 1) = rowF gd k ++ [(k, k)] := by
  simp [rowF, fdone, fstart, h, fstart_new h1]
theorem fstart_more {gd : Nat → Bool} {k : Nat} (h0 : k ≠ 0) (h : gd (k - 1) = false) : fstart gd k < k := by
  cases k with
  | zero => exact absurd rfl h0
  | succ k =>
    simp at h
    have := fstart_le gd k
    simp [fstart, h]
    omega
theorem rowF_more {gd : Nat → Bool} {k : Nat} (h : gd k = false) (h0 : k ≠ 0) (h1 : gd (k - 1) = false) :
    rowF gd k = fdone gd k ++ [(fstart gd k, k - 1)] ∧ rowF gd (k + 1) = fdone gd k ++ [(fstart gd k, k)] := by
  have := fstart_more h0 h1
  constructor
  · simp [rowF, this]
  · simp [rowF, fdone, fstart, h]
    omega
theorem fdone_succ (gd : Nat → Bool) (k : Nat) : fdone gd (k + 1) = if gd k = true ∧ fstart gd k < k then fdone gd k ++ [(fstart gd k, k - 1)] else fdone gd k := rfl
theorem fstart_succ (gd : Nat → Bool) (k : Nat) : fstart gd (k + 1) = if gd k then k + 1 else fstart gd k := rfl
theorem fdone_len (gd : Nat → Bool) (k : Nat) : (fdone gd k).length ≤ k := by
  induction k with
  | zero => exact Nat.le_refl _
  | succ k ih =>
    rw [fdone_succ]; split
    · simp; omega
    · omega
theorem fdone_len' (gd : Nat → Bool) (k : Nat) : (fdone gd k).length ≤ fstart gd k := by
  induction k with
  | zero => exact Nat.le_refl _
  | succ k ih =>
    have := fstart_le gd k
    rw [fdone_succ, fstart_succ]; split
    · next h => rw [if_pos h.1]; simp; omega
    · split <;> omega
theorem rowF_len (gd : Nat → Bool) (k : Nat) : (rowF gd k).length ≤ k := by
  have := fdone_len' gd k
  have := fstart_le gd k
  unfold rowF; split <;> simp <;> omega

/-- A field: its row, its first and its last column. -/
abbrev Fd := Nat × Nat × Nat
def fcells (f : Fd) : List Value := [.int .i64 (f.1 : Int), .int .i64 (f.2.1 : Int), .int .i64 (f.2.2 : Int)]
def inRow (r : Nat) (l : List (Nat × Nat)) : List Fd := l.map fun p => (r, p.1, p.2)
/-- The fields of k rows. -/
def allF (G : Grid) : Nat → List Fd
  | 0 => []
  | k + 1 => allF G k ++ inRow k (rowF (G.gd k) (G.len 0))
noncomputable def fieldsOf (G : Grid) : List Fd := if G.okB then allF G G.n else []
theorem inRow_len (r : Nat) (l : List (Nat × Nat)) : (inRow r l).length = l.length := by simp [inRow]
theorem allF_len (G : Grid) (k : Nat) : (allF G k).length ≤ k * G.len 0 := by
  induction k with
  | zero => simp [allF]
  | succ k ih =>
    have := rowF_len (G.gd k) (G.len 0)
    simp only [allF, List.length_append, inRow_len, Nat.add_mul]
    omega
theorem allF_le (G : Grid) {k d : Nat} : ∃ t, allF G (k + d) = allF G k ++ t := by
  induction d with
  | zero => exact ⟨[], by simp⟩
  | succ d ih =>
    obtain ⟨t, ht⟩ := ih
    exact ⟨t ++ inRow (k + d) (rowF (G.gd (k + d)) (G.len 0)), by rw [← Nat.add_assoc, allF, ht, List.append_assoc]⟩
theorem allF_pre (G : Grid) {k n : Nat} (h : k ≤ n) : ∃ t, allF G n = allF G k ++ t := by
  obtain ⟨d, rfl⟩ := Nat.exists_eq_add_of_le h
  exact allF_le G
theorem fdone_pre (gd : Nat → Bool) {k n : Nat} (h : k ≤ n) : ∃ t, fdone gd n = fdone gd k ++ t := by
  obtain ⟨d, rfl⟩ := Nat.exists_eq_add_of_le h
  clear h
  induction d with
  | zero => exact ⟨[], by simp⟩
  | succ d ih =>
    obtain ⟨t, ht⟩ := ih
    rw [← Nat.add_assoc, fdone_succ]
    split
    · exact ⟨t ++ [(fstart gd (k + d), k + d - 1)], by rw [ht, List.append_assoc]⟩
    · exact ⟨t, ht⟩

/-- A slice of fields of the call's own; e: the fields' type. -/
def OwnF (e : TypeId) (w : World) (base : Nat) (v : Value) (L : List Fd) : Prop := w.ownsRow base e 3 v L.length (L.flatMap fcells)
theorem info39 : (Try.prog.info? 39).map (fun i => (i.zero, i.size, i.bytes)) = some (some (.agg #[.int .i64 0, .int .i64 0, .int .i64 0]), 3, 24) := by kernel_rfl
theorem info40 : (Try.prog.info? 40).map (fun i => (i.zero, i.size, i.bytes)) = some (some (.agg #[.int .i64 0, .int .i64 0, .int .i64 0]), 3, 24) := by kernel_rfl
theorem OwnF.nil (e : TypeId) (w : World) (base : Nat) : OwnF e w base (.slice none 0 0) [] := World.ownsRow_nil _ _ _ _
theorem OwnF.alloc {e : TypeId} {w : World} {base : Nat} {v : Value} {L : List Fd} (h : OwnF e w base v L) (o : Obj) : OwnF e (w.alloc o) base v L := World.ownsRow.alloc h o
theorem OwnF.drewN {e : TypeId} {w : World} {base : Nat} {v : Value} {L : List Fd} (h : OwnF e w base v L) (n : Nat) : OwnF e (w.drewN n) base v L := h
theorem OwnF.drew {e : TypeId} {w : World} {base : Nat} {v : Value} {L : List Fd} (h : OwnF e w base v L) : OwnF e w.drew base v L := h
theorem OwnF.call {e : TypeId} {w w' : World} {base : Nat} {v : Value} {L : List Fd} (h : OwnF e w base v L) (hb : Below w.heap.size w w') : OwnF e w' base v L := by
  obtain ⟨h1, h2⟩ := h
  refine ⟨h1, ?_⟩
  rcases h2 with h2 | ⟨g, cap, cur, hv, hg, hh, r⟩
  · exact .inl h2
  · exact .inr ⟨g, cap, cur, hv, hg, (hb.block g (Array.getElem?_eq_some_iff.1 hh).1).trans hh, r⟩
theorem fcells_len (L : List Fd) : (L.flatMap fcells).length = L.length * 3 := by
  induction L with
  | nil => rfl
  | cons x l ih => simp [fcells, ih]; omega
theorem fcells_get {L : List Fd} {i : Nat} (h : i < L.length) :
    (L.flatMap fcells)[i * 3]? = some (.int .i64 (L[i].1 : Int)) ∧ (L.flatMap fcells)[i * 3 + 1]? = some (.int .i64 (L[i].2.1 : Int)) ∧ (L.flatMap fcells)[i * 3 + 2]? = some (.int .i64 (L[i].2.2 : Int)) := by
  induction L generalizing i with
  | nil => simp at h
  | cons x l ih =>
    cases i with
    | zero => simp [fcells]
    | succ i =>
      have := ih (i := i) (by simpa using h)
      simp only [List.flatMap_cons, fcells, List.getElem_cons_succ]
      rw [show (i + 1) * 3 = i * 3 + 3 by omega]
      simpa using this
/-- What is read of such a slice. -/
theorem OwnF.read {e : TypeId} {w : World} {base : Nat} {v : Value} {L : List Fd} (h : OwnF e w base v L) (hne : 0 < L.length) : ∃ g cap, v = .slice (some ⟨g, 0, none⟩) L.length cap ∧ base ≤ g ∧ g < w.heap.size ∧
    ∀ i (hi : i < L.length), w.cell? ⟨g, i * 3, none⟩ = some (.int .i64 (L[i].1 : Int)) ∧ w.cell? ⟨g, i * 3 + 1, none⟩ = some (.int .i64 (L[i].2.1 : Int)) ∧ w.cell? ⟨g, i * 3 + 2, none⟩ = some (.int .i64 (L[i].2.2 : Int)) := by
  obtain ⟨h1, h2⟩ := h
  rcases h2 with ⟨_, h0⟩ | ⟨g, cap, cur, hv, hg, hh, hc, hm, hsz, ht⟩
  · omega
  · refine ⟨g, cap, hv, hg, (Array.getElem?_eq_some_iff.1 hh).1, fun i hi => ?_⟩
    obtain ⟨k0, k1, k2⟩ := fcells_get hi
    rw [← ht] at k0 k1 k2
    rw [List.getElem?_take] at k0 k1 k2
    rw [if_pos (by omega)] at k0 k1 k2
    simp only [World.cell?, hh]
    simp only [Array.getElem?_toList] at k0 k1 k2
    exact ⟨k0, k1, k2⟩
theorem OwnF.shape {e : TypeId} {w : World} {base : Nat} {v : Value} {L : List Fd} (h : OwnF e w base v L) : ∃ ad cap, v = .slice ad L.length cap := by
  rcases h.2 with ⟨rfl, h0⟩ | ⟨g, cap, cur, hv, _⟩
  · exact ⟨none, 0, by rw [h0]⟩
  · exact ⟨_, _, hv⟩
theorem wp_appF {e t : TypeId} {i0 : TypeInfo} {z : Value} (hu : Try.prog.underlying t = some (.slice e)) (hi : Try.prog.info? e = some i0) (hz0 : i0.zero = some z) (hz1 : i0.size = 3) (hz2 : i0.bytes = 24) (hz3 : z.cells.size = 3)
    {ops : Array Oper} {rest : List Oper} {o : Oper} {a : Act} {Q : Exit → Act → World → Prop} (hgd : o.guard = none) (s x : Operand)
    (ho : o.op = .call { callee := .builtin .append, args := #[s, x], argTypes := #[t, t] }) (base : Nat) (v : Value) (L : List Fd) (W : World) (y : Fd) (B : Nat)
    (hs : a.eval s = v) (hx : a.eval x = .slice (some ⟨B, 0, none⟩) 1 1) (hB : W.heap.size = B) (hown : OwnF e W base v L) (hbase : base ≤ W.heap.size) (hn : L.length ≤ 1000000)
    (h : ∀ v' w', OwnF e w' base v' (L ++ [y]) → Below base W w' → wpList Try.prog ops Q rest (a.put o.dst v') w') : wpList Try.prog ops Q (o :: rest) a (W.alloc (.cells #[.int .i64 (y.1 : Int), .int .i64 (y.2.1 : Int), .int .i64 (y.2.2 : Int)] e)) := by
  subst hB
  refine wpList_append_own _ hgd s x t ho base e i0 z 3 24 hu hi hz0 hz1 hz2 hz3 (by decide) v L.length _ hs (hown.alloc _) ⟨W.heap.size, 0, none⟩ 1 1 (fcells y) hx rfl ?_ (by simp [fcells, Value.oneCell']) (by unfold maxLen; omega) (by omega) (by simp; omega) ?_
  · intro j u hj
    have hj3 : j < 3 := by
      have := (List.getElem?_eq_some_iff.1 hj).1
      simpa [fcells] using this
    have h3 : j = 0 ∨ j = 1 ∨ j = 2 := by omega
    rcases h3 with rfl | rfl | rfl <;> (simp [fcells] at hj; subst hj; simp [go_sem, Addr.add])
  · intro v' w' h1 h2 _
    refine h v' w' (by unfold OwnF; simpa using h1) ?_
    have b1 : Below base W (W.alloc (.cells #[.int .i64 (y.1 : Int), .int .i64 (y.2.1 : Int), .int .i64 (y.2.2 : Int)] e)) := (Below.refl _ _).alloc hbase _
    exact b1.grown h2 (by simp; omega) (fun k hk => by
      have := World.ownsRow.lt hown k hk
      omega)
theorem wp_app39 {ops : Array Oper} {rest : List Oper} {o : Oper} {a : Act} {Q : Exit → Act → World → Prop} (hgd : o.guard = none) (s x : Operand)
    (ho : o.op = .call { callee := .builtin .append, args := #[s, x], argTypes := #[33, 33] }) (base : Nat) (v : Value) (L : List Fd) (W : World) (y : Fd) (B : Nat)
    (hs : a.eval s = v) (hx : a.eval x = .slice (some ⟨B, 0, none⟩) 1 1) (hB : W.heap.size = B) (hown : OwnF 39 W base v L) (hbase : base ≤ W.heap.size) (hn : L.length ≤ 1000000)
    (h : ∀ v' w', OwnF 39 w' base v' (L ++ [y]) → Below base W w' → wpList Try.prog ops Q rest (a.put o.dst v') w') : wpList Try.prog ops Q (o :: rest) a (W.alloc (.cells #[.int .i64 (y.1 : Int), .int .i64 (y.2.1 : Int), .int .i64 (y.2.2 : Int)] 39)) := by
  obtain ⟨i0, hi, hz0, hz1, hz2⟩ := info_parts info39
  exact wp_appF Try.underlying33 hi hz0 hz1 hz2 rfl hgd s x ho base v L W y B hs hx hB hown hbase hn h
theorem wp_app40 {ops : Array Oper} {rest : List Oper} {o : Oper} {a : Act} {Q : Exit → Act → World → Prop} (hgd : o.guard = none) (s x : Operand)
    (ho : o.op = .call { callee := .builtin .append, args := #[s, x], argTypes := #[36, 36] }) (base : Nat) (v : Value) (L : List Fd) (W : World) (y : Fd) (B : Nat)
    (hs : a.eval s = v) (hx : a.eval x = .slice (some ⟨B, 0, none⟩) 1 1) (hB : W.heap.size = B) (hown : OwnF 40 W base v L) (hbase : base ≤ W.heap.size) (hn : L.length ≤ 1000000)
    (h : ∀ v' w', OwnF 40 w' base v' (L ++ [y]) → Below base W w' → wpList Try.prog ops Q rest (a.put o.dst v') w') : wpList Try.prog ops Q (o :: rest) a (W.alloc (.cells #[.int .i64 (y.1 : Int), .int .i64 (y.2.1 : Int), .int .i64 (y.2.2 : Int)] 40)) := by
  obtain ⟨i0, hi, hz0, hz1, hz2⟩ := info_parts info40
  exact wp_appF Try.underlying36 hi hz0 hz1 hz2 rfl hgd s x ho base v L W y B hs hx hB hown hbase hn h
end Go.Proofs.Ytooikmialpfdkaa
