/- Send: what it sends, as lists; bytes that a call makes by append; the walk. -/
import Derived.Test.YtooikmialpfdkaaF3
import Derived.Outline
namespace Go.Proofs.Ytooikmialpfdkaa
open Go.RowKit
set_option linter.unusedVariables false

/-- What k cells of a row, from b on, send; and whether one of them was open. -/
def rowOut (gd : Nat → Bool) (gl : Nat → Int) (b : Nat) : Nat → List Int × Bool
  | 0 => ([], false)
  | k + 1 => if gd (b + k) then rowOut gd gl b k else ((rowOut gd gl b k).1 ++ (if (rowOut gd gl b k).2 = true ∧ gd (b + k - 1) = true then [28] else []) ++ [byteOf (gl (b + k))], true)
/-- The first and the last column of row r. -/
def beginOf (fr fc r : Nat) : Nat := if r = fr then fc else 0
def endOf (m tr tc r : Nat) : Nat := if r = tr then tc else m - 1
/-- What k rows, from fr on, send. -/
def sendRows (G : Grid) (fr fc tr tc : Nat) : Nat → List Int
  | 0 => []
  | k + 1 => sendRows G fr fc tr tc k ++ (rowOut (G.gd (fr + k)) (G.gl (fr + k)) (beginOf fr fc (fr + k)) (endOf (G.len 0) tr tc (fr + k) + 1 - beginOf fr fc (fr + k))).1 ++ (if fr + k < tr then [31] else [])
def sendOut (G : Grid) (fr fc tr tc : Nat) : List Int := sendRows G fr fc tr tc (tr + 1 - fr)

theorem rowOut_len (gd : Nat → Bool) (gl : Nat → Int) (b k : Nat) : (rowOut gd gl b k).1.length ≤ 2 * k := by
  induction k with
  | zero => simp [rowOut]
  | succ k ih =>
    unfold rowOut
    split
    · omega
    · simp only [List.length_append, List.length_cons, List.length_nil]
      split <;> simp <;> omega
theorem rowOut_zero (gd : Nat → Bool) (gl : Nat → Int) (b : Nat) : rowOut gd gl b 0 = ([], false) := rfl
theorem rowOut_skip (gd : Nat → Bool) (gl : Nat → Int) (b k : Nat) (h : gd (b + k) = true) : rowOut gd gl b (k + 1) = rowOut gd gl b k := by
  simp [rowOut, h]
theorem rowOut_sep (gd : Nat → Bool) (gl : Nat → Int) (b k : Nat) (h : gd (b + k) = false) (hs : (rowOut gd gl b k).2 = true) (hp : gd (b + k - 1) = true) :
    rowOut gd gl b (k + 1) = ((rowOut gd gl b k).1 ++ [28] ++ [byteOf (gl (b + k))], true) := by
  simp [rowOut, h, hs, hp]
theorem rowOut_add (gd : Nat → Bool) (gl : Nat → Int) (b k : Nat) (h : gd (b + k) = false) (hs : (rowOut gd gl b k).2 = true → gd (b + k - 1) = false) :
    rowOut gd gl b (k + 1) = ((rowOut gd gl b k).1 ++ [byteOf (gl (b + k))], true) := by
  simp only [rowOut, h]
  by_cases e : (rowOut gd gl b k).2 = true
  · simp [e, hs e]
  · simp [e]
theorem rowOut_sent (gd : Nat → Bool) (gl : Nat → Int) (b k : Nat) (h : (rowOut gd gl b k).2 = true) : 1 ≤ k := by
  cases k with
  | zero => simp [rowOut] at h
  | succ k => omega
theorem sendRows_len (G : Grid) (fr fc tr tc : Nat) (hm : G.len 0 ≤ 255) (htc : tc ≤ 255) (k : Nat) : (sendRows G fr fc tr tc k).length ≤ 1000 * k := by
  induction k with
  | zero => simp [sendRows]
  | succ k ih =>
    have h1 := rowOut_len (G.gd (fr + k)) (G.gl (fr + k)) (beginOf fr fc (fr + k)) (endOf (G.len 0) tr tc (fr + k) + 1 - beginOf fr fc (fr + k))
    have h2 : endOf (G.len 0) tr tc (fr + k) ≤ 255 := by unfold endOf; split <;> omega
    simp only [sendRows, List.length_append]
    split <;> simp <;> omega

/-- A slice of bytes of the call's own. -/
def OwnB (w : World) (base : Nat) (v : Value) (L : List Int) : Prop := w.ownsRow base 5 1 v L.length (L.map (Value.int .u8))
theorem info5 : (Try.prog.info? 5).map (fun i => (i.zero, i.size, i.bytes)) = some (some (.int .u8 0), 1, 1) := by kernel_rfl
theorem OwnB.nil (w : World) (base : Nat) : OwnB w base (.slice none 0 0) [] := World.ownsRow_nil _ _ _ _
theorem OwnB.alloc {w : World} {base : Nat} {v : Value} {L : List Int} (h : OwnB w base v L) (o : Obj) : OwnB (w.alloc o) base v L := World.ownsRow.alloc h o
theorem OwnB.drewN {w : World} {base : Nat} {v : Value} {L : List Int} (h : OwnB w base v L) (n : Nat) : OwnB (w.drewN n) base v L := h
theorem OwnB.call {w w' : World} {base : Nat} {v : Value} {L : List Int} (h : OwnB w base v L) (hb : Below w.heap.size w w') : OwnB w' base v L := by
  obtain ⟨h1, h2⟩ := h
  refine ⟨h1, ?_⟩
  rcases h2 with h2 | ⟨g, cap, cur, hv, hg, hh, r⟩
  · exact .inl h2
  · exact .inr ⟨g, cap, cur, hv, hg, (hb.block g (Array.getElem?_eq_some_iff.1 hh).1).trans hh, r⟩
theorem wp_app1 {ops : Array Oper} {rest : List Oper} {o : Oper} {a : Act} {Q : Exit → Act → World → Prop} (hgd : o.guard = none) (s x : Operand)
    (ho : o.op = .call { callee := .builtin .append, args := #[s, x], argTypes := #[45, 45] }) (base : Nat) (v : Value) (L : List Int) (W : World) (y : Int) (B : Nat)
    (hs : a.eval s = v) (hx : a.eval x = .slice (some ⟨B, 0, none⟩) 1 1) (hB : W.heap.size = B) (hown : OwnB W base v L) (hbase : base ≤ W.heap.size) (hn : L.length ≤ 1000000000)
    (h : ∀ v' w', OwnB w' base v' (L ++ [y]) → Below base W w' → wpList Try.prog ops Q rest (a.put o.dst v') w') : wpList Try.prog ops Q (o :: rest) a (W.alloc (.cells #[.int .u8 y] 5)) := by
  obtain ⟨i0, hi, hz0, hz1, hz2⟩ := info_parts info5
  subst hB
  refine wpList_append_own _ hgd s x 45 ho base 5 i0 (.int .u8 0) 1 1 Try.underlying45 hi hz0 hz1 hz2 rfl (by decide) v L.length _ hs (hown.alloc _) ⟨W.heap.size, 0, none⟩ 1 1 [.int .u8 y] hx rfl ?_ (by simp [Value.oneCell']) (by unfold maxLen; omega) (by omega) (by simp; omega) ?_
  · intro j u hj
    have : j = 0 := by
      have := (List.getElem?_eq_some_iff.1 hj).1
      simpa using this
    subst this
    simp at hj
    subst hj
    simp [go_sem, Addr.add]
  · intro v' w' h1 h2 _
    refine h v' w' (by unfold OwnB; simpa using h1) ?_
    have b1 : Below base W (W.alloc (.cells #[.int .u8 y] 5)) := (Below.refl _ _).alloc hbase _
    exact b1.grown h2 (by simp; omega) (fun k hk => by
      have := World.ownsRow.lt hown k hk
      omega)
theorem conv_own {w : World} {base : Nat} {v : Value} {L : List Int} (h : OwnB w base v L) : (convert 45 9 v).run Try.prog w = .ok (.string (strOfNums L)) w := by
  obtain ⟨h1, h2⟩ := h
  rcases h2 with ⟨hv, hn⟩ | ⟨g, cap, cur, hv, hg, hh, hc, hm, hsz, ht⟩
  · subst hv
    rw [run_convert_bytes_nil w 45 5 Try.underlying45 Try.underlying5 0 0 9 Try.underlying9]
    have : L = [] := List.length_eq_zero_iff.1 hn
    subst this
    rfl
  · subst hv
    refine run_convert_bytes_arg w 45 5 Try.underlying45 Try.underlying5 g 0 L.length cap L rfl ?_ 9 Try.underlying9
    intro i hi
    have hi' : i < cur.size := by omega
    simp only [World.cell?, Nat.zero_add, hh]
    have e := congrArg (fun l => l[i]?) ht
    simp [hi] at e
    simp [e, List.getD, hi]
end Go.Proofs.Ytooikmialpfdkaa
