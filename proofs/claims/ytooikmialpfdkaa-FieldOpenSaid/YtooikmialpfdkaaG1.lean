/- FieldOpen: rows of cells that a call makes by append; the plain law of rows without protected cells. -/
import Derived.Test.YtooikmialpfdkaaFZ
namespace Go.Proofs.Ytooikmialpfdkaa
open Go.RowKit
set_option linter.unusedVariables false
set_option linter.unusedSimpArgs false
theorem info44 : (Try.prog.info? 44).map (fun i => (i.zero, i.size, i.bytes)) = some (some (.agg #[.int .i32 0, .int .i64 0, .bool false, .int .i64 0]), 4, 32) := by kernel_rfl
theorem info28 : (Try.prog.info? 28).map (fun i => (i.zero, i.size, i.bytes)) = some (some (.slice none 0 0), 1, 24) := by kernel_rfl
abbrev Cl := Int × Int × Int
def ccells (x : Cl) : List Value := [.int .i32 x.1, .int .i64 x.2.1, .bool false, .int .i64 x.2.2]
/-- A row of open cells of the call's own. -/
def OwnC (w : World) (base : Nat) (v : Value) (L : List Cl) : Prop := w.ownsRow base 44 4 v L.length (L.flatMap ccells)
/-- The rows of the call's own. -/
def OwnR (w : World) (base : Nat) (v : Value) (L : List Value) : Prop := w.ownsRow base 28 1 v L.length L
theorem OwnC.nil (w : World) (base : Nat) : OwnC w base (.slice none 0 0) [] := World.ownsRow_nil _ _ _ _
theorem OwnR.nil (w : World) (base : Nat) : OwnR w base (.slice none 0 0) [] := World.ownsRow_nil _ _ _ _
theorem OwnC.alloc {w : World} {base : Nat} {v : Value} {L : List Cl} (h : OwnC w base v L) (o : Obj) : OwnC (w.alloc o) base v L := World.ownsRow.alloc h o
theorem OwnR.alloc {w : World} {base : Nat} {v : Value} {L : List Value} (h : OwnR w base v L) (o : Obj) : OwnR (w.alloc o) base v L := World.ownsRow.alloc h o
theorem ownsRow_call {w w' : World} {base : Nat} {e : TypeId} {s n : Nat} {v : Value} {L : List Value} (h : w.ownsRow base e s v n L) (hb : Below w.heap.size w w') : w'.ownsRow base e s v n L := by
  obtain ⟨h1, h2⟩ := h
  refine ⟨h1, ?_⟩
  rcases h2 with h2 | ⟨g, cap, cur, hv, hg, hh, r⟩
  · exact .inl h2
  · exact .inr ⟨g, cap, cur, hv, hg, (hb.block g (Array.getElem?_eq_some_iff.1 hh).1).trans hh, r⟩
theorem OwnC.call {w w' : World} {base : Nat} {v : Value} {L : List Cl} (h : OwnC w base v L) (hb : Below w.heap.size w w') : OwnC w' base v L := ownsRow_call h hb
theorem OwnR.call {w w' : World} {base : Nat} {v : Value} {L : List Value} (h : OwnR w base v L) (hb : Below w.heap.size w w') : OwnR w' base v L := ownsRow_call h hb
theorem ccells_len (L : List Cl) : (L.flatMap ccells).length = L.length * 4 := by
  induction L with
  | nil => rfl
  | cons x l ih => simp [ccells, ih]; omega
theorem ccells_get {L : List Cl} {i : Nat} (h : i < L.length) : (L.flatMap ccells)[i * 4]? = some (.int .i32 (L[i]).1) ∧ (L.flatMap ccells)[i * 4 + 1]? = some (.int .i64 (L[i]).2.1) ∧
    (L.flatMap ccells)[i * 4 + 2]? = some (.bool false) ∧ (L.flatMap ccells)[i * 4 + 3]? = some (.int .i64 (L[i]).2.2) := by
  induction L generalizing i with
  | nil => simp at h
  | cons x l ih =>
    cases i with
    | zero => simp [ccells]
    | succ i =>
      have := ih (i := i) (by simpa using h)
      simp only [List.flatMap_cons, ccells, List.getElem_cons_succ]
      rw [show (i + 1) * 4 = i * 4 + 4 by omega]
      simpa using this
theorem OwnC.shape {w : World} {base : Nat} {v : Value} {L : List Cl} (h : OwnC w base v L) : ∃ ad cap, v = .slice ad L.length cap := by
  rcases h.2 with ⟨rfl, h0⟩ | ⟨g, cap, cur, hv, _⟩
  · exact ⟨none, 0, by rw [h0]⟩
  · exact ⟨_, _, hv⟩
theorem OwnR.shape {w : World} {base : Nat} {v : Value} {L : List Value} (h : OwnR w base v L) : ∃ ad cap, v = .slice ad L.length cap := by
  rcases h.2 with ⟨rfl, h0⟩ | ⟨g, cap, cur, hv, _⟩
  · exact ⟨none, 0, by rw [h0]⟩
  · exact ⟨_, _, hv⟩
theorem OwnR.mono {w : World} {base base' : Nat} {v : Value} {L : List Value} (h : OwnR w base v L) (hb : base' ≤ base) : OwnR w base' v L := by
  obtain ⟨h1, h2⟩ := h
  refine ⟨h1, ?_⟩
  rcases h2 with h2 | ⟨g, cap, cur, hv, hg, r⟩
  · exact .inl h2
  · exact .inr ⟨g, cap, cur, hv, by omega, r⟩
/-- A row that stands: in a block of cells. -/
def RowOk (W : World) (L : List Cl) (v : Value) : Prop := ∃ g cap, v = .slice (some ⟨g, 0, none⟩) L.length cap ∧ (∃ cs, W.heap[g]? = some (.cells cs 44 (0, 0))) ∧
  ∀ i (h : i < L.length), W.cell? ⟨g, i * 4, none⟩ = some (.int .i32 (L[i]).1) ∧ W.cell? ⟨g, i * 4 + 1, none⟩ = some (.int .i64 (L[i]).2.1) ∧ W.cell? ⟨g, i * 4 + 2, none⟩ = some (.bool false) ∧ W.cell? ⟨g, i * 4 + 3, none⟩ = some (.int .i64 (L[i]).2.2)
theorem OwnC.rowOk {w : World} {base : Nat} {v : Value} {L : List Cl} (h : OwnC w base v L) (h0 : 0 < L.length) : RowOk w L v := by
  rcases h.2 with ⟨_, h1⟩ | ⟨g, cap, cur, hv, hg, hh, hc, hm, hsz, ht⟩
  · omega
  · refine ⟨g, cap, hv, ⟨cur, hh⟩, fun i hi => ?_⟩
    obtain ⟨k0, k1, k2, k3⟩ := ccells_get hi
    rw [← ht] at k0 k1 k2 k3
    rw [List.getElem?_take] at k0 k1 k2 k3
    rw [if_pos (by omega)] at k0 k1 k2 k3
    simp only [World.cell?, hh]
    simp only [Array.getElem?_toList] at k0 k1 k2 k3
    exact ⟨k0, k1, k2, k3⟩
theorem RowOk.keep {W W' : World} {L : List Cl} {v : Value} (h : RowOk W L v) (hk : ∀ (g : Nat) (cs : Array Value), W.heap[g]? = some (.cells cs 44 (0, 0)) → W'.heap[g]? = some (.cells cs 44 (0, 0))) : RowOk W' L v := by
  obtain ⟨g, cap, hv, ⟨cs, hh⟩, hc⟩ := h
  have e := hk g cs hh
  refine ⟨g, cap, hv, ⟨cs, e⟩, fun i hi => ?_⟩
  obtain ⟨a, b, c, d⟩ := hc i hi
  have h2 : ∀ o, W'.cell? ⟨g, o, none⟩ = W.cell? ⟨g, o, none⟩ := fun o => World.cell?_of_block (e.trans hh.symm)
  exact ⟨(h2 _).trans a, (h2 _).trans b, (h2 _).trans c, (h2 _).trans d⟩
theorem RowOk.call {W W' : World} {L : List Cl} {v : Value} (h : RowOk W L v) (hb : Below W.heap.size W W') : RowOk W' L v :=
  h.keep fun g cs e => (hb.block g (Array.getElem?_eq_some_iff.1 e).1).trans e
theorem OwnR.row {w : World} {base : Nat} {v : Value} {L : List Value} (h : OwnR w base v L) {k : Nat} (hk : v.ownBlock = some k) : base ≤ k ∧ ∃ cs, w.heap[k]? = some (.cells cs 28 (0, 0)) := by
  rcases h.2 with ⟨rfl, _⟩ | ⟨g, cap, cur, rfl, hg, hgb, _⟩
  · simp [Value.ownBlock] at hk
  · simp [Value.ownBlock] at hk
    subst hk
    exact ⟨hg, _, hgb⟩
theorem wp_appC {ops : Array Oper} {rest : List Oper} {o : Oper} {a : Act} {Q : Exit → Act → World → Prop} (hgd : o.guard = none) (s x : Operand)
    (ho : o.op = .call { callee := .builtin .append, args := #[s, x], argTypes := #[28, 28] }) (base : Nat) (v : Value) (L : List Cl) (W : World) (y : Cl) (B : Nat)
    (hs : a.eval s = v) (hx : a.eval x = .slice (some ⟨B, 0, none⟩) 1 1) (hB : W.heap.size = B) (hown : OwnC W base v L) (hbase : base ≤ W.heap.size) (hn : L.length ≤ 1000000)
    (h : ∀ v' w', OwnC w' base v' (L ++ [y]) → Below base W w' → (∀ k, k < W.heap.size → v.ownBlock ≠ some k → w'.heap[k]? = W.heap[k]?) → wpList Try.prog ops Q rest (a.put o.dst v') w') :
    wpList Try.prog ops Q (o :: rest) a (W.alloc (.cells #[.int .i32 y.1, .int .i64 y.2.1, .bool false, .int .i64 y.2.2] 44)) := by
  obtain ⟨i0, hi, hz0, hz1, hz2⟩ := info_parts info44
  subst hB
  refine wpList_append_own _ hgd s x 28 ho base 44 i0 _ 4 32 Try.underlying28 hi hz0 hz1 hz2 rfl (by decide) v L.length _ hs (hown.alloc _) ⟨W.heap.size, 0, none⟩ 1 1 (ccells y) hx rfl ?_ (by simp [ccells, Value.oneCell']) (by unfold maxLen; omega) (by omega) (by simp; omega) ?_
  · intro j u hj
    have hj3 : j < 4 := by
      have := (List.getElem?_eq_some_iff.1 hj).1
      simpa [ccells] using this
    have h3 : j = 0 ∨ j = 1 ∨ j = 2 ∨ j = 3 := by omega
    rcases h3 with rfl | rfl | rfl | rfl <;> (simp [ccells] at hj; subst hj; simp [go_sem, Addr.add])
  · intro v' w' h1 h2 _
    refine h v' w' (by unfold OwnC; simpa using h1) ?_ (fun k hk hne => (h2.block k (by simp; omega) (fun e => hne e.symm)).trans (Below.heap_alloc _ _ _ hk))
    have b1 : Below base W (W.alloc (.cells #[.int .i32 y.1, .int .i64 y.2.1, .bool false, .int .i64 y.2.2] 44)) := (Below.refl _ _).alloc hbase _
    exact b1.grown h2 (by simp; omega) (fun k hk => by
      have := World.ownsRow.lt hown k hk
      omega)
theorem wp_appR {ops : Array Oper} {rest : List Oper} {o : Oper} {a : Act} {Q : Exit → Act → World → Prop} (hgd : o.guard = none) (s x : Operand)
    (ho : o.op = .call { callee := .builtin .append, args := #[s, x], argTypes := #[22, 22] }) (base : Nat) (v : Value) (L : List Value) (W : World) (y : Value) (ad : Option Addr) (l c : Nat) (hy : y = .slice ad l c) (B : Nat)
    (hs : a.eval s = v) (hx : a.eval x = .slice (some ⟨B, 0, none⟩) 1 1) (hB : W.heap.size = B) (hown : OwnR W base v L) (hbase : base ≤ W.heap.size) (hn : L.length ≤ 1000000)
    (h : ∀ v' w', OwnR w' base v' (L ++ [y]) → Below base W w' → (∀ (g : Nat) (cs : Array Value), W.heap[g]? = some (.cells cs 44 (0, 0)) → w'.heap[g]? = some (.cells cs 44 (0, 0))) → wpList Try.prog ops Q rest (a.put o.dst v') w') :
    wpList Try.prog ops Q (o :: rest) a (W.alloc (.cells #[y] 28)) := by
  obtain ⟨i0, hi, hz0, hz1, hz2⟩ := info_parts info28
  subst hB hy
  refine wpList_append_own _ hgd s x 22 ho base 28 i0 _ 1 24 Try.underlying22 hi hz0 hz1 hz2 rfl (by decide) v L.length _ hs (hown.alloc _) ⟨W.heap.size, 0, none⟩ 1 1 [.slice ad l c] hx rfl ?_ (by simp [Value.oneCell']) (by unfold maxLen; omega) (by omega) (by simp; omega) ?_
  · intro j u hj
    have : j = 0 := by
      have := (List.getElem?_eq_some_iff.1 hj).1
      simpa using this
    subst this
    simp at hj
    subst hj
    simp [go_sem, Addr.add]
  · intro v' w' h1 h2 _
    refine h v' w' (by unfold OwnR; simpa using h1) ?_ ?_
    · have b1 : Below base W (W.alloc (.cells #[.slice ad l c] 28)) := (Below.refl _ _).alloc hbase _
      exact b1.grown h2 (by simp; omega) (fun k hk => by
        have := World.ownsRow.lt hown k hk
        omega)
    · intro g cs e
      have hlt := (Array.getElem?_eq_some_iff.1 e).1
      refine (h2.block g (by simp; omega) fun e' => ?_).trans ((Below.heap_alloc _ _ _ hlt).trans e)
      obtain ⟨_, cs', e2⟩ := hown.row e'.symm
      rw [e] at e2
      cases e2
/-- The grid of rows without protected cells. -/
def openGrid (G : Grid) (v : Value) (rows : List Value) : Grid where
  n := G.n
  a := match v with | .slice a _ _ => a | _ => none
  cap := match v with | .slice _ _ c => c | _ => 0
  ra := fun i => match rows[i]? with | some (.slice a _ _) => a | _ => none
  len := G.len
  rc := fun i => match rows[i]? with | some (.slice _ _ c) => c | _ => 0
  gl := G.gl
  tr := G.tr
  gd := fun _ _ => false
  ma := G.ma
/-- The first k cells of row i. -/
def rowC (G : Grid) (i k : Nat) : List Cl := (List.range k).map fun j => (G.gl i j, G.tr i j, G.ma i j)
theorem rowC_len (G : Grid) (i k : Nat) : (rowC G i k).length = k := by simp [rowC]
theorem rowC_succ (G : Grid) (i k : Nat) : rowC G i (k + 1) = rowC G i k ++ [(G.gl i k, G.tr i k, G.ma i k)] := by simp [rowC, List.range_succ]
theorem openGrid_ok {G : Grid} (hok : G.Ok) (v : Value) (rows : List Value) : (openGrid G v rows).Ok := hok
theorem openGrid_v {G : Grid} {w : World} {base : Nat} {v : Value} {rows : List Value} (h : OwnR w base v rows) (hl : rows.length = G.n) : v = (openGrid G v rows).v := by
  obtain ⟨ad, cap, rfl⟩ := h.shape
  rw [hl]
  rfl
theorem openGrid_in {G : Grid} {w : World} {base B0 : Nat} {v : Value} {rows : List Value} (hok : G.Ok) (hG : G.In B0 w) (h : OwnR w base v rows) (hl : rows.length = G.n)
    (hr : ∀ i (hi : i < rows.length), RowOk w (rowC G i (G.len 0)) rows[i]) : (openGrid G v rows).In w.heap.size w := by
  have hlen : ∀ i, i < G.n → G.len i = G.len 0 := fun i hi => (hok.2.2 i hi).2.2
  refine ⟨hG.big, fun h0 => ?_, hG.lens, fun i hi h0 => ?_, hG.glyphs⟩
  · rcases h.2 with ⟨_, h1⟩ | ⟨g, cap, cur, hv, hg, hh, hc, hm, hsz, ht⟩
    · rw [hl] at h1
      have h0' : 0 < G.n := h0
      omega
    · refine ⟨g, 0, by rw [hv]; rfl, (Array.getElem?_eq_some_iff.1 hh).1, fun i hi => ?_⟩
      have hi' : i < rows.length := by rw [hl]; exact hi
      obtain ⟨g2, cap2, hv2, _, _⟩ := hr i hi'
      have e1 : rows[i]? = some (.slice (some ⟨g2, 0, none⟩) (rowC G i (G.len 0)).length cap2) := by rw [List.getElem?_eq_getElem hi', hv2]
      have e2 : cur.toList[i]? = some (.slice (some ⟨g2, 0, none⟩) (rowC G i (G.len 0)).length cap2) := by
        rw [← e1, ← ht, List.getElem?_take, if_pos (by omega)]
      rw [rowC_len] at e2 e1
      simp only [World.cell?, hh, Nat.zero_add]
      simp only [Array.getElem?_toList] at e2
      rw [e2]
      simp only [openGrid, e1, hlen i hi]
      simp
  · have hi' : i < rows.length := by rw [hl]; exact hi
    obtain ⟨g2, cap2, hv2, ⟨cs, hcs⟩, hc⟩ := hr i hi'
    have e1 : rows[i]? = some (.slice (some ⟨g2, 0, none⟩) (rowC G i (G.len 0)).length cap2) := by rw [List.getElem?_eq_getElem hi', hv2]
    refine ⟨g2, 0, by simp only [openGrid, e1], (Array.getElem?_eq_some_iff.1 hcs).1, fun j hj => ?_⟩
    have hj' : j < (rowC G i (G.len 0)).length := by rw [rowC_len, ← hlen i hi]; exact hj
    obtain ⟨a, b, c, d⟩ := hc j hj'
    have ex : (rowC G i (G.len 0))[j] = (G.gl i j, G.tr i j, G.ma i j) := by simp [rowC]
    rw [ex] at a b d
    simp only [Nat.zero_add]
    exact ⟨a, b, c, d⟩
theorem open_rowF {m : Nat} (hm : 1 ≤ m) : rowF (fun _ => false) m = [(0, m - 1)] := by
  have e : ∀ k, fstart (fun _ => false) k = 0 ∧ fdone (fun _ => false) k = [] := by
    intro k
    induction k with
    | zero => exact ⟨rfl, rfl⟩
    | succ k ih => simp [fstart, fdone, ih.1, ih.2]
  unfold rowF
  rw [(e m).1, (e m).2, if_pos (by omega)]
  rfl
theorem open_all {G : Grid} (hg : G.gd = fun _ _ => false) (hm : 1 ≤ G.len 0) (n : Nat) : allF G n = (List.range n).map fun i => (i, 0, G.len 0 - 1) := by
  induction n with
  | zero => rfl
  | succ n ih => rw [allF, ih, hg, open_rowF hm, List.range_succ, List.map_append]; rfl
theorem open_next {G : Grid} (hok : G.Ok) (hg : G.gd = fun _ _ => false) (st o : Int) {r c : Nat} (hr : r < G.n) (hc : c < G.len 0) : foundPos G (nextOf G st o r c) = .tuple #[posV r c, .bool true] := by
  have hm := (hok.2.2 0 hok.1).1
  have hA : 1 ≤ G.n * G.len 0 := Nat.mul_pos hok.1 hm
  have hn : G.num r c o = ((r * G.len 0 + c : Nat) : Int) := num_there hr hc o
  have e : nextOf G st o r c = some ((r * G.len 0 + c : Nat) : Int) := by
    unfold nextOf
    rw [okB_yes hok, if_pos rfl, hn]
    obtain ⟨t, ht⟩ := orbit_prefix (A := (G.n * G.len 0 : Nat)) (st := st) (s := ((r * G.len 0 + c : Nat) : Int)) (show 1 ≤ G.n * G.len 0 from hA)
    rw [ht, show orbit (G.n * G.len 0 : Nat) st ((r * G.len 0 + c : Nat) : Int) 1 = [((r * G.len 0 + c : Nat) : Int)] from rfl]
    have ho : openN G ((r * G.len 0 + c : Nat) : Int) = true := by rw [openN_at hc, hg]; rfl
    simp only [List.cons_append, List.nil_append, List.find?_cons, ho]
  rw [e, found_at hc]
end Go.Proofs.Ytooikmialpfdkaa
