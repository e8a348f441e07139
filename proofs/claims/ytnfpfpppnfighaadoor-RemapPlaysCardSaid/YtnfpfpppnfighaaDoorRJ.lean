/- remap's map: what is read of it, and how it turns. -/
import Derived.Test.YtnfpfpppnfighaaDoorRC
import Derived.Test.YtnfpfpppnfighaaDoorFr
import Derived.Maps.OwnSet
import Derived.Maps.StringElems
import Derived.DeepKeys4
namespace Go.Proofs.YtnfpfpppnfighaaDoor
open Go.Shelf Go.RowKit Go.Maps
set_option linter.unusedVariables false
set_option linter.unusedSimpArgs false
set_option maxRecDepth 100000
def codeV (e : Bool) (n : Int) : Value := .agg #[.bool e, .int .i64 n]
theorem keyed24 : Keyed Tryd.prog 24 := Keyed.of_law (deep_law_laid (m := 3) laidOut (by decide) (of_decide_eq_true (by kernel_rfl)) (by kernel_rfl) (by kernel_rfl))
theorem size_types : Tryd.prog.types.size = (Tryd.prog.types.size - 1) + 1 := by decide +kernel
theorem keyType24 : Tryd.prog.keyType 24 = true := by kernel_rfl
theorem cellsOf24 : Tryd.prog.cellsOf 24 = 2 := by kernel_rfl
theorem cellsOf4 : Tryd.prog.cellsOf 4 = 1 := by kernel_rfl
theorem cellsOf3 : Tryd.prog.cellsOf 3 = 1 := by kernel_rfl
theorem lits4 (d : Nat) (e : Bool) : Tryd.prog.keyLits (d + 1) 4 [.bool e] = some [.bool e] := by
  unfold Program.keyLits
  simp only [Tryd.underlying4]
theorem lits3 (d : Nat) (n : Int) (h : (Lit.int .i64 n).wf = true) : Tryd.prog.keyLits (d + 1) 3 [.int .i64 n] = some [.int .i64 n] := by
  unfold Program.keyLits
  simp only [Tryd.underlying3]
  rw [if_pos ⟨trivial, h⟩]
theorem wf_i64 {n : Int} (h0 : -9223372036854775808 ≤ n) (h1 : n ≤ 9223372036854775807) : (Lit.int .i64 n).wf = true := by
  simp [Lit.wf, IntKind.min, IntKind.max, IntKind.signed, IntKind.bits]
  omega
theorem key24 (e : Bool) (n : Int) (h0 : -9223372036854775808 ≤ n) (h1 : n ≤ 9223372036854775807) : ∃ l, keyOf Tryd.prog 24 (codeV e n) = some l := by
  have hl : Tryd.prog.keyLits (Tryd.prog.types.size + 1) 24 [.bool e, .int .i64 n] = some [.bool e, .int .i64 n] := by
    rw [size_types]
    unfold Program.keyLits
    simp only [Tryd.underlying24]
    rw [if_pos ⟨by rw [cellsOf24]; rfl, by decide +kernel⟩]
    simp [cellsOf4, cellsOf3, lits4, lits3 _ n (wf_i64 h0 h1)]
  refine ⟨.string (keyBytes [.bool e, .int .i64 n]), ?_⟩
  unfold keyOf
  simp only [Tryd.underlying24]
  rw [if_pos (by rw [keyType24]; simp [codeV, Value.formed, Tryd.underlying24, cellsOf24])]
  show (Tryd.prog.keyLits (Tryd.prog.types.size + 1) 24 [.bool e, .int .i64 n]).map _ = _
  rw [hl]
  rfl
theorem code_inj {e e' : Bool} {n n' : Int} {l : Lit} (h : keyOf Tryd.prog 24 (codeV e n) = some l) (h' : keyOf Tryd.prog 24 (codeV e' n') = some l) : e = e' ∧ n = n' := by
  have := keyed24.inj h h'
  simp [codeV] at this
  exact this
/-- Which text a code tells. -/
abbrev MF := Bool → Int → Option (List UInt8)
def MF.put (m : MF) (e : Bool) (n : Int) (v : Option (List UInt8)) : MF := fun e' n' => if e' = e ∧ n' = n then v else m e' n'
def MapT (W : World) (b N : Nat) (m : MF) : Prop := ∃ D : DataW Unit, W.ownsMap Tryd.prog 24 (plainElem (H := Unit) Tryd.prog 9) b N D ∧
  ∀ e n l, keyOf Tryd.prog 24 (codeV e n) = some l → Maps.has D l = (m e n).isSome ∧ ∀ s, m e n = some s → ∀ z, D.atKey l z = .lit (.string s)
theorem st_of_list {s : ByteArray} {l : List UInt8} (h : s.data.toList = l) : s = st l := by rw [← h]; exact st_of s
theorem MapT.look {W : World} {b N : Nat} {m : MF} (h : MapT W b N m) (e : Bool) (n : Int) (h0 : -9223372036854775808 ≤ n) (h1 : n ≤ 9223372036854775807) :
    (Instr.lookup 83 (.map (some b)) (codeV e n) true).run Tryd.prog W = .ok (.tuple #[.string (st ((m e n).getD [])), .bool (m e n).isSome]) W := by
  obtain ⟨D, hD, hm⟩ := h
  obtain ⟨l, hl⟩ := key24 e n h0 h1
  have hz0 : plainElem (H := Unit) Tryd.prog 9 (.string { data := #[] }) = some (.lit (.string []), []) := plainElem_string Tryd.underlying9 (by decide)
  obtain ⟨v, ps, hrun, hv⟩ := hD.look_ok keyed24 Tryd.underlying83 (z := .string { data := #[] }) (zd := .lit (.string [])) (zp := []) (by kernel_rfl) hz0 hl
  obtain ⟨k1, k2⟩ := hm e n l hl
  rw [hrun, k1]
  obtain ⟨s, rfl, hs, _⟩ := plainElem_string_inv Tryd.underlying9 hv
  cases hc : m e n with
  | none =>
    rw [hc] at k1
    rw [Maps.atKey_of_not_has k1] at hs
    simp only [Prod.mk.injEq] at hs
    obtain ⟨hs, _⟩ := hs
    have : s.data.toList = [] := by
      have := hs
      simp at this
      simpa using this.symm
    rw [st_of_list this]
    rfl
  | some t =>
    rw [k2 t hc] at hs
    have : s.data.toList = t := by
      simp at hs
      exact hs.1.symm
    rw [st_of_list this]
    rfl
theorem MapT.lt {W : World} {b N : Nat} {m : MF} (h : MapT W b N m) : b < W.heap.size := by obtain ⟨D, hD, _⟩ := h; exact World.ownsMap.lt hD
theorem MapT.kept {W W' : World} {b N : Nat} {m : MF} (h : MapT W b N m) (hb : W'.heap[b]? = W.heap[b]?) : MapT W' b N m := by
  obtain ⟨D, ⟨es, clock, hh, r⟩, hm⟩ := h
  exact ⟨D, ⟨es, clock, hb.trans hh, r⟩, hm⟩
theorem MapT.block {W : World} {b N : Nat} {m : MF} (h : MapT W b N m) : ∃ es clock, W.heap[b]? = some (.map es clock) := by
  obtain ⟨D, ⟨es, clock, hh, r⟩, hm⟩ := h
  exact ⟨es, clock, hh⟩
theorem MapT.made (W : World) : MapT (W.alloc (.map #[] 0)) W.heap.size 0 (fun _ _ => none) :=
  ⟨.map [], World.ownsMap_made W Tryd.prog 24 _, fun e n l hl => ⟨rfl, fun s hs => by cases hs⟩⟩
theorem MapT.tell {W : World} {b N : Nat} {m : MF} (h : MapT W b N m) (hN : N < maxLen) (e : Bool) (n : Int) (h0 : -9223372036854775808 ≤ n) (h1 : n ≤ 9223372036854775807) (s : List UInt8) (hs : s.length ≤ maxLen) :
    ∃ W', (Instr.mapUpdate 83 (.map (some b)) (codeV e n) (.string (st s))).run Tryd.prog W = .ok () W' ∧ MapT W' b (N + 1) (m.put e n (some s)) ∧ W.grownBy W' (some b) := by
  obtain ⟨D, hD, hm⟩ := h
  obtain ⟨l, hl⟩ := key24 e n h0 h1
  have hI := World.ownsMap.isMap hD
  obtain ⟨W', r1, r2, r3⟩ := hD.update keyed24 Tryd.underlying83 hN hl (plainElem_string (H := Unit) Tryd.underlying9 (s := st s) (by rw [st_size]; exact hs))
  refine ⟨W', r1, ⟨_, r2, fun e' n' l' hl' => ?_⟩, r3⟩
  unfold MF.put
  by_cases hk : e' = e ∧ n' = n
  · obtain ⟨rfl, rfl⟩ := hk
    rw [hl] at hl'
    cases hl'
    rw [if_pos ⟨rfl, rfl⟩]
    refine ⟨Maps.has_put_same hI (keyed24.key hl) _, fun s' hs' z => ?_⟩
    cases hs'
    rw [Maps.atKey_put_same hI (keyed24.key hl), st_list]
  · rw [if_neg hk]
    have hne : l' ≠ l := fun e2 => hk (by subst e2; exact code_inj hl' hl)
    obtain ⟨k1, k2⟩ := hm e' n' l' hl'
    exact ⟨by rw [Maps.has_put_other hne]; exact k1, fun s' hs' z => by rw [Maps.atKey_put_other hne]; exact k2 s' hs' z⟩
theorem MapT.strike {W : World} {b N : Nat} {m : MF} (h : MapT W b N m) (e : Bool) (n : Int) (h0 : -9223372036854775808 ≤ n) (h1 : n ≤ 9223372036854775807) (ty : TypeId) :
    ∃ W', (Builtin.delete_ #[83, 24] ty #[.map (some b), codeV e n]).run Tryd.prog W = .ok (.tuple #[]) W' ∧ MapT W' b N (m.put e n none) ∧ W.grownBy W' (some b) := by
  obtain ⟨D, hD, hm⟩ := h
  obtain ⟨l, hl⟩ := key24 e n h0 h1
  obtain ⟨W', r1, r2, r3⟩ := hD.drop keyed24 Tryd.underlying83 hl ty
  refine ⟨W', r1, ⟨_, r2, fun e' n' l' hl' => ?_⟩, r3.grown⟩
  unfold MF.put
  by_cases hk : e' = e ∧ n' = n
  · obtain ⟨rfl, rfl⟩ := hk
    rw [hl] at hl'
    cases hl'
    rw [if_pos ⟨rfl, rfl⟩]
    exact ⟨Maps.has_del_same, fun s' hs' => by cases hs'⟩
  · rw [if_neg hk]
    have hne : l' ≠ l := fun e2 => hk (by subst e2; exact code_inj hl' hl)
    obtain ⟨k1, k2⟩ := hm e' n' l' hl'
    exact ⟨by rw [Maps.has_del_other hne]; exact k1, fun s' hs' z => by rw [Maps.atKey_del_other hne]; exact k2 s' hs' z⟩
/-- What an entry takes. -/
def costO : Option (List UInt8) → Nat
  | none => 0
  | some s => 3 + s.length
def sumTo (f : Nat → Nat) : Nat → Nat
  | 0 => 0
  | k + 1 => sumTo f k + f k
theorem sumTo_same {f g : Nat → Nat} : ∀ (k : Nat), (∀ j, j < k → f j = g j) → sumTo f k = sumTo g k
  | 0, _ => rfl
  | k + 1, h => by simp only [sumTo]; rw [sumTo_same k (fun j hj => h j (by omega)), h k (by omega)]
theorem sumTo_one {f g : Nat → Nat} {i : Nat} : ∀ (k : Nat), (∀ j, j < k → j ≠ i → f j = g j) → i < k → sumTo f k + g i = sumTo g k + f i
  | 0, _, h0 => by omega
  | k + 1, h, h0 => by
    simp only [sumTo]
    by_cases hi : i = k
    · subst hi
      rw [sumTo_same i (fun j hj => h j (by omega) (by omega))]
      omega
    · have := sumTo_one k (fun j hj => h j (by omega)) (by omega)
      rw [h k (by omega) (fun e => hi e.symm)]
      omega
theorem sumTo_ge {f : Nat → Nat} {i : Nat} : ∀ (k : Nat), i < k → f i ≤ sumTo f k
  | 0, h0 => by omega
  | k + 1, h0 => by
    simp only [sumTo]
    by_cases hi : i = k
    · subst hi; omega
    · have := sumTo_ge (f := f) k (show i < k by omega); omega
def at512 (m : MF) (i : Nat) : Nat := costO (m (decide (256 ≤ i)) ((i % 256 : Nat) : Int))
/-- What all entries take. -/
def tot (m : MF) : Nat := sumTo (at512 m) 512
def idx (e : Bool) (n : Nat) : Nat := (if e then 256 else 0) + n
theorem idx_at (m : MF) (e : Bool) (n : Nat) (hn : n < 256) : idx e n < 512 ∧ at512 m (idx e n) = costO (m e n) := by
  unfold idx at512
  cases e with
  | true =>
    refine ⟨by simp; omega, ?_⟩
    rw [if_pos rfl, show (256 + n) % 256 = n by omega, show decide (256 ≤ 256 + n) = true by simp]
  | false =>
    refine ⟨by simp; omega, ?_⟩
    rw [if_neg (by simp), show (0 + n) % 256 = n by omega, show decide (256 ≤ 0 + n) = false by simp; omega]
theorem tot_put (m : MF) (e : Bool) (n : Nat) (hn : n < 256) (v : Option (List UInt8)) : tot (m.put e n v) + costO (m e n) = tot m + costO v := by
  obtain ⟨h1, h2⟩ := idx_at m e n hn
  obtain ⟨_, h3⟩ := idx_at (m.put e n v) e n hn
  have h4 : (m.put e n v) e n = v := by unfold MF.put; rw [if_pos ⟨rfl, rfl⟩]
  rw [h4] at h3
  have := sumTo_one (f := at512 (m.put e n v)) (g := at512 m) (i := idx e n) 512 (fun j hj hne => by
    unfold at512 MF.put
    rw [if_neg]
    rintro ⟨a, b⟩
    apply hne
    unfold idx
    by_cases h256 : 256 ≤ j
    · rw [decide_eq_true h256] at a
      rw [← a, if_pos rfl]
      omega
    · rw [decide_eq_false h256] at a
      rw [← a, if_neg (by simp)]
      omega) h1
  unfold tot
  omega
theorem tot_ge (m : MF) (e : Bool) (n : Nat) (hn : n < 256) : costO (m e n) ≤ tot m := by
  obtain ⟨h1, h2⟩ := idx_at m e n hn
  rw [← h2]
  exact sumTo_ge 512 h1
end Go.Proofs.YtnfpfpppnfighaaDoor
