/- Maps of texts by codes: what is read of the map without entries, or with one. -/
import Derived.Test.YtkenihkfjepdfaaK9
import Derived.Test.YtkenihkfjepdfaaFr
import Derived.Maps.OwnSet
import Derived.Maps.StringElems
import Derived.DeepKeys4
namespace Go.Proofs.Ytkenihkfjepdfaa
open Go.RowKit Go.Maps
set_option linter.unusedVariables false
abbrev codeV (e : Bool) (n : Int) : Value := .agg #[.bool e, .int .i64 n]
theorem keyed46 : Keyed Try.prog 46 := Keyed.of_law (deep_law_laid (m := 3) laidOut (by decide) (of_decide_eq_true (by kernel_rfl)) (by kernel_rfl) (by kernel_rfl))
theorem key46_all : ∀ n : Fin 256, (((keyOf Try.prog 46 (codeV true ((n.val : Nat) : Int))).isSome) && ((keyOf Try.prog 46 (codeV false ((n.val : Nat) : Int))).isSome)) = true := by decide +kernel
theorem key46 (e : Bool) (n : Nat) (h : n < 256) : ∃ l, keyOf Try.prog 46 (codeV e n) = some l := by
  have := key46_all ⟨n, h⟩
  simp only [Bool.and_eq_true] at this
  cases e
  · exact Option.isSome_iff_exists.1 this.2
  · exact Option.isSome_iff_exists.1 this.1
/-- The texts that are told: none, or one. -/
abbrev Told := Option ((Bool × Nat) × ByteArray)
def toldAt (o : Told) (e : Bool) (n : Nat) : ByteArray × Bool := match o with
  | some (k, s) => if k = (e, n) then (s, true) else ({ data := #[] }, false)
  | none => ({ data := #[] }, false)
noncomputable def toldD : Told → DataW Unit
  | none => .map []
  | some (k, s) => match keyOf Try.prog 46 (codeV k.1 k.2) with
    | some l => (DataW.map []).put l (.lit (.string s.data.toList))
    | none => .map []
def toldOk : Told → Prop
  | none => True
  | some (k, s) => k.2 < 256 ∧ s.size ≤ maxLen
def MapIs (W : World) (b : Nat) (o : Told) : Prop := W.ownsMap Try.prog 46 (plainElem (H := Unit) Try.prog 9) b 1 (toldD o)
theorem MapIs.look {W : World} {b : Nat} {o : Told} (h : MapIs W b o) (ho : toldOk o) (e : Bool) (n : Nat) (hn : n < 256) :
    (Instr.lookup 66 (.map (some b)) (codeV e n) true).run Try.prog W = .ok (.tuple #[.string (toldAt o e n).1, .bool (toldAt o e n).2]) W := by
  obtain ⟨l, hl⟩ := key46 e n hn
  have hz0 : plainElem (H := Unit) Try.prog 9 (.string { data := #[] }) = some (.lit (.string []), []) := plainElem_string Try.underlying9 (by decide)
  obtain ⟨v, ps, hrun, hv⟩ := h.look_ok keyed46 Try.underlying66 (z := .string { data := #[] }) (zd := .lit (.string [])) (zp := []) (by kernel_rfl) hz0 hl
  rw [hrun]
  cases o with
  | none =>
    have hh : Maps.has (toldD none) l = false := rfl
    rw [hh]
    have e1 : (toldD none).atKey l (.lit (.string [])) = .lit (.string []) := Maps.atKey_of_not_has hh _
    rw [e1] at hv
    obtain ⟨s, rfl, hs, _⟩ := plainElem_string_inv Try.underlying9 hv
    simp at hs
    have : s = { data := #[] } := by
      cases s
      next d => simp at hs; obtain ⟨h1, _⟩ := hs; simp_all
    rw [this]
    rfl
  | some x =>
    obtain ⟨⟨e', n'⟩, t⟩ := x
    obtain ⟨hn', ht⟩ := ho
    obtain ⟨l', hl'⟩ := key46 e' n' hn'
    have hD : toldD (some ((e', n'), t)) = (DataW.map []).put l' (.lit (.string t.data.toList)) := by
      unfold toldD
      simp only [hl']
    rw [hD] at hv ⊢
    by_cases hk : (e', n') = (e, n)
    · cases hk
      rw [hl] at hl'
      cases hl'
      rw [Maps.has_put_same Maps.isMap_empty (keyed46.key hl)]
      rw [Maps.atKey_put_same Maps.isMap_empty (keyed46.key hl)] at hv
      obtain ⟨s, rfl, hs, _⟩ := plainElem_string_inv Try.underlying9 hv
      have : s = t := by
        cases s
        cases t
        simp at hs
        obtain ⟨h1, _⟩ := hs
        congr 1
        exact h1.symm
      rw [this]
      simp [toldAt]
    · have hne : l ≠ l' := fun e2 => hk (by
        subst e2
        have := keyed46.inj hl' hl
        simp [codeV] at this
        obtain ⟨a, b⟩ := this
        subst a
        have : n' = n := by omega
        subst this
        rfl)
      have hh : Maps.has ((DataW.map (H := Unit) []).put l' (.lit (.string t.data.toList))) l = false := by rw [Maps.has_put_other hne]; rfl
      rw [hh]
      rw [Maps.atKey_of_not_has hh] at hv
      obtain ⟨s, rfl, hs, _⟩ := plainElem_string_inv Try.underlying9 hv
      have : s = { data := #[] } := by
        cases s
        next d => simp at hs; obtain ⟨h1, _⟩ := hs; simp_all
      rw [this]
      simp [toldAt, hk]
theorem MapIs.kept {W W' : World} {b : Nat} {o : Told} (h : MapIs W b o) (hb : W'.heap[b]? = W.heap[b]?) : MapIs W' b o := by
  obtain ⟨es, clock, hh, r⟩ := h
  exact ⟨es, clock, hb.trans hh, r⟩
theorem MapIs.lt {W : World} {b : Nat} {o : Told} (h : MapIs W b o) : b < W.heap.size := World.ownsMap.lt h
theorem MapIs.made (W : World) : MapIs (W.alloc (.map #[] 0)) W.heap.size none := (World.ownsMap_made W Try.prog 46 _).mono (Nat.zero_le _)
/-- The map without entries is told a text. -/
theorem MapIs.tell {W : World} {b : Nat} (h : W.ownsMap Try.prog 46 (plainElem (H := Unit) Try.prog 9) b 0 (.map [])) (e : Bool) (n : Nat) (hn : n < 256) (s : ByteArray) (hs : s.size ≤ maxLen) :
    ∃ W', (Instr.mapUpdate 66 (.map (some b)) (codeV e n) (.string s)).run Try.prog W = .ok () W' ∧ MapIs W' b (some ((e, n), s)) ∧ W.grownBy W' (some b) := by
  obtain ⟨l, hl⟩ := key46 e n hn
  obtain ⟨W', h1, h2, h3⟩ := h.update keyed46 Try.underlying66 (by decide) hl (plainElem_string (H := Unit) Try.underlying9 hs)
  refine ⟨W', h1, ?_, h3⟩
  unfold MapIs toldD
  simp only [hl]
  exact h2
theorem MapIs.strike {W : World} {b : Nat} (h : W.ownsMap Try.prog 46 (plainElem (H := Unit) Try.prog 9) b 0 (.map [])) (e : Bool) (n : Nat) (hn : n < 256) (ty : TypeId) :
    ∃ W', (Builtin.delete_ #[66, 46] ty #[.map (some b), codeV e n]).run Try.prog W = .ok (.tuple #[]) W' ∧ W'.ownsMap Try.prog 46 (plainElem (H := Unit) Try.prog 9) b 0 (.map []) ∧ W.grownBy W' (some b) := by
  obtain ⟨l, hl⟩ := key46 e n hn
  obtain ⟨W', h1, h2, h3⟩ := h.drop keyed46 Try.underlying66 hl ty
  rw [Maps.del_of_not_has (by rfl)] at h2
  exact ⟨W', h1, h2, h3.grown⟩
end Go.Proofs.Ytkenihkfjepdfaa
