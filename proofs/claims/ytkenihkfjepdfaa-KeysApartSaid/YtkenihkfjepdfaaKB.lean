/- KeysApart: the plain law, and the ways that come to awake at once. -/
import Derived.Test.YtkenihkfjepdfaaK9
namespace Go.Proofs.Ytkenihkfjepdfaa
open Go.RowKit
set_option linter.unusedVariables false

theorem nums_inj {a b : List Int} (ha : ∀ x ∈ a, 0 ≤ x ∧ x ≤ 255) (hb : ∀ x ∈ b, 0 ≤ x ∧ x ≤ 255) (h : (strOfNums a).toList = (strOfNums b).toList) : a = b := by
  rw [ByteArray.toList_eq, ByteArray.toList_eq, strOfNums_data, strOfNums_data] at h
  induction a generalizing b with
  | nil => cases b with
    | nil => rfl
    | cons y b => simp at h
  | cons x a ih => cases b with
    | nil => simp at h
    | cons y b =>
      simp only [List.map_cons, List.cons.injEq] at h
      have hx := ha x (by simp)
      have hy := hb y (by simp)
      have e : x = y := by
        have h1 := congrArg UInt8.toNat h.1
        simp at h1
        omega
      rw [e, ih (fun z hz => ha z (by simp [hz])) (fun z hz => hb z (by simp [hz])) h.2]
/-- A list of answers, without two alike, is told apart by its answers. -/
theorem sel_inj (l : List Int) (n : Nat) (hn : l.length = n) (hd : ∀ i ∈ List.range n, ∀ j ∈ List.range n, l.getD i 0 = l.getD j 0 → i = j) (c c' : Int) (h0 : 0 ≤ c) (h1 : c < n) (k0 : 0 ≤ c') (k1 : c' < n) (h : sel l c = sel l c') : c = c' := by
  have := hd c.toNat (by simp; omega) c'.toNat (by simp; omega) h
  omega
theorem sel_mem (l : List Int) (c : Int) (h0 : 0 ≤ c) (h1 : c < l.length) : sel l c ∈ l := by
  have h' : c.toNat < l.length := by omega
  unfold sel
  rw [show l.getD c.toNat 0 = l[c.toNat] by simp [List.getD, h']]
  exact List.getElem_mem h'
theorem kSends_bd (p k c : Int) (pad : Bool) (hc : checkOf k c = 0) (hk : k ≠ 1) : ∀ x ∈ kSends p k c false false pad, 0 ≤ x ∧ x ≤ 255 := by
  obtain ⟨k1, k5, hl, hh⟩ := range_of k c hc
  have b1 := sel_bd vts (by decide) c
  have b2 := sel_bd scans (by decide) c
  have b3 := sel_bd moves (by decide) c
  have b4 := sel_bd pads (by decide) c
  have b5 := sel_bd apps (by decide) c
  have b6 := sel_bd edits (by decide) c
  unfold kSends
  by_cases h4 : k = 4
  · subst h4
    have hl' : 1 ≤ c := hl
    have hh' : c ≤ 12 := hh
    have b7 := dosOf_bd c false false hl' hh'
    simp
    (repeat' split) <;> simp <;> omega
  · rw [if_neg hk, if_neg h4]
    (repeat' split) <;> simp <;> omega
theorem dos_val (c : Int) (h0 : 1 ≤ c) (h1 : c ≤ 12) : dosOf c false false = if 11 ≤ c then 122 + c else 58 + c := by
  simp [dosOf]
/-- Of Cursor and Func, and of the pad's keys, no two send the same, if they send something. -/
theorem kSends_apart (p k c k' c' : Int) (pad : Bool) (hp : p = 1 ∨ p = 2) (hc : checkOf k c = 0) (hc' : checkOf k' c' = 0) (hk : (k = 2 ∨ k = 4) ∧ (k' = 2 ∨ k' = 4) ∨ k = 3 ∧ k' = 3) (hne : kSends p k c false false pad ≠ [])
    (h : kSends p k c false false pad = kSends p k' c' false false pad) : k = k' ∧ c = c' := by
  obtain ⟨_, _, hl, hh⟩ := range_of k c hc
  obtain ⟨_, _, hl', hh'⟩ := range_of k' c' hc'
  have m1 : 0 ≤ c → c ≤ 4 → sel vts c ∈ vts := fun a b => sel_mem vts c a (by simp [vts]; omega)
  have m2 : 0 ≤ c' → c' ≤ 4 → sel vts c' ∈ vts := fun a b => sel_mem vts c' a (by simp [vts]; omega)
  have m3 : 0 ≤ c → c ≤ 4 → sel scans c ∈ scans := fun a b => sel_mem scans c a (by simp [scans]; omega)
  have m4 : 0 ≤ c' → c' ≤ 4 → sel scans c' ∈ scans := fun a b => sel_mem scans c' a (by simp [scans]; omega)
  rcases hk with ⟨rfl | rfl, rfl | rfl⟩ | ⟨rfl, rfl⟩
  · refine ⟨rfl, ?_⟩
    have a0 : 0 ≤ c := hl
    have a1 : c ≤ 4 := hh
    have c0 : 0 ≤ c' := hl'
    have c1 : c' ≤ 4 := hh'
    rcases hp with rfl | rfl
    · simp [kSends] at h
      exact sel_inj vts 5 rfl (by decide) c c' a0 (by omega) c0 (by omega) h
    · simp [kSends] at h
      exact sel_inj scans 5 rfl (by decide) c c' a0 (by omega) c0 (by omega) h
  · exfalso
    have a0 : 0 ≤ c := hl
    have a1 : c ≤ 4 := hh
    have c0 : 1 ≤ c' := hl'
    have c1 : c' ≤ 12 := hh'
    rcases hp with rfl | rfl
    · have m := m1 a0 a1
      simp [kSends] at h
      split at h
      · simp at h
        rw [h] at m
        simp [vts] at m
        omega
      · simp at h
    · have m := m3 a0 a1
      simp [kSends] at h
      rw [h, dos_val c' c0 c1] at m
      simp [scans] at m
      split at m <;> omega
  · exfalso
    have a0 : 1 ≤ c := hl
    have a1 : c ≤ 12 := hh
    have c0 : 0 ≤ c' := hl'
    have c1 : c' ≤ 4 := hh'
    rcases hp with rfl | rfl
    · have m := m2 c0 c1
      simp [kSends] at h
      split at h
      · simp at h
        rw [← h] at m
        simp [vts] at m
        omega
      · simp at h
    · have m := m4 c0 c1
      simp [kSends] at h
      rw [← h, dos_val c a0 a1] at m
      simp [scans] at m
      split at m <;> omega
  · refine ⟨rfl, ?_⟩
    have a0 : 1 ≤ c := hl
    have a1 : c ≤ 12 := hh
    have c0 : 1 ≤ c' := hl'
    have c1 : c' ≤ 12 := hh'
    rcases hp with rfl | rfl
    · simp [kSends] at h hne
      split at h <;> split at h <;> simp at h <;> omega
    · simp [kSends] at h
      rw [dos_val c a0 a1, dos_val c' c0 c1] at h
      split at h <;> split at h <;> omega
  · refine ⟨rfl, ?_⟩
    have a0 : 0 ≤ c := hl
    have a1 : c ≤ 13 := hh
    have c0 : 0 ≤ c' := hl'
    have c1 : c' ≤ 13 := hh'
    simp [kSends] at h
    split at h
    · simp at h
      exact sel_inj apps 14 rfl (by decide) c c' a0 (by omega) c0 (by omega) h
    · simp at h
      exact sel_inj pads 14 rfl (by decide) c c' a0 (by omega) c0 (by omega) h
end Go.Proofs.Ytkenihkfjepdfaa
