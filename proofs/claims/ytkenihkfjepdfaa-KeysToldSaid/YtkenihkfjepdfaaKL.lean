/- The plain law of KeysAll: the keys that send something are in order, and so many. -/
import Derived.Test.YtkenihkfjepdfaaKD
namespace Go.Proofs.Ytkenihkfjepdfaa
def lt2 (a b : Ky) : Prop := a.1 < b.1 ∨ a.1 = b.1 ∧ a.2 < b.2
theorem kRow_mem {p k : Int} {pad : Bool} {n : Nat} {x : Ky} (h : x ∈ kRow p pad k n) : x.1 = k ∧ lowOf k ≤ x.2 ∧ x.2 < lowOf k + n ∧ ¬ encText p x.1 x.2 false false pad = [] := by
  induction n with
  | zero => simp [kRow] at h
  | succ n ih =>
    simp only [kRow, List.mem_append] at h
    rcases h with h | h
    · obtain ⟨a, b, c, d⟩ := ih h
      exact ⟨a, b, by omega, d⟩
    · split at h
      · simp at h
      · next hne =>
        simp at h
        subst h
        exact ⟨rfl, by simp; omega, by simp; omega, hne⟩
theorem kRow_sorted (p k : Int) (pad : Bool) (n : Nat) : (kRow p pad k n).Pairwise lt2 := by
  induction n with
  | zero => exact List.Pairwise.nil
  | succ n ih =>
    simp only [kRow]
    split
    · simpa using ih
    · refine List.pairwise_append.2 ⟨ih, by simp, fun a ha b hb => ?_⟩
      simp at hb
      subst hb
      obtain ⟨e, _, h, _⟩ := kRow_mem ha
      exact .inr ⟨e, h⟩
theorem kRow_len (p k : Int) (pad : Bool) (n : Nat) : (kRow p pad k n).length ≤ n := by
  induction n with
  | zero => simp [kRow]
  | succ n ih =>
    simp only [kRow, List.length_append]
    split <;> simp <;> omega
theorem kAll_mem {p : Int} {pad : Bool} {n : Nat} {x : Ky} (h : x ∈ kAll p pad n) : 1 ≤ x.1 ∧ x.1 ≤ n ∧ ¬ encText p x.1 x.2 false false pad = [] := by
  induction n with
  | zero => simp [kAll] at h
  | succ n ih =>
    simp only [kAll, List.mem_append] at h
    rcases h with h | h
    · obtain ⟨a, b, c⟩ := ih h
      exact ⟨a, by omega, c⟩
    · obtain ⟨a, _, _, d⟩ := kRow_mem h
      exact ⟨by omega, by omega, d⟩
theorem kAll_sorted (p : Int) (pad : Bool) (n : Nat) : (kAll p pad n).Pairwise lt2 := by
  induction n with
  | zero => exact List.Pairwise.nil
  | succ n ih =>
    refine List.pairwise_append.2 ⟨ih, kRow_sorted _ _ _ _, fun a ha b hb => ?_⟩
    obtain ⟨_, h, _⟩ := kAll_mem ha
    obtain ⟨e, _⟩ := kRow_mem hb
    exact .inl (by omega)
theorem kAll_len (p : Int) (pad : Bool) : (kAll p pad 5).length ≤ 131 := by
  have h1 := kRow_len p 1 pad (kCnt 1)
  have h2 := kRow_len p 2 pad (kCnt 2)
  have h3 := kRow_len p 3 pad (kCnt 3)
  have h4 := kRow_len p 4 pad (kCnt 4)
  have h5 := kRow_len p 5 pad (kCnt 5)
  have c1 : kCnt 1 = 95 := rfl
  have c2 : kCnt 2 = 5 := rfl
  have c3 : kCnt 3 = 14 := rfl
  have c4 : kCnt 4 = 12 := rfl
  have c5 : kCnt 5 = 5 := rfl
  have e : (kAll p pad 5).length = (kRow p pad 1 (kCnt 1)).length + (kRow p pad 2 (kCnt 2)).length + (kRow p pad 3 (kCnt 3)).length + (kRow p pad 4 (kCnt 4)).length + (kRow p pad 5 (kCnt 5)).length := by
    simp only [kAll, List.length_append, List.nil_append]
    rfl
  omega
theorem enc_facts {p k c : Int} {pad : Bool} (h : ¬ encText p k c false false pad = []) : 1 ≤ p ∧ p ≤ 4 ∧ checkOf k c = 0 ∧ encText p k c false false pad = kSends p k c false false pad := by
  unfold encText at h ⊢
  split at h
  · exact absurd rfl h
  · next hp =>
    split at h
    · next hc => exact ⟨by omega, by omega, hc, by rw [if_neg hp, if_pos hc]⟩
    · exact absurd rfl h
/-- What is known of the key that comes behind pre. -/
theorem at_facts {p : Int} {pad : Bool} {pre : List Ky} {x : Ky} (h : ∃ t, kAll p pad 5 = pre ++ x :: t) :
    pre.length ≤ 131 ∧ (1 ≤ p ∧ p ≤ 4) ∧ checkOf x.1 x.2 = 0 ∧ ¬ encText p x.1 x.2 false false pad = [] ∧ encText p x.1 x.2 false false pad = kSends p x.1 x.2 false false pad ∧ ∀ q y, pre = q ++ [y] → lt2 y x := by
  obtain ⟨t, ht⟩ := h
  have hx : x ∈ kAll p pad 5 := by rw [ht]; simp
  obtain ⟨_, _, hne⟩ := kAll_mem hx
  obtain ⟨p1, p2, hc, he⟩ := enc_facts hne
  refine ⟨?_, ⟨p1, p2⟩, hc, hne, he, ?_⟩
  · have := kAll_len p pad
    rw [ht] at this
    simp at this
    omega
  · rintro q y rfl
    have hs := kAll_sorted p pad 5
    rw [ht] at hs
    exact (List.pairwise_append.1 hs).2.2 y (by simp) x (by simp)
theorem kAll_none (p : Int) (pad : Bool) (h : p < 1 ∨ 4 < p) : kAll p pad 5 = [] := by
  cases e : kAll p pad 5 with
  | nil => rfl
  | cons x l =>
    obtain ⟨_, _, hne⟩ := kAll_mem (p := p) (pad := pad) (n := 5) (x := x) (by rw [e]; simp)
    obtain ⟨a, b, _⟩ := enc_facts hne
    omega
def kWant (p : Int) : Int := if p < 1 ∨ 4 < p then 0 else if p = 1 then 122 else 131
theorem kAll_count (p : Int) (pad : Bool) : ((kAll p pad 5).length : Int) = kWant p := by
  by_cases h : p < 1 ∨ 4 < p
  · rw [kAll_none p pad h]; simp [kWant, h]
  · have : p = 1 ∨ p = 2 ∨ p = 3 ∨ p = 4 := by omega
    rcases this with rfl | rfl | rfl | rfl <;> cases pad <;> decide +kernel
end Go.Proofs.Ytkenihkfjepdfaa
