/- KeysApart: the whole walk. -/
import Derived.Test.YtkenihkfjepdfaaKA
import Derived.Test.YtkenihkfjepdfaaKB
namespace Go.Proofs.Ytkenihkfjepdfaa
open Go.RowKit
set_option linter.unusedVariables false

theorem kind_cases (k : Int) : k = 2 ∨ k = 4 ∨ k = 3 ∨ ((k == 2) = false ∧ (k == 4) = false ∧ (k != 3) = true) := by
  by_cases h2 : k = 2
  · exact .inl h2
  · by_cases h4 : k = 4
    · exact .inr (.inl h4)
    · by_cases h3 : k = 3
      · exact .inr (.inr (.inl h3))
      · exact .inr (.inr (.inr ⟨by simpa using h2, by simpa using h4, by simpa using h3⟩))
set_option maxHeartbeats 8000000 in
theorem apart_awake (k c k' c' : Int) (s t s' t' pad dos : Bool) (h : ¬ ((k = 2 ∨ k = 4) ∧ (k' = 2 ∨ k' = 4) ∨ k = 3 ∧ k' = 3)) :
    Fn 4 #[.bool dos, .agg #[.int .i64 k, .int .i64 c, .bool s, .bool t, .int .i64 k', .int .i64 c', .bool s', .bool t'], .bool pad] (.bool true) := by
  intro w
  have HA := awake_any
  rcases kind_cases k with rfl | rfl | rfl | ⟨a2, a4, a3⟩
  all_goals rcases kind_cases k' with rfl | rfl | rfl | ⟨b2, b4, b3⟩
  all_goals first | (exfalso; omega) | skip
  all_goals clear h
  all_goals cases dos
  all_goals
    go_enter Try.func4, Try.ntmps4
    go_wp2_with (go_at_call 12; refine (HA _).mono ?_; rintro e w3 ⟨rfl, hb3⟩)
    go_ret
    exact ⟨rfl, by repeat (first | exact Below.refl _ _ | refine bel_alloc ?_ _ | refine bel_call ?_ hb3)⟩
theorem enc_apart (p k c k' c' : Int) (pad : Bool) (hp : p = 1 ∨ p = 2) (hk : (k = 2 ∨ k = 4) ∧ (k' = 2 ∨ k' = 4) ∨ k = 3 ∧ k' = 3) (hne : ¬ (k = k' ∧ c = c')) :
    Hid (encErr p k c = 0 → encErr p k' c' = 0 → ¬ (strOfNums (encText p k c false false pad)).toList = [] → ¬ (strOfNums (encText p k c false false pad)).toList = (strOfNums (encText p k' c' false false pad)).toList) := by
  intro h1 h2 h3 h4
  have q : ¬ (p < 1 ∨ 4 < p) := by omega
  unfold encErr at h1 h2
  rw [if_neg q] at h1 h2
  unfold encText at h3 h4
  rw [if_neg q, if_pos h1] at h3 h4
  rw [if_neg q, if_pos h2] at h4
  have h5 := nums_inj (kSends_bd p k c pad h1 (by omega)) (kSends_bd p k' c' pad h2 (by omega)) h4
  refine hne (kSends_apart p k c k' c' pad hp h1 h2 hk ?_ h5)
  intro e
  rw [e] at h3
  exact h3 (by rw [ByteArray.toList_eq]; rfl)
theorem apart_walk (dos : Bool) (k c k' c' : Int) (s t s' t' pad : Bool) :
    Fn 4 #[.bool dos, .agg #[.int .i64 k, .int .i64 c, .bool s, .bool t, .int .i64 k', .int .i64 c', .bool s', .bool t'], .bool pad] (.bool true) := by
  by_cases hk : (k = 2 ∨ k = 4) ∧ (k' = 2 ∨ k' = 4) ∨ k = 3 ∧ k' = 3
  · have E : ∀ p k c, Fn 11 #[.int .i64 p, .agg #[.int .i64 k, .int .i64 c, .bool false, .bool false], .bool pad] (.tuple #[.string (strOfNums (encText p k c false false pad)), .int .i64 (encErr p k c)]) := fun p k c => encode_any p k c false false pad
    by_cases he : k = k' ∧ c = c'
    · obtain ⟨rfl, rfl⟩ := he
      have hk' : k = 2 ∨ k = 4 ∨ k = 3 := by omega
      cases dos
      · rcases hk' with rfl | rfl | rfl
        · exact same_2_0 c s t s' t' pad _ _ (E 1 2 c)
        · exact same_4_0 c s t s' t' pad _ _ (E 1 4 c)
        · exact same_3_0 c s t s' t' pad _ _ (E 1 3 c)
      · rcases hk' with rfl | rfl | rfl
        · exact same_2_1 c s t s' t' pad _ _ (E 2 2 c)
        · exact same_4_1 c s t s' t' pad _ _ (E 2 4 c)
        · exact same_3_1 c s t s' t' pad _ _ (E 2 3 c)
    · have H1 := enc_apart 1 k c k' c' pad (.inl rfl) hk he
      have H2 := enc_apart 2 k c k' c' pad (.inr rfl) hk he
      have hb : k = k' → (c == c') = false := fun e => by
        have : ¬ c = c' := fun e' => he ⟨e, e'⟩
        simpa using this
      cases dos
      · rcases hk with ⟨rfl | rfl, rfl | rfl⟩ | ⟨rfl, rfl⟩
        · exact diff_22_0 c c' s t s' t' pad _ _ _ _ (E 1 2 c) (E 1 2 c') H1 (hb rfl)
        · exact diff_24_0 c c' s t s' t' pad _ _ _ _ (E 1 2 c) (E 1 4 c') H1
        · exact diff_42_0 c c' s t s' t' pad _ _ _ _ (E 1 4 c) (E 1 2 c') H1
        · exact diff_44_0 c c' s t s' t' pad _ _ _ _ (E 1 4 c) (E 1 4 c') H1 (hb rfl)
        · exact diff_33_0 c c' s t s' t' pad _ _ _ _ (E 1 3 c) (E 1 3 c') H1 (hb rfl)
      · rcases hk with ⟨rfl | rfl, rfl | rfl⟩ | ⟨rfl, rfl⟩
        · exact diff_22_1 c c' s t s' t' pad _ _ _ _ (E 2 2 c) (E 2 2 c') H2 (hb rfl)
        · exact diff_24_1 c c' s t s' t' pad _ _ _ _ (E 2 2 c) (E 2 4 c') H2
        · exact diff_42_1 c c' s t s' t' pad _ _ _ _ (E 2 4 c) (E 2 2 c') H2
        · exact diff_44_1 c c' s t s' t' pad _ _ _ _ (E 2 4 c) (E 2 4 c') H2 (hb rfl)
        · exact diff_33_1 c c' s t s' t' pad _ _ _ _ (E 2 3 c) (E 2 3 c') H2 (hb rfl)
  · exact apart_awake k c k' c' s t s' t' pad dos hk
end Go.Proofs.Ytkenihkfjepdfaa
