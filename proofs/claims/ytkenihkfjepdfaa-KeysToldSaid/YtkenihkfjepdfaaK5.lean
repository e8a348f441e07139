/- The contracts of awake; the walks of KeysPlain and KeysCtrl. -/
import Derived.Test.YtkenihkfjepdfaaK4
namespace Go.Proofs.Ytkenihkfjepdfaa
open Go.RowKit
attribute [local go_sem] conv1 conv3

theorem enc_lit (p k c : Int) (s t pad : Bool) (v : ByteArray) (x : Int) (h : strOfNums (encText p k c s t pad) = v) (h' : encErr p k c = x) : Fn 11 #[.int .i64 p, .agg #[.int .i64 k, .int .i64 c, .bool s, .bool t], .bool pad] (.tuple #[.string v, .int .i64 x]) := by
  rw [← h, ← h']; exact encode_any p k c s t pad

theorem awake_any : Fn 12 #[] (.bool true) := by
  intro w
  have h1 := enc_lit 1 2 0 false false false { data := #[27, 65] } 0 (by decide +kernel) (by decide +kernel)
  have h2 := enc_lit 2 4 1 true false false { data := #[0, 84] } 0 (by decide +kernel) (by decide +kernel)
  have h3 := enc_lit 3 4 2 false false false { data := #[1, 65, 13] } 0 (by decide +kernel) (by decide +kernel)
  go_enter Try.func12, Try.ntmps12
  go_wp2_with fail
  refine (h1 _).mono ?_
  rintro e w1 ⟨rfl, hb1⟩
  go_wp2_with fail
  refine (h2 _).mono ?_
  rintro e w2 ⟨rfl, hb2⟩
  go_wp2_with fail
  refine (h3 _).mono ?_
  rintro e w3 ⟨rfl, hb3⟩
  go_wp2
  go_ret
  exact ⟨rfl, bel_call (bel_call hb1 hb2) hb3⟩

theorem nil_str : strOfNums [] = { data := #[] } := rfl
def plainWant (c : Int) (s : Bool) : Int := if s = true ∧ 97 ≤ c ∧ c ≤ 122 then c - 32 else c
set_option maxHeartbeats 4000000 in
theorem plain_walk (p c : Int) (s q : Bool) (hp : -9223372036854775808 ≤ p ∧ p ≤ 9223372036854775807) (hc : -9223372036854775808 ≤ c ∧ c ≤ 9223372036854775807) : Fn 5 #[.int .i64 p, .int .i64 c, .agg #[.bool s, .bool q]] (.bool true) := by
  intro w
  have HA := awake_any
  by_cases h1 : p < 1
  · go_enter Try.func5, Try.ntmps5
    go_wp2_with (go_at_call 12; refine (HA _).mono ?_; rintro e w1 ⟨rfl, hb1⟩)
    go_ret
    exact ⟨rfl, by repeat (first | exact Below.refl _ _ | refine bel_alloc ?_ _ | refine bel_call ?_ hb1)⟩
  by_cases h4 : 4 < p
  · go_enter Try.func5, Try.ntmps5
    go_wp2_with (go_at_call 12; refine (HA _).mono ?_; rintro e w1 ⟨rfl, hb1⟩)
    go_ret
    exact ⟨rfl, by repeat (first | exact Below.refl _ _ | refine bel_alloc ?_ _ | refine bel_call ?_ hb1)⟩
  have HE := encode_any p 1 c s false q
  have ee : encErr p 1 c = checkOf 1 c := by unfold encErr; rw [if_neg (by omega)]
  rw [ee] at HE
  have ck : checkOf 1 c = if c < 32 ∨ 126 < c then 1 else 0 := rfl
  by_cases hr : c < 32 ∨ 126 < c
  · rw [if_pos hr] at ck
    have et : encText p 1 c s false q = [] := by unfold encText; rw [if_neg (by omega), if_neg (by omega)]
    rw [et, ck, nil_str] at HE
    unfold keyv at HE
    clear ee ck et
    rcases hr with hr | hr
    · go_enter Try.func5, Try.ntmps5
      go_wp2_with (first | (go_at_call 12; refine (HA _).mono ?_; rintro e w2 ⟨rfl, hb2⟩) | (go_at_call 11; refine (HE _).mono ?_; rintro e w1 ⟨rfl, hb1⟩))
      go_ret
      exact ⟨rfl, by repeat (first | exact Below.refl _ _ | refine bel_alloc ?_ _ | refine bel_call ?_ hb2 | refine bel_call ?_ hb1)⟩
    · have hr' : ¬ c < 32 := by omega
      go_enter Try.func5, Try.ntmps5
      go_wp2_with (first | (go_at_call 12; refine (HA _).mono ?_; rintro e w2 ⟨rfl, hb2⟩) | (go_at_call 11; refine (HE _).mono ?_; rintro e w1 ⟨rfl, hb1⟩))
      go_ret
      exact ⟨rfl, by repeat (first | exact Below.refl _ _ | refine bel_alloc ?_ _ | refine bel_call ?_ hb2 | refine bel_call ?_ hb1)⟩
  · rw [if_neg hr] at ck
    have et : encText p 1 c s false q = [charOf c s false] := by unfold encText; rw [if_neg (by omega), if_pos ck]; rfl
    rw [et, ck] at HE
    have el : charOf c s false = plainWant c s := by simp [charOf, plainWant]
    rw [el] at HE
    unfold keyv at HE
    clear ee ck et el
    have r1 : 32 ≤ c := by omega
    have r2 : c ≤ 126 := by omega
    by_cases a : 97 ≤ c
    all_goals by_cases b : c ≤ 122
    all_goals first | (exfalso; omega) | skip
    all_goals cases s
    all_goals (simp only [plainWant, a, b, and_self, and_true, and_false, if_true, if_false, reduceCtorEq] at HE)
    all_goals
      go_enter Try.func5, Try.ntmps5
      go_wp2_with (first | (go_at_call 12; refine (HA _).mono ?_; rintro e w2 ⟨rfl, hb2⟩) | (go_at_call 11; refine (HE _).mono ?_; rintro e w1 ⟨rfl, hb1⟩; obtain ⟨hc1, hf1⟩ := bcell hb1))
      go_ret
      exact ⟨rfl, by repeat (first | exact Below.refl _ _ | refine bel_alloc ?_ _ | refine bel_call ?_ hb2 | refine bel_call ?_ hb1)⟩

theorem ctrl_char (c : Int) (s : Bool) (h : 65 ≤ c ∧ c ≤ 90 ∨ 97 ≤ c ∧ c ≤ 122) : charOf c s true = if c ≤ 90 then c - 64 else c - 96 := by
  simp only [charOf]
  cases s <;> simp <;> (repeat' split) <;> omega
set_option maxHeartbeats 4000000 in
theorem ctrl_walk (p n : Int) (s : Bool) (hp : -9223372036854775808 ≤ p ∧ p ≤ 9223372036854775807) (hn : -9223372036854775808 ≤ n ∧ n ≤ 9223372036854775807) : Fn 6 #[.int .i64 p, .int .i64 n, .bool s] (.bool true) := by
  intro w
  have HA := awake_any
  by_cases h1 : p < 1
  · go_enter Try.func6, Try.ntmps6
    go_wp2_with (go_at_call 12; refine (HA _).mono ?_; rintro e w1 ⟨rfl, hb1⟩)
    go_ret
    exact ⟨rfl, by repeat (first | exact Below.refl _ _ | refine bel_alloc ?_ _ | refine bel_call ?_ hb1)⟩
  by_cases h4 : 4 < p
  · go_enter Try.func6, Try.ntmps6
    go_wp2_with (go_at_call 12; refine (HA _).mono ?_; rintro e w1 ⟨rfl, hb1⟩)
    go_ret
    exact ⟨rfl, by repeat (first | exact Below.refl _ _ | refine bel_alloc ?_ _ | refine bel_call ?_ hb1)⟩
  by_cases n1 : n < 1
  · go_enter Try.func6, Try.ntmps6
    go_wp2_with (go_at_call 12; refine (HA _).mono ?_; rintro e w1 ⟨rfl, hb1⟩)
    go_ret
    exact ⟨rfl, by repeat (first | exact Below.refl _ _ | refine bel_alloc ?_ _ | refine bel_call ?_ hb1)⟩
  by_cases n2 : 26 < n
  · go_enter Try.func6, Try.ntmps6
    go_wp2_with (go_at_call 12; refine (HA _).mono ?_; rintro e w1 ⟨rfl, hb1⟩)
    go_ret
    exact ⟨rfl, by repeat (first | exact Below.refl _ _ | refine bel_alloc ?_ _ | refine bel_call ?_ hb1)⟩
  have key : ∀ c, (65 ≤ c ∧ c ≤ 90 ∨ 97 ≤ c ∧ c ≤ 122) → (if c ≤ 90 then c - 64 else c - 96) = n → Fn 11 #[.int .i64 p, .agg #[.int .i64 1, .int .i64 c, .bool s, .bool true], .bool false] (.tuple #[.string (strOfNums [n]), .int .i64 0]) := by
    intro c hc hn
    have ck : checkOf 1 c = 0 := by rw [show checkOf 1 c = if c < 32 ∨ 126 < c then 1 else 0 from rfl, if_neg (by omega)]
    have := encode_any p 1 c s true false
    rw [show encErr p 1 c = 0 by unfold encErr; rw [if_neg (by omega), ck], show encText p 1 c s true false = [n] by unfold encText; rw [if_neg (by omega), if_pos ck, ← hn, ← ctrl_char c s hc]; rfl] at this
    exact this
  have HE := key (64 + n) (by omega) (by rw [if_pos (by omega)]; omega)
  have HF := key (96 + n) (by omega) (by rw [if_neg (by omega)]; omega)
  clear key
  go_enter Try.func6, Try.ntmps6
  go_wp2_with fail
  refine (HE _).mono ?_
  rintro e w1 ⟨rfl, hb1⟩
  go_wp2_with fail
  refine (HF _).mono ?_
  rintro e w2 ⟨rfl, hb2⟩
  go_wp2_with (go_at_call 12; refine (HA _).mono ?_; rintro e w3 ⟨rfl, hb3⟩)
  go_ret
  exact ⟨rfl, by repeat (first | exact Below.refl _ _ | refine bel_alloc ?_ _ | refine bel_call ?_ hb3 | refine bel_call ?_ hb2 | refine bel_call ?_ hb1)⟩
end Go.Proofs.Ytkenihkfjepdfaa
