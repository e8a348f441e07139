/- The contracts of vt52, scan, dos and wyse: what they answer is what kSends says. -/
import Derived.Test.YtkenihkfjepdfaaK2
import Derived.Deep.QuietTactic
import Derived.BigQuiet
namespace Go.Proofs.Ytkenihkfjepdfaa
open Go.RowKit
attribute [local go_sem] conv1 conv3

/-- The keys that go on to 'plain'. -/
theorem vt52_plain (k c : Int) (s t p : Bool) (hc : checkOf k c = 0) (h2 : k ≠ 2) (h3 : k = 3 → p = false) (h4 : k = 4 → 3 < c) : Fn 30 #[keyv k c s t, .bool p] (.string (strOfNums (kSends 1 k c s t p))) := by
  intro w
  have H := plain_any k c s t hc h2
  have e : kSends 1 k c s t p = if k = 4 then [] else kSends 0 k c s t false := by
    by_cases a3 : k = 3
    · subst a3; rw [h3 rfl]; rfl
    · by_cases a4 : k = 4
      · subst a4; have := h4 rfl; simp [kSends]; omega
      · simp [kSends, h2, a3, a4]
  rw [e]
  generalize (if k = 4 then [] else kSends 0 k c s t false) = r at *
  clear e
  unfold keyv at H ⊢
  clear hc
  have b2 : (k == 2) = false := by simpa using h2
  by_cases a3 : k = 3
  · obtain rfl := h3 a3
    subst a3
    clear h3 h4 h2
    go_enter Try.func30, Try.ntmps30
    go_wp2_with (go_at_call 34; refine (H _).mono ?_; rintro e w1 ⟨rfl, hb1⟩)
    go_ret
    exact ⟨rfl, by repeat (first | exact Below.refl _ _ | refine bel_alloc ?_ _ | refine bel_call ?_ hb1)⟩
  · have b3 : (k == 3) = false := by simpa using a3
    by_cases a4 : k = 4
    · have h4' := h4 a4
      subst a4
      clear h3 h4 h2
      go_enter Try.func30, Try.ntmps30
      go_wp2_with (go_at_call 34; refine (H _).mono ?_; rintro e w1 ⟨rfl, hb1⟩)
      go_ret
      exact ⟨rfl, by repeat (first | exact Below.refl _ _ | refine bel_alloc ?_ _ | refine bel_call ?_ hb1)⟩
    · have b4 : (k == 4) = false := by simpa using a4
      clear h3 h4 h2
      go_enter Try.func30, Try.ntmps30
      go_wp2_with (go_at_call 34; refine (H _).mono ?_; rintro e w1 ⟨rfl, hb1⟩)
      go_ret
      exact ⟨rfl, by repeat (first | exact Below.refl _ _ | refine bel_alloc ?_ _ | refine bel_call ?_ hb1)⟩
theorem vt52_2 (c : Int) (s t p : Bool) (h0 : 0 ≤ c) (h1 : c ≤ 4) : Fn 30 #[keyv 2 c s t, .bool p] (.string (strOfNums (kSends 1 2 c s t p))) := by
  intro w
  rw [show kSends 1 2 c s t p = [27, sel vts c] from rfl, ← ex_vts c h0 h1]
  unfold keyv
  go_enter Try.func30, Try.ntmps30
  go_wp2
  go_ret
  exact ⟨rfl, by repeat (first | exact Below.refl _ _ | refine bel_alloc ?_ _)⟩
theorem vt52_3 (c : Int) (s t : Bool) (h0 : 0 ≤ c) (h1 : c ≤ 13) : Fn 30 #[keyv 3 c s t, .bool true] (.string (strOfNums (kSends 1 3 c s t true))) := by
  intro w
  rw [show kSends 1 3 c s t true = [27, 63, sel apps c] from rfl, ← ex_apps c h0 h1]
  unfold keyv
  go_enter Try.func30, Try.ntmps30
  go_wp2
  go_ret
  exact ⟨rfl, by repeat (first | exact Below.refl _ _ | refine bel_alloc ?_ _)⟩
theorem vt52_4 (c : Int) (s t p : Bool) (h0 : 1 ≤ c) (h1 : c ≤ 3) : Fn 30 #[keyv 4 c s t, .bool p] (.string (strOfNums (kSends 1 4 c s t p))) := by
  intro w
  rw [show kSends 1 4 c s t p = [27, 79 + c] by simp [kSends, h1], ← ex_funcs c h0 h1]
  unfold keyv
  go_enter Try.func30, Try.ntmps30
  go_wp2
  go_ret
  exact ⟨by simp, by repeat (first | exact Below.refl _ _ | refine bel_alloc ?_ _)⟩
theorem range_of (k c : Int) (hc : checkOf k c = 0) : 1 ≤ k ∧ k ≤ 5 ∧ lowOf k ≤ c ∧ c ≤ highOf k := by
  unfold checkOf at hc; split at hc
  · simp at hc
  · split at hc
    · simp at hc
    · omega
theorem vt52_any (k c : Int) (s t p : Bool) (hc : checkOf k c = 0) : Fn 30 #[keyv k c s t, .bool p] (.string (strOfNums (kSends 1 k c s t p))) := by
  obtain ⟨h1, h5, hl, hh⟩ := range_of k c hc
  by_cases h2 : k = 2
  · subst h2; exact vt52_2 c s t p hl hh
  · by_cases h3 : k = 3 ∧ p = true
    · obtain ⟨rfl, rfl⟩ := h3; exact vt52_3 c s t hl hh
    · by_cases h4 : k = 4 ∧ c ≤ 3
      · obtain ⟨rfl, h⟩ := h4; exact vt52_4 c s t p hl h
      · exact vt52_plain k c s t p hc h2 (fun e => by cases p <;> simp_all) (fun e => by omega)

theorem bel_drewN {B : Nat} {a w : World} (h : Below B a w) (n : Nat) : Below B a (w.drewN n) := ⟨h.os, h.tape, h.output, h.size, h.block⟩
set_option maxHeartbeats 4000000 in
theorem scan_any (c : Int) (s t : Bool) (h0 : 1 ≤ c) (h1 : c ≤ 12) : Fn 35 #[keyv 4 c s t] (.int .u8 (dosOf c s t)) := by
  intro w
  unfold keyv
  have i0 : ∀ w, (Instr.index 77 (.agg #[.int .u8 59, .int .u8 84, .int .u8 94]) (.int .i64 0)).run Try.prog w = .ok (.int .u8 59) w := fun _ => by kernel_rfl
  have i1 : ∀ w, (Instr.index 77 (.agg #[.int .u8 59, .int .u8 84, .int .u8 94]) (.int .i64 1)).run Try.prog w = .ok (.int .u8 84) w := fun _ => by kernel_rfl
  have i2 : ∀ w, (Instr.index 77 (.agg #[.int .u8 59, .int .u8 84, .int .u8 94]) (.int .i64 2)).run Try.prog w = .ok (.int .u8 94) w := fun _ => by kernel_rfl
  by_cases h : 10 < c
  · cases s <;> cases t
    all_goals
      go_enter Try.func35, Try.ntmps35
      go_wp2
      go_ret
      exact ⟨ret_int (by simp [dosOf]; omega), by repeat (first | exact Below.refl _ _ | refine bel_alloc ?_ _)⟩
  · cases s <;> cases t
    all_goals
      go_enter Try.func35, Try.ntmps35
      go_wp2_with fail
      go_quiet (fail)
      go_wp2
      go_ret
      exact ⟨ret_int (by simp [dosOf]; omega), by repeat (first | exact Below.refl _ _ | refine bel_alloc ?_ _ | refine bel_drewN ?_ _)⟩

theorem dos_2 (c : Int) (s t p : Bool) (h0 : 0 ≤ c) (h1 : c ≤ 4) : Fn 31 #[keyv 2 c s t, .bool p] (.string (strOfNums (kSends 2 2 c s t p))) := by
  intro w
  rw [show kSends 2 2 c s t p = [0, sel scans c] from rfl, ← ex_scans c h0 h1]
  unfold keyv
  go_enter Try.func31, Try.ntmps31
  go_wp2
  go_ret
  exact ⟨rfl, by repeat (first | exact Below.refl _ _ | refine bel_alloc ?_ _)⟩
theorem dos_4 (c : Int) (s t p : Bool) (h0 : 1 ≤ c) (h1 : c ≤ 12) : Fn 31 #[keyv 4 c s t, .bool p] (.string (strOfNums (kSends 2 4 c s t p))) := by
  intro w
  rw [show kSends 2 4 c s t p = [0, dosOf c s t] from rfl, ← ex_dos]
  have H := scan_any c s t h0 h1
  generalize dosOf c s t = d at *
  unfold keyv at *
  go_enter Try.func31, Try.ntmps31
  go_wp2_with (go_at_call 35; refine (H _).mono ?_; rintro e w1 ⟨rfl, hb1⟩)
  go_ret
  exact ⟨rfl, by repeat (first | exact Below.refl _ _ | refine bel_alloc ?_ _ | refine bel_call ?_ hb1)⟩
theorem dos_any (k c : Int) (s t p : Bool) (hc : checkOf k c = 0) : Fn 31 #[keyv k c s t, .bool p] (.string (strOfNums (kSends 2 k c s t p))) := by
  obtain ⟨h1, h5, hl, hh⟩ := range_of k c hc
  by_cases h2 : k = 2
  · subst h2; exact dos_2 c s t p hl hh
  · by_cases h4 : k = 4
    · subst h4; exact dos_4 c s t p hl hh
    · intro w
      have H := plain_any k c s t hc h2
      rw [show kSends 2 k c s t p = if k = 4 then [] else kSends 0 k c s t false by simp [kSends, h2, h4]]
      generalize (if k = 4 then [] else kSends 0 k c s t false) = r at *
      have b2 : (k == 2) = false := by simpa using h2
      have b4 : (k == 4) = false := by simpa using h4
      clear hc hl hh h2 h4
      unfold keyv at *
      go_enter Try.func31, Try.ntmps31
      go_wp2_with (go_at_call 34; refine (H _).mono ?_; rintro e w1 ⟨rfl, hb1⟩)
      go_ret
      exact ⟨rfl, by repeat (first | exact Below.refl _ _ | refine bel_alloc ?_ _ | refine bel_call ?_ hb1)⟩
theorem wyse_2 (p c : Int) (s t pad : Bool) (hp : 2 < p) (h0 : 0 ≤ c) (h1 : c ≤ 4) : Fn 32 #[keyv 2 c s t, .bool pad] (.string (strOfNums (kSends p 2 c s t pad))) := by
  intro w
  rw [show kSends p 2 c s t pad = [sel moves c] by simp [kSends]; split <;> (try omega); split <;> (try omega); rfl, ← ex_moves c h0 h1]
  unfold keyv
  go_enter Try.func32, Try.ntmps32
  go_wp2
  go_ret
  exact ⟨rfl, by repeat (first | exact Below.refl _ _ | refine bel_alloc ?_ _)⟩
theorem wyse_4 (p c : Int) (s t pad : Bool) (hp : 2 < p) (h0 : 1 ≤ c) (h1 : c ≤ 12) : Fn 32 #[keyv 4 c s t, .bool pad] (.string (strOfNums (kSends p 4 c s t pad))) := by
  intro w
  rw [show kSends p 4 c s t pad = [1, (if s then 95 else 63) + c, 13] by simp [kSends]; split <;> (try omega); split <;> (try omega); rfl]
  unfold keyv
  cases s
  all_goals
    go_enter Try.func32, Try.ntmps32
    go_wp2
    go_ret
    exact ⟨ret_nums (by simp; omega), by repeat (first | exact Below.refl _ _ | refine bel_alloc ?_ _)⟩
theorem wyse_any (p k c : Int) (s t pad : Bool) (hp : 2 < p) (hc : checkOf k c = 0) : Fn 32 #[keyv k c s t, .bool pad] (.string (strOfNums (kSends p k c s t pad))) := by
  obtain ⟨h1, h5, hl, hh⟩ := range_of k c hc
  by_cases h2 : k = 2
  · subst h2; exact wyse_2 p c s t pad hp hl hh
  · by_cases h4 : k = 4
    · subst h4; exact wyse_4 p c s t pad hp hl hh
    · intro w
      have H := plain_any k c s t hc h2
      rw [show kSends p k c s t pad = if k = 4 then [] else kSends 0 k c s t false by simp [kSends, h2, h4]; (repeat' split) <;> first | rfl | omega]
      generalize (if k = 4 then [] else kSends 0 k c s t false) = r at *
      have b2 : (k == 2) = false := by simpa using h2
      have b4 : (k == 4) = false := by simpa using h4
      clear hc hl hh h2 h4
      unfold keyv at *
      go_enter Try.func32, Try.ntmps32
      go_wp2_with (go_at_call 34; refine (H _).mono ?_; rintro e w1 ⟨rfl, hb1⟩)
      go_ret
      exact ⟨rfl, by repeat (first | exact Below.refl _ _ | refine bel_alloc ?_ _ | refine bel_call ?_ hb1)⟩
end Go.Proofs.Ytkenihkfjepdfaa
