/- The contract of the reference's Sends: it says what kSends says. -/
import Derived.Test.YtkenihkfjepdfaaK6
namespace Go.Proofs.Ytkenihkfjepdfaa
open Go.RowKit
set_option linter.unusedVariables false

theorem text_of (w : World) (B : Nat) (xs : List Int) (hB : B < w.heap.size) (hl : xs.length ≤ 3) (hx : ∀ x ∈ xs, 0 ≤ x ∧ x ≤ 255) (hc : ∀ i, i < xs.length → w.cell? ⟨B, i, none⟩ = some (.int .i64 (xs[i]?.getD 0))) (n : Nat) (hn : xs.length = n) :
    Calls Try.prog 22 #[.slice (some ⟨B, 0, none⟩) n n] w fun e w' => e = .returned (.string (strOfNums xs)) ∧ Below w.heap.size w w' := by
  subst hn; exact text_any w B xs hB hl hx hc
/-- 'text' of one, two, three numbers in a new block. -/
theorem text1 (W : World) (a : Int) (ha : 0 ≤ a ∧ a ≤ 255) (B : Nat) (hB : W.heap.size = B) :
    Calls Try.prog 22 #[.slice (some ⟨B, 0, none⟩) 1 1] (W.alloc (.cells #[.int .i64 a] 3)) fun e w' => e = .returned (.string (strOfNums [a])) ∧ Below (W.alloc (.cells #[.int .i64 a] 3)).heap.size (W.alloc (.cells #[.int .i64 a] 3)) w' := by
  subst hB
  refine text_of _ _ [a] (by simp) (by simp) (by simpa using ha) ?_ 1 rfl
  intro i hi
  obtain rfl : i = 0 := by simpa using hi
  simp [go_sem]
theorem text2 (W : World) (a b : Int) (ha : 0 ≤ a ∧ a ≤ 255) (hb : 0 ≤ b ∧ b ≤ 255) (B : Nat) (hB : W.heap.size = B) :
    Calls Try.prog 22 #[.slice (some ⟨B, 0, none⟩) 2 2] (W.alloc (.cells #[.int .i64 a, .int .i64 b] 3)) fun e w' => e = .returned (.string (strOfNums [a, b])) ∧ Below (W.alloc (.cells #[.int .i64 a, .int .i64 b] 3)).heap.size (W.alloc (.cells #[.int .i64 a, .int .i64 b] 3)) w' := by
  subst hB
  refine text_of _ _ [a, b] (by simp) (by simp) (by simp; omega) ?_ 2 rfl
  intro i hi
  simp at hi
  obtain rfl | rfl : i = 0 ∨ i = 1 := by omega
  all_goals simp [go_sem]
theorem text3 (W : World) (a b c : Int) (ha : 0 ≤ a ∧ a ≤ 255) (hb : 0 ≤ b ∧ b ≤ 255) (hc : 0 ≤ c ∧ c ≤ 255) (B : Nat) (hB : W.heap.size = B) :
    Calls Try.prog 22 #[.slice (some ⟨B, 0, none⟩) 3 3] (W.alloc (.cells #[.int .i64 a, .int .i64 b, .int .i64 c] 3)) fun e w' => e = .returned (.string (strOfNums [a, b, c])) ∧ Below (W.alloc (.cells #[.int .i64 a, .int .i64 b, .int .i64 c] 3)).heap.size (W.alloc (.cells #[.int .i64 a, .int .i64 b, .int .i64 c] 3)) w' := by
  subst hB
  refine text_of _ _ [a, b, c] (by simp) (by simp) (by simp; omega) ?_ 3 rfl
  intro i hi
  simp at hi
  obtain rfl | rfl | rfl : i = 0 ∨ i = 1 ∨ i = 2 := by omega
  all_goals simp [go_sem]

theorem charOf_bd (c : Int) (s t : Bool) (h0 : 32 ≤ c) (h1 : c ≤ 126) : 0 ≤ charOf c s t ∧ charOf c s t ≤ 255 := by
  simp only [charOf]
  cases s <;> cases t <;> simp <;> (repeat' split) <;> omega
theorem sel_bd (l : List Int) (hl : ∀ x ∈ l, 0 ≤ x ∧ x ≤ 255) (c : Int) : 0 ≤ sel l c ∧ sel l c ≤ 255 := by
  unfold sel
  by_cases h : c.toNat < l.length
  · rw [show l.getD c.toNat 0 = l[c.toNat] by simp [List.getD, h]]
    exact hl _ (List.getElem_mem h)
  · rw [show l.getD c.toNat 0 = 0 by simp [List.getD, Nat.not_lt.1 h]]
    decide

theorem tab? (l : List Int) (c : Int) (h0 : 0 ≤ c) (h : c < l.length) : (l.map (Value.int .i64))[c.toNat]? = some (.int .i64 (sel l c)) := by
  have h' : c.toNat < l.length := by omega
  simp [sel, List.getD, h']
theorem rs_1 (p c : Int) (s t pad : Bool) (h0 : 32 ≤ c) (h1 : c ≤ 126) : Fn 13 #[.int .i64 p, keyv 1 c s t, .bool pad] (.string (strOfNums [charOf c s t])) := by
  intro w
  have H := rchar_any 1 c s t h0 h1
  have hd := charOf_bd c s t h0 h1
  generalize charOf c s t = y at *
  unfold keyv at *
  go_enter Try.func13, Try.ntmps13
  go_wp2_with (first | (go_at_call 23; refine (H _).mono ?_; rintro e w1 ⟨rfl, hb1⟩) | (go_at_call 22; refine (text1 _ _ hd _ (by simp)).mono ?_; rintro e w2 ⟨rfl, hb2⟩))
  go_ret
  exact ⟨rfl, by repeat (first | exact Below.refl _ _ | refine bel_alloc ?_ _ | refine bel_call ?_ hb2 | refine bel_call ?_ hb1)⟩

theorem rs_2a (c : Int) (s t pad : Bool) (h0 : 0 ≤ c) (h1 : c ≤ 4) : Fn 13 #[.int .i64 1, keyv 2 c s t, .bool pad] (.string (strOfNums [27, sel vts c])) := by
  intro w
  have ht : ([Value.int .i64 65, Value.int .i64 66, Value.int .i64 67, Value.int .i64 68, Value.int .i64 72] : List Value)[c.toNat]? = some (.int .i64 (sel vts c)) := tab? vts c h0 (by simp [vts]; omega)
  have hd := sel_bd vts (by decide) c
  have hd0 := hd.1
  have hd1 := hd.2
  clear hd
  generalize sel vts c = y at *
  unfold keyv at *
  go_enter Try.func13, Try.ntmps13
  go_wp2_with (go_at_call 22; refine (text2 _ _ _ (by decide) ⟨hd0, hd1⟩ _ (by simp)).mono ?_; rintro e w2 ⟨rfl, hb2⟩)
  go_ret
  exact ⟨rfl, by repeat (first | exact Below.refl _ _ | refine bel_alloc ?_ _ | refine bel_call ?_ hb2)⟩

theorem rs_2b (c : Int) (s t pad : Bool) (h0 : 0 ≤ c) (h1 : c ≤ 4) : Fn 13 #[.int .i64 2, keyv 2 c s t, .bool pad] (.string (strOfNums [0, sel scans c])) := by
  intro w
  have ht : ([Value.int .i64 72, Value.int .i64 80, Value.int .i64 77, Value.int .i64 75, Value.int .i64 71] : List Value)[c.toNat]? = some (.int .i64 (sel scans c)) := tab? scans c h0 (by simp [scans]; omega)
  have hd := sel_bd scans (by decide) c
  have hd0 := hd.1
  have hd1 := hd.2
  clear hd
  generalize sel scans c = y at *
  unfold keyv at *
  go_enter Try.func13, Try.ntmps13
  go_wp2_with (go_at_call 22; refine (text2 _ _ _ (by decide) ⟨hd0, hd1⟩ _ (by simp)).mono ?_; rintro e w2 ⟨rfl, hb2⟩)
  go_ret
  exact ⟨rfl, by repeat (first | exact Below.refl _ _ | refine bel_alloc ?_ _ | refine bel_call ?_ hb2)⟩

theorem rs_2c (p c : Int) (s t pad : Bool) (hp : 2 < p) (h0 : 0 ≤ c) (h1 : c ≤ 4) : Fn 13 #[.int .i64 p, keyv 2 c s t, .bool pad] (.string (strOfNums [sel moves c])) := by
  intro w
  have ht : ([Value.int .i64 11, Value.int .i64 10, Value.int .i64 12, Value.int .i64 8, Value.int .i64 30] : List Value)[c.toNat]? = some (.int .i64 (sel moves c)) := tab? moves c h0 (by simp [moves]; omega)
  have hd := sel_bd moves (by decide) c
  have hd0 := hd.1
  have hd1 := hd.2
  clear hd
  generalize sel moves c = y at *
  have p1 : (p == 1) = false := by simp; omega
  have p2 : (p == 2) = false := by simp; omega
  unfold keyv at *
  go_enter Try.func13, Try.ntmps13
  go_wp2_with (go_at_call 22; refine (text1 _ _ ⟨hd0, hd1⟩ _ (by simp)).mono ?_; rintro e w2 ⟨rfl, hb2⟩)
  go_ret
  exact ⟨rfl, by repeat (first | exact Below.refl _ _ | refine bel_alloc ?_ _ | refine bel_call ?_ hb2)⟩

theorem rs_5 (p c : Int) (s t pad : Bool) (h0 : 0 ≤ c) (h1 : c ≤ 4) : Fn 13 #[.int .i64 p, keyv 5 c s t, .bool pad] (.string (strOfNums [sel edits c])) := by
  intro w
  have ht : ([Value.int .i64 8, Value.int .i64 9, Value.int .i64 13, Value.int .i64 27, Value.int .i64 127] : List Value)[c.toNat]? = some (.int .i64 (sel edits c)) := tab? edits c h0 (by simp [edits]; omega)
  have hd := sel_bd edits (by decide) c
  have hd0 := hd.1
  have hd1 := hd.2
  clear hd
  generalize sel edits c = y at *
  unfold keyv at *
  go_enter Try.func13, Try.ntmps13
  go_wp2_with (go_at_call 22; refine (text1 _ _ ⟨hd0, hd1⟩ _ (by simp)).mono ?_; rintro e w2 ⟨rfl, hb2⟩)
  go_ret
  exact ⟨rfl, by repeat (first | exact Below.refl _ _ | refine bel_alloc ?_ _ | refine bel_call ?_ hb2)⟩

theorem rs_3 (p c : Int) (s t pad : Bool) (hp : p ≠ 1 ∨ pad = false) (h0 : 0 ≤ c) (h1 : c ≤ 13) : Fn 13 #[.int .i64 p, keyv 3 c s t, .bool pad] (.string (strOfNums [sel pads c])) := by
  intro w
  have H := on_any c h0 h1
  have hd := sel_bd pads (by decide) c
  have hd0 := hd.1
  have hd1 := hd.2
  clear hd
  generalize sel pads c = y at *
  unfold keyv at *
  by_cases hq : p = 1
  · have : pad = false := by rcases hp with h | h; exact absurd hq h; exact h
    subst this
    subst hq
    clear hp
    go_enter Try.func13, Try.ntmps13
    go_wp2_with (first | (go_at_call 24; refine (H _).mono ?_; rintro e w1 ⟨rfl, hb1⟩) | (go_at_call 22; refine (text1 _ _ ⟨hd0, hd1⟩ _ (by simp)).mono ?_; rintro e w2 ⟨rfl, hb2⟩))
    go_ret
    exact ⟨rfl, by repeat (first | exact Below.refl _ _ | refine bel_alloc ?_ _ | refine bel_call ?_ hb2 | refine bel_call ?_ hb1)⟩
  · have p1 : (p != 1) = true := by simpa using hq
    clear hp hq
    go_enter Try.func13, Try.ntmps13
    go_wp2_with (first | (go_at_call 24; refine (H _).mono ?_; rintro e w1 ⟨rfl, hb1⟩) | (go_at_call 22; refine (text1 _ _ ⟨hd0, hd1⟩ _ (by simp)).mono ?_; rintro e w2 ⟨rfl, hb2⟩))
    go_ret
    exact ⟨rfl, by repeat (first | exact Below.refl _ _ | refine bel_alloc ?_ _ | refine bel_call ?_ hb2 | refine bel_call ?_ hb1)⟩
theorem apps_low (c : Int) (h0 : 0 ≤ c) (h1 : c < 10) : sel apps c = 112 + c := by
  obtain rfl | rfl | rfl | rfl | rfl | rfl | rfl | rfl | rfl | rfl : c = 0 ∨ c = 1 ∨ c = 2 ∨ c = 3 ∨ c = 4 ∨ c = 5 ∨ c = 6 ∨ c = 7 ∨ c = 8 ∨ c = 9 := by omega
  all_goals rfl
theorem apps_high (c : Int) (h0 : 10 ≤ c) (h1 : c ≤ 13) : sel [110, 108, 109, 77] (c - 10) = sel apps c := by
  obtain rfl | rfl | rfl | rfl : c = 10 ∨ c = 11 ∨ c = 12 ∨ c = 13 := by omega
  all_goals rfl
theorem rs_3p (c : Int) (s t : Bool) (h0 : 0 ≤ c) (h1 : c ≤ 13) : Fn 13 #[.int .i64 1, keyv 3 c s t, .bool true] (.string (strOfNums [27, 63, sel apps c])) := by
  intro w
  by_cases h : c < 10
  · rw [apps_low c h0 h]
    unfold keyv
    go_enter Try.func13, Try.ntmps13
    go_wp2_with (go_at_call 22; refine (text3 _ _ _ _ (by decide) (by decide) (by omega) _ (by simp)).mono ?_; rintro e w2 ⟨rfl, hb2⟩)
    go_ret
    exact ⟨rfl, by repeat (first | exact Below.refl _ _ | refine bel_alloc ?_ _ | refine bel_call ?_ hb2)⟩
  · have ht : ([Value.int .i64 110, Value.int .i64 108, Value.int .i64 109, Value.int .i64 77] : List Value)[(c - 10).toNat]? = some (.int .i64 (sel apps c)) := by
      rw [← apps_high c (by omega) h1]
      exact tab? [110, 108, 109, 77] (c - 10) (by omega) (by simp; omega)
    have ht' : ∀ h, ([Value.int .i64 110, Value.int .i64 108, Value.int .i64 109, Value.int .i64 77] : List Value)[(c - 10).toNat]'h = .int .i64 (sel apps c) := by
      intro h'
      rw [← apps_high c (by omega) h1]
      exact tab [110, 108, 109, 77] (c - 10) h'
    have hd := sel_bd apps (by decide) c
    have hd0 := hd.1
    have hd1 := hd.2
    clear hd
    generalize sel apps c = y at *
    have h2 : c - 10 < 4 := by omega
    have h3 : 0 ≤ c - 10 := by omega
    unfold keyv
    go_enter Try.func13, Try.ntmps13
    go_wp2_with (go_at_call 22; refine (text3 _ _ _ _ (by decide) (by decide) ⟨hd0, hd1⟩ _ (by simp)).mono ?_; rintro e w2 ⟨rfl, hb2⟩)
    go_ret
    exact ⟨rfl, by repeat (first | exact Below.refl _ _ | refine bel_alloc ?_ _ | refine bel_call ?_ hb2)⟩
theorem rs_4n (c : Int) (s t pad : Bool) (h0 : 3 < c) (h1 : c ≤ 12) : Fn 13 #[.int .i64 1, keyv 4 c s t, .bool pad] (.string (strOfNums [])) := by
  intro w
  unfold keyv
  go_enter Try.func13, Try.ntmps13
  go_wp2
  go_ret
  exact ⟨rfl, by repeat (first | exact Below.refl _ _ | refine bel_alloc ?_ _)⟩
theorem rs_4a (c : Int) (s t pad : Bool) (h0 : 1 ≤ c) (h1 : c ≤ 3) : Fn 13 #[.int .i64 1, keyv 4 c s t, .bool pad] (.string (strOfNums [27, 79 + c])) := by
  intro w
  unfold keyv
  go_enter Try.func13, Try.ntmps13
  go_wp2_with (go_at_call 22; refine (text2 _ _ _ (by decide) (by omega) _ (by simp)).mono ?_; rintro e w2 ⟨rfl, hb2⟩)
  go_ret
  exact ⟨rfl, by repeat (first | exact Below.refl _ _ | refine bel_alloc ?_ _ | refine bel_call ?_ hb2)⟩
theorem dosOf_bd (c : Int) (s t : Bool) (h0 : 1 ≤ c) (h1 : c ≤ 12) : 0 ≤ dosOf c s t ∧ dosOf c s t ≤ 255 := by
  unfold dosOf
  cases s <;> cases t <;> simp <;> split <;> omega
theorem rs_4b (c : Int) (s t pad : Bool) (h0 : 1 ≤ c) (h1 : c ≤ 12) : Fn 13 #[.int .i64 2, keyv 4 c s t, .bool pad] (.string (strOfNums [0, dosOf c s t])) := by
  intro w
  have H := rdos_any 4 c s t h0 h1
  have hd := dosOf_bd c s t h0 h1
  generalize dosOf c s t = y at *
  unfold keyv at *
  go_enter Try.func13, Try.ntmps13
  go_wp2_with (first | (go_at_call 25; refine (H _).mono ?_; rintro e w1 ⟨rfl, hb1⟩) | (go_at_call 22; refine (text2 _ _ _ (by decide) hd _ (by simp)).mono ?_; rintro e w2 ⟨rfl, hb2⟩))
  go_ret
  exact ⟨rfl, by repeat (first | exact Below.refl _ _ | refine bel_alloc ?_ _ | refine bel_call ?_ hb2 | refine bel_call ?_ hb1)⟩
theorem rs_4c (p c : Int) (s t pad : Bool) (hp : 2 < p) (h0 : 1 ≤ c) (h1 : c ≤ 12) : Fn 13 #[.int .i64 p, keyv 4 c s t, .bool pad] (.string (strOfNums [1, (if s then 95 else 63) + c, 13])) := by
  intro w
  have p1 : (p == 1) = false := by simp; omega
  have p2 : (p == 2) = false := by simp; omega
  unfold keyv
  cases s
  · simp only [Bool.false_eq_true, if_false]
    go_enter Try.func13, Try.ntmps13
    go_wp2_with (go_at_call 22; refine (text3 _ _ _ _ (by decide) (by omega) (by decide) _ (by simp)).mono ?_; rintro e w2 ⟨rfl, hb2⟩)
    go_ret
    exact ⟨rfl, by repeat (first | exact Below.refl _ _ | refine bel_alloc ?_ _ | refine bel_call ?_ hb2)⟩
  · simp only [if_true]
    go_enter Try.func13, Try.ntmps13
    go_wp2_with (go_at_call 22; refine (text3 _ _ _ _ (by decide) (by omega) (by decide) _ (by simp)).mono ?_; rintro e w2 ⟨rfl, hb2⟩)
    go_ret
    exact ⟨rfl, by repeat (first | exact Below.refl _ _ | refine bel_alloc ?_ _ | refine bel_call ?_ hb2)⟩
theorem rsends_any (p k c : Int) (s t pad : Bool) (h1 : 1 ≤ p) (hc : checkOf k c = 0) : Fn 13 #[.int .i64 p, keyv k c s t, .bool pad] (.string (strOfNums (kSends p k c s t pad))) := by
  obtain ⟨k1, k5, hl, hh⟩ := range_of k c hc
  obtain rfl | rfl | rfl | rfl | rfl : k = 1 ∨ k = 2 ∨ k = 3 ∨ k = 4 ∨ k = 5 := by omega
  · exact rs_1 p c s t pad hl hh
  · by_cases a : p = 1
    · subst a; exact rs_2a c s t pad hl hh
    · by_cases b : p = 2
      · subst b; exact rs_2b c s t pad hl hh
      · rw [show kSends p 2 c s t pad = [sel moves c] by simp [kSends, a, b]]
        exact rs_2c p c s t pad (by omega) hl hh
  · by_cases a : p = 1 ∧ pad = true
    · obtain ⟨rfl, rfl⟩ := a; exact rs_3p c s t hl hh
    · rw [show kSends p 3 c s t pad = [sel pads c] by simp [kSends]; intro e1; cases pad; rfl; exact absurd ⟨e1, rfl⟩ a]
      exact rs_3 p c s t pad (by by_cases e : p = 1; exact .inr (by cases pad; rfl; exact absurd ⟨e, rfl⟩ a); exact .inl e) hl hh
  · by_cases a : p = 1
    · subst a
      by_cases h3 : c ≤ 3
      · rw [show kSends 1 4 c s t pad = [27, 79 + c] by simp [kSends, h3]]
        exact rs_4a c s t pad hl h3
      · rw [show kSends 1 4 c s t pad = [] by simp [kSends, h3]]
        exact rs_4n c s t pad (by omega) hh
    · by_cases b : p = 2
      · subst b; exact rs_4b c s t pad hl hh
      · rw [show kSends p 4 c s t pad = [1, (if s then 95 else 63) + c, 13] by simp [kSends, a, b]]
        exact rs_4c p c s t pad (by omega) hl hh
  · exact rs_5 p c s t pad hl hh
end Go.Proofs.Ytkenihkfjepdfaa
