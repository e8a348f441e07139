/- What a key sends: the plain lists, and the contracts of plain, Check, sends. -/
import Derived.Test.YtkenihkfjepdfaaK1
import Derived.Laws.EntriesVeiled
namespace Go.Proofs.Ytkenihkfjepdfaa
open Go.RowKit
attribute [local go_sem] conv1 conv3
theorem ret2_str {a b : ByteArray} {x : Value} (h : a = b) : Ending.returned (.tuple #[.string a, x]) = .returned (.tuple #[.string b, x]) := by rw [h]

theorem has_is (a b x : Int) (r : Bool) (h : (decide (a ≤ x) && decide (x ≤ b)) = r) : Fn 20 #[.agg #[.int .i64 a, .int .i64 b], .int .i64 x] (.bool r) := by
  rw [← h]; exact has_int a b x

set_option maxHeartbeats 1000000 in
theorem check_any (k c : Int) (s t : Bool) : Fn 10 #[keyv k c s t] (.int .i64 (checkOf k c)) := by
  intro w
  unfold keyv
  by_cases hk : k < 1 ∨ 5 < k
  · go_enter Try.func10, Try.ntmps10
    go_wp2_with (go_at_call 19; refine (codes_no _ hk _).mono ?_; rintro e w1 ⟨rfl, hb1⟩; obtain ⟨hc1, hf1⟩ := bcell hb1)
    go_ret
    exact ⟨ret_int (by simp [checkOf, hk]), by repeat (first | exact Below.refl _ _ | refine bel_alloc ?_ _ | refine bel_call ?_ hb1)⟩
  · have h1 : 1 ≤ k := by omega
    have h5 : k ≤ 5 := by omega
    obtain ⟨r, hr⟩ : ∃ r, (decide (lowOf k ≤ c) && decide (c ≤ highOf k)) = r := ⟨_, rfl⟩
    have H := has_is _ _ _ r hr
    have e : checkOf k c = if r = true then 0 else 1 := by
      rw [← hr]; simp [checkOf, hk]; split <;> split <;> omega
    rw [e]
    clear e hr
    cases r
    all_goals
      go_enter Try.func10, Try.ntmps10
      go_wp2_with (first | (go_at_call 19; refine (codes_yes _ h1 h5 _).mono ?_; rintro e w1 ⟨rfl, hb1⟩; obtain ⟨hc1, hf1⟩ := bcell hb1; have hz0 := hb1.size; simp at hz0; have hz1 : w.heap.size < w1.heap.size := (by omega); clear hz0) | (go_at_call 20; refine (H _).mono ?_; rintro e w2 ⟨rfl, hb2⟩))
      go_ret
      exact ⟨ret_int (by simp), by repeat (first | exact Below.refl _ _ | refine bel_alloc ?_ _ | refine bel_call ?_ hb2 | refine bel_call ?_ hb1 | refine bel_set ?_ (by simp; omega) _)⟩
set_option maxHeartbeats 1000000 in
theorem sends_any : Fn 21 #[] (.agg #[.nilFunc, .func (.func 30) #[] #[], .func (.func 31) #[] #[], .func (.func 32) #[] #[], .func (.func 32) #[] #[]]) := by
  intro w
  go_enter Try.func21, Try.ntmps21
  go_wp2
  exact bodyPost_ret (v := (.agg #[.nilFunc, .func (.func 30) #[] #[], .func (.func 31) #[] #[], .func (.func 32) #[] #[], .func (.func 32) #[] #[]])) (by simp [results, Try.results21, go_sem]) rfl ⟨rfl, bel_alloc (Below.refl _ _) _⟩

def sel (l : List Int) (c : Int) : Int := l.getD c.toNat 0
def pads : List Int := [48, 49, 50, 51, 52, 53, 54, 55, 56, 57, 46, 44, 45, 13]
def apps : List Int := [112, 113, 114, 115, 116, 117, 118, 119, 120, 121, 110, 108, 109, 77]
def edits : List Int := [8, 9, 13, 27, 127]
def vts : List Int := [65, 66, 67, 68, 72]
def scans : List Int := [72, 80, 77, 75, 71]
def moves : List Int := [11, 10, 12, 8, 30]
def dosOf (c : Int) (s t : Bool) : Int :=
  if 11 ≤ c then (if t then 126 + c else if s then 124 + c else 122 + c) else (if t then 93 + c else if s then 83 + c else 58 + c)
/-- What a key that may be sends. -/
def kSends (p k c : Int) (s t pad : Bool) : List Int :=
  if k = 1 then [charOf c s t]
  else if k = 2 then (if p = 1 then [27, sel vts c] else if p = 2 then [0, sel scans c] else [sel moves c])
  else if k = 3 then (if p = 1 ∧ pad = true then [27, 63, sel apps c] else [sel pads c])
  else if k = 4 then (if p = 1 then (if c ≤ 3 then [27, 79 + c] else []) else if p = 2 then [0, dosOf c s t] else [1, (if s then 95 else 63) + c, 13])
  else [sel edits c]

theorem ex_pads (c : Int) (h0 : 0 ≤ c) (h1 : c ≤ 13) : ByteArray.extract { data := #[48, 49, 50, 51, 52, 53, 54, 55, 56, 57, 46, 44, 45, 13] } c.toNat (c + 1).toNat = strOfNums [sel pads c] := by
  obtain rfl | rfl | rfl | rfl | rfl | rfl | rfl | rfl | rfl | rfl | rfl | rfl | rfl | rfl : c = 0 ∨ c = 1 ∨ c = 2 ∨ c = 3 ∨ c = 4 ∨ c = 5 ∨ c = 6 ∨ c = 7 ∨ c = 8 ∨ c = 9 ∨ c = 10 ∨ c = 11 ∨ c = 12 ∨ c = 13 := by omega
  all_goals decide +kernel
theorem ex_apps (c : Int) (h0 : 0 ≤ c) (h1 : c ≤ 13) : ({ data := #[27, 63] } : ByteArray) ++ ByteArray.extract { data := #[112, 113, 114, 115, 116, 117, 118, 119, 120, 121, 110, 108, 109, 77] } c.toNat (c + 1).toNat = strOfNums [27, 63, sel apps c] := by
  obtain rfl | rfl | rfl | rfl | rfl | rfl | rfl | rfl | rfl | rfl | rfl | rfl | rfl | rfl : c = 0 ∨ c = 1 ∨ c = 2 ∨ c = 3 ∨ c = 4 ∨ c = 5 ∨ c = 6 ∨ c = 7 ∨ c = 8 ∨ c = 9 ∨ c = 10 ∨ c = 11 ∨ c = 12 ∨ c = 13 := by omega
  all_goals decide +kernel
theorem ex_edits (c : Int) (h0 : 0 ≤ c) (h1 : c ≤ 4) : ByteArray.extract { data := #[8, 9, 13, 27, 127] } c.toNat (c + 1).toNat = strOfNums [sel edits c] := by
  obtain rfl | rfl | rfl | rfl | rfl : c = 0 ∨ c = 1 ∨ c = 2 ∨ c = 3 ∨ c = 4 := by omega
  all_goals decide +kernel
theorem ex_vts (c : Int) (h0 : 0 ≤ c) (h1 : c ≤ 4) : ({ data := #[27] } : ByteArray) ++ ByteArray.extract { data := #[65, 66, 67, 68, 72] } c.toNat (c + 1).toNat = strOfNums [27, sel vts c] := by
  obtain rfl | rfl | rfl | rfl | rfl : c = 0 ∨ c = 1 ∨ c = 2 ∨ c = 3 ∨ c = 4 := by omega
  all_goals decide +kernel
theorem ex_scans (c : Int) (h0 : 0 ≤ c) (h1 : c ≤ 4) : ({ data := #[0] } : ByteArray) ++ ByteArray.extract { data := #[72, 80, 77, 75, 71] } c.toNat (c + 1).toNat = strOfNums [0, sel scans c] := by
  obtain rfl | rfl | rfl | rfl | rfl : c = 0 ∨ c = 1 ∨ c = 2 ∨ c = 3 ∨ c = 4 := by omega
  all_goals decide +kernel
theorem ex_moves (c : Int) (h0 : 0 ≤ c) (h1 : c ≤ 4) : ByteArray.extract { data := #[11, 10, 12, 8, 30] } c.toNat (c + 1).toNat = strOfNums [sel moves c] := by
  obtain rfl | rfl | rfl | rfl | rfl : c = 0 ∨ c = 1 ∨ c = 2 ∨ c = 3 ∨ c = 4 := by omega
  all_goals decide +kernel
theorem ex_funcs (c : Int) (h0 : 1 ≤ c) (h1 : c ≤ 3) : ({ data := #[27] } : ByteArray) ++ ByteArray.extract { data := #[80, 81, 82] } (c - 1).toNat c.toNat = strOfNums [27, 79 + c] := by
  obtain rfl | rfl | rfl : c = 1 ∨ c = 2 ∨ c = 3 := by omega
  all_goals decide +kernel
theorem ex_dos (x : Int) : ({ data := #[0] } : ByteArray) ++ strOfNums [x] = strOfNums [0, x] := by
  simp [strOfNums]; rfl

theorem plain1 (c : Int) (s t : Bool) (h0 : 32 ≤ c) (h1 : c ≤ 126) : Fn 34 #[keyv 1 c s t] (.tuple #[.string (strOfNums [charOf c s t]), .bool true]) := by
  intro w
  have H := char_any c s t h0 h1
  unfold keyv at H ⊢
  go_enter Try.func34, Try.ntmps34
  go_wp2_with (go_at_call 36; refine (H _).mono ?_; rintro e w1 ⟨rfl, hb1⟩)
  go_ret2
  exact ⟨rfl, by repeat (first | exact Below.refl _ _ | refine bel_alloc ?_ _ | refine bel_call ?_ hb1)⟩
theorem plain3 (c : Int) (s t : Bool) (h0 : 0 ≤ c) (h1 : c ≤ 13) : Fn 34 #[keyv 3 c s t] (.tuple #[.string (strOfNums [sel pads c]), .bool true]) := by
  intro w
  rw [← ex_pads c h0 h1]
  unfold keyv
  go_enter Try.func34, Try.ntmps34
  go_wp2
  go_ret2
  exact ⟨rfl, by repeat (first | exact Below.refl _ _ | refine bel_alloc ?_ _)⟩
theorem plain5 (c : Int) (s t : Bool) (h0 : 0 ≤ c) (h1 : c ≤ 4) : Fn 34 #[keyv 5 c s t] (.tuple #[.string (strOfNums [sel edits c]), .bool true]) := by
  intro w
  rw [← ex_edits c h0 h1]
  unfold keyv
  go_enter Try.func34, Try.ntmps34
  go_wp2
  go_ret2
  exact ⟨rfl, by repeat (first | exact Below.refl _ _ | refine bel_alloc ?_ _)⟩
theorem plain4 (c : Int) (s t : Bool) : Fn 34 #[keyv 4 c s t] (.tuple #[.string (strOfNums []), .bool false]) := by
  intro w
  unfold keyv
  go_enter Try.func34, Try.ntmps34
  go_wp2
  go_ret2
  exact ⟨rfl, by repeat (first | exact Below.refl _ _ | refine bel_alloc ?_ _)⟩
/-- A key of a kind that sends the same everywhere, or of a VT52's that sends nothing. -/
theorem plain_any (k c : Int) (s t : Bool) (hc : checkOf k c = 0) (h2 : k ≠ 2) : Fn 34 #[keyv k c s t] (.tuple #[.string (strOfNums (if k = 4 then [] else kSends 0 k c s t false)), .bool (decide (k ≠ 4))]) := by
  have h : ¬ (k < 1 ∨ 5 < k) ∧ lowOf k ≤ c ∧ c ≤ highOf k := by
    unfold checkOf at hc; split at hc
    · simp at hc
    · split at hc
      · simp at hc
      · omega
  obtain ⟨h5, hl, hh⟩ := h
  obtain rfl | rfl | rfl | rfl : k = 1 ∨ k = 3 ∨ k = 4 ∨ k = 5 := by omega
  · exact plain1 c s t hl hh
  · exact plain3 c s t hl hh
  · exact plain4 c s t
  · exact plain5 c s t hl hh
end Go.Proofs.Ytkenihkfjepdfaa
