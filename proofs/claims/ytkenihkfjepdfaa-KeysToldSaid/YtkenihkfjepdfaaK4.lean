/- The contract of Encode. -/
import Derived.Test.YtkenihkfjepdfaaK3
import Derived.Deep.RegionHeld3
namespace Go.Proofs.Ytkenihkfjepdfaa
open Go.RowKit

/-- A key's four cells are there in every later world. -/
theorem keepKey {w w1 : World} {k c : Int} {s t : Bool} {o : Obj} (hb1 : Below (w.alloc o).heap.size (w.alloc o) w1) (ho : o = .cells #[.int .i64 k, .int .i64 c, .bool s, .bool t] 23) (W : World) (h : Below w1.heap.size w1 W) :
    (W.cell? ⟨w.heap.size, 0, none⟩ = some (.int .i64 k) ∧ W.cell? ⟨w.heap.size, 1, none⟩ = some (.int .i64 c) ∧ W.cell? ⟨w.heap.size, 2, none⟩ = some (.bool s) ∧ W.cell? ⟨w.heap.size, 3, none⟩ = some (.bool t)) ∧ Below w1.heap.size w1 W := by
  subst ho
  have hz0 := hb1.size
  simp at hz0
  have hc1 : ∀ i, W.cell? ⟨w.heap.size, i, none⟩ = _ := fun i => (h.cell (p := ⟨w.heap.size, i, none⟩) (by simp; omega)).trans (hb1.cell (p := ⟨w.heap.size, i, none⟩) (by simp))
  have k0 := hc1 0
  have k1 := hc1 1
  have k2 := hc1 2
  have k3 := hc1 3
  simp [go_sem] at k0 k1 k2 k3
  exact ⟨⟨k0, k1, k2, k3⟩, h⟩

theorem enc_1 (k c : Int) (s t pad : Bool) (v : ByteArray) (hc : checkOf k c = 0) (H : Fn 30 #[keyv k c s t, .bool pad] (.string v)) :
    Fn 11 #[.int .i64 1, keyv k c s t, .bool pad] (.tuple #[.string v, .int .i64 0]) := by
  intro w
  have HC := check_any k c s t
  rw [hc] at HC
  clear hc
  unfold keyv at *
  have i1 : ∀ w, (Instr.index 60 (.agg #[.nilFunc, .func (.func 30) #[] #[], .func (.func 31) #[] #[], .func (.func 32) #[] #[], .func (.func 32) #[] #[]]) (.int .i64 1)).run Try.prog w = .ok (.func (.func 30) #[] #[]) w := fun _ => by kernel_rfl
  go_enter Try.func11, Try.ntmps11
  go_wp2_with (go_at_call 10; refine (HC _).mono ?_; rintro e w1 ⟨rfl, hb1⟩)
  have KB := keepKey hb1 rfl
  go_region_held3 (fun W => (W.cell? ⟨w.heap.size, 0, none⟩ = some (.int .i64 k) ∧ W.cell? ⟨w.heap.size, 1, none⟩ = some (.int .i64 c) ∧ W.cell? ⟨w.heap.size, 2, none⟩ = some (.bool s) ∧ W.cell? ⟨w.heap.size, 3, none⟩ = some (.bool t)) ∧ Below w1.heap.size w1 W)
    (first | exact KB _ (Below.refl _ _).drew | exact KB _ (bel_call (Below.refl _ _).drew hb2) | exact KB _ (bel_call (bel_call (Below.refl _ _).drew hb2) hb3))
    (first | (go_at_call 21; refine (sends_any _).mono ?_; rintro e w2 ⟨rfl, hb2⟩) | (go_at_call 30; refine (H _).mono ?_; rintro e w3 ⟨rfl, hb3⟩))
  go_wp2
  go_ret2
  exact ⟨rfl, bel_call (bel_call (bel_call (bel_alloc (Below.refl _ _) _) hb1).drew hb2) hb3⟩
theorem enc_2 (k c : Int) (s t pad : Bool) (v : ByteArray) (hc : checkOf k c = 0) (H : Fn 31 #[keyv k c s t, .bool pad] (.string v)) :
    Fn 11 #[.int .i64 2, keyv k c s t, .bool pad] (.tuple #[.string v, .int .i64 0]) := by
  intro w
  have HC := check_any k c s t
  rw [hc] at HC
  clear hc
  unfold keyv at *
  have i1 : ∀ w, (Instr.index 60 (.agg #[.nilFunc, .func (.func 30) #[] #[], .func (.func 31) #[] #[], .func (.func 32) #[] #[], .func (.func 32) #[] #[]]) (.int .i64 2)).run Try.prog w = .ok (.func (.func 31) #[] #[]) w := fun _ => by kernel_rfl
  go_enter Try.func11, Try.ntmps11
  go_wp2_with (go_at_call 10; refine (HC _).mono ?_; rintro e w1 ⟨rfl, hb1⟩)
  have KB := keepKey hb1 rfl
  go_region_held3 (fun W => (W.cell? ⟨w.heap.size, 0, none⟩ = some (.int .i64 k) ∧ W.cell? ⟨w.heap.size, 1, none⟩ = some (.int .i64 c) ∧ W.cell? ⟨w.heap.size, 2, none⟩ = some (.bool s) ∧ W.cell? ⟨w.heap.size, 3, none⟩ = some (.bool t)) ∧ Below w1.heap.size w1 W)
    (first | exact KB _ (Below.refl _ _).drew | exact KB _ (bel_call (Below.refl _ _).drew hb2) | exact KB _ (bel_call (bel_call (Below.refl _ _).drew hb2) hb3))
    (first | (go_at_call 21; refine (sends_any _).mono ?_; rintro e w2 ⟨rfl, hb2⟩) | (go_at_call 31; refine (H _).mono ?_; rintro e w3 ⟨rfl, hb3⟩))
  go_wp2
  go_ret2
  exact ⟨rfl, bel_call (bel_call (bel_call (bel_alloc (Below.refl _ _) _) hb1).drew hb2) hb3⟩
theorem enc_3 (k c : Int) (s t pad : Bool) (v : ByteArray) (hc : checkOf k c = 0) (H : Fn 32 #[keyv k c s t, .bool pad] (.string v)) :
    Fn 11 #[.int .i64 3, keyv k c s t, .bool pad] (.tuple #[.string v, .int .i64 0]) := by
  intro w
  have HC := check_any k c s t
  rw [hc] at HC
  clear hc
  unfold keyv at *
  have i1 : ∀ w, (Instr.index 60 (.agg #[.nilFunc, .func (.func 30) #[] #[], .func (.func 31) #[] #[], .func (.func 32) #[] #[], .func (.func 32) #[] #[]]) (.int .i64 3)).run Try.prog w = .ok (.func (.func 32) #[] #[]) w := fun _ => by kernel_rfl
  go_enter Try.func11, Try.ntmps11
  go_wp2_with (go_at_call 10; refine (HC _).mono ?_; rintro e w1 ⟨rfl, hb1⟩)
  have KB := keepKey hb1 rfl
  go_region_held3 (fun W => (W.cell? ⟨w.heap.size, 0, none⟩ = some (.int .i64 k) ∧ W.cell? ⟨w.heap.size, 1, none⟩ = some (.int .i64 c) ∧ W.cell? ⟨w.heap.size, 2, none⟩ = some (.bool s) ∧ W.cell? ⟨w.heap.size, 3, none⟩ = some (.bool t)) ∧ Below w1.heap.size w1 W)
    (first | exact KB _ (Below.refl _ _).drew | exact KB _ (bel_call (Below.refl _ _).drew hb2) | exact KB _ (bel_call (bel_call (Below.refl _ _).drew hb2) hb3))
    (first | (go_at_call 21; refine (sends_any _).mono ?_; rintro e w2 ⟨rfl, hb2⟩) | (go_at_call 32; refine (H _).mono ?_; rintro e w3 ⟨rfl, hb3⟩))
  go_wp2
  go_ret2
  exact ⟨rfl, bel_call (bel_call (bel_call (bel_alloc (Below.refl _ _) _) hb1).drew hb2) hb3⟩
theorem enc_4 (k c : Int) (s t pad : Bool) (v : ByteArray) (hc : checkOf k c = 0) (H : Fn 32 #[keyv k c s t, .bool pad] (.string v)) :
    Fn 11 #[.int .i64 4, keyv k c s t, .bool pad] (.tuple #[.string v, .int .i64 0]) := by
  intro w
  have HC := check_any k c s t
  rw [hc] at HC
  clear hc
  unfold keyv at *
  have i1 : ∀ w, (Instr.index 60 (.agg #[.nilFunc, .func (.func 30) #[] #[], .func (.func 31) #[] #[], .func (.func 32) #[] #[], .func (.func 32) #[] #[]]) (.int .i64 4)).run Try.prog w = .ok (.func (.func 32) #[] #[]) w := fun _ => by kernel_rfl
  go_enter Try.func11, Try.ntmps11
  go_wp2_with (go_at_call 10; refine (HC _).mono ?_; rintro e w1 ⟨rfl, hb1⟩)
  have KB := keepKey hb1 rfl
  go_region_held3 (fun W => (W.cell? ⟨w.heap.size, 0, none⟩ = some (.int .i64 k) ∧ W.cell? ⟨w.heap.size, 1, none⟩ = some (.int .i64 c) ∧ W.cell? ⟨w.heap.size, 2, none⟩ = some (.bool s) ∧ W.cell? ⟨w.heap.size, 3, none⟩ = some (.bool t)) ∧ Below w1.heap.size w1 W)
    (first | exact KB _ (Below.refl _ _).drew | exact KB _ (bel_call (Below.refl _ _).drew hb2) | exact KB _ (bel_call (bel_call (Below.refl _ _).drew hb2) hb3))
    (first | (go_at_call 21; refine (sends_any _).mono ?_; rintro e w2 ⟨rfl, hb2⟩) | (go_at_call 32; refine (H _).mono ?_; rintro e w3 ⟨rfl, hb3⟩))
  go_wp2
  go_ret2
  exact ⟨rfl, bel_call (bel_call (bel_call (bel_alloc (Below.refl _ _) _) hb1).drew hb2) hb3⟩

theorem encode_ok (p k c : Int) (s t pad : Bool) (h1 : 1 ≤ p) (h4 : p ≤ 4) (hc : checkOf k c = 0) : Fn 11 #[.int .i64 p, keyv k c s t, .bool pad] (.tuple #[.string (strOfNums (kSends p k c s t pad)), .int .i64 0]) := by
  obtain rfl | rfl | rfl | rfl : p = 1 ∨ p = 2 ∨ p = 3 ∨ p = 4 := by omega
  · exact enc_1 k c s t pad _ hc (vt52_any k c s t pad hc)
  · exact enc_2 k c s t pad _ hc (dos_any k c s t pad hc)
  · exact enc_3 k c s t pad _ hc (wyse_any 3 k c s t pad (by omega) hc)
  · exact enc_4 k c s t pad _ hc (wyse_any 4 k c s t pad (by omega) hc)
theorem encode_none (p k c : Int) (s t pad : Bool) (h : p < 1 ∨ 4 < p) : Fn 11 #[.int .i64 p, keyv k c s t, .bool pad] (.tuple #[.string (strOfNums []), .int .i64 12]) := by
  intro w
  unfold keyv
  rcases h with h | h
  · go_enter Try.func11, Try.ntmps11
    go_wp2
    go_ret2
    exact ⟨rfl, bel_alloc (Below.refl _ _) _⟩
  · have h' : ¬ p < 1 := by omega
    go_enter Try.func11, Try.ntmps11
    go_wp2
    go_ret2
    exact ⟨rfl, bel_alloc (Below.refl _ _) _⟩
theorem encode_bad (p k c : Int) (s t pad : Bool) (h1 : 1 ≤ p) (h4 : p ≤ 4) (hc : checkOf k c ≠ 0) : Fn 11 #[.int .i64 p, keyv k c s t, .bool pad] (.tuple #[.string (strOfNums []), .int .i64 (checkOf k c)]) := by
  intro w
  have HC := check_any k c s t
  have hn : (checkOf k c != 0) = true := by simpa using hc
  generalize checkOf k c = e at *
  clear hc
  unfold keyv at *
  go_enter Try.func11, Try.ntmps11
  go_wp2_with (go_at_call 10; refine (HC _).mono ?_; rintro e w1 ⟨rfl, hb1⟩)
  go_ret2
  exact ⟨rfl, bel_call (bel_alloc (Below.refl _ _) _) hb1⟩
/-- What Encode answers. -/
def encText (p k c : Int) (s t pad : Bool) : List Int := if p < 1 ∨ 4 < p then [] else if checkOf k c = 0 then kSends p k c s t pad else []
def encErr (p k c : Int) : Int := if p < 1 ∨ 4 < p then 12 else checkOf k c
theorem encode_any (p k c : Int) (s t pad : Bool) : Fn 11 #[.int .i64 p, keyv k c s t, .bool pad] (.tuple #[.string (strOfNums (encText p k c s t pad)), .int .i64 (encErr p k c)]) := by
  unfold encText encErr
  by_cases h : p < 1 ∨ 4 < p
  · rw [if_pos h, if_pos h]; exact encode_none p k c s t pad h
  · rw [if_neg h, if_neg h]
    by_cases hc : checkOf k c = 0
    · rw [if_pos hc, hc]; exact encode_ok p k c s t pad (by omega) (by omega) hc
    · rw [if_neg hc]; exact encode_bad p k c s t pad (by omega) (by omega) hc
end Go.Proofs.Ytkenihkfjepdfaa
