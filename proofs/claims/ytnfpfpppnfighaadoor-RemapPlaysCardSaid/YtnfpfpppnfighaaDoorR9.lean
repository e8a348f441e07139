/- remap: awake. -/
import Derived.Test.YtnfpfpppnfighaaDoorR8
namespace Go.Proofs.YtnfpfpppnfighaaDoor
open Go.Shelf Go.RowKit
set_option linter.unusedVariables false
set_option linter.unusedSimpArgs false
set_option maxRecDepth 100000
theorem aw1 : parseV (parseP [48, 59, 53, 57, 59, 34, 100, 105, 114, 34, 59, 49, 51]) = .tuple #[.agg #[.bool true, .int .i64 59], .string ⟨#[100, 105, 114, 13]⟩, .int .i64 0] := by kernel_rfl
theorem dd2 (a b : Nat) (ha : a < 10) (hb : b < 10) (h : 1 ≤ a) : Lib.decDigits (a * 10 + b) = [UInt8.ofNat (48 + a), UInt8.ofNat (48 + b)] := by
  rw [Lib.decDigits, dif_neg (by omega), show (a * 10 + b) / 10 = a by omega, show (a * 10 + b) % 10 = b by omega, Lib.decDigits, dif_pos ha]
  rfl
theorem itoa2 (a b : Nat) (ha : a < 10) (hb : b < 10) (h : 1 ≤ a) : Lib.itoa (((a * 10 + b : Nat) : Int)) = [UInt8.ofNat (48 + a), UInt8.ofNat (48 + b)] := by
  unfold Lib.itoa
  rw [if_neg (by omega), Int.toNat_natCast]
  exact dd2 a b ha hb h
theorem aw2 : tellV false 65 [97, 98] = .tuple #[.string ⟨#[54, 53, 59, 57, 55, 59, 57, 56]⟩, .int .i64 0] := by
  have h1 : Lib.itoa 65 = [54, 53] := itoa2 6 5 (by decide) (by decide) (by decide)
  have h2 : Lib.itoa 97 = [57, 55] := itoa2 9 7 (by decide) (by decide) (by decide)
  have h3 : Lib.itoa 98 = [57, 56] := itoa2 9 8 (by decide) (by decide) (by decide)
  have hm : mayB false 65 = true := by decide
  unfold tellV
  rw [if_pos hm]
  have : tellP false 65 [97, 98] = [54, 53, 59, 57, 55, 59, 57, 56] := by
    unfold tellP bytesP
    rw [h1]
    simp only [List.map_cons, List.map_nil]
    rw [show (((97 : UInt8).toNat : Nat) : Int) = 97 from rfl, show (((98 : UInt8).toNat : Nat) : Int) = 98 from rfl, h2, h3]
    rfl
  rw [this]; rfl
set_option maxHeartbeats 1000000 in
theorem awake_any (w : World) (htab : Tab w) : Calls Tryd.prog 10 #[] w fun e w' => e = .returned (.bool true) ∧ Below w.heap.size w w' := by
  have HP := Lib.hid (fun W => (show Calls Tryd.prog 11 #[.string ⟨#[48, 59, 53, 57, 59, 34, 100, 105, 114, 34, 59, 49, 51]⟩] W fun e w' => e = .returned (.tuple #[.agg #[.bool true, .int .i64 59], .string ⟨#[100, 105, 114, 13]⟩, .int .i64 0]) ∧ Below W.heap.size W w' from by
    have := parse_any W [48, 59, 53, 57, 59, 34, 100, 105, 114, 34, 59, 49, 51] (by decide)
    rw [aw1] at this
    exact this))
  have HT := Lib.hid (fun W (hb : Below w.heap.size w W) => (show Calls Tryd.prog 13 #[.agg #[.bool false, .int .i64 65], .string ⟨#[97, 98]⟩] W fun e w' => e = .returned (.tuple #[.string ⟨#[54, 53, 59, 57, 55, 59, 57, 56]⟩, .int .i64 0]) ∧ Below W.heap.size W w' from by
    have := tell_any W (tab_below htab W hb) false 65 (by decide) (by decide) [97, 98] (by decide)
    rw [aw2] at this
    exact this))
  clear htab
  go_enter Tryd.func10, Tryd.ntmps10
  go_wp2_with fail
  refine (HP.out _).mono ?_
  rintro e w2 ⟨rfl, hb2⟩
  have Hb3 := Lib.hid (show Below w.heap.size w (w2.alloc (.cells #[.bool true, .int .i64 59] 24)) from bel_alloc hb2 _)
  clear hb2
  go_wp2_with fail
  refine (HT.out _ Hb3.out).mono ?_
  rintro e w4 ⟨rfl, hb4⟩
  have k0 := cellB hb4 (b := w2.heap.size) (o := 0) (v := .bool true) (by simp [go_sem])
  have k1 := cellB hb4 (b := w2.heap.size) (o := 1) (v := .int .i64 59) (by simp [go_sem])
  have Hb4 := Lib.hid (bel_call Hb3.out hb4)
  clear hb4
  go_wp2_with fail
  go_ret
  exact ⟨rfl, Hb4.out⟩
end Go.Proofs.YtnfpfpppnfighaaDoor
