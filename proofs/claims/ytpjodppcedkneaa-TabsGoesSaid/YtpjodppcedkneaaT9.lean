/- TabsNil: the law's walk. -/
import Derived.Test.YtpjodppcedkneaaT8
namespace Go.Proofs.Ytpjodppcedkneaa
open Go.RowKit Go.Maps Go.Sort Go.Shelf
set_option linter.unusedVariables false
set_option linter.unusedSimpArgs false
set_option maxRecDepth 100000
theorem iter_zero {k : Nat} (h : 1 ≤ k) (x : Int) : iter (fun _ => 0) k x = 0 := by
  cases k with
  | zero => omega
  | succ k => rfl
theorem go_zero (col n : Int) : goIn (fun _ => 0) (fun _ => 0) 0 col n = 0 := by
  unfold goIn
  split
  · omega
  · split
    · exact iter_zero (by omega) _
    · exact iter_zero (by omega) _
theorem put_nil (ad : Option Addr) (n c : Nat) (w : World) : Calls Try.prog 12 #[.pointer none, .bool true, .slice ad n c] w fun e w' => e = .returned (.int .i64 2) ∧ Below w.heap.size w w' := by
  go_enter Try.func12, Try.ntmps12
  go_wp2_with fail
  go_ret
  exact ⟨rfl, bel_alloc (Below.refl _ _) _⟩
theorem every_nil (n : Int) (w : World) : Calls Try.prog 10 #[.pointer none, .int .i64 n] w fun e w' => e = .returned (.int .i64 2) ∧ Below w.heap.size w w' := by
  go_enter Try.func10, Try.ntmps10
  go_wp2_with fail
  go_ret
  exact ⟨rfl, Below.refl _ _⟩
theorem resize_nil (n : Int) (w : World) : Calls Try.prog 23 #[.pointer none, .int .i64 n] w fun e w' => e = .returned (.int .i64 2) ∧ Below w.heap.size w w' := by
  go_enter Try.func23, Try.ntmps23
  go_wp2_with fail
  go_ret
  exact ⟨rfl, bel_alloc (Below.refl _ _) _⟩
theorem copy_nil (w : World) : Calls Try.prog 22 #[.pointer none] w fun e w' => e = .returned (.pointer none) ∧ Below w.heap.size w w' := by
  go_enter Try.func22, Try.ntmps22
  go_wp2_with fail
  go_ret
  exact ⟨rfl, Below.refl _ _⟩
theorem go_nil (col n : Int) (h0 : -9223372036854775808 ≤ n) (h1 : n ≤ 9223372036854775807) (w : World) : Calls Try.prog 21 #[.pointer none, .int .i64 col, .int .i64 n] w fun e w' => e = .returned (.int .i64 0) ∧ Below w.heap.size w w' := by
  have := go_none w (fun _ => 0) (fun _ => 0) 0 col n (by decide) h0 h1 (fun W x _ => (next_nil x W).mono fun e w' ⟨he, hw⟩ => ⟨he, by rw [hw]; exact Below.refl _ _⟩) (fun W x _ => prev_nil x W) (fun W _ => cols_nil W)
  rwa [go_zero] at this
theorem few_one (w : World) (B : Nat) (ad : Option Addr) (n c : Nat) (h : w.cell? ⟨B, 3, none⟩ = some (.slice ad n c)) : Calls Try.prog 14 #[.slice (some ⟨B, 0, none⟩) 1 1] w fun e w' => e = .returned (.bool (decide (n ≤ 20))) ∧ w' = w := by
  by_cases hn : n ≤ 20
  · have q : ¬ (20 : Int) < (n : Int) := by omega
    rw [show decide (n ≤ 20) = true by simp [hn]]
    go_enter Try.func14, Try.ntmps14
    go_wp2_with fail
    go_loopw [3] (fun i wr => ∃ k : Nat, k ≤ 1 ∧ i = .int .i64 (k : Int) ∧ wr = w) (fun i _ => 1 - (intOf i).toNat)
    case atStart => exact ⟨0, by decide, rfl, rfl⟩
    case round =>
      obtain ⟨k, hk, rfl, rfl⟩ := hrel
      have hk2 : k = 0 ∨ k = 1 := by omega
      rcases hk2 with rfl | rfl
      · go_wp2_with fail
        go_roundw
        case rel => exact ⟨1, by decide, rfl, trivial⟩
        case measure => simp [intOf]
      · go_wp2_with fail
        go_ret
        exact ⟨rfl, rfl⟩
  · have q : (20 : Int) < (n : Int) := by omega
    rw [show decide (n ≤ 20) = false by simp; omega]
    go_enter Try.func14, Try.ntmps14
    go_wp2_with fail
    go_loopw [3] (fun i wr => i = .int .i64 0 ∧ wr = w) (fun i _ => 0)
    case atStart => exact ⟨rfl, rfl⟩
    case round =>
      obtain ⟨rfl, rfl⟩ := hrel
      go_wp2_with fail
      go_ret
      exact ⟨rfl, rfl⟩
set_option maxHeartbeats 1000000 in
theorem nil_walk (a n m : Int) (ad : Option Addr) (len cap : Nat) (w : World) (h0 : -9223372036854775808 ≤ m) (h1 : m ≤ 9223372036854775807) :
    Calls Try.prog 7 #[.agg #[.int .i64 a, .int .i64 n, .int .i64 m, .slice ad len cap]] w fun e w' => e = .returned (.bool true) ∧ Below w.heap.size w w' := by
  have HA := Lib.hid (fun W => awake_any W)
  have hF := few_one ((w.alloc (.cells #[.int .i64 a, .int .i64 n, .int .i64 m, .slice ad len cap] 40)).alloc (.cells #[.int .i64 a, .int .i64 n, .int .i64 m, .slice ad len cap] 40)) (w.heap.size + 1) ad len cap (by simp [go_sem])
  have HF := Lib.hid hF
  clear hF
  have bF : Below w.heap.size w ((w.alloc (.cells #[.int .i64 a, .int .i64 n, .int .i64 m, .slice ad len cap] 40)).alloc (.cells #[.int .i64 a, .int .i64 n, .int .i64 m, .slice ad len cap] 40)) := bel_alloc (bel_alloc (Below.refl _ _) _) _
  obtain ⟨w1, hw1⟩ : ∃ w1, (w.alloc (.cells #[.int .i64 a, .int .i64 n, .int .i64 m, .slice ad len cap] 40)).alloc (.cells #[.int .i64 a, .int .i64 n, .int .i64 m, .slice ad len cap] 40) = w1 := ⟨_, rfl⟩
  have r0 : w1.cell? ⟨w.heap.size, 1, none⟩ = some (.int .i64 n) := by rw [← hw1]; simp [go_sem]
  have r1 : w1.cell? ⟨w.heap.size, 2, none⟩ = some (.int .i64 m) := by rw [← hw1]; simp [go_sem]
  have r2 : w1.cell? ⟨w.heap.size, 3, none⟩ = some (.slice ad len cap) := by rw [← hw1]; simp [go_sem]
  rw [hw1] at HF bF
  have HK := Lib.hid (fun (W : World) (hW : Below w1.heap.size w1 W) => (show W.cell? ⟨w.heap.size, 1, none⟩ = some (.int .i64 n) ∧ W.cell? ⟨w.heap.size, 2, none⟩ = some (.int .i64 m) ∧ W.cell? ⟨w.heap.size, 3, none⟩ = some (.slice ad len cap) from ⟨cellB hW r0, cellB hW r1, cellB hW r2⟩))
  clear r0 r1 r2
  have HPu := Lib.hid (fun W => put_nil ad len cap W)
  have HEv := Lib.hid (fun W => every_nil n W)
  have HRe := Lib.hid (fun W => resize_nil n W)
  have HNx := Lib.hid (fun W => next_nil n W)
  have HPv := Lib.hid (fun W => prev_nil n W)
  have HGo := Lib.hid (fun W => go_nil n m h0 h1 W)
  have HLi := Lib.hid (fun W => list_nil W)
  have HCo := Lib.hid (fun W => cols_nil W)
  have HCp := Lib.hid (fun W => copy_nil W)
  clear h0 h1
  go_enter Try.func7, Try.ntmps7
  go_wp2_with fail
  refine HF.out.mono ?_
  rintro e w' ⟨rfl, rfl⟩
  clear hw1
  by_cases hl : len ≤ 20
  · rw [show decide (len ≤ 20) = true by simp [hl]]
    obtain ⟨k0, k1, k2⟩ := HK.out w' (Below.refl _ _)
    go_wp2_with fail
    refine (HPu.out _).mono ?_
    rintro e v1 ⟨rfl, hb1⟩
    have b1 := hb1
    clear k0 k1 k2
    obtain ⟨k0, k1, k2⟩ := HK.out v1 b1
    go_wp2_with fail
    refine (HEv.out _).mono ?_
    rintro e v2 ⟨rfl, hb2⟩
    have b2 := bel_call b1 hb2
    clear k0 k1 k2
    obtain ⟨k0, k1, k2⟩ := HK.out v2 b2
    go_wp2_with fail
    refine (HRe.out _).mono ?_
    rintro e v3 ⟨rfl, hb3⟩
    have b3 := bel_call b2 hb3
    clear k0 k1 k2
    obtain ⟨k0, k1, k2⟩ := HK.out v3 b3
    go_wp2_with fail
    refine (HNx.out _).mono ?_
    rintro e v4 ⟨rfl, rfl⟩
    go_wp2_with fail
    refine (HPv.out _).mono ?_
    rintro e v5 ⟨rfl, hb5⟩
    have b5 := bel_call b3 hb5
    clear k0 k1 k2
    obtain ⟨k0, k1, k2⟩ := HK.out v5 b5
    go_wp2_with fail
    refine (HGo.out _).mono ?_
    rintro e v6 ⟨rfl, hb6⟩
    have b6 := bel_call b5 hb6
    clear k0 k1 k2
    go_wp2_with fail
    refine (HLi.out _).mono ?_
    rintro e v7 ⟨rfl, rfl⟩
    go_wp2_with fail
    refine (HCo.out _).mono ?_
    rintro e v8 ⟨rfl, rfl⟩
    go_wp2_with fail
    refine (HCp.out _).mono ?_
    rintro e v9 ⟨rfl, hb9⟩
    have b9 := bel_call b6 hb9
    go_wp2_with fail
    refine (HA.out _).mono ?_
    rintro e v10 ⟨rfl, hb10⟩
    go_wp2_with fail
    go_ret
    exact ⟨rfl, bel_call bF (bel_call b9 hb10)⟩
  · rw [show decide (len ≤ 20) = false by simp; omega]
    go_wp2_with fail
    refine (HA.out _).mono ?_
    rintro e v1 ⟨rfl, hb1⟩
    go_wp2_with fail
    go_ret
    exact ⟨rfl, bel_call bF hb1⟩
end Go.Proofs.Ytpjodppcedkneaa
