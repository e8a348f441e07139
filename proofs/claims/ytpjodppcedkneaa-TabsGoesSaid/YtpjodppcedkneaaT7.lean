/- tabs: Go. -/
import Derived.Test.YtpjodppcedkneaaT6
namespace Go.Proofs.Ytpjodppcedkneaa
open Go.RowKit Go.Maps Go.Sort Go.Shelf
set_option linter.unusedVariables false
set_option linter.unusedSimpArgs false
set_option maxRecDepth 100000
def iter (f : Int → Int) : Nat → Int → Int
  | 0, x => x
  | k + 1, x => f (iter f k x)
/-- What Go answers. -/
def goIn (nx pv : Int → Int) (c col n : Int) : Int := if n = 0 then max 0 (min col (c - 1)) else if 0 < n then iter nx (min n 255).toNat col else iter pv (min (-(max n (-255))) 255).toNat col
set_option maxHeartbeats 1000000 in
theorem go_none (w : World) (nx pv : Int → Int) (c col n : Int) (hc : 0 ≤ c ∧ c ≤ 255) (hn0 : -9223372036854775808 ≤ n) (hn1 : n ≤ 9223372036854775807)
    (HNx : ∀ W x, Below w.heap.size w W → Calls Try.prog 19 #[.pointer none, .int .i64 x] W fun e w' => e = .returned (.int .i64 (nx x)) ∧ Below W.heap.size W w')
    (HPv : ∀ W x, Below w.heap.size w W → Calls Try.prog 20 #[.pointer none, .int .i64 x] W fun e w' => e = .returned (.int .i64 (pv x)) ∧ Below W.heap.size W w')
    (HCo : ∀ W, Below w.heap.size w W → Calls Try.prog 18 #[.pointer none] W fun e w' => e = .returned (.int .i64 c) ∧ w' = W) :
    Calls Try.prog 21 #[.pointer none, .int .i64 col, .int .i64 n] w fun e w' => e = .returned (.int .i64 (goIn nx pv c col n)) ∧ Below w.heap.size w w' := by
  have HX := Lib.hid HNx
  have HP := Lib.hid HPv
  have HC := Lib.hid HCo
  clear HNx HPv HCo
  obtain ⟨hc0, hc1⟩ := hc
  by_cases h0 : n = 0
  · subst h0
    have e : goIn nx pv c col 0 = max 0 (min col (c - 1)) := by unfold goIn; rw [if_pos rfl]
    rw [e]
    have hw : IntKind.i64.wrap (c - 1) = c - 1 := IntWalk.i64_in _ (by omega)
    go_enter Try.func21, Try.ntmps21
    go_wp2_with fail
    refine (HC.out _ (Below.refl _ _)).mono ?_
    rintro e w1 ⟨rfl, rfl⟩
    go_wp2_with fail
    go_ret
    exact ⟨rfl, Below.refl _ _⟩
  · have q0 : decide (n = 0) = false := by simp [h0]
    have q0' : (n == 0) = false := by simp [h0]
    by_cases hp : 0 < n
    · have e : goIn nx pv c col n = iter nx (min n 255).toNat col := by unfold goIn; rw [if_neg h0, if_pos hp]
      rw [e]
      obtain ⟨N, hN⟩ : ∃ N : Nat, min n 255 = (N : Int) := ⟨(min n 255).toNat, by omega⟩
      have hN2 : (min n 255).toNat = N := by omega
      rw [hN2]
      have hNb : N ≤ 255 := by omega
      have m1 : max n (-255) = n := by omega
      have m2 : IntKind.i64.wrap (-n) = -n := IntWalk.i64_in _ (by omega)
      have m3 : min (-n) 255 = -n := by omega
      have m4 : ¬ 0 < -n := by omega
      clear hN2 e
      go_enter Try.func21, Try.ntmps21
      go_wp2_with fail
      go_loopw [1, 17] (fun x i wr => ∃ k : Nat, k ≤ N ∧ i = .int .i64 (k : Int) ∧ x = .int .i64 (iter nx k col) ∧ Below w.heap.size w wr) (fun _ i _ => N - (intOf i).toNat)
      case atStart => exact ⟨0, Nat.zero_le _, rfl, rfl, Below.refl _ _⟩
      case round =>
        obtain ⟨k, hk, rfl, rfl, hb⟩ := hrel
        by_cases hlt : k < N
        · have q1 : (k : Int) < (N : Int) := by omega
          have Hb := Lib.hid hb
          clear hb
          go_wp2_with fail
          refine (HX.out _ _ Hb.out).mono ?_
          rintro e w1 ⟨rfl, hb1⟩
          go_wp2_with fail
          go_roundw
          case rel => exact ⟨k + 1, by omega, by go_num, rfl, bel_call Hb.out hb1⟩
          case measure => simp [intOf]; omega
        · have q1 : ¬ (k : Int) < (N : Int) := by omega
          obtain rfl : k = N := by omega
          have Hb := Lib.hid hb
          clear hb
          go_wp2_with fail
          go_loopw [1, 27] (fun x i wx => i = .int .i64 0 ∧ x = .int .i64 (iter nx k col) ∧ wx = wr) (fun _ i _ => 0)
          case atStart => exact ⟨rfl, rfl, rfl⟩
          case round =>
            obtain ⟨rfl, rfl, rfl⟩ := hrel
            go_wp2_with fail
            go_ret
            exact ⟨rfl, Hb.out⟩
    · have e : goIn nx pv c col n = iter pv (min (-(max n (-255))) 255).toNat col := by unfold goIn; rw [if_neg h0, if_neg hp]
      rw [e]
      obtain ⟨m, hm⟩ : ∃ m, max n (-255) = m := ⟨_, rfl⟩
      have hm1 : -255 ≤ m := by omega
      have hm2 : m < 0 := by omega
      rw [hm]
      obtain ⟨N, hN⟩ : ∃ N : Nat, min (-m) 255 = (N : Int) := ⟨(min (-m) 255).toNat, by omega⟩
      have hN2 : (min (-m) 255).toNat = N := by omega
      rw [hN2]
      have hNb : N ≤ 255 := by omega
      have m0 : min n 255 = n := by omega
      have m2 : IntKind.i64.wrap (-m) = -m := IntWalk.i64_in _ (by omega)
      have m4 : ¬ 0 < n := hp
      clear hN2 e
      go_enter Try.func21, Try.ntmps21
      go_wp2_with fail
      go_loopw [1, 17] (fun x i wr => i = .int .i64 0 ∧ x = .int .i64 col ∧ wr = w) (fun _ i _ => 0)
      case atStart => exact ⟨rfl, rfl, rfl⟩
      case round =>
        obtain ⟨rfl, rfl, rfl⟩ := hrel
        go_wp2_with fail
        go_loopw [1, 27] (fun x i wx => ∃ k : Nat, k ≤ N ∧ i = .int .i64 (k : Int) ∧ x = .int .i64 (iter pv k col) ∧ Below wr.heap.size wr wx) (fun _ i _ => N - (intOf i).toNat)
        case atStart => exact ⟨0, Nat.zero_le _, rfl, rfl, Below.refl _ _⟩
        case round =>
          obtain ⟨k, hk, rfl, rfl, hb⟩ := hrel
          by_cases hlt : k < N
          · have q1 : (k : Int) < (N : Int) := by omega
            have Hb := Lib.hid hb
            clear hb
            go_wp2_with fail
            refine (HP.out _ _ Hb.out).mono ?_
            rintro e w1 ⟨rfl, hb1⟩
            go_wp2_with fail
            go_roundw
            case rel => exact ⟨k + 1, by omega, by go_num, rfl, bel_call Hb.out hb1⟩
            case measure => simp [intOf]; omega
          · have q1 : ¬ (k : Int) < (N : Int) := by omega
            obtain rfl : k = N := by omega
            have Hb := Lib.hid hb
            clear hb
            go_wp2_with fail
            go_ret
            exact ⟨rfl, Hb.out⟩
set_option maxHeartbeats 1000000 in
theorem go_some (p : Nat) (w : World) (nx pv : Int → Int) (c col n : Int) (hc : 0 ≤ c ∧ c ≤ 255) (hn0 : -9223372036854775808 ≤ n) (hn1 : n ≤ 9223372036854775807)
    (HNx : ∀ W x, Below w.heap.size w W → Calls Try.prog 19 #[.pointer (some ⟨p, 0, none⟩), .int .i64 x] W fun e w' => e = .returned (.int .i64 (nx x)) ∧ Below W.heap.size W w')
    (HPv : ∀ W x, Below w.heap.size w W → Calls Try.prog 20 #[.pointer (some ⟨p, 0, none⟩), .int .i64 x] W fun e w' => e = .returned (.int .i64 (pv x)) ∧ Below W.heap.size W w')
    (HCo : ∀ W, Below w.heap.size w W → Calls Try.prog 18 #[.pointer (some ⟨p, 0, none⟩)] W fun e w' => e = .returned (.int .i64 c) ∧ w' = W) :
    Calls Try.prog 21 #[.pointer (some ⟨p, 0, none⟩), .int .i64 col, .int .i64 n] w fun e w' => e = .returned (.int .i64 (goIn nx pv c col n)) ∧ Below w.heap.size w w' := by
  have HX := Lib.hid HNx
  have HP := Lib.hid HPv
  have HC := Lib.hid HCo
  clear HNx HPv HCo
  obtain ⟨hc0, hc1⟩ := hc
  by_cases h0 : n = 0
  · subst h0
    have e : goIn nx pv c col 0 = max 0 (min col (c - 1)) := by unfold goIn; rw [if_pos rfl]
    rw [e]
    have hw : IntKind.i64.wrap (c - 1) = c - 1 := IntWalk.i64_in _ (by omega)
    go_enter Try.func21, Try.ntmps21
    go_wp2_with fail
    refine (HC.out _ (Below.refl _ _)).mono ?_
    rintro e w1 ⟨rfl, rfl⟩
    go_wp2_with fail
    go_ret
    exact ⟨rfl, Below.refl _ _⟩
  · have q0 : decide (n = 0) = false := by simp [h0]
    have q0' : (n == 0) = false := by simp [h0]
    by_cases hp : 0 < n
    · have e : goIn nx pv c col n = iter nx (min n 255).toNat col := by unfold goIn; rw [if_neg h0, if_pos hp]
      rw [e]
      obtain ⟨N, hN⟩ : ∃ N : Nat, min n 255 = (N : Int) := ⟨(min n 255).toNat, by omega⟩
      have hN2 : (min n 255).toNat = N := by omega
      rw [hN2]
      have hNb : N ≤ 255 := by omega
      have m1 : max n (-255) = n := by omega
      have m2 : IntKind.i64.wrap (-n) = -n := IntWalk.i64_in _ (by omega)
      have m3 : min (-n) 255 = -n := by omega
      have m4 : ¬ 0 < -n := by omega
      clear hN2 e
      go_enter Try.func21, Try.ntmps21
      go_wp2_with fail
      go_loopw [1, 17] (fun x i wr => ∃ k : Nat, k ≤ N ∧ i = .int .i64 (k : Int) ∧ x = .int .i64 (iter nx k col) ∧ Below w.heap.size w wr) (fun _ i _ => N - (intOf i).toNat)
      case atStart => exact ⟨0, Nat.zero_le _, rfl, rfl, Below.refl _ _⟩
      case round =>
        obtain ⟨k, hk, rfl, rfl, hb⟩ := hrel
        by_cases hlt : k < N
        · have q1 : (k : Int) < (N : Int) := by omega
          have Hb := Lib.hid hb
          clear hb
          go_wp2_with fail
          refine (HX.out _ _ Hb.out).mono ?_
          rintro e w1 ⟨rfl, hb1⟩
          go_wp2_with fail
          go_roundw
          case rel => exact ⟨k + 1, by omega, by go_num, rfl, bel_call Hb.out hb1⟩
          case measure => simp [intOf]; omega
        · have q1 : ¬ (k : Int) < (N : Int) := by omega
          obtain rfl : k = N := by omega
          have Hb := Lib.hid hb
          clear hb
          go_wp2_with fail
          go_loopw [1, 27] (fun x i wx => i = .int .i64 0 ∧ x = .int .i64 (iter nx k col) ∧ wx = wr) (fun _ i _ => 0)
          case atStart => exact ⟨rfl, rfl, rfl⟩
          case round =>
            obtain ⟨rfl, rfl, rfl⟩ := hrel
            go_wp2_with fail
            go_ret
            exact ⟨rfl, Hb.out⟩
    · have e : goIn nx pv c col n = iter pv (min (-(max n (-255))) 255).toNat col := by unfold goIn; rw [if_neg h0, if_neg hp]
      rw [e]
      obtain ⟨m, hm⟩ : ∃ m, max n (-255) = m := ⟨_, rfl⟩
      have hm1 : -255 ≤ m := by omega
      have hm2 : m < 0 := by omega
      rw [hm]
      obtain ⟨N, hN⟩ : ∃ N : Nat, min (-m) 255 = (N : Int) := ⟨(min (-m) 255).toNat, by omega⟩
      have hN2 : (min (-m) 255).toNat = N := by omega
      rw [hN2]
      have hNb : N ≤ 255 := by omega
      have m0 : min n 255 = n := by omega
      have m2 : IntKind.i64.wrap (-m) = -m := IntWalk.i64_in _ (by omega)
      have m4 : ¬ 0 < n := hp
      clear hN2 e
      go_enter Try.func21, Try.ntmps21
      go_wp2_with fail
      go_loopw [1, 17] (fun x i wr => i = .int .i64 0 ∧ x = .int .i64 col ∧ wr = w) (fun _ i _ => 0)
      case atStart => exact ⟨rfl, rfl, rfl⟩
      case round =>
        obtain ⟨rfl, rfl, rfl⟩ := hrel
        go_wp2_with fail
        go_loopw [1, 27] (fun x i wx => ∃ k : Nat, k ≤ N ∧ i = .int .i64 (k : Int) ∧ x = .int .i64 (iter pv k col) ∧ Below wr.heap.size wr wx) (fun _ i _ => N - (intOf i).toNat)
        case atStart => exact ⟨0, Nat.zero_le _, rfl, rfl, Below.refl _ _⟩
        case round =>
          obtain ⟨k, hk, rfl, rfl, hb⟩ := hrel
          by_cases hlt : k < N
          · have q1 : (k : Int) < (N : Int) := by omega
            have Hb := Lib.hid hb
            clear hb
            go_wp2_with fail
            refine (HP.out _ _ Hb.out).mono ?_
            rintro e w1 ⟨rfl, hb1⟩
            go_wp2_with fail
            go_roundw
            case rel => exact ⟨k + 1, by omega, by go_num, rfl, bel_call Hb.out hb1⟩
            case measure => simp [intOf]; omega
          · have q1 : ¬ (k : Int) < (N : Int) := by omega
            obtain rfl : k = N := by omega
            have Hb := Lib.hid hb
            clear hb
            go_wp2_with fail
            go_ret
            exact ⟨rfl, Hb.out⟩
end Go.Proofs.Ytpjodppcedkneaa
