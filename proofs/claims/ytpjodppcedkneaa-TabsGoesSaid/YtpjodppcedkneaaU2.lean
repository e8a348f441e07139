/- The document's tabs: Go, List. -/
import Derived.Test.YtpjodppcedkneaaU1
namespace Go.Proofs.Ytpjodppcedkneaa
open Go.RowKit Go.Maps Go.Sort Go.Shelf
set_option linter.unusedVariables false
set_option linter.unusedSimpArgs false
set_option maxRecDepth 100000
theorem goR_ways (nx pv : Int → Int) (c col n : Int) (h : n = 0 → 0 ≤ col ∧ col < c) : goR nx pv c col n = iter pv (min (max (-n) 0) 300).toNat (iter nx (min (max n 0) 300).toNat col) := by
  unfold goR
  by_cases h0 : n = 0
  · obtain ⟨a, b⟩ := h h0
    subst h0
    rw [if_pos rfl, if_neg (by omega), if_neg (by omega)]
    rfl
  · rw [if_neg h0]
    by_cases hp : 0 < n
    · rw [if_pos hp, show (min (max (-n) 0) 300).toNat = 0 by omega, show min (max n 0) 300 = min n 300 by omega]
      rfl
    · rw [if_neg hp, show (min (max n 0) 300).toNat = 0 by omega, show min (max (-n) 0) 300 = min (-n) 300 by omega]
      rfl
set_option maxHeartbeats 1000000 in
theorem rgo_gen (w : World) (q g c : Nat) (S : Int → Bool) (h : RT w q g c S) (h1 : 1 ≤ c) (h2 : c ≤ 255) (col n : Int) (hn0 : -9223372036854775808 ≤ n) (hn1 : n ≤ 9223372036854775807) :
    Calls Try.prog 33 #[.pointer (some ⟨q, 0, none⟩), .int .i64 col, .int .i64 n] w fun e w' => e = .returned (.int .i64 (goR (nextIn (rise c S) c) (prevIn (rise c S)) c col n)) ∧ w' = w := by
  have k0 := h.cq
  have HX := Lib.hid (fun x => rnext_any w q g c S h h1 h2 x)
  have HP := Lib.hid (fun x => rprev_any w q g c S h h1 h2 x)
  have hw : IntKind.i64.wrap ((c : Int) - 1) = (c : Int) - 1 := IntWalk.i64_in _ (by omega)
  clear h
  generalize nextIn (rise c S) c = nx at *
  generalize prevIn (rise c S) = pv at *
  by_cases hz : n = 0 ∧ ¬ (0 ≤ col ∧ col < (c : Int))
  · obtain ⟨rfl, hout⟩ := hz
    by_cases hc : col < 0
    · have e : goR nx pv c col 0 = 0 := by unfold goR; rw [if_pos rfl, if_pos hc]
      rw [e]; clear e hout
      go_enter Try.func33, Try.ntmps33
      go_wp2_with fail
      go_ret
      exact ⟨rfl, rfl⟩
    · have hc2 : (c : Int) ≤ col := by omega
      have e : goR nx pv c col 0 = (c : Int) - 1 := by unfold goR; rw [if_pos rfl, if_neg hc, if_pos hc2]
      rw [e]; clear e hout
      go_enter Try.func33, Try.ntmps33
      go_wp2_with fail
      go_ret
      exact ⟨rfl, rfl⟩
  · rw [goR_ways nx pv c col n (fun e => Decidable.byContradiction fun h => hz ⟨e, h⟩)]
    obtain ⟨N1, hN1⟩ : ∃ N1 : Nat, (min (max n 0) 300).toNat = N1 := ⟨_, rfl⟩
    obtain ⟨N2, hN2⟩ : ∃ N2 : Nat, (min (max (-n) 0) 300).toNat = N2 := ⟨_, rfl⟩
    rw [hN1, hN2]
    have HA := Lib.hid (show (N1 : Int) = min (max n 0) 300 ∧ (N2 : Int) = min (max (-n) 0) 300 by omega)
    have hb1 : N1 ≤ 300 := by omega
    have hb2 : N2 ≤ 300 := by omega
    have hways : (n = 0 ∧ 0 ≤ col ∧ col < (c : Int)) ∨ n ≠ 0 := by omega
    clear hN1 hN2 hz
    rcases hways with ⟨hz, hc0, hc1⟩ | hz
    · have q0 : decide (n = 0) = true := by simp [hz]
      have q0' : (n == 0) = true := by simp [hz]
      have g1 : ¬ col < 0 := by omega
      have g2 : ¬ (c : Int) ≤ col := by omega
      clear hz
      go_enter Try.func33, Try.ntmps33
      go_wp2_with fail
      go_loopw [1, 7] (fun x i wr => ∃ k : Nat, k ≤ N1 ∧ i = .int .i64 (k : Int) ∧ x = .int .i64 (iter nx k col) ∧ wr = w) (fun _ i _ => N1 - (intOf i).toNat)
      case atStart => exact ⟨0, Nat.zero_le _, rfl, rfl, rfl⟩
      case round =>
        obtain ⟨k, hk, rfl, rfl, rfl⟩ := hrel
        by_cases hlt : k < N1
        · have q1 : (k : Int) < n := by have := HA.out; omega
          have q2 : (k : Int) < 300 := by omega
          go_wp2_with fail
          refine (HX.out _).mono ?_
          rintro e w1 ⟨rfl, rfl⟩
          go_wp2_with fail
          go_roundw
          case rel => exact ⟨k + 1, by omega, by go_num, rfl, trivial⟩
          case measure => simp [intOf]; omega
        · have hkN : k = N1 := by omega
          subst hkN
          have hend : (¬ (k : Int) < n) ∨ ((k : Int) < n ∧ ¬ (k : Int) < 300) := by have := HA.out; omega
          rcases hend with q1 | ⟨q1, q2⟩
          all_goals (
            go_wp2_with fail
            go_loopw [1, 8] (fun x i wr' => ∃ j : Nat, j ≤ N2 ∧ i = .int .i64 (-(j : Int)) ∧ x = .int .i64 (iter pv j (iter nx k col)) ∧ wr' = wr) (fun _ i _ => N2 - (-(intOf i)).toNat)
            case atStart => exact ⟨0, Nat.zero_le _, rfl, rfl, rfl⟩
            case round =>
              obtain ⟨j, hj, rfl, rfl, rfl⟩ := hrel
              have wj : IntKind.i64.wrap (-(j : Int) - 1) = -(j : Int) - 1 := IntWalk.i64_in _ (by omega)
              by_cases hlt2 : j < N2
              · have p1 : n < -(j : Int) := by have := HA.out; omega
                have p2 : -300 < -(j : Int) := by omega
                go_wp2_with fail
                refine (HP.out _).mono ?_
                rintro e w1 ⟨rfl, rfl⟩
                go_wp2_with fail
                go_roundw
                case rel => exact ⟨j + 1, by omega, by (congr 1; push_cast; omega), rfl, trivial⟩
                case measure => simp [intOf]; omega
              · have hjN : j = N2 := by omega
                subst hjN
                have hend2 : (¬ n < -(j : Int)) ∨ (n < -(j : Int) ∧ ¬ -300 < -(j : Int)) := by have := HA.out; omega
                rcases hend2 with p1 | ⟨p1, p2⟩
                all_goals (
                  go_wp2_with fail
                  go_ret
                  exact ⟨rfl, rfl⟩))
    · have q0 : decide (n = 0) = false := by simp [hz]
      have q0' : (n == 0) = false := by simp [hz]
      clear hz
      go_enter Try.func33, Try.ntmps33
      go_wp2_with fail
      go_loopw [1, 7] (fun x i wr => ∃ k : Nat, k ≤ N1 ∧ i = .int .i64 (k : Int) ∧ x = .int .i64 (iter nx k col) ∧ wr = w) (fun _ i _ => N1 - (intOf i).toNat)
      case atStart => exact ⟨0, Nat.zero_le _, rfl, rfl, rfl⟩
      case round =>
        obtain ⟨k, hk, rfl, rfl, rfl⟩ := hrel
        by_cases hlt : k < N1
        · have q1 : (k : Int) < n := by have := HA.out; omega
          have q2 : (k : Int) < 300 := by omega
          go_wp2_with fail
          refine (HX.out _).mono ?_
          rintro e w1 ⟨rfl, rfl⟩
          go_wp2_with fail
          go_roundw
          case rel => exact ⟨k + 1, by omega, by go_num, rfl, trivial⟩
          case measure => simp [intOf]; omega
        · have hkN : k = N1 := by omega
          subst hkN
          have hend : (¬ (k : Int) < n) ∨ ((k : Int) < n ∧ ¬ (k : Int) < 300) := by have := HA.out; omega
          rcases hend with q1 | ⟨q1, q2⟩
          all_goals (
            go_wp2_with fail
            go_loopw [1, 8] (fun x i wr' => ∃ j : Nat, j ≤ N2 ∧ i = .int .i64 (-(j : Int)) ∧ x = .int .i64 (iter pv j (iter nx k col)) ∧ wr' = wr) (fun _ i _ => N2 - (-(intOf i)).toNat)
            case atStart => exact ⟨0, Nat.zero_le _, rfl, rfl, rfl⟩
            case round =>
              obtain ⟨j, hj, rfl, rfl, rfl⟩ := hrel
              have wj : IntKind.i64.wrap (-(j : Int) - 1) = -(j : Int) - 1 := IntWalk.i64_in _ (by omega)
              by_cases hlt2 : j < N2
              · have p1 : n < -(j : Int) := by have := HA.out; omega
                have p2 : -300 < -(j : Int) := by omega
                go_wp2_with fail
                refine (HP.out _).mono ?_
                rintro e w1 ⟨rfl, rfl⟩
                go_wp2_with fail
                go_roundw
                case rel => exact ⟨j + 1, by omega, by (congr 1; push_cast; omega), rfl, trivial⟩
                case measure => simp [intOf]; omega
              · have hjN : j = N2 := by omega
                subst hjN
                have hend2 : (¬ n < -(j : Int)) ∨ (n < -(j : Int) ∧ ¬ -300 < -(j : Int)) := by have := HA.out; omega
                rcases hend2 with p1 | ⟨p1, p2⟩
                all_goals (
                  go_wp2_with fail
                  go_ret
                  exact ⟨rfl, rfl⟩))
theorem rgo_any (w : World) (q g c : Nat) (S : Int → Bool) (h : RT w q g c S) (h1 : 1 ≤ c) (h2 : c ≤ 255) (col n : Int) (hn0 : -9223372036854775808 ≤ n) (hn1 : n ≤ 9223372036854775807) :
    Calls Try.prog 33 #[.pointer (some ⟨q, 0, none⟩), .int .i64 col, .int .i64 n] w fun e w' => e = .returned (.int .i64 (goIn (nextIn (rise c S) c) (prevIn (rise c S)) c col n)) ∧ w' = w := by
  rw [← goR_eq c S h1 h2 col n]
  exact rgo_gen w q g c S h h1 h2 col n hn0 hn1
set_option maxHeartbeats 400000 in
theorem rlist_any (w : World) (q g c : Nat) (S : Int → Bool) (h : RT w q g c S) (h2 : c ≤ 255) :
    Calls Try.prog 17 #[.pointer (some ⟨q, 0, none⟩)] w fun e w' => ∃ v, e = .returned v ∧ OwnI w' w.heap.size v (rise c S) ∧ Below w.heap.size w w' := by
  have HR := Lib.hid (fun W (hb : Below w.heap.size w W) => h.later hb)
  have HS := Lib.hid (fun (k : Nat) => rise_succ k S)
  have HL := Lib.hid (fun (k : Nat) => rise_len k S)
  clear h
  go_enter Try.func17, Try.ntmps17
  go_wp2_with fail
  go_loopw [3, 4] (fun f i wr => ∃ (k : Nat) (fv : Value), k ≤ c ∧ i = .int .i64 (k : Int) ∧ fv = f ∧ OwnI wr w.heap.size fv (rise k S) ∧ Below w.heap.size w wr) (fun _ i _ => c - (intOf i).toNat)
  case atStart => exact ⟨0, _, Nat.zero_le _, rfl, rfl, OwnI.nil _ _, Below.refl _ _⟩
  case round =>
    obtain ⟨k, f, hk, rfl, rfl, hof, hb⟩ := hrel
    have k0 := (HR.out wr hb).cq
    by_cases hlt : k < c
    · have q1 : (k : Int) < (c : Int) := by omega
      have d1 := (HR.out wr hb).cg hlt
      have hs := HS.out k
      have Hof := Lib.hid hof
      have Hb := Lib.hid hb
      clear hof hb
      cases hS : S (k : Int) with
      | true =>
        rw [hS] at d1 hs
        have Hs := Lib.hid hs
        clear hS hs
        go_wp2_with (at_builtin; (refine wp_appI rfl (.tmp 21) (.tmp 23) rfl w.heap.size _ _ _ _ _ rfl rfl (by first | rfl | simp) Hof.out Hb.out.size (by have := HL.out k; omega) ?_; intro v' W' own' bel'))
        go_roundw
        case rel => exact ⟨k + 1, _, by omega, by go_num, rfl, by rw [Hs.out]; exact own', Hb.out.trans bel'⟩
        case measure => simp [intOf]; omega
      | false =>
        rw [hS] at d1 hs
        have Hs := Lib.hid hs
        clear hS hs
        go_wp2_with fail
        go_roundw
        case rel => exact ⟨k + 1, _, by omega, by go_num, rfl, by rw [Hs.out]; simpa using Hof.out, Hb.out⟩
        case measure => simp [intOf]; omega
    · have q1 : ¬ (k : Int) < (c : Int) := by omega
      have hkc : k = c := by omega
      subst hkc
      have Hof := Lib.hid hof
      have Hb := Lib.hid hb
      clear hof hb
      go_wp2_with fail
      go_ret
      exact ⟨_, rfl, Hof.out, Hb.out⟩
end Go.Proofs.Ytpjodppcedkneaa
