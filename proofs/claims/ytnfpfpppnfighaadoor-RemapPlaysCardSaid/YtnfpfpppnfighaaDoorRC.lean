/- The document's Code, digits, Tell: the walks. -/
import Derived.Test.YtnfpfpppnfighaaDoorRA
namespace Go.Proofs.YtnfpfpppnfighaaDoor
open Go.Shelf Go.RowKit
set_option linter.unusedVariables false
set_option linter.unusedSimpArgs false
set_option maxRecDepth 100000
theorem rcode_any (w : World) (e : Bool) (n : Int) : Calls Tryd.prog 14 #[.bool e, .int .i64 n] w fun r w' => r = .returned (.bool (mayB e n)) ∧ w' = w := by
  unfold mayB
  by_cases h1 : 0 ≤ n
  · by_cases h2 : n ≤ 255
    · cases e with
      | true =>
        go_enter Tryd.func14, Tryd.ntmps14
        go_wp2_with fail
        go_ret
        exact ⟨by simp [h1, h2], rfl⟩
      | false =>
        by_cases h3 : 0 < n
        · go_enter Tryd.func14, Tryd.ntmps14
          go_wp2_with fail
          go_ret
          exact ⟨by simp [h1, h2, h3], rfl⟩
        · go_enter Tryd.func14, Tryd.ntmps14
          go_wp2_with fail
          go_ret
          exact ⟨by simp; omega, rfl⟩
    · go_enter Tryd.func14, Tryd.ntmps14
      go_wp2_with fail
      go_ret
      exact ⟨by simp; omega, rfl⟩
  · go_enter Tryd.func14, Tryd.ntmps14
    go_wp2_with fail
    go_ret
    exact ⟨by simp; omega, rfl⟩
abbrev tenD : ByteArray := ⟨#[48, 49, 50, 51, 52, 53, 54, 55, 56, 57]⟩
theorem ten_ext : ∀ a : Fin 10, tenD.extract a.val (a.val + 1) = st [UInt8.ofNat (48 + a.val)] := by decide +kernel
theorem dec_one {a : Nat} (h : a < 10) : Lib.decDigits a = [UInt8.ofNat (48 + a)] := by rw [Lib.decDigits, dif_pos h]
theorem digits_one (w : World) (a : Nat) (h : a < 10) : Calls Tryd.prog 34 #[.int .i64 a] w fun r w' => r = .returned (.string (st (Lib.decDigits a))) ∧ w' = w := by
  rw [dec_one h]
  have he : tenD.extract a (a + 1) = st [UInt8.ofNat (48 + a)] := ten_ext ⟨a, h⟩
  obtain ⟨X, hX⟩ : ∃ X, st [UInt8.ofNat (48 + a)] = X := ⟨_, rfl⟩
  rw [hX] at he ⊢
  clear hX
  have q1 : (a : Int) < 10 := by omega
  have q2 : IntKind.i64.wrap ((a : Int) + 1) = (a : Int) + 1 := IntWalk.i64_in _ (by omega)
  have q3 : (a : Int) + 1 ≤ 10 := by omega
  have q4 : ((a : Int) + 1).toNat = a + 1 := by omega
  have q5 : (a : Int) ≤ (a : Int) + 1 := by omega
  have q6 : a + 1 ≤ 10 := by omega
  have q7 : a ≤ a + 1 := by omega
  go_enter Tryd.func34, Tryd.ntmps34
  go_wp2_with fail
  go_ret
  exact ⟨rfl, rfl⟩
theorem digits_step (a : Nat) (h : 10 ≤ a) (h2 : a ≤ 1000) (hq : ∀ w, Calls Tryd.prog 34 #[.int .i64 (a / 10 : Nat)] w fun r w' => r = .returned (.string (st (Lib.decDigits (a / 10)))) ∧ w' = w) (w : World) :
    Calls Tryd.prog 34 #[.int .i64 a] w fun r w' => r = .returned (.string (st (Lib.decDigits a))) ∧ w' = w := by
  have HQ := Lib.hid hq
  have HR := Lib.hid (fun w => digits_one w (a % 10) (by omega))
  have e1 : (a : Int).tdiv 10 = ((a / 10 : Nat) : Int) := by rw [Int.tdiv_eq_ediv_of_nonneg (by omega)]; omega
  have e2 : (a : Int).tmod 10 = ((a % 10 : Nat) : Int) := by rw [Int.tmod_eq_emod_of_nonneg (by omega)]; omega
  have e3 : (a : Int) / 10 = ((a / 10 : Nat) : Int) := by omega
  have e4 : (a : Int) % 10 = ((a % 10 : Nat) : Int) := by omega
  have HE := Lib.hid (show st (Lib.decDigits (a / 10)) ++ st (Lib.decDigits (a % 10)) = st (Lib.decDigits a) from by
    rw [st_append]
    congr 1
    rw [dec_one (show a % 10 < 10 by omega)]
    rw [Lib.decDigits.eq_1 a, dif_neg (by omega)])
  obtain ⟨q, hqq⟩ : ∃ q, a / 10 = q := ⟨_, rfl⟩
  obtain ⟨r, hrr⟩ : ∃ r, a % 10 = r := ⟨_, rfl⟩
  have hb1 : q ≤ 100 := by omega
  have hb2 : r < 10 := by omega
  rw [hqq] at HQ HE e1 e3
  rw [hrr] at HR HE e2 e4
  have w1 : IntKind.i64.wrap (q : Int) = (q : Int) := IntWalk.i64_in _ (by omega)
  have w2 : IntKind.i64.wrap (r : Int) = (r : Int) := IntWalk.i64_in _ (by omega)
  have q1 : ¬ (a : Int) < 10 := by omega
  obtain ⟨A, hA⟩ : ∃ A, st (Lib.decDigits q) = A := ⟨_, rfl⟩
  obtain ⟨B, hB⟩ : ∃ B, st (Lib.decDigits r) = B := ⟨_, rfl⟩
  have s1 : A.size ≤ 3 := by rw [← hA, st_size]; exact (dec_ok q (by omega)).hi
  have s2 : B.size ≤ 3 := by rw [← hB, st_size]; exact (dec_ok r (by omega)).hi
  rw [hA] at HQ HE
  rw [hB] at HR HE
  obtain ⟨LA, hLA⟩ : ∃ L, A.size = L := ⟨_, rfl⟩
  obtain ⟨LB, hLB⟩ : ∃ L, B.size = L := ⟨_, rfl⟩
  have s3 : ¬ 9223372036854775807 < LA + LB := by omega
  clear hA hB hqq hrr hq s1 s2
  go_enter Tryd.func34, Tryd.ntmps34
  go_wp2_with fail
  refine (HQ.out _).mono ?_
  rintro e w1 ⟨rfl, rfl⟩
  go_wp2_with fail
  refine (HR.out _).mono ?_
  rintro e w1 ⟨rfl, rfl⟩
  go_wp2_with fail
  go_ret
  exact ⟨by rw [← HE.out]; rfl, rfl⟩
theorem digits_any (w : World) (a : Nat) (h : a ≤ 255) : Calls Tryd.prog 34 #[.int .i64 a] w fun r w' => r = .returned (.string (st (Lib.decDigits a))) ∧ w' = w := by
  by_cases h1 : a < 10
  · exact digits_one w a h1
  · refine digits_step a (by omega) (by omega) (fun w => ?_) w
    by_cases h2 : a / 10 < 10
    · exact digits_one w _ h2
    · exact digits_step (a / 10) (by omega) (by omega) (fun w => digits_one w _ (by omega)) w
theorem itoa_dec (a : Nat) : Lib.itoa (a : Int) = Lib.decDigits a := by unfold Lib.itoa; rw [if_neg (by omega), Int.toNat_natCast]
set_option maxHeartbeats 2000000 in
theorem rtell_any (w : World) (e : Bool) (n : Nat) (hn : n ≤ 255) (t : List UInt8) (hl : t.length ≤ 100000) :
    Calls Tryd.prog 15 #[.agg #[.bool e, .int .i64 n, .string (st t)]] w fun r w' => r = .returned (.string (st (tellP e n t))) ∧ Below w.heap.size w w' := by
  have HI := Lib.hid (fun W m (hm : m ≤ 255) => digits_any W m hm)
  obtain ⟨s, hs⟩ : ∃ s, st t = s := ⟨_, rfl⟩
  obtain ⟨N, hN⟩ : ∃ N, t.length = N := ⟨_, rfl⟩
  have z1 : s.size = N := by rw [← hs, st_size, hN]
  have HIx := Lib.hid (fun (k : Nat) (hk : k < s.size) (hkl : k < t.length) => (show (s[k]'hk).toNat = (t[k]'hkl).toNat from by subst hs; rw [st_get]))
  have HN := Lib.hid hN
  have HIn := Lib.hid (fun W => digits_any W n hn)
  have hdo := dec_ok n hn
  obtain ⟨I0, hI0⟩ : ∃ I0, st (Lib.decDigits n) = I0 := ⟨_, rfl⟩
  have HI0 := Lib.hid hI0
  rw [hI0] at HIn
  have hl0 : I0.size ≤ 3 := by rw [← hI0, st_size]; exact hdo.hi
  obtain ⟨L0, hL0⟩ : ∃ L0, I0.size = L0 := ⟨_, rfl⟩
  have hl1 : L0 ≤ 3 := by omega
  have g1 : ¬ 9223372036854775807 < 2 + L0 := by omega
  obtain ⟨P, hP⟩ : ∃ P : List UInt8, (if e then [48, 59] else []) ++ Lib.decDigits n = P := ⟨_, rfl⟩
  have hPl : P.length ≤ 23 := by
    have := hdo.hi
    rw [← hP]; split <;> simp <;> omega
  have HP := Lib.hid hP
  have HPl := Lib.hid hPl
  have HRes := Lib.hid (show tellP e n t = P ++ bytesP t from by unfold tellP; rw [itoa_dec, hP])
  obtain ⟨RR, hRR⟩ : ∃ RR, st (tellP e n t) = RR := ⟨_, rfl⟩
  have HRR := Lib.hid hRR
  rw [hs, hRR]
  rw [hN] at hl
  have HSt := Lib.hid (show (if e then (⟨#[48, 59]⟩ : ByteArray) ++ I0 else I0) = st (P ++ bytesP (t.take 0)) from by
    rw [← HP.out, ← HI0.out]
    simp only [List.take_zero]
    cases e with
    | true => rw [if_pos rfl, if_pos rfl, show (⟨#[48, 59]⟩ : ByteArray) = st [48, 59] from rfl, st_append]; simp [bytesP]
    | false => rw [if_neg (by simp), if_neg (by simp)]; simp [bytesP])
  have Hb0 := Lib.hid (show Below w.heap.size w (w.alloc (.cells #[.bool e, .int .i64 n, .string s] 29)) from bel_alloc (Below.refl _ _) _)
  clear hs hN hI0 hP hPl hl0 hRR hdo
  cases e
  all_goals (
    go_enter Tryd.func15, Tryd.ntmps15
    go_wp2_with fail
    refine (HIn.out _).mono ?_
    rintro r w3 ⟨rfl, rfl⟩
    go_wp2_with fail
    obtain ⟨w0, hw0⟩ : ∃ w0, w0 = w := ⟨_, rfl⟩
    go_loopw [3, 4] (fun o i wr => ∃ k : Nat, k ≤ N ∧ i = .int .i64 (k : Int) ∧ o = .string (st (P ++ bytesP (t.take k))) ∧ wr = w.alloc (.cells #[_, .int .i64 n, .string s] 29)) (fun _ i _ => N - (intOf i).toNat)
    case atStart => exact ⟨0, Nat.zero_le _, rfl, by have := HSt.out; simp only [Bool.false_eq_true, if_true, if_false] at this; rw [← this], rfl⟩
    case round =>
      obtain ⟨k, hk, rfl, rfl, rfl⟩ := hrel
      by_cases hlt : k < N
      · have q1 : (k : Int) < (N : Int) := by omega
        have q2 : k < s.size := by omega
        have q3 : k < N := hlt
        have hkl : k < t.length := by rw [HN.out]; exact q3
        have hx := HIx.out k q2 hkl
        obtain ⟨c, hc⟩ : ∃ c, (t[k]'hkl).toNat = c := ⟨_, rfl⟩
        have hc255 : c < 256 := by rw [← hc]; exact (t[k]'hkl).toNat_lt
        rw [hc] at hx
        have HIc := Lib.hid (fun W => HI.out W c (by omega))
        have HSp := Lib.hid (show st (P ++ bytesP (t.take k)) ++ (⟨#[59]⟩ : ByteArray) ++ st (Lib.decDigits c) = st (P ++ bytesP (t.take (k + 1))) from by
          rw [bytesP_step t k hkl, hc, show (⟨#[59]⟩ : ByteArray) = st [59] from rfl, st_append, st_append, itoa_dec]
          simp)
        have hdc := dec_ok c (by omega)
        obtain ⟨Y, hY⟩ : ∃ Y, st (Lib.decDigits c) = Y := ⟨_, rfl⟩
        obtain ⟨A, hA⟩ : ∃ A, st (P ++ bytesP (t.take k)) = A := ⟨_, rfl⟩
        obtain ⟨LY, hLY⟩ : ∃ LY, Y.size = LY := ⟨_, rfl⟩
        obtain ⟨LA, hLA⟩ : ∃ LA, A.size = LA := ⟨_, rfl⟩
        have y1 : LY ≤ 3 := by rw [← hLY, ← hY, st_size]; exact hdc.hi
        have y2 : LA ≤ 4000000 := by
          rw [← hLA, ← hA, st_size, List.length_append]
          have a1 := bytesP_len (t.take k)
          have a2 := HPl.out
          rw [List.length_take] at a1
          omega
        have y3 : ¬ 9223372036854775807 < LA + 1 := by omega
        have y4 : ¬ 9223372036854775807 < LA + 1 + LY := by omega
        rw [hY] at HIc HSp
        rw [hA] at HSp ⊢
        clear hc hY hA hdc
        go_wp2_with fail
        refine (HIc.out _).mono ?_
        rintro r w4 ⟨rfl, rfl⟩
        go_wp2_with fail
        go_roundw
        case rel => exact ⟨k + 1, by omega, by go_num, by rw [HSp.out], trivial⟩
        case measure => simp [intOf]; omega
      · have q1 : ¬ (k : Int) < (N : Int) := by omega
        have HE := Lib.hid (show st (P ++ bytesP (t.take k)) = RR from by rw [← HRR.out, HRes.out, List.take_of_length_le (by rw [HN.out]; omega)])
        rw [HE.out]
        go_wp2_with fail
        go_ret
        exact ⟨rfl, Hb0.out⟩)
end Go.Proofs.YtnfpfpppnfighaaDoor
