/- remap: Tell: the walk. -/
import Derived.Test.YtnfpfpppnfighaaDoorR7
import Derived.Lib.ItoaLen
import Derived.Lib.AppendIntMem
namespace Go.Proofs.YtnfpfpppnfighaaDoor
open Go.Shelf Go.RowKit
set_option linter.unusedVariables false
set_option linter.unusedSimpArgs false
set_option maxRecDepth 100000
abbrev Tab (W : World) : Prop := Lib.TabIs Tryd.prog W "internal/strconv.uint64pow10" .u64 Lib.pow10Tab
theorem tab_below {w : World} (h : Tab w) : ∀ W, Below w.heap.size w W → Tab W := Lib.tabBelow_of_tabIs h
theorem below_grow (w : World) (k : Nat) (os : Array Obj) : Below w.heap.size w (Sort.grow (w.drewN k) os) :=
  ⟨rfl, rfl, rfl, by unfold Sort.grow; simp, fun i hi => by unfold Sort.grow; exact Array.getElem?_append_left hi⟩
theorem itoa_any (w : World) (h : Tab w) (n : Int) (h0 : -9223372036854775808 ≤ n) (h1 : n ≤ 9223372036854775807) :
    Calls Tryd.prog 33 #[.int .i64 n] w fun e w' => e = .returned (.string (st (Lib.itoa n))) ∧ Below w.heap.size w w' := by
  refine (itoa_ok n h0 h1 w h).mono ?_
  rintro e w' ⟨he, k, os, rfl⟩
  exact ⟨he, below_grow _ _ _⟩
/-- May a code be? -/
def mayB (e : Bool) (n : Int) : Bool := decide (0 ≤ n) && decide (n ≤ 255) && (e || decide (0 < n))
theorem may_any (w : World) (e : Bool) (n : Int) : Calls Tryd.prog 32 #[.agg #[.bool e, .int .i64 n]] w fun r w' => r = .returned (.bool (mayB e n)) ∧ Below w.heap.size w w' := by
  unfold mayB
  by_cases h1 : 0 ≤ n
  · by_cases h2 : n ≤ 255
    · cases e with
      | true =>
        go_enter Tryd.func32, Tryd.ntmps32
        go_wp2_with fail
        go_ret
        exact ⟨by simp [h1, h2], bel_alloc (Below.refl _ _) _⟩
      | false =>
        by_cases h3 : 0 < n
        · go_enter Tryd.func32, Tryd.ntmps32
          go_wp2_with fail
          go_ret
          exact ⟨by simp [h1, h2, h3], bel_alloc (Below.refl _ _) _⟩
        · go_enter Tryd.func32, Tryd.ntmps32
          go_wp2_with fail
          go_ret
          exact ⟨by simp; omega, bel_alloc (Below.refl _ _) _⟩
    · go_enter Tryd.func32, Tryd.ntmps32
      go_wp2_with fail
      go_ret
      exact ⟨by simp; omega, bel_alloc (Below.refl _ _) _⟩
  · go_enter Tryd.func32, Tryd.ntmps32
    go_wp2_with fail
    go_ret
    exact ⟨by simp; omega, bel_alloc (Below.refl _ _) _⟩
/-- What Tell tells. -/
def bytesP (t : List UInt8) : List UInt8 := (t.map fun b => 59 :: Lib.itoa (b.toNat : Int)).flatten
def tellP (e : Bool) (n : Int) (t : List UInt8) : List UInt8 := (if e then [48, 59] else []) ++ Lib.itoa n ++ bytesP t
def tellV (e : Bool) (n : Int) (t : List UInt8) : Value := if mayB e n then .tuple #[.string (st (tellP e n t)), .int .i64 0] else .tuple #[.string ⟨#[]⟩, .int .i64 1]
theorem bytesP_step (t : List UInt8) (k : Nat) (h : k < t.length) : bytesP (t.take (k + 1)) = bytesP (t.take k) ++ 59 :: Lib.itoa (t[k].toNat : Int) := by
  unfold bytesP
  rw [List.take_succ_eq_append_getElem h, List.map_append, List.flatten_append]
  simp
theorem bytesP_len (t : List UInt8) : (bytesP t).length ≤ t.length * 30 := by
  unfold bytesP
  induction t with
  | nil => simp
  | cons b r ih =>
    have := Lib.itoa_length_le (b.toNat : Int) (by omega) (by have := b.toNat_lt; omega)
    simp only [List.map_cons, List.flatten_cons, List.length_append, List.length_cons]
    omega
set_option maxHeartbeats 2000000 in
theorem tell_any (w : World) (htab : Tab w) (e : Bool) (n : Int) (h0 : -9223372036854775808 ≤ n) (h1 : n ≤ 9223372036854775807) (t : List UInt8) (hl : t.length ≤ 100000) :
    Calls Tryd.prog 13 #[.agg #[.bool e, .int .i64 n], .string (st t)] w fun r w' => r = .returned (tellV e n t) ∧ Below w.heap.size w w' := by
  have HM := Lib.hid (fun W => may_any W e n)
  have HI := Lib.hid (fun W (hb : Below w.heap.size w W) m a b => itoa_any W (tab_below htab W hb) m a b)
  cases hm : mayB e n with
  | false =>
    have hv : tellV e n t = .tuple #[.string ⟨#[]⟩, .int .i64 1] := by unfold tellV; rw [hm]; rfl
    rw [hv]
    rw [hm] at HM
    clear hv hm htab
    go_enter Tryd.func13, Tryd.ntmps13
    go_wp2_with fail
    refine (HM.out _).mono ?_
    rintro e w2 ⟨rfl, hb2⟩
    have Hb2 := Lib.hid (bel_call (bel_alloc (Below.refl w.heap.size w) (.cells #[.bool e, .int .i64 n] 24)) hb2)
    clear hb2
    go_wp2_with fail
    go_ret2
    exact ⟨by simp, Hb2.out⟩
  | true =>
    have hv : tellV e n t = .tuple #[.string (st (tellP e n t)), .int .i64 0] := by unfold tellV; rw [hm]; rfl
    rw [hv]
    rw [hm] at HM
    clear hv hm htab
    obtain ⟨s, hs⟩ : ∃ s, st t = s := ⟨_, rfl⟩
    obtain ⟨N, hN⟩ : ∃ N, t.length = N := ⟨_, rfl⟩
    have z1 : s.size = N := by rw [← hs, st_size, hN]
    have HIx := Lib.hid (fun (k : Nat) (hk : k < s.size) (hkl : k < t.length) => (show (s[k]'hk).toNat = (t[k]'hkl).toNat from by subst hs; rw [st_get]))
    have HN := Lib.hid hN
    have HIn := Lib.hid (fun W hb => HI.out W hb n h0 h1)
    obtain ⟨I0, hI0⟩ : ∃ I0, st (Lib.itoa n) = I0 := ⟨_, rfl⟩
    have HI0 := Lib.hid hI0
    rw [hI0] at HIn
    have hl0 : I0.size ≤ 21 := by rw [← hI0, st_size]; exact Lib.itoa_length_le n h0 h1
    obtain ⟨L0, hL0⟩ : ∃ L0, I0.size = L0 := ⟨_, rfl⟩
    have hl1 : L0 ≤ 21 := by omega
    have g1 : ¬ 9223372036854775807 < 2 + L0 := by omega
    obtain ⟨P, hP⟩ : ∃ P : List UInt8, (if e then [48, 59] else []) ++ Lib.itoa n = P := ⟨_, rfl⟩
    have hPl : P.length ≤ 23 := by
      have := Lib.itoa_length_le n h0 h1
      rw [← hP]; split <;> simp <;> omega
    have HP := Lib.hid hP
    have HPl := Lib.hid hPl
    have HRes := Lib.hid (show tellP e n t = P ++ bytesP t from by unfold tellP; rw [hP])
    obtain ⟨RR, hRR⟩ : ∃ RR, st (tellP e n t) = RR := ⟨_, rfl⟩
    have HRR := Lib.hid hRR
    rw [hs, hRR]
    rw [hN] at hl
    clear hs hN hI0 hP hPl hl0 hRR
    go_enter Tryd.func13, Tryd.ntmps13
    go_wp2_with fail
    refine (HM.out _).mono ?_
    rintro r w2 ⟨rfl, hb2⟩
    have k0 := cellB hb2 (b := w.heap.size) (o := 0) (v := .bool e) (by simp [go_sem])
    have k1 := cellB hb2 (b := w.heap.size) (o := 1) (v := .int .i64 n) (by simp [go_sem])
    have Hb2 := Lib.hid (bel_call (bel_alloc (Below.refl w.heap.size w) (.cells #[.bool e, .int .i64 n] 24)) hb2)
    clear hb2
    go_wp2_with fail
    refine (HIn.out _ Hb2.out).mono ?_
    rintro r w3 ⟨rfl, hb3⟩
    have k3 := cellB hb3 k0
    have Hb3 := Lib.hid (bel_call Hb2.out hb3)
    clear hb3 k0 k1
    have HSt := Lib.hid (show (if e then (⟨#[48, 59]⟩ : ByteArray) ++ I0 else I0) = st (P ++ bytesP (t.take 0)) from by
      rw [← HP.out, ← HI0.out]
      simp only [List.take_zero]
      cases e with
      | true => rw [if_pos rfl, if_pos rfl, show (⟨#[48, 59]⟩ : ByteArray) = st [48, 59] from rfl, st_append]; simp [bytesP]
      | false => rw [if_neg (by simp), if_neg (by simp)]; simp [bytesP])
    cases e
    all_goals (
      go_wp2_with fail
      go_loopw [6, 20] (fun o i wr => ∃ k : Nat, k ≤ N ∧ i = .int .i64 (k : Int) ∧ o = .string (st (P ++ bytesP (t.take k))) ∧ Below w.heap.size w wr) (fun _ i _ => N - (intOf i).toNat)
      case atStart => exact ⟨0, Nat.zero_le _, rfl, by have := HSt.out; simp only [Bool.false_eq_true, if_true, if_false] at this; rw [← this], Hb3.out⟩
      case round =>
        obtain ⟨k, hk, rfl, rfl, hb⟩ := hrel
        have Hb := Lib.hid hb
        clear hb
        by_cases hlt : k < N
        · have q1 : (k : Int) < (N : Int) := by omega
          have q2 : k < s.size := by omega
          have q3 : k < N := hlt
          have hkl : k < t.length := by rw [HN.out]; exact q3
          have hx := HIx.out k q2 hkl
          obtain ⟨c, hc⟩ : ∃ c, (t[k]'hkl).toNat = c := ⟨_, rfl⟩
          have hc255 : c < 256 := by rw [← hc]; exact (t[k]'hkl).toNat_lt
          rw [hc] at hx
          have HIc := Lib.hid (fun W hb => HI.out W hb (c : Int) (by omega) (by omega))
          have HSp := Lib.hid (show st (P ++ bytesP (t.take k)) ++ ((⟨#[59]⟩ : ByteArray) ++ st (Lib.itoa (c : Int))) = st (P ++ bytesP (t.take (k + 1))) from by
            rw [bytesP_step t k hkl, hc, show (⟨#[59]⟩ : ByteArray) = st [59] from rfl, st_append, st_append]
            simp)
          obtain ⟨Y, hY⟩ : ∃ Y, st (Lib.itoa (c : Int)) = Y := ⟨_, rfl⟩
          obtain ⟨A, hA⟩ : ∃ A, st (P ++ bytesP (t.take k)) = A := ⟨_, rfl⟩
          obtain ⟨LY, hLY⟩ : ∃ LY, Y.size = LY := ⟨_, rfl⟩
          obtain ⟨LA, hLA⟩ : ∃ LA, A.size = LA := ⟨_, rfl⟩
          have y1 : LY ≤ 21 := by rw [← hLY, ← hY, st_size]; exact Lib.itoa_length_le _ (by omega) (by omega)
          have y2 : LA ≤ 4000000 := by
            rw [← hLA, ← hA, st_size, List.length_append]
            have a1 := bytesP_len (t.take k)
            have a2 := HPl.out
            rw [List.length_take] at a1
            omega
          have y3 : ¬ 9223372036854775807 < 1 + LY := by omega
          have y4 : ¬ 9223372036854775807 < LA + (1 + LY) := by omega
          rw [hY] at HIc HSp
          rw [hA] at HSp ⊢
          clear hc hY hA
          go_wp2_with fail
          refine (HIc.out _ Hb.out).mono ?_
          rintro r w4 ⟨rfl, hb4⟩
          have Hb4 := Lib.hid (bel_call Hb.out hb4)
          clear hb4
          go_wp2_with fail
          go_roundw
          case rel => exact ⟨k + 1, by omega, by go_num, by rw [HSp.out], Hb4.out⟩
          case measure => simp [intOf]; omega
        · have q1 : ¬ (k : Int) < (N : Int) := by omega
          have HE := Lib.hid (show st (P ++ bytesP (t.take k)) = RR from by rw [← HRR.out, HRes.out, List.take_of_length_le (by rw [HN.out]; omega)])
          rw [HE.out]
          go_wp2_with fail
          go_ret2
          exact ⟨by simp, Hb.out⟩)
end Go.Proofs.YtnfpfpppnfighaaDoor
