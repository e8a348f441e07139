/- RemapTells: the law's walk. -/
import Derived.Test.YtnfpfpppnfighaaDoorRC
namespace Go.Proofs.YtnfpfpppnfighaaDoor
open Go.Shelf Go.RowKit
set_option linter.unusedVariables false
set_option linter.unusedSimpArgs false
set_option maxRecDepth 100000
theorem tellP_len (e : Bool) (a : Nat) (ha : a ≤ 255) (t : List UInt8) (hl : t.length ≤ 300) : (tellP e a t).length ≤ 100000 := by
  unfold tellP
  rw [itoa_dec]
  have h1 := (dec_ok a ha).hi
  have h2 := bytesP_len t
  rw [List.length_append, List.length_append]
  have h3 : (if e = true then ([48, 59] : List UInt8) else []).length ≤ 2 := by split <;> simp
  omega
set_option maxHeartbeats 4000000 in
theorem tells_walk (w : World) (htab : Tab w) (e : Bool) (n : Int) (t : List UInt8) (h1 : -9223372036854775808 ≤ n ∧ n ≤ 9223372036854775807) :
    Calls Tryd.prog 4 #[.agg #[.bool e, .int .i64 n], .string (st t)] w fun r w' => r = .returned (.bool true) ∧ Below w.heap.size w w' := by
  have HA := Lib.hid (fun W (hb : Below w.heap.size w W) => awake_any W (tab_below htab W hb))
  have HT := Lib.hid (fun W (hb : Below w.heap.size w W) (hl : t.length ≤ 300) => tell_any W (tab_below htab W hb) e n h1.1 h1.2 t (by omega))
  have HP := Lib.hid (fun W l hl => parse_any W l hl)
  have HR := Lib.hid (fun W (a : Nat) ha (hl : t.length ≤ 300) => rtell_any W e a ha t (by omega))
  have HC := Lib.hid (fun W => rcode_any W e n)
  have HPT := Lib.hid (fun (h : mayB e n = true) => parse_tell e n t h)
  have HTL := Lib.hid (fun (a : Nat) ha (hl : t.length ≤ 300) => tellP_len e a ha t hl)
  have HTV := Lib.hid (show tellV e n t = if mayB e n then .tuple #[.string (st (tellP e n t)), .int .i64 0] else .tuple #[.string ⟨#[]⟩, .int .i64 1] from rfl)
  have hm0 : mayB e n = true → ∃ a : Nat, n = (a : Int) ∧ a ≤ 255 := by
    intro h
    unfold mayB at h
    simp only [Bool.and_eq_true, decide_eq_true_eq] at h
    exact ⟨n.toNat, by omega, by omega⟩
  obtain ⟨s, hs⟩ : ∃ s, st t = s := ⟨_, rfl⟩
  have z1 : s.size = t.length := by rw [← hs, st_size]
  have HS := Lib.hid hs
  rw [hs] at HT HR ⊢
  obtain ⟨N, hN⟩ : ∃ N, t.length = N := ⟨_, rfl⟩
  rw [hN] at HT HR HTL z1
  clear htab h1 hs hN
  have HC0 := Lib.hid (show Below w.heap.size w (w.alloc (.cells #[.bool e, .int .i64 n] 24)) from bel_alloc (Below.refl _ _) _)
  by_cases l1 : N ≤ 300
  · have p1 : ¬ (300 : Int) < (N : Int) := by omega
    have HCl := Lib.hid (show ∀ W, W = w.alloc (.cells #[.bool e, .int .i64 n] 24) → W.cell? ⟨w.heap.size, 0, none⟩ = some (.bool e) ∧ W.cell? ⟨w.heap.size, 1, none⟩ = some (.int .i64 n) from by
      intro W hW
      subst hW
      simp [go_sem])
    cases hm : mayB e n with
    | true =>
      obtain ⟨a, rfl, ha⟩ := hm0 hm
      have e1 := HPT.out hm
      have e2 := HTV.out
      rw [hm] at e2 HC
      simp only [if_true, Int.toNat_natCast] at e1 e2
      rw [e2] at HT
      have HPa := Lib.hid (fun W => HP.out W (tellP e a t) (HTL.out a ha l1))
      simp only [e1, parseV, HS.out] at HPa
      have HRa := Lib.hid (fun W => HR.out W a ha l1)
      obtain ⟨A, hA⟩ : ∃ A, st (tellP e a t) = A := ⟨_, rfl⟩
      rw [hA] at HPa HRa HT
      clear e1 e2 hA HPT HTV HP HR HTL HS hm hm0 ha
      go_enter Tryd.func4, Tryd.ntmps4
      go_wp2_with fail
      obtain ⟨w0, hw0⟩ : ∃ w0, (w.alloc (.cells #[.bool e, .int .i64 a] 24)) = w0 := ⟨_, rfl⟩
      rw [hw0] at HC0 ⊢
      obtain ⟨k1, k2⟩ := HCl.out w0 hw0.symm
      clear hw0 HCl
      obtain ⟨B1, hB1⟩ : ∃ B, w.heap.size = B := ⟨_, rfl⟩
      rw [hB1] at k1 k2 ⊢
      have HB1 := Lib.hid hB1
      clear hB1
      refine (HT.out _ HC0.out l1).mono ?_
      rintro r w3 ⟨rfl, hb3⟩
      replace k1 := cellB hb3 k1
      replace k2 := cellB hb3 k2
      have Hb3 := Lib.hid (bel_call HC0.out hb3)
      clear hb3
      go_wp2_with fail
      refine (HC.out _).mono ?_
      rintro r w4 ⟨rfl, rfl⟩
      go_wp2_with fail
      refine (HPa.out _).mono ?_
      rintro r w5 ⟨rfl, hb5⟩
      replace k1 := cellB hb5 k1
      replace k2 := cellB hb5 k2
      have Hb5 := Lib.hid (bel_call Hb3.out hb5)
      clear hb5
      have d1 : ∀ o, (w5.alloc o).cell? ⟨B1, 0, none⟩ = some (.bool e) := fun o => cellB (bel_alloc (Below.refl _ _) o) k1
      have d2 : ∀ o, (w5.alloc o).cell? ⟨B1, 1, none⟩ = some (.int .i64 a) := fun o => cellB (bel_alloc (Below.refl _ _) o) k2
      clear k1 k2
      have Hb6 := Lib.hid (fun o => bel_alloc Hb5.out o)
      go_wp2_with fail
      refine (HRa.out _).mono ?_
      rintro r w6 ⟨rfl, hb6⟩
      have Hb7 := Lib.hid (bel_call (Hb6.out _) hb6)
      clear hb6
      go_wp2_with fail
      refine (HA.out _ Hb7.out).mono ?_
      rintro r w7 ⟨rfl, hb7⟩
      go_wp2_with fail
      go_ret
      exact ⟨rfl, bel_call Hb7.out hb7⟩
    | false =>
      have e2 := HTV.out
      rw [hm] at e2 HC
      simp only [Bool.false_eq_true, if_false] at e2
      rw [e2] at HT
      clear e2 HPT HTV HP HR HTL HS hm hm0
      go_enter Tryd.func4, Tryd.ntmps4
      go_wp2_with fail
      obtain ⟨w0, hw0⟩ : ∃ w0, (w.alloc (.cells #[.bool e, .int .i64 n] 24)) = w0 := ⟨_, rfl⟩
      rw [hw0] at HC0 ⊢
      obtain ⟨k1, k2⟩ := HCl.out w0 hw0.symm
      clear hw0 HCl
      obtain ⟨B1, hB1⟩ : ∃ B, w.heap.size = B := ⟨_, rfl⟩
      rw [hB1] at k1 k2 ⊢
      clear hB1
      refine (HT.out _ HC0.out l1).mono ?_
      rintro r w3 ⟨rfl, hb3⟩
      replace k1 := cellB hb3 k1
      replace k2 := cellB hb3 k2
      have Hb3 := Lib.hid (bel_call HC0.out hb3)
      clear hb3
      go_wp2_with fail
      refine (HC.out _).mono ?_
      rintro r w4 ⟨rfl, rfl⟩
      have HAw := Lib.hid (HA.out _ Hb3.out)
      go_wp2_with fail
      refine HAw.out.mono ?_
      rintro r w5 ⟨rfl, hb5⟩
      go_wp2_with fail
      go_ret
      exact ⟨rfl, bel_call Hb3.out hb5⟩
  · have p1 : (300 : Int) < (N : Int) := by omega
    clear HT HP HR HPT HTL HTV HS hm0
    go_enter Tryd.func4, Tryd.ntmps4
    go_wp2_with fail
    refine (HA.out _ HC0.out).mono ?_
    rintro r w5 ⟨rfl, hb5⟩
    go_wp2_with fail
    go_ret
    exact ⟨rfl, bel_call HC0.out hb5⟩
end Go.Proofs.YtnfpfpppnfighaaDoor
