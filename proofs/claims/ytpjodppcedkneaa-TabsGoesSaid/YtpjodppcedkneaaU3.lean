/- The document's tabs: Put, Every, Resize. -/
import Derived.Test.YtpjodppcedkneaaU2
import Derived.StillTailTactics
import Derived.BigRegion
namespace Go.Proofs.Ytpjodppcedkneaa
open Go.RowKit Go.Maps Go.Sort Go.Shelf
set_option linter.unusedVariables false
set_option linter.unusedSimpArgs false
set_option maxRecDepth 100000
/-- A slice of ints does not lie in a row of bools. -/
theorem IntsAt.chg {W W' : World} {v : Value} {L : List Int} {q g c : Nat} {S : Int → Bool} (h : IntsAt W v L) (hR : RT W q g c S) (hc : Chg W W' [g]) : IntsAt W' v L := by
  obtain ⟨ad, cap, hv, hx⟩ := h
  refine ⟨ad, cap, hv, fun h0 => ?_⟩
  obtain ⟨B, off, ha, hg, hcc⟩ := hx h0
  have hne : B ≠ g := by
    rintro rfl
    have h1 := hcc 0 h0
    obtain ⟨cs, hb, hn, hf⟩ := hR.hg
    simp only [World.cell?, hb] at h1
    have hlt : off + 0 < c := by rw [← hn]; exact (Array.getElem?_eq_some_iff.1 h1).1
    rw [hf _ hlt] at h1
    simp at h1
  exact ⟨B, off, ha, Nat.lt_of_lt_of_le hg hc.size, fun i hi => hc.cell (by simpa using hne) (hcc i hi)⟩
theorem bel_drew1 (w : World) : Below w.heap.size w w.drew := ⟨rfl, rfl, rfl, Nat.le_refl _, fun _ _ => rfl⟩
theorem putS_step (on : Bool) (L : List Int) (S : Int → Bool) (k : Nat) (hk : k < L.length) : putS on (L.take (k + 1)) S = setS (putS on (L.take k) S) L[k] on := by
  funext x
  unfold setS putS
  by_cases e : x = L[k]
  · rw [if_pos e, if_pos ((mem_take_step L k hk _).2 (.inr e))]
  · rw [if_neg e]
    by_cases h2 : x ∈ L.take k
    · rw [if_pos h2, if_pos ((mem_take_step L k hk _).2 (.inl h2))]
    · rw [if_neg h2, if_neg (fun h => by rcases (mem_take_step L k hk _).1 h with h | h; exact h2 h; exact e h)]
set_option maxHeartbeats 400000 in
theorem rput_any (w : World) (q g c : Nat) (S : Int → Bool) (h : RT w q g c S) (h2 : c ≤ 255) (on : Bool) (v : Value) (L : List Int) (hL : IntsAt w v L) (hl : L.length ≤ 100000) :
    Calls Try.prog 28 #[.pointer (some ⟨q, 0, none⟩), .bool on, v] w fun e w' => e = .returned (.int .i64 (putE c L)) ∧ RT w' q g c (putR on c L S) ∧ Chg w w' [g] := by
  have HTh := Lib.hid (fun x => there_any w q g c S h x)
  obtain ⟨ad, cap, rfl, hcc⟩ := id hL
  obtain ⟨n, hn⟩ : ∃ n, L.length = n := ⟨_, rfl⟩
  have HN := Lib.hid hn
  have HR := Lib.hid h
  have HI := Lib.hid (fun W (hc : Chg w W [g]) => hL.chg h hc)
  have hne : q ≠ g := h.ne
  have HB : (∀ i (hi : i < L.length), 0 ≤ L[i] ∧ L[i] < (c : Int)) → anyBad c L = false := fun ha => by
    unfold anyBad
    rw [List.any_eq_false]
    intro x hx
    obtain ⟨j, hj, rfl⟩ := List.getElem_of_mem hx
    have := ha j hj
    simp; omega
  have HB2 : ∀ i (hi : i < L.length), ¬ (0 ≤ L[i] ∧ L[i] < (c : Int)) → anyBad c L = true := fun i hi ha => by
    unfold anyBad
    rw [List.any_eq_true]
    exact ⟨L[i], List.getElem_mem hi, by simp; omega⟩
  have HBh := Lib.hid HB
  have HB2h := Lib.hid HB2
  have HCc := Lib.hid hcc
  have Hne := Lib.hid hne
  rw [hn] at hl ⊢ HI
  clear h hL hn hcc HB HB2 hne
  go_enter Try.func28, Try.ntmps28
  go_wp2_with fail
  go_loopw [7] (fun i wr => ∃ k : Nat, k ≤ n ∧ i = .int .i64 (k : Int) ∧ (∀ j (hj : j < L.length), j < k → 0 ≤ L[j] ∧ L[j] < (c : Int)) ∧ wr = w) (fun i _ => n - (intOf i).toNat)
  case atStart => exact ⟨0, Nat.zero_le _, rfl, fun j _ h => absurd h (Nat.not_lt_zero j), rfl⟩
  case round =>
    obtain ⟨k, hk, rfl, hall, rfl⟩ := hrel
    have Hall := Lib.hid hall
    clear hall
    by_cases hlt : k < n
    · have q1 : (k : Int) < (n : Int) := by omega
      have hkL : k < L.length := by rw [HN.out]; exact hlt
      obtain ⟨B, off, rfl, hg, hx⟩ := HCc.out (by omega)
      have d1 := hx k hkL
      by_cases hb : 0 ≤ L[k] ∧ L[k] < (c : Int)
      · have hall2 : ∀ j (hj : j < L.length), j < k + 1 → 0 ≤ L[j] ∧ L[j] < (c : Int) := fun j hj hjk => by
          by_cases e : j = k
          · subst e; exact hb
          · exact Hall.out j hj (by omega)
        have Hall2 := Lib.hid hall2
        have hT := HTh.out L[k]
        rw [decide_eq_true hb] at hT
        have HT := Lib.hid hT
        clear hT hall2 hb hx hg
        obtain ⟨x, hxx⟩ : ∃ x, L[k]'hkL = x := ⟨_, rfl⟩
        rw [hxx] at d1 HT
        clear hxx
        go_wp2_with fail
        refine HT.out.mono ?_
        rintro e w1 ⟨rfl, rfl⟩
        go_wp2_with fail
        go_roundw
        case rel => exact ⟨k + 1, by omega, by go_num, Hall2.out, trivial⟩
        case measure => simp [intOf]; omega
      · have hbad := HB2h.out k hkL hb
        have eE : putE c L = 11 := by unfold putE; rw [hbad]; rfl
        have eR : putR on c L S = S := by unfold putR; rw [hbad]; rfl
        have HE := Lib.hid eE
        have HER := Lib.hid eR
        have hT := HTh.out L[k]
        rw [decide_eq_false hb] at hT
        have HT := Lib.hid hT
        clear hT hb hx hg hbad eE eR
        obtain ⟨x, hxx⟩ : ∃ x, L[k]'hkL = x := ⟨_, rfl⟩
        rw [hxx] at d1 HT
        clear hxx
        go_wp2_with fail
        refine HT.out.mono ?_
        rintro e w1 ⟨rfl, rfl⟩
        go_wp2_with fail
        go_ret
        exact ⟨by rw [HE.out]; rfl, by rw [HER.out]; exact HR.out, Chg.of_below (Below.refl _ _)⟩
    · have q1 : ¬ (k : Int) < (n : Int) := by omega
      have hfine := HBh.out (fun i hi => Hall.out i hi (by rw [HN.out] at hi; omega))
      have eE : putE c L = 0 := by unfold putE; rw [hfine]; rfl
      have eR : putR on c L S = putS on L S := by unfold putR; rw [hfine]; rfl
      have HE := Lib.hid eE
      have HER := Lib.hid eR
      have HLit := Lib.hid (anyBad_none hfine)
      clear hfine eE eR Hall
      go_wp2_with fail
      go_loopw [8] (fun i wr' => ∃ k : Nat, k ≤ n ∧ i = .int .i64 (k : Int) ∧ RT wr' q g c (putS on (L.take k) S) ∧ Chg wr wr' [g]) (fun i _ => n - (intOf i).toNat)
      case atStart => exact ⟨0, Nat.zero_le _, rfl, by rw [putS_nil]; exact HR.out, Chg.of_below (Below.refl _ _)⟩
      case round =>
        rename_i wl i2 w0
        obtain ⟨k2, hk2, rfl, hRk, hC⟩ := hrel
        have HRk := Lib.hid hRk
        have HC := Lib.hid hC
        clear hRk hC q1 hlt
        by_cases hlt : k2 < n
        · have q1 : (k2 : Int) < (n : Int) := by omega
          have hkL : k2 < L.length := by rw [HN.out]; exact hlt
          obtain ⟨ad2, cap2, hv2, hx2⟩ := HI.out _ HC.out
          rw [HN.out] at hv2
          simp only [Value.slice.injEq] at hv2
          obtain ⟨rfl, _, rfl⟩ := hv2
          obtain ⟨B, off, rfl, hg, hx⟩ := hx2 (by omega)
          have d1 := hx k2 hkL
          have hbd := HLit.out L[k2] (List.getElem_mem hkL)
          have hst := putS_step on L S k2 hkL
          obtain ⟨X, hX⟩ : ∃ X : Nat, L[k2]'hkL = (X : Int) := ⟨(L[k2]).toNat, by omega⟩
          rw [hX] at d1 hbd hst
          have Hst := Lib.hid hst
          have k0 := HRk.out.cq
          have hXc : (X : Int) < (c : Int) := hbd.2
          have d2 := HRk.out.cg (i := X) (by omega)
          have HR2 := Lib.hid (HRk.out.later (bel_drew1 wr))
          have HC2 := Lib.hid (HC.out.trans (Chg.of_below (X := [g]) (bel_drew1 wr)))
          clear hX hst hx hx2 hg hbd
          go_wp2_with fail
          go_still_tail 10, (by kernel_rfl)
          change wpList _ _ _ _ _ wr.drew
          generalize wr.drew = w2 at *
          have d3 := HR2.out.fz X
          have d4 := HR2.out.cg (i := X) (by omega)
          have HR3 := Lib.hid (HR2.out.set X on)
          have HC3 := Lib.hid (HC2.out.trans (chg_set w2 g X (.bool on)))
          go_wp2_with fail
          go_roundw
          case rel => exact ⟨k2 + 1, by omega, by go_num, by rw [Hst.out]; exact HR3.out, HC3.out⟩
          case measure => simp [intOf]; omega
        · have q1 : ¬ (k2 : Int) < (n : Int) := by omega
          have hkn : L.take k2 = L := List.take_of_length_le (by rw [HN.out]; omega)
          rw [hkn] at HRk
          clear hkn
          go_wp2_with fail
          go_ret
          exact ⟨by rw [HE.out]; rfl, by rw [HER.out]; exact HRk.out, HC.out⟩
theorem everyS_at (c : Nat) (n : Int) (k : Nat) (hk : k < c) : everyS c n (k : Int) = (decide (0 < n) && decide (0 < (k : Int)) && ((k : Int) % n == 0)) := by
  unfold everyS
  by_cases h1 : 0 < n
  · by_cases h2 : 0 < (k : Int)
    · by_cases h3 : (k : Int) % n = 0
      · simp [h1, h2, h3, hk]
      · simp [h1, h2, h3]
    · have : k = 0 := by omega
      subst this; simp
  · simp [h1]
/-- Midway in an Every. -/
def midS (S T : Int → Bool) (k : Nat) : Int → Bool := fun x => if x < (k : Int) then T x else S x
theorem midS_step (S T : Int → Bool) (k : Nat) : midS S T (k + 1) = setS (midS S T k) (k : Int) (T (k : Int)) := by
  funext x
  unfold setS midS
  by_cases e : x = (k : Int)
  · subst e; rw [if_pos rfl, if_pos (by omega)]
  · rw [if_neg e]
    by_cases h : x < (k : Int)
    · rw [if_pos h, if_pos (by omega)]
    · rw [if_neg h, if_neg (by omega)]
theorem revery_neg (w : World) (q : Nat) (n : Int) (hn : n < 0) :
    Calls Try.prog 29 #[.pointer (some ⟨q, 0, none⟩), .int .i64 n] w fun e w' => e = .returned (.int .i64 1) ∧ w' = w := by
  go_enter Try.func29, Try.ntmps29
  go_wp2_with fail
  go_ret
  exact ⟨rfl, rfl⟩
set_option maxHeartbeats 1000000 in
theorem revery_any (w : World) (q g c : Nat) (S : Int → Bool) (h : RT w q g c S) (h2 : c ≤ 255) (n : Int) (hn : 0 ≤ n) (hn1 : n ≤ 9223372036854775807) :
    Calls Try.prog 29 #[.pointer (some ⟨q, 0, none⟩), .int .i64 n] w fun e w' => e = .returned (.int .i64 0) ∧ RT w' q g c (everyS c n) ∧ Chg w w' [g] := by
  have HR := Lib.hid h
  have HM := Lib.hid (fun k => midS_step S (everyS c n) k)
  have HE := Lib.hid (fun (k : Nat) (hk : k < c) => everyS_at c n k hk)
  have hn2 : ¬ n < 0 := by omega
  clear h
  go_enter Try.func29, Try.ntmps29
  go_wp2_with fail
  go_loopw [5] (fun i wr => ∃ k : Nat, k ≤ c ∧ i = .int .i64 (k : Int) ∧ RT wr q g c (midS S (everyS c n) k) ∧ Chg w wr [g]) (fun i _ => c - (intOf i).toNat)
  case atStart => exact ⟨0, Nat.zero_le _, rfl, HR.out.cong (fun x h0 h1 => by unfold midS; rw [if_neg (by simpa using h0)]), Chg.of_below (Below.refl _ _)⟩
  case round =>
    obtain ⟨k, hk, rfl, hR, hC⟩ := hrel
    have HRk := Lib.hid hR
    have HC := Lib.hid hC
    have k0 := HRk.out.cq
    clear hR hC
    by_cases hlt : k < c
    · have q1 : (k : Int) < (c : Int) := by omega
      have HR2 := Lib.hid (HRk.out.later (bel_drew1 wr))
      have HC2 := Lib.hid (HC.out.trans (Chg.of_below (X := [g]) (bel_drew1 wr)))
      have hE := HE.out k hlt
      have hM := HM.out k
      rw [hE] at hM
      have HMk := Lib.hid hM
      have fin : ∀ w2, RT w2 q g c (midS S (everyS c n) k) → Chg w w2 [g] → w2.frozen? ⟨g, k, none⟩ = false ∧ w2.cell? ⟨g, k, none⟩ = some (.bool (midS S (everyS c n) k (k : Int))) ∧ ∀ b, RT (w2.setCell ⟨g, k, none⟩ (.bool b)) q g c (setS (midS S (everyS c n) k) (k : Int) b) ∧ Chg w (w2.setCell ⟨g, k, none⟩ (.bool b)) [g] := fun w2 a b =>
        ⟨a.fz k, a.cg hlt, fun bb => ⟨a.set k bb, b.trans (chg_set w2 g k (.bool bb))⟩⟩
      have Fin := Lib.hid fin
      clear hE hM fin
      by_cases p1 : 0 < n
      · by_cases p2 : 0 < (k : Int)
        · have hrem : IntKind.i64.wrap ((k : Int).tmod n) = (k : Int).tmod n := IntWalk.i64_in _ (by
            have := Int.tmod_nonneg (a := (k : Int)) n (by omega)
            have := Int.tmod_lt_of_pos (k : Int) p1
            omega)
          have p3 : ¬ n = 0 := by omega
          have p4 : (n == 0) = false := by simp; omega
          have HM2 := HMk.out
          rw [decide_eq_true p1, decide_eq_true p2, Bool.true_and, Bool.true_and] at HM2
          have HM3 := Lib.hid HM2
          have p5 : decide (0 < n) = true := decide_eq_true p1
          have p6 : decide (0 < k) = true := decide_eq_true (by omega)
          clear HM2 HMk
          go_wp2_with fail
          go_still_tail 18, (by kernel_rfl)
          change wpList _ _ _ _ _ wr.drew
          generalize wr.drew = w2 at *
          obtain ⟨d3, d4, hfin⟩ := Fin.out w2 HR2.out HC2.out
          have HFi := Lib.hid hfin
          clear hfin
          go_wp2_with fail
          go_roundw
          case rel => exact ⟨k + 1, by omega, by go_num, by rw [HM3.out]; exact (HFi.out _).1, (HFi.out _).2⟩
          case measure => simp [intOf]; omega
        · have HM2 := HMk.out
          rw [decide_eq_false p2, Bool.and_false, Bool.false_and] at HM2
          have HM3 := Lib.hid HM2
          have p5 : decide (0 < n) = true := decide_eq_true p1
          have p6 : decide (0 < k) = false := decide_eq_false (by omega)
          clear HM2 HMk
          go_wp2_with fail
          go_still_tail 18, (by kernel_rfl)
          change wpList _ _ _ _ _ wr.drew
          generalize wr.drew = w2 at *
          obtain ⟨d3, d4, hfin⟩ := Fin.out w2 HR2.out HC2.out
          have HFi := Lib.hid hfin
          clear hfin
          go_wp2_with fail
          go_roundw
          case rel => exact ⟨k + 1, by omega, by go_num, by rw [HM3.out]; exact (HFi.out _).1, (HFi.out _).2⟩
          case measure => simp [intOf]; omega
      · have HM2 := HMk.out
        rw [decide_eq_false p1, Bool.false_and, Bool.false_and] at HM2
        have HM3 := Lib.hid HM2
        have p5 : decide (0 < n) = false := decide_eq_false p1
        clear HM2 HMk
        go_wp2_with fail
        go_still_tail 18, (by kernel_rfl)
        change wpList _ _ _ _ _ wr.drew
        generalize wr.drew = w2 at *
        obtain ⟨d3, d4, hfin⟩ := Fin.out w2 HR2.out HC2.out
        have HFi := Lib.hid hfin
        clear hfin
        go_wp2_with fail
        go_roundw
        case rel => exact ⟨k + 1, by omega, by go_num, by rw [HM3.out]; exact (HFi.out _).1, (HFi.out _).2⟩
        case measure => simp [intOf]; omega
    · have q1 : ¬ (k : Int) < (c : Int) := by omega
      have hkc : k = c := by omega
      subst hkc
      have HR3 := Lib.hid (HRk.out.cong (T := everyS k n) (fun x h0 h1 => by unfold midS; rw [if_pos h1]))
      go_wp2_with fail
      go_ret
      exact ⟨rfl, HR3.out, HC.out⟩
end Go.Proofs.Ytpjodppcedkneaa
