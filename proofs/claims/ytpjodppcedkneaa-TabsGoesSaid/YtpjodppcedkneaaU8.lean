/- TabsPlays: the law's walk. -/
import Derived.Test.YtpjodppcedkneaaU7
import Derived.Test.YtpjodppcedkneaaTH
namespace Go.Proofs.Ytpjodppcedkneaa
open Go.RowKit Go.Maps Go.Sort Go.Shelf
set_option linter.unusedVariables false
set_option linter.unusedSimpArgs false
set_option maxRecDepth 100000
theorem few_len {l : List OpD} (h : fewB l = true) (i : Nat) (hi : i < l.length) : l[i].L.length ≤ 20 := by
  unfold fewB at h
  rw [Bool.and_eq_true, List.all_eq_true] at h
  simpa using h.1 l[i] (List.getElem_mem hi)
theorem BothE.later {W W' : World} {B p b q : Nat} (h : BothE W B p b q) (hb : Below W.heap.size W W') : BothE W' B p b q := by
  obtain ⟨c, S, h⟩ := h
  obtain ⟨g, hR, hg⟩ := h.r
  exact ⟨c, S, h.t.later hb, ⟨g, hR.later hb, hg⟩, h.hp, h.hb, h.hq⟩
/-- The calls' cells in a later world. -/
theorem ops_cell {w W : World} {v : Value} {l : List OpD} (h : OpsAt w v l) (hb : Below w.heap.size w W) {ad : Option Addr} {n cap : Nat} (hv : v = .slice ad n cap) (k : Nat) (hk : k < l.length) :
    ∃ g off, ad = some ⟨g, off, none⟩ ∧ OpAt W g (off + k * 4) l[k] ∧ l[k].ok W := by
  obtain ⟨ad2, cap2, hv2, hx, ho⟩ := h.later hb
  rw [hv] at hv2
  simp only [Value.slice.injEq] at hv2
  obtain ⟨rfl, rfl, rfl⟩ := hv2
  obtain ⟨g, off, ha, hg, hc⟩ := hx (by omega)
  exact ⟨g, off, ha, hc k hk, ho _ (List.getElem_mem hk)⟩
set_option maxHeartbeats 2000000 in
theorem plays_walk (cols : Int) (lv : Value) (l : List OpD) (w : World) (hL : OpsAt w lv l) (hll : l.length ≤ 9223372036854775807) :
    Calls Try.prog 4 #[.int .i64 cols, lv] w fun e w' => e = .returned (.bool true) ∧ Below w.heap.size w w' := by
  have HA := Lib.hid (fun W => awake_any W)
  have HOps := Lib.hid hL
  obtain ⟨ad, cap, hlv, -⟩ := id hL
  by_cases hc : cols < 1 ∨ 255 < cols
  · have HNew := Lib.hid (new_bad cols hc w)
    clear hL
    rw [hlv]
    have hw : cols < 1 ∨ (¬ cols < 1 ∧ 255 < cols) := by omega
    clear hc
    rcases hw with h1 | ⟨h1, h2⟩
    all_goals (
      go_enter Try.func4, Try.ntmps4
      go_wp2_with fail
      refine HNew.out.mono ?_
      rintro e w1 ⟨rfl, rfl⟩
      go_wp2_with fail
      refine (HA.out _).mono ?_
      rintro e w2 ⟨rfl, hb⟩
      go_wp2_with fail
      go_ret
      exact ⟨rfl, hb⟩)
  · obtain ⟨c, rfl⟩ : ∃ c : Nat, cols = (c : Int) := ⟨cols.toNat, by omega⟩
    have HNew := Lib.hid (new_ts c (by omega) (by omega) w)
    have g1 : ¬ (c : Int) < 1 := by omega
    have g2 : ¬ (255 : Int) < (c : Int) := by omega
    have HFew := Lib.hid (fun W (hb : Below w.heap.size w W) => few_any W lv l (hL.later hb) hll)
    have HRn := Lib.hid (fun W => rnew_any W c (by omega))
    have Hlv := Lib.hid hlv
    obtain ⟨N, hN⟩ : ∃ N, l.length = N := ⟨_, rfl⟩
    have HN := Lib.hid hN
    rw [hN] at hlv hll
    clear hL hc hN
    subst hlv
    cases hf : fewB l with
    | false =>
      rw [hf] at HFew
      clear hf
      go_enter Try.func4, Try.ntmps4
      go_wp2_with fail
      refine HNew.out.mono ?_
      rintro e w1 ⟨rfl, _, hb0⟩
      have HF := Lib.hid (HFew.out _ hb0)
      have Hb0 := Lib.hid hb0
      clear hb0
      go_wp2_with fail
      refine HF.out.mono ?_
      rintro e w2 ⟨rfl, rfl⟩
      go_wp2_with fail
      refine (HA.out _).mono ?_
      rintro e w3 ⟨rfl, hb⟩
      go_wp2_with fail
      go_ret
      exact ⟨rfl, bel_call Hb0.out hb⟩
    | true =>
      rw [hf] at HFew
      have HfB := Lib.hid (fun k hk => few_len hf k hk)
      clear hf
      go_enter Try.func4, Try.ntmps4
      go_wp2_with fail
      refine HNew.out.mono ?_
      rintro e w1 ⟨rfl, hT1, hb1⟩
      have HF := Lib.hid (HFew.out _ hb1)
      have Hb1 := Lib.hid hb1
      have HT1 := Lib.hid hT1
      clear hb1 hT1
      obtain ⟨p, hp⟩ : ∃ p, w.heap.size + 1 = p := ⟨_, rfl⟩
      rw [hp] at HT1 ⊢
      have Hp := Lib.hid hp
      clear hp
      go_wp2_with fail
      refine HF.out.mono ?_
      rintro e w2 ⟨rfl, rfl⟩
      go_wp2_with fail
      refine (HRn.out _).mono ?_
      rintro e w3 ⟨rfl, hR3, hb3⟩
      have hBE : BothE w3 w.heap.size p w.heap.size (w2.heap.size + 1) := ⟨c, _, HT1.out.later hb3, ⟨_, hR3, Hb1.out.size⟩, by have := Hp.out; omega, Nat.le_refl _, by have := Hb1.out.size; omega⟩
      have HBE := Lib.hid hBE
      have Hb3 := Lib.hid (bel_call Hb1.out hb3)
      obtain ⟨q, hq⟩ : ∃ q, w2.heap.size + 1 = q := ⟨_, rfl⟩
      rw [hq] at HBE ⊢
      clear hBE hR3 hb3 hq
      go_wp2_with fail
      go_loopw [7, 8] (fun r i wr => ∃ (k q : Nat), k ≤ N ∧ i = .int .i64 (k : Int) ∧ r = .pointer (some ⟨q, 0, none⟩) ∧ BothE wr w.heap.size p w.heap.size q ∧ Below w.heap.size w wr) (fun _ i _ => N - (intOf i).toNat)
      case atStart => exact ⟨0, q, Nat.zero_le _, rfl, rfl, HBE.out, Hb3.out⟩
      case round =>
        obtain ⟨k, q2, hk, rfl, rfl, hbe, hbw⟩ := hrel
        have Hbe := Lib.hid hbe
        have Hbw := Lib.hid hbw
        clear hbe hbw
        by_cases hlt : k < N
        · have q1 : (k : Int) < (N : Int) := by omega
          have hkL : k < l.length := by rw [HN.out]; exact hlt
          obtain ⟨g, off, rfl, ⟨d0, d1, d2, d3⟩, hok⟩ := ops_cell HOps.out Hbw.out Hlv.out k hkL
          have HD := Lib.hid (does_any wr _ _ _ _ Hbe.out Hbw.out.size l[k].a l[k].n l[k].m hok.n1 hok.m0 hok.m1 _ _ hok.l (by have := HfB.out k hkL; omega))
          clear hok
          generalize l[k]'hkL = x at *
          go_wp2_with fail
          refine HD.out.mono ?_
          rintro e w4 ⟨q3, rfl, hbe4, hbl4⟩
          obtain ⟨c4, S4, hb4⟩ := id hbe4
          obtain ⟨g4, hR4, hg4⟩ := hb4.r
          have HT4 := Lib.hid hb4.t
          have HR4 := Lib.hid hR4
          have HBE4 := Lib.hid hbe4
          have HBl4 := Lib.hid (Hbw.out.trans hbl4)
          have h255 := hb4.t.hi
          clear hbe4 hbl4 hb4 hR4 hg4 HD d0 d1 d2 d3
          go_wp2_with fail
          have HLs := Lib.hid (fun W (hb : Below w4.drew.heap.size w4.drew W) => list_ts W _ _ _ _ ((HT4.out.later (bel_drew1 w4)).later hb))
          have HRl := Lib.hid (fun W (hb : Below w4.drew.heap.size w4.drew W) => rlist_any W _ _ _ _ ((HR4.out.later (bel_drew1 w4)).later hb) h255)
          have HCo := Lib.hid (fun W (hb : Below w4.drew.heap.size w4.drew W) => cols_ts W _ _ _ _ ((HT4.out.later (bel_drew1 w4)).later hb))
          have HRise := Lib.hid (show (rise c4 S4).length ≤ 100000 from Nat.le_trans (rise_len _ _) (by omega))
          have HCq := Lib.hid (HR4.out.later (bel_drew1 w4)).cq
          have HKB := Lib.hid (fun (W W2 : World) (hk : W.cell? ⟨q3, 0, none⟩ = some (.slice (some ⟨g4, 0, none⟩) c4 c4) ∧ Below w4.drew.heap.size w4.drew W) (hb : Below W.heap.size W W2) =>
            (show W2.cell? ⟨q3, 0, none⟩ = some (.slice (some ⟨g4, 0, none⟩) c4 c4) ∧ Below w4.drew.heap.size w4.drew W2 from ⟨cellB hb hk.1, bel_call hk.2 hb⟩))
          refine wp_region_held_drew (S := fun W => W.cell? ⟨q3, 0, none⟩ = some (.slice (some ⟨g4, 0, none⟩) c4 c4) ∧ Below w4.drew.heap.size w4.drew W) (by kernel_rfl) ⟨HCq.out, Below.refl _ _⟩ (fun hHeld => ?_)
          refine wpAnyH_step (i := 0) (d := some 70) (v := ?_) rfl rfl (by kernel_rfl) (by kernel_rfl) (by kernel_rfl) (fun _ _ _ h => h) (Or.inl ⟨by rfl, ?_⟩) (by assumption) ?_
          rotate_left
          · intro w hSw; (try dsimp only at hSw); go_simp; (try with_reducible rfl)
          try simp only [Act.put, List.setIfInBounds_toArray, List.set_cons_zero, List.set_cons_succ]
          refine wpAnyH_step (i := 1) (d := some 71) (v := ?_) rfl rfl (by kernel_rfl) (by kernel_rfl) (by kernel_rfl) (fun _ _ _ h => h) (Or.inl ⟨by rfl, ?_⟩) (by assumption) ?_
          rotate_left
          · intro w hSw; (try dsimp only at hSw); go_simp; (try with_reducible rfl)
          try simp only [Act.put, List.setIfInBounds_toArray, List.set_cons_zero, List.set_cons_succ]
          refine wpAnyH_step (i := 2) (d := some 72) (v := ?_) rfl rfl (by kernel_rfl) (by kernel_rfl) (by kernel_rfl) (fun _ _ _ h => h) (Or.inl ⟨by rfl, ?_⟩) (by assumption) ?_
          rotate_left
          · intro w hSw; (try dsimp only at hSw); go_simp; (try with_reducible rfl)
          try simp only [Act.put, List.setIfInBounds_toArray, List.set_cons_zero, List.set_cons_succ]
          refine wpAnyH_step (i := 3) (d := some 73) (v := ?_) rfl rfl (by kernel_rfl) (by kernel_rfl) (by kernel_rfl) (fun _ _ _ h => h) (Or.inl ⟨by rfl, ?_⟩) (by assumption) ?_
          rotate_left
          · intro w hSw; (try dsimp only at hSw); go_simp; (try with_reducible rfl)
          try simp only [Act.put, List.setIfInBounds_toArray, List.set_cons_zero, List.set_cons_succ]
          refine wpAnyH_step (i := 5) (d := some 75) (v := ?_) rfl rfl (by kernel_rfl) (by kernel_rfl) (by kernel_rfl) (fun _ _ _ h => h) (Or.inl ⟨by rfl, ?_⟩) (by assumption) ?_
          rotate_left
          · intro w hSw; (try dsimp only at hSw); go_simp; (try with_reducible rfl)
          try simp only [Act.put, List.setIfInBounds_toArray, List.set_cons_zero, List.set_cons_succ]
          refine wpAnyH_ready (rs := [4]) (by kernel_rfl) (by simp) ?_
          refine AllReadyH.cons rfl (fun K hK => ?_) AllReadyH.nil
          go_simp
          refine (HLs.out _ hHeld.2).mono ?_
          rintro e w5 ⟨v5, rfl, ho5, hb5⟩
          have HO5 := Lib.hid ho5.at
          have HB5 := Lib.hid hb5
          clear ho5 hb5
          (try go_wp2_with fail)
          refine hK.out _ _ ?_ (fun hHeld => ?_)
          · exact HKB.out _ _ hHeld HB5.out
          clear hK K
          try simp only [Act.put, List.setIfInBounds_toArray, List.set_cons_zero, List.set_cons_succ]
          refine wpAnyH_ready (rs := [6]) (by kernel_rfl) (by simp) ?_
          refine AllReadyH.cons rfl (fun K hK => ?_) AllReadyH.nil
          go_simp
          refine (HRl.out _ hHeld.2).mono ?_
          rintro e w6 ⟨v6, rfl, ho6, hb6⟩
          have HO6 := Lib.hid ho6.at
          have HB6 := Lib.hid hb6
          clear ho6 hb6
          (try go_wp2_with fail)
          refine hK.out _ _ ?_ (fun hHeld => ?_)
          · exact HKB.out _ _ hHeld HB6.out
          clear hK K
          try simp only [Act.put, List.setIfInBounds_toArray, List.set_cons_zero, List.set_cons_succ]
          refine wpAnyH_ready (rs := [7]) (by kernel_rfl) (by simp) ?_
          refine AllReadyH.cons rfl (fun K hK => ?_) AllReadyH.nil
          go_simp
          refine (ints_same _ _ _ _ (HO5.out.later HB6.out) HO6.out HRise.out).mono ?_
          rintro e w7 ⟨rfl, hb7⟩
          have HB7 := Lib.hid hb7
          clear hb7
          (try go_wp2_with fail)
          refine hK.out _ _ ?_ (fun hHeld => ?_)
          · exact HKB.out _ _ hHeld HB7.out
          clear hK K
          try simp only [Act.put, List.setIfInBounds_toArray, List.set_cons_zero, List.set_cons_succ]
          refine wpAnyH_step (i := 8) (d := some 78) (v := ?_) rfl rfl (by kernel_rfl) (by kernel_rfl) (by kernel_rfl) (fun _ _ _ h => h) (Or.inl ⟨by rfl, ?_⟩) (by assumption) ?_
          rotate_left
          · intro w hSw; (try dsimp only at hSw); go_simp; (try with_reducible rfl)
          try simp only [Act.put, List.setIfInBounds_toArray, List.set_cons_zero, List.set_cons_succ]
          refine wpAnyH_step (i := 9) (d := some 79) (v := ?_) rfl rfl (by kernel_rfl) (by kernel_rfl) (by kernel_rfl) (fun _ _ _ h => h) (Or.inl ⟨by rfl, ?_⟩) (by assumption) ?_
          rotate_left
          · intro w hSw; (try dsimp only at hSw); go_simp; (try with_reducible rfl)
          try simp only [Act.put, List.setIfInBounds_toArray, List.set_cons_zero, List.set_cons_succ]
          refine wpAnyH_step (i := 10) (d := some 80) (v := ?_) rfl rfl (by kernel_rfl) (by kernel_rfl) (by kernel_rfl) (fun _ _ _ h => h) (Or.inl ⟨by rfl, ?_⟩) (by assumption) ?_
          rotate_left
          · intro w hSw; (try dsimp only at hSw); go_simp; (try with_reducible rfl)
          try simp only [Act.put, List.setIfInBounds_toArray, List.set_cons_zero, List.set_cons_succ]
          refine wpAnyH_step (i := 11) (d := some 81) (v := ?_) rfl rfl (by kernel_rfl) (by kernel_rfl) (by kernel_rfl) (fun _ _ _ h => h) (Or.inl ⟨by rfl, ?_⟩) (by assumption) ?_
          rotate_left
          · intro w hSw; (try dsimp only at hSw); go_simp; (try with_reducible rfl)
          try simp only [Act.put, List.setIfInBounds_toArray, List.set_cons_zero, List.set_cons_succ]
          refine wpAnyH_step (i := 13) (d := some 83) (v := ?_) rfl rfl (by kernel_rfl) (by kernel_rfl) (by kernel_rfl) (fun _ _ _ h => h) (Or.inl ⟨by rfl, ?_⟩) (by assumption) ?_
          rotate_left
          · intro w hSw; (try dsimp only at hSw); go_simp; (try with_reducible rfl)
          try simp only [Act.put, List.setIfInBounds_toArray, List.set_cons_zero, List.set_cons_succ]
          refine wpAnyH_step (i := 14) (d := some 84) (v := ?_) rfl rfl (by kernel_rfl) (by kernel_rfl) (by kernel_rfl) (fun _ _ _ h => h) (Or.inl ⟨by rfl, ?_⟩) (by assumption) ?_
          rotate_left
          · intro w hSw; (try dsimp only at hSw); go_simp; (try with_reducible rfl)
          try simp only [Act.put, List.setIfInBounds_toArray, List.set_cons_zero, List.set_cons_succ]
          refine wpAnyH_step (i := 15) (d := some 85) (v := ?_) rfl rfl (by kernel_rfl) (by kernel_rfl) (by kernel_rfl) (fun _ _ _ h => h) (Or.inl ⟨by rfl, ?_⟩) (by assumption) ?_
          rotate_left
          · intro w hSw; (try dsimp only at hSw); go_simp; (try with_reducible rfl)
          try simp only [Act.put, List.setIfInBounds_toArray, List.set_cons_zero, List.set_cons_succ]
          refine wpAnyH_step (i := 16) (d := some 86) (v := ?_) rfl rfl (by kernel_rfl) (by kernel_rfl) (by kernel_rfl) (fun _ _ _ h => h) (Or.inl ⟨by rfl, ?_⟩) (by assumption) ?_
          rotate_left
          · intro w hSw; (try dsimp only at hSw); go_simp; (try with_reducible rfl)
          try simp only [Act.put, List.setIfInBounds_toArray, List.set_cons_zero, List.set_cons_succ]
          refine wpAnyH_step (i := 17) (d := some 87) (v := ?_) rfl rfl (by kernel_rfl) (by kernel_rfl) (by kernel_rfl) (fun _ _ _ h => h) (Or.inl ⟨by rfl, ?_⟩) (by assumption) ?_
          rotate_left
          · intro w hSw; (try dsimp only at hSw); go_simp; (try with_reducible rfl)
          try simp only [Act.put, List.setIfInBounds_toArray, List.set_cons_zero, List.set_cons_succ]
          refine wpAnyH_ready (rs := [12]) (by kernel_rfl) (by simp) ?_
          refine AllReadyH.cons rfl (fun K hK => ?_) AllReadyH.nil
          go_simp
          refine (HCo.out _ hHeld.2).mono ?_
          rintro e w8 ⟨rfl, rfl⟩
          (try go_wp2_with fail)
          refine hK.out _ _ ?_ (fun hHeld => ?_)
          · exact hHeld
          clear hK K
          try simp only [Act.put, List.setIfInBounds_toArray, List.set_cons_zero, List.set_cons_succ]
          refine wpAnyH_step (i := 18) (d := some 88) (v := ?_) rfl rfl (by kernel_rfl) (by kernel_rfl) (by kernel_rfl) (fun _ _ _ h => h) (Or.inl ⟨by rfl, ?_⟩) (by assumption) ?_
          rotate_left
          · intro w hSw; (try dsimp only at hSw); go_simp; (try with_reducible rfl)
          try simp only [Act.put, List.setIfInBounds_toArray, List.set_cons_zero, List.set_cons_succ]
          refine wpAnyH_step (i := 19) (d := some 89) (v := ?_) rfl rfl (by kernel_rfl) (by kernel_rfl) (by kernel_rfl) (fun _ _ _ h => h) (Or.inl ⟨by rfl, ?_⟩) (by assumption) ?_
          rotate_left
          · intro w hSw; (try dsimp only at hSw); go_simp; (try with_reducible rfl)
          try simp only [Act.put, List.setIfInBounds_toArray, List.set_cons_zero, List.set_cons_succ]
          refine wpAnyH_done (by kernel_rfl) ?_ _
          have HX := Lib.hid (show BothE _ w.heap.size p w.heap.size q3 ∧ Below w.heap.size w _ from ⟨(HBE4.out.later (bel_drew1 w4)).later hHeld.2, bel_call (bel_call HBl4.out (bel_drew1 w4)) hHeld.2⟩)
          clear hHeld
          go_wp2_with fail
          go_roundw
          case rel => exact ⟨k + 1, q3, by omega, by go_num, rfl, HX.out.1, HX.out.2⟩
          case measure => simp [intOf]; omega
        · have q1 : ¬ (k : Int) < (N : Int) := by omega
          go_wp2_with fail
          refine (HA.out _).mono ?_
          rintro e w4 ⟨rfl, hb⟩
          go_wp2_with fail
          go_ret
          exact ⟨rfl, bel_call Hbw.out hb⟩
end Go.Proofs.Ytpjodppcedkneaa
