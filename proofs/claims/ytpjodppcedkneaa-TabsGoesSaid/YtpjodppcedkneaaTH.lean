/- TabsEvery: the law's walk. -/
import Derived.Test.YtpjodppcedkneaaTG
import Derived.Deep.CutRange
namespace Go.Proofs.Ytpjodppcedkneaa
open Go.RowKit Go.Maps Go.Sort Go.Shelf
set_option linter.unusedVariables false
set_option linter.unusedSimpArgs false
set_option maxRecDepth 100000
theorem new_bad (cols : Int) (h : cols < 1 ∨ 255 < cols) (w : World) : Calls Try.prog 8 #[.int .i64 cols] w fun e w' => e = .returned (.tuple #[.pointer none, .int .i64 10]) ∧ w' = w := by
  by_cases h1 : cols < 1
  · go_enter Try.func8, Try.ntmps8
    go_wp2_with fail
    go_ret2
    exact ⟨by simp, rfl⟩
  · have h2 : 255 < cols := by omega
    go_enter Try.func8, Try.ntmps8
    go_wp2_with fail
    go_ret2
    exact ⟨by simp, rfl⟩
/-- A new one. -/
theorem new_ts (c : Nat) (h1 : 1 ≤ c) (h2 : c ≤ 255) (w : World) : Calls Try.prog 8 #[.int .i64 c] w fun e w' => e = .returned (.tuple #[.pointer (some ⟨w.heap.size + 1, 0, none⟩), .int .i64 0]) ∧ TS w' (w.heap.size + 1) w.heap.size c (fun _ => false) ∧ Below w.heap.size w w' := by
  refine (new_ok c (by omega) (by omega) w).mono ?_
  rintro e w' ⟨he, rfl⟩
  refine ⟨he, ts_of (D := .map []) (n := 0) ⟨?_, ?_, ?_⟩ (fun x => rfl) h1 h2 (fun x hx => by cases hx) ?_, bel_alloc (bel_alloc (Below.refl _ _) _) _⟩
  · simp [go_sem]
  · simp [go_sem]
  · exact World.ownsMap.alloc (World.ownsMap_made w Try.prog 3 _) _
  · have := (MapKept.heap_alloc (w.alloc (.map #[] 0)) (.cells #[.int .i64 c, .map (some w.heap.size)] 55)).1
    rw [show (w.alloc (.map #[] 0)).heap.size = w.heap.size + 1 by simp] at this
    exact this
/-- What is new among the columns. -/
def fresh (M L : List Int) (k : Nat) : List Int := (L.take k).filter fun x => !decide (x ∈ M)
theorem fresh_zero (M L : List Int) : fresh M L 0 = [] := rfl
theorem fresh_step (M L : List Int) (k : Nat) (h : k < L.length) : fresh M L (k + 1) = fresh M L k ++ (if L[k] ∈ M then [] else [L[k]]) := by
  unfold fresh
  rw [List.take_succ_eq_append_getElem h, List.filter_append]
  congr 1
  by_cases hm : L[k] ∈ M <;> simp [hm]
theorem fresh_len (M L : List Int) (k : Nat) : (fresh M L k).length ≤ L.length := by
  unfold fresh
  exact Nat.le_trans (List.length_filter_le _ _) (by rw [List.length_take]; omega)
theorem back_again {c : Nat} {S : Int → Bool} (hbd : ∀ x, S x = true → 0 ≤ x ∧ x < (c : Int)) (L : List Int) (hg : anyBad c L = false) :
    anyBad c (fresh (rise c S) L L.length) = false ∧ putR false c (fresh (rise c S) L L.length) (putR true c L S) = S := by
  have hin := anyBad_none hg
  have hmem : ∀ x, x ∈ fresh (rise c S) L L.length ↔ x ∈ L ∧ S x = false := by
    intro x
    unfold fresh
    rw [List.take_length, List.mem_filter]
    constructor
    · rintro ⟨h1, h2⟩
      refine ⟨h1, ?_⟩
      have hb := hin x h1
      simp [mem_rise] at h2
      rcases h2 with h2 | h2
      · omega
      · exact h2
    · rintro ⟨h1, h2⟩
      refine ⟨h1, ?_⟩
      simp [mem_rise, h2]
  have h1 : anyBad c (fresh (rise c S) L L.length) = false := by
    unfold anyBad
    rw [List.any_eq_false]
    intro x hx
    have := hin x ((hmem x).1 hx).1
    simp; omega
  refine ⟨h1, ?_⟩
  funext x
  unfold putR
  rw [h1, hg]
  simp only [Bool.false_eq_true, if_false]
  unfold putS
  by_cases hf : x ∈ fresh (rise c S) L L.length
  · rw [if_pos hf, ((hmem x).1 hf).2]
  · rw [if_neg hf]
    by_cases hl : x ∈ L
    · rw [if_pos hl]
      cases hs : S x with
      | true => rfl
      | false => exact absurd ((hmem x).2 ⟨hl, hs⟩) hf
    · rw [if_neg hl]
set_option maxHeartbeats 2000000 in
theorem every_walk (cols n : Int) (lv : Value) (L : List Int) (w : World) (hL : IntsAt w lv L) (hn1 : n ≤ 9223372036854775807) (hll : L.length ≤ 9223372036854775807) :
    Calls Try.prog 3 #[.int .i64 cols, .int .i64 n, lv] w fun e w' => e = .returned (.bool true) ∧ Below w.heap.size w w' := by
  have HA := Lib.hid (fun W => awake_any W)
  obtain ⟨ad, cap, rfl, hcc⟩ := hL
  by_cases hc : cols < 1 ∨ 255 < cols
  · have HNew := Lib.hid (new_bad cols hc w)
    by_cases h1 : cols < 1
    · clear hc hcc
      go_enter Try.func3, Try.ntmps3
      go_wp2_with fail
      refine HNew.out.mono ?_
      rintro e w1 ⟨rfl, rfl⟩
      go_wp2_with fail
      refine (HA.out _).mono ?_
      rintro e w2 ⟨rfl, hb⟩
      go_wp2_with fail
      go_ret
      exact ⟨rfl, hb⟩
    · have h2 : 255 < cols := by omega
      clear hc hcc
      go_enter Try.func3, Try.ntmps3
      go_wp2_with fail
      refine HNew.out.mono ?_
      rintro e w1 ⟨rfl, rfl⟩
      go_wp2_with fail
      refine (HA.out _).mono ?_
      rintro e w2 ⟨rfl, hb⟩
      go_wp2_with fail
      go_ret
      exact ⟨rfl, hb⟩
  · obtain ⟨c, rfl⟩ : ∃ c : Nat, cols = (c : Int) := ⟨cols.toNat, by omega⟩
    have HNew := Lib.hid (new_ts c (by omega) (by omega) w)
    have g1 : ¬ (c : Int) < 1 := by omega
    have g2 : ¬ (255 : Int) < (c : Int) := by omega
    by_cases h3 : n < 0
    · clear hc hcc
      go_enter Try.func3, Try.ntmps3
      go_wp2_with fail
      refine HNew.out.mono ?_
      rintro e w1 ⟨rfl, _, hb0⟩
      go_wp2_with fail
      refine (HA.out _).mono ?_
      rintro e w2 ⟨rfl, hb⟩
      go_wp2_with fail
      go_ret
      exact ⟨rfl, bel_call hb0 hb⟩
    · by_cases h4 : (20 : Int) < (L.length : Int)
      · clear hc hcc
        go_enter Try.func3, Try.ntmps3
        go_wp2_with fail
        refine HNew.out.mono ?_
        rintro e w1 ⟨rfl, _, hb0⟩
        go_wp2_with fail
        refine (HA.out _).mono ?_
        rintro e w2 ⟨rfl, hb⟩
        go_wp2_with fail
        go_ret
        exact ⟨rfl, bel_call hb0 hb⟩
      · have g5 : ¬ (20 : Int) < (L.length : Int) := h4
        obtain ⟨N, hN⟩ : ∃ N, L.length = N := ⟨_, rfl⟩
        have hL0 : IntsAt w (.slice ad L.length cap) L := ⟨ad, cap, rfl, hcc⟩
        have HL0 := Lib.hid hL0
        have HN := Lib.hid hN
        have H20 := Lib.hid (show L.length ≤ 20 by omega)
        have HcA := Lib.hid (show 1 ≤ c ∧ c ≤ 255 by omega)
        have g6 : 0 ≤ n := by omega
        rw [hN] at g5 ⊢
        clear hc hcc hL0 hN h4 hll h3
        go_enter Try.func3, Try.ntmps3
        go_wp2_with fail
        refine HNew.out.mono ?_
        rintro e w1 ⟨rfl, hT1, hb1⟩
        have HEv := Lib.hid (every_ts w1 _ _ c _ hT1 n g6 hn1)
        have Hb1 := Lib.hid hb1
        clear hT1 hb1
        go_wp2_with fail
        refine HEv.out.mono ?_
        rintro e w2 ⟨rfl, hT2, hg2⟩
        have HLs := Lib.hid (list_ts w2 _ _ c _ hT2)
        have Hb2 := Lib.hid (Hb1.out.trans (below_grown hg2 Hb1.out.size (Nat.le_refl _)))
        have HT2 := Lib.hid hT2
        clear hT2 hg2 HEv
        go_wp2_with fail
        refine HLs.out.mono ?_
        rintro e w3 ⟨mv, rfl, hown3, hb3⟩
        have hK : ∀ W, Below w3.heap.size w3 W → TS W (w.heap.size + 1) w.heap.size c (everyS c n) ∧ IntsAt W (.slice ad L.length cap) L ∧ IntsAt W mv (rise c (everyS c n)) := fun W hW =>
          ⟨(HT2.out.later hb3).later hW, (HL0.out.later (Hb2.out.trans (hb3.mono Hb2.out.size))).later hW, hown3.at.later hW⟩
        have hBd : ∀ x, everyS c n x = true → 0 ≤ x ∧ x < (c : Int) := HT2.out.bd
        have hBk := fun hg => back_again hBd L hg
        have hRl := rise_len c (everyS c n)
        have Hb3 := Lib.hid (Hb2.out.trans (hb3.mono Hb2.out.size))
        obtain ⟨md, mcap, rfl, -⟩ := hown3.at
        obtain ⟨M, hM⟩ : ∃ M, rise c (everyS c n) = M := ⟨_, rfl⟩
        have HMM := Lib.hid hM
        have hAt : ∀ i (hi : i < M.length), 1 ≤ n ∧ M[i] = ((i : Int) + 1) * n := by
          subst hM
          exact fun i hi => every_at (c := c) (n := n) g6 HcA.out.1 i hi
        have hLn : 1 ≤ n → ((M.length : Nat) : Int) = ((c : Int) - 1).tdiv n := by
          subst hM
          exact fun hn => every_len (c := c) (n := n) hn HcA.out.1
        rw [hM] at hK hBk hRl ⊢
        obtain ⟨m, hm⟩ : ∃ m, M.length = m := ⟨_, rfl⟩
        have HMl := Lib.hid hm
        have HK := Lib.hid hK
        have HAt := Lib.hid hAt
        have HLn := Lib.hid hLn
        have HBk := Lib.hid hBk
        have hm255 : m ≤ 255 := by have := HcA.out.2; omega
        rw [hm] at HK ⊢
        clear hown3
        clear hK hAt hLn hBk hM hm hRl hb3 hBd HLs HT2
        go_wp2_with fail
        go_loopw [10] (fun i wr => ∃ k : Nat, k ≤ m ∧ i = .int .i64 (k : Int) ∧ wr = w3) (fun i _ => m - (intOf i).toNat)
        case atStart => exact ⟨0, Nat.zero_le _, rfl, rfl⟩
        case round =>
          obtain ⟨k, hk, rfl, rfl⟩ := hrel
          by_cases hlt : k < m
          · have q1 : (k : Int) < (m : Int) := by omega
            obtain ⟨_, _, ad2, cap2, hv2, hx2⟩ := HK.out wr (Below.refl _ _)
            simp only [Value.slice.injEq] at hv2
            obtain ⟨rfl, _, rfl⟩ := hv2
            obtain ⟨g, off, rfl, _, hx3⟩ := hx2 (by rw [HMl.out]; omega)
            have hkM : k < M.length := by rw [HMl.out]; exact hlt
            have d1 := hx3 k hkM
            obtain ⟨a1, a2⟩ := HAt.out k hkM
            rw [a2] at d1
            have a3 : ¬ n < 1 := by omega
            have a4 : IntKind.i64.wrap ((k : Int) + 1) = (k : Int) + 1 := IntWalk.i64_in _ (by omega)
            have a5 : ((k : Int) + 1) * n ≤ 9223372036854775807 ∧ -9223372036854775808 ≤ ((k : Int) + 1) * n := by
              have hmem : M[k] ∈ rise c (everyS c n) := by rw [HMM.out]; exact List.getElem_mem hkM
              rw [a2] at hmem
              have := (mem_rise.1 hmem).1
              have := HcA.out.2
              omega
            have a6 : IntKind.i64.wrap (((k : Int) + 1) * n) = ((k : Int) + 1) * n := IntWalk.i64_in _ (by omega)
            clear hx2 hx3 a2 a5
            go_wp2_with fail
            go_roundw
            case rel => exact ⟨k + 1, by omega, by go_num, trivial⟩
            case measure => simp [intOf]; omega
          · have q1 : ¬ (k : Int) < (m : Int) := by omega
            have hLn := HLn.out
            rw [HMl.out] at hLn
            have HLm := Lib.hid hLn
            clear hLn
            go_upto_region 12 with fail
            go_cut [83] from 69 to 83 (fun s wx => s = .bool false ∧ wx = wr)
            case first =>
              by_cases b1 : 0 < n
              · by_cases b2 : n < 1000
                · have b3 : IntKind.i64.wrap ((c : Int) - 1) = (c : Int) - 1 := IntWalk.i64_in _ (by omega)
                  have b4 := (HLm.out (by omega)).symm
                  have b5 : ¬ n = 0 := by omega
                  have b6 : (n == 0) = false := by simp; omega
                  go_wp2_with fail
                  go_meet
                  exact ⟨rfl, rfl⟩
                · go_wp2_with fail
                  go_meet
                  exact ⟨rfl, rfl⟩
              · go_wp2_with fail
                go_meet
                exact ⟨rfl, rfl⟩
            case rest =>
              obtain ⟨rfl, rfl⟩ := hcut
              go_wp2_with fail
              go_loopw [11, 12] (fun f i wr => ∃ (k : Nat) (fv : Value), k ≤ N ∧ i = .int .i64 (k : Int) ∧ fv = f ∧ OwnI wr wc.heap.size fv (fresh M L k) ∧ Below wc.heap.size wc wr ∧ ∀ j (hj : j < L.length), j < k → 0 ≤ L[j] ∧ L[j] < (c : Int)) (fun _ i _ => N - (intOf i).toNat)
              case atStart => exact ⟨0, _, Nat.zero_le _, rfl, rfl, OwnI.nil _ _, Below.refl _ _, fun j _ h => absurd h (Nat.not_lt_zero j)⟩
              case round =>
                obtain ⟨k2, f, hk2, rfl, rfl, hof, hbw, hall⟩ := hrel
                obtain ⟨hT, hIL, hIM⟩ := HK.out wr hbw
                have Hof := Lib.hid hof
                have Hbw := Lib.hid hbw
                have Hall := Lib.hid hall
                have HIL := Lib.hid hIL
                have HIM := Lib.hid hIM
                have HT := Lib.hid hT
                clear hof hbw hall hT hIL hIM q1 hlt
                by_cases hlt : k2 < N
                · have q1 : (k2 : Int) < (N : Int) := by omega
                  have hkL : k2 < L.length := by rw [HN.out]; exact hlt
                  obtain ⟨ad2, cap2, hv2, hx2⟩ := HIL.out
                  simp only [Value.slice.injEq] at hv2
                  obtain ⟨rfl, _, rfl⟩ := hv2
                  obtain ⟨g, off, rfl, _, hx3⟩ := hx2 (by omega)
                  have d1 := hx3 k2 hkL
                  clear hx2 hx3
                  by_cases hbad : L[k2] < 0 ∨ (c : Int) ≤ L[k2]
                  · have hB : anyBad c L = true := List.any_eq_true.2 ⟨L[k2], List.getElem_mem hkL, by simpa using hbad⟩
                    have hP := put_any wr _ _ c _ HT.out true (.slice (some ⟨g, off, none⟩) L.length cap) L HIL.out (by have := H20.out; omega)
                    have eE : putE c L = 11 := by unfold putE; rw [hB]; rfl
                    have eR : putR true c L (everyS c n) = everyS c n := by unfold putR; rw [hB]; rfl
                    rw [eE, eR, HN.out] at hP
                    have HP := Lib.hid hP
                    have HFr := Lib.hid (fun W (hg : wr.grownBy W (some w.heap.size)) => (show Below wr.heap.size wr wr ∧ Below w.heap.size w W from ⟨Below.refl _ _, (Hb3.out.trans (Hbw.out.mono Hb3.out.size)).trans (below_grown hg (Nat.le_trans Hb3.out.size Hbw.out.size) (Nat.le_refl _))⟩))
                    have HM1 := Lib.hid (fun W (hg : wr.grownBy W (some w.heap.size)) => (show IntsAt W (.slice md m mcap) M from by
                      obtain ⟨D, hT, _⟩ := HT.out.ob
                      exact HIM.out.kept hT.m hg))
                    clear hP hB eE eR
                    obtain ⟨x, hxx⟩ : ∃ x, L[k2]'hkL = x := ⟨_, rfl⟩
                    rw [hxx] at d1 hbad
                    clear hxx hkL
                    rcases hbad with hb | hb
                    all_goals (
                      go_wp2_with fail
                      refine HP.out.mono ?_
                      rintro e v1 ⟨rfl, hT1, hg1⟩
                      have HL1 := Lib.hid (list_ts v1 _ _ c _ hT1)
                      have HI1 := Lib.hid (HM1.out v1 hg1)
                      have HF1 := Lib.hid (HFr.out v1 hg1).2
                      clear hT1 hg1
                      go_wp2_with fail
                      refine HL1.out.mono ?_
                      rintro e v2 ⟨lv, rfl, ho2, hb2⟩
                      rw [HMM.out] at ho2
                      obtain ⟨ld, lcap, rfl, -⟩ := ho2.at
                      have hI2 := ints_same v2 _ _ M ho2.at (HI1.out.later hb2) (by rw [HMl.out]; omega)
                      rw [HMl.out] at hI2
                      have HI2 := Lib.hid hI2
                      have HF2 := Lib.hid (HF1.out.trans (hb2.mono HF1.out.size))
                      clear hI2 hb2
                      rw [HMl.out]
                      clear ho2
                      go_wp2_with fail
                      refine HI2.out.mono ?_
                      rintro e v3 ⟨rfl, hb3'⟩
                      have HF3 := Lib.hid (bel_call HF2.out hb3')
                      clear hb3'
                      go_wp2_with fail
                      refine (HA.out _).mono ?_
                      rintro e v4 ⟨rfl, hb4⟩
                      go_wp2_with fail
                      go_ret
                      exact ⟨rfl, bel_call HF3.out hb4⟩)
                  · have hb1 : ¬ L[k2] < 0 := fun h => hbad (.inl h)
                    have hb2 : ¬ (c : Int) ≤ L[k2] := fun h => hbad (.inr h)
                    have HStep := Lib.hid (fresh_step M L k2 hkL)
                    have HAll2 : ∀ j (hj : j < L.length), j < k2 + 1 → 0 ≤ L[j] ∧ L[j] < (c : Int) := fun j hj hjk => by
                      by_cases e : j = k2
                      · subst e; omega
                      · exact Hall.out j hj (by omega)
                    have HAll3 := Lib.hid HAll2
                    have Hfl := Lib.hid (fresh_len M L k2)
                    obtain ⟨x, hxx⟩ : ∃ x, L[k2]'hkL = x := ⟨_, rfl⟩
                    rw [hxx] at d1 hb1 hb2
                    have HX := Lib.hid hxx
                    clear hbad HAll2 hxx
                    go_wp2_with fail
                    go_loopw [13, 14] (fun s i wz => ∃ j : Nat, j ≤ m ∧ i = .int .i64 (j : Int) ∧ s = .bool (decide (x ∈ M.take j)) ∧ ∃ q, wz = wr.drewN q) (fun _ i _ => m - (intOf i).toNat)
                    case atStart => exact ⟨0, Nat.zero_le _, rfl, by simp, 0, rfl⟩
                    case round =>
                      obtain ⟨j, hj, rfl, rfl, q, rfl⟩ := hrel
                      by_cases hjm : j < m
                      · have q2 : (j : Int) < (m : Int) := by omega
                        obtain ⟨ad3, cap3, hv3, hx4⟩ := HIM.out
                        simp only [Value.slice.injEq] at hv3
                        obtain ⟨rfl, _, rfl⟩ := hv3
                        obtain ⟨g3, off3, rfl, _, hx5⟩ := hx4 (by rw [HMl.out]; omega)
                        have hjM : j < M.length := by rw [HMl.out]; exact hjm
                        have d2 := hx5 j hjM
                        have HT2 := Lib.hid (mem_take_step M j hjM x)
                        clear hx4 hx5
                        by_cases hin : x ∈ M.take j
                        · have e1 : decide (x ∈ M.take j) = true := by simpa using hin
                          have e2 : decide (x ∈ M.take (j + 1)) = true := by simpa using HT2.out.2 (.inl hin)
                          rw [e1]
                          have HE2 := Lib.hid e2
                          clear e1 e2 hin
                          go_wp2_with fail
                          go_quiet (fail)
                          go_wp2_with fail
                          go_roundw
                          case rel => exact ⟨j + 1, by omega, by go_num, by rw [HE2.out], _, rfl⟩
                          case measure => simp [intOf]; omega
                        · have e1 : decide (x ∈ M.take j) = false := by simpa using hin
                          rw [e1]
                          have HIn := Lib.hid hin
                          obtain ⟨y, hyy⟩ : ∃ y, M[j]'hjM = y := ⟨_, rfl⟩
                          rw [hyy] at d2
                          have HY := Lib.hid hyy
                          clear e1 hin hyy
                          by_cases hyx : y = x
                          · subst hyx
                            have e2 : decide (y ∈ M.take (j + 1)) = true := by simpa using HT2.out.2 (.inr HY.out.symm)
                            have HE2 := Lib.hid e2
                            clear e2
                            go_wp2_with fail
                            go_quiet (fail)
                            go_wp2_with fail
                            go_roundw
                            case rel => exact ⟨j + 1, by omega, by go_num, by rw [HE2.out], _, rfl⟩
                            case measure => simp [intOf]; omega
                          · have e2 : decide (x ∈ M.take (j + 1)) = false := by
                              simp only [decide_eq_false_iff_not]
                              intro h
                              rcases HT2.out.1 h with h | h
                              · exact HIn.out h
                              · exact hyx (by rw [← HY.out, h])
                            have HE2 := Lib.hid e2
                            have hyb : (y == x) = false := by simpa using hyx
                            clear e2
                            go_wp2_with fail
                            go_quiet (fail)
                            go_wp2_with fail
                            go_roundw
                            case rel => exact ⟨j + 1, by omega, by go_num, by rw [HE2.out], _, rfl⟩
                            case measure => simp [intOf]; omega
                      · have q2 : ¬ (j : Int) < (m : Int) := by omega
                        have hjm2 : M.take j = M := List.take_of_length_le (by rw [HMl.out]; omega)
                        rw [hjm2]
                        clear hjm2
                        by_cases hin : x ∈ M
                        · have e1 : decide (x ∈ M) = true := by simpa using hin
                          rw [e1]
                          have HS2 := HStep.out
                          rw [if_pos (by rw [HX.out]; exact hin), List.append_nil] at HS2
                          have HS3 := Lib.hid HS2
                          clear HS2 hin e1
                          go_wp2_with fail
                          go_roundw
                          case rel => exact ⟨k2 + 1, _, by omega, by go_num, rfl, by rw [HS3.out]; exact Hof.out.drewN q, bel_drewN Hbw.out q, HAll3.out⟩
                          case measure => simp [intOf]; omega
                        · have e1 : decide (x ∈ M) = false := by simpa using hin
                          rw [e1]
                          have HS2 := HStep.out
                          rw [if_neg (by rw [HX.out]; exact hin), HX.out] at HS2
                          have HS3 := Lib.hid HS2
                          have HOq := Lib.hid (Hof.out.drewN q)
                          have HBq := Lib.hid (bel_drewN Hbw.out q)
                          clear HS2 hin e1
                          go_wp2_with (at_builtin; (refine wp_appI rfl (.tmp 136) (.tmp 141) rfl wc.heap.size _ _ _ _ _ rfl rfl (by first | rfl | simp) HOq.out HBq.out.size (by have := Hfl.out; have := H20.out; omega) ?_; intro v' W' own' bel'))
                          go_roundw
                          case rel => exact ⟨k2 + 1, _, by omega, by go_num, rfl, by rw [HS3.out]; exact own', HBq.out.trans bel', HAll3.out⟩
                          case measure => simp [intOf]; omega
                · have q1 : ¬ (k2 : Int) < (N : Int) := by omega
                  have hkN : k2 = L.length := by rw [HN.out]; omega
                  have hG : anyBad c L = false := by
                    unfold anyBad
                    rw [List.any_eq_false]
                    intro x hx
                    obtain ⟨j, hj, rfl⟩ := List.getElem_of_mem hx
                    have := Hall.out j hj (by omega)
                    simp; omega
                  obtain ⟨hF1, hF2⟩ := HBk.out hG
                  have hP := put_any wr _ _ c _ HT.out true (.slice ad L.length cap) L HIL.out (by have := H20.out; omega)
                  have eE : putE c L = 0 := by unfold putE; rw [hG]; rfl
                  rw [eE, HN.out] at hP
                  have HP := Lib.hid hP
                  have hof := Hof.out
                  rw [hkN] at hof
                  have HFl := Lib.hid (fresh_len M L L.length)
                  have eF : putE c (fresh M L L.length) = 0 := by unfold putE; rw [hF1]; rfl
                  have HFr := Lib.hid (fun W (hg : wr.grownBy W (some w.heap.size)) => (show Below w.heap.size w W from (Hb3.out.trans (Hbw.out.mono Hb3.out.size)).trans (below_grown hg (Nat.le_trans Hb3.out.size Hbw.out.size) (Nat.le_refl _))))
                  have HM1 := Lib.hid (fun W (hg : wr.grownBy W (some w.heap.size)) => (show IntsAt W (.slice md m mcap) M from by
                    obtain ⟨D, hT, _⟩ := HT.out.ob
                    exact HIM.out.kept hT.m hg))
                  have HX1 := Lib.hid (fun W (hg : wr.grownBy W (some w.heap.size)) => (show IntsAt W f (fresh M L L.length) from by
                    obtain ⟨D, hT, _⟩ := HT.out.ob
                    exact hof.at.kept hT.m hg))
                  have HF2 := Lib.hid hF2
                  have HeF := Lib.hid eF
                  clear hP hG eE hF1 hF2 hkN hof eF
                  obtain ⟨F, hF⟩ : ∃ F, fresh M L L.length = F := ⟨_, rfl⟩
                  rw [hF] at HFl HX1 HF2 HeF
                  clear hF
                  go_wp2_with fail
                  refine HP.out.mono ?_
                  rintro e v1 ⟨rfl, hT1, hg1⟩
                  have hP2 := put_any v1 _ _ c _ hT1 false f F (HX1.out v1 hg1) (by have := HFl.out; have := H20.out; omega)
                  rw [HeF.out, HF2.out] at hP2
                  have HP2 := Lib.hid hP2
                  have Hg1 := Lib.hid hg1
                  clear hT1 hg1 hP2
                  go_wp2_with fail
                  refine HP2.out.mono ?_
                  rintro e v2 ⟨rfl, hT2, hg2⟩
                  have HL1 := Lib.hid (list_ts v2 _ _ c _ hT2)
                  have HI1 := Lib.hid (HM1.out v2 (Hg1.out.trans hg2))
                  have HF1 := Lib.hid (HFr.out v2 (Hg1.out.trans hg2))
                  clear hT2 hg2
                  go_wp2_with fail
                  refine HL1.out.mono ?_
                  rintro e v3 ⟨lv, rfl, ho2, hb2⟩
                  rw [HMM.out] at ho2
                  obtain ⟨ld, lcap, rfl, -⟩ := ho2.at
                  have hI2 := ints_same v3 _ _ M ho2.at (HI1.out.later hb2) (by rw [HMl.out]; omega)
                  rw [HMl.out] at hI2
                  have HI2 := Lib.hid hI2
                  have HF2' := Lib.hid (HF1.out.trans (hb2.mono HF1.out.size))
                  clear hI2 hb2
                  rw [HMl.out]
                  clear ho2
                  go_wp2_with fail
                  refine HI2.out.mono ?_
                  rintro e v4 ⟨rfl, hb3'⟩
                  have HF3 := Lib.hid (bel_call HF2'.out hb3')
                  clear hb3'
                  go_wp2_with fail
                  refine (HA.out _).mono ?_
                  rintro e v5 ⟨rfl, hb4⟩
                  go_wp2_with fail
                  go_ret
                  exact ⟨rfl, bel_call HF3.out hb4⟩
end Go.Proofs.Ytpjodppcedkneaa
