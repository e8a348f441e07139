/- tabs: Every at any number, Resize, Copy. -/
import Derived.Test.YtpjodppcedkneaaTD
namespace Go.Proofs.Ytpjodppcedkneaa
open Go.RowKit Go.Maps Go.Sort Go.Shelf Go.ChangeMaps Go.WideMaps Go.WideElems
set_option linter.unusedVariables false
set_option linter.unusedSimpArgs false
set_option maxRecDepth 100000
set_option maxHeartbeats 1000000 in
theorem every_pos2 (w : World) (p b : Nat) (cols : Int) (n0 : Nat) (D : Set3) (h : TObj w p b cols n0 D) (h1 : 1 ≤ cols) (h2 : cols ≤ 255) (n : Int) (hn : 1 ≤ n) (hn2 : n ≤ 9223372036854775807) :
    Calls Try.prog 10 #[.pointer (some ⟨p, 0, none⟩), .int .i64 n] w fun e w' => e = .returned (.int .i64 0) ∧ ∃ j : Nat, (cols ≤ ((j : Int) + 1) * n) ∧ (∀ i, i < j → ((i : Int) + 1) * n < cols) ∧ TObj w' p b cols j (multD n j) ∧ w.grownBy w' (some b) := by
  have hne : p ≠ b := h.apart
  have k0 := h.c0
  have k1 := h.c1
  have HCl := Lib.hid (fun ty => run_clear53 w b n0 D h.m ty)
  have hpl := h.lt
  have Hne := Lib.hid hne
  have Hpl := Lib.hid hpl
  have K0 := Lib.hid k0
  have K1 := Lib.hid k1
  have g1 : ¬ n < 0 := by omega
  have g2 : 0 < n := by omega
  clear h hne hpl
  obtain ⟨w1, hrun, hown1, hg1⟩ := HCl.out 0
  have Hown1 := Lib.hid hown1
  have Hg1 := Lib.hid hg1
  clear hown1 hg1 HCl
  go_enter Try.func10, Try.ntmps10
  go_wp2_with fail
  go_loopw [5] (fun c wr => ∃ j : Nat, c = .int .i64 (((j : Int) + 1) * n) ∧ OwnS wr b j (multD n j) ∧ w.grownBy wr (some b) ∧ ∀ i, i < j → ((i : Int) + 1) * n < cols) (fun c _ => (255 - intOf c).toNat)
  case atStart => exact ⟨0, by simp, Hown1.out, Hg1.out, fun i hi => absurd hi (Nat.not_lt_zero i)⟩
  case round =>
    obtain ⟨j, rfl, hown, hg, hall⟩ := hrel
    have c0 := grown_cell hg Hne.out K0.out
    have c1 := grown_cell hg Hne.out K1.out
    have hge : (j : Int) + 1 ≤ ((j : Int) + 1) * n := by
      have := Int.mul_le_mul_of_nonneg_left hn (show (0 : Int) ≤ (j : Int) + 1 by omega)
      simpa using this
    have hle : n ≤ ((j : Int) + 1) * n := by
      have := Int.mul_le_mul_of_nonneg_right (show (1 : Int) ≤ (j : Int) + 1 by omega) (show (0 : Int) ≤ n by omega)
      simpa using this
    have hnext : (((j + 1 : Nat) : Int) + 1) * n = ((j : Int) + 1) * n + n := by push_cast; rw [Int.add_mul ((j : Int) + 1) 1 n]; omega
    have hD := multD_succ n j
    have hall' : ((j : Int) + 1) * n < cols → ∀ i, i < j + 1 → ((i : Int) + 1) * n < cols := fun hc i hi => by
      by_cases e : i = j
      · subst e; exact hc
      · exact hall i (by omega)
    generalize hcc : ((j : Int) + 1) * n = c at *
    have Hown := Lib.hid hown
    have Hg := Lib.hid hg
    have Hall := Lib.hid hall
    have Hall' := Lib.hid hall'
    have Hnext := Lib.hid hnext
    have HD := Lib.hid hD
    have Hcc := Lib.hid hcc
    clear hown hg hall hall' hnext hD hcc
    by_cases hlt : c < cols
    · have hjm : j < 300 := by omega
      have hkey : keyOf Try.prog 3 (.int .i64 c) = some (.int .i64 c) := keyOf_int_mk Try.underlying3 (WalkArith.wf_i64 (by omega))
      have Hkey := Lib.hid hkey
      clear hkey
      go_wp2_with (at_mapUpdate; refine wpList_mapUpdate_own _ rfl _ _ _ 53 rfl 3 57 (int_keyed Try.underlying3) Try.underlying53 _ b j _ rfl Hown.out (by unfold maxLen; omega) _ _ _ rfl rfl Hkey.out _ [] unitElem_mk ?_; intro w2 hown2 hg2)
      go_roundw
      case rel => exact ⟨j + 1, by rw [Hnext.out]; try go_num, by rw [HD.out]; exact hown2, Hg.out.trans hg2, Hall'.out hlt⟩
      case measure => simp [intOf]; omega
    · have HTo := Lib.hid (show TObj wr p b cols j (multD n j) from ⟨c0, c1, Hown.out⟩)
      go_wp2_with fail
      go_ret
      exact ⟨rfl, j, by rw [Hcc.out]; omega, Hall.out, HTo.out, Hg.out⟩
set_option maxHeartbeats 1000000 in
theorem every_zero (w : World) (p b : Nat) (cols : Int) (n0 : Nat) (D : Set3) (h : TObj w p b cols n0 D) :
    Calls Try.prog 10 #[.pointer (some ⟨p, 0, none⟩), .int .i64 0] w fun e w' => e = .returned (.int .i64 0) ∧ TObj w' p b cols 0 (.map []) ∧ w.grownBy w' (some b) := by
  have hne : p ≠ b := h.apart
  have k0 := h.c0
  have k1 := h.c1
  have HCl := Lib.hid (fun ty => run_clear53 w b n0 D h.m ty)
  have Hne := Lib.hid hne
  have K0 := Lib.hid k0
  have K1 := Lib.hid k1
  clear h hne
  obtain ⟨w1, hrun, hown1, hg1⟩ := HCl.out 0
  have Hown1 := Lib.hid hown1
  have Hg1 := Lib.hid hg1
  clear hown1 hg1 HCl
  go_enter Try.func10, Try.ntmps10
  go_wp2_with fail
  go_loopw [5] (fun c wr => c = .int .i64 0 ∧ wr = w1) (fun c _ => 0)
  case atStart => exact ⟨rfl, rfl⟩
  case round =>
    obtain ⟨rfl, rfl⟩ := hrel
    go_wp2_with fail
    go_ret
    exact ⟨rfl, ⟨grown_cell Hg1.out Hne.out K0.out, grown_cell Hg1.out Hne.out K1.out, Hown1.out⟩, Hg1.out⟩
theorem every_neg (w : World) (p : Nat) (n : Int) (hn : n < 0) :
    Calls Try.prog 10 #[.pointer (some ⟨p, 0, none⟩), .int .i64 n] w fun e w' => e = .returned (.int .i64 1) ∧ w' = w := by
  go_enter Try.func10, Try.ntmps10
  go_wp2_with fail
  go_ret
  exact ⟨rfl, rfl⟩
/-- The stops behind Every. -/
def everyS (c : Nat) (n : Int) : Int → Bool := fun x => decide (0 < x ∧ x < (c : Int) ∧ 0 < n ∧ x % n = 0)
theorem has_mult (n : Int) (j : Nat) (x : Int) : Maps.has (multD n j) (.int .i64 x) = true ↔ ∃ i : Nat, i < j ∧ ((i : Int) + 1) * n = x := by
  unfold multD
  rw [Maps.has_setOf _ _ _ (by intro y hy; rw [List.mem_map] at hy; obtain ⟨i, _, rfl⟩ := hy; trivial), List.any_map, List.any_eq_true]
  constructor
  · rintro ⟨i, hi, he⟩
    exact ⟨i, List.mem_range.1 hi, by simpa [Lit.sameKey] using he⟩
  · rintro ⟨i, hi, rfl⟩
    exact ⟨i, List.mem_range.2 hi, by simp [Lit.sameKey]⟩
theorem mult_every {c : Nat} {n : Int} {j : Nat} (hn : 1 ≤ n) (h1 : (c : Int) ≤ ((j : Int) + 1) * n) (h2 : ∀ i, i < j → ((i : Int) + 1) * n < c) (x : Int) : Maps.has (multD n j) (.int .i64 x) = everyS c n x := by
  rw [Bool.eq_iff_iff, has_mult]
  unfold everyS
  rw [decide_eq_true_iff]
  constructor
  · rintro ⟨i, hi, rfl⟩
    refine ⟨?_, h2 i hi, by omega, Int.mul_emod_left _ _⟩
    have := Int.mul_le_mul_of_nonneg_right (show (1 : Int) ≤ (i : Int) + 1 by omega) (show (0 : Int) ≤ n by omega)
    omega
  · rintro ⟨a1, a2, a3, a4⟩
    have e : x / n * n = x := Int.ediv_mul_cancel (Int.dvd_of_emod_eq_zero a4)
    have q1 : 0 < x / n := by
      refine Int.not_le.1 fun h => ?_
      have := Int.mul_le_mul_of_nonneg_right h (show (0 : Int) ≤ n by omega)
      omega
    refine ⟨(x / n - 1).toNat, ?_, ?_⟩
    · refine Nat.lt_of_not_le fun h => ?_
      have h3 : (j : Int) + 1 ≤ x / n := by omega
      have := Int.mul_le_mul_of_nonneg_right h3 (show (0 : Int) ≤ n by omega)
      omega
    · have : (((x / n - 1).toNat : Nat) : Int) + 1 = x / n := by omega
      rw [this]; exact e
theorem every_ts (w : World) (p b c : Nat) (S : Int → Bool) (h : TS w p b c S) (n : Int) (h0 : 0 ≤ n) (h1 : n ≤ 9223372036854775807) :
    Calls Try.prog 10 #[.pointer (some ⟨p, 0, none⟩), .int .i64 n] w fun e w' => e = .returned (.int .i64 0) ∧ TS w' p b c (everyS c n) ∧ w.grownBy w' (some b) := by
  obtain ⟨D, hT, hS⟩ := h.ob
  have hblk : ∀ w', w.grownBy w' (some b) → w'.heap[p]? = some (.cells #[.int .i64 c, .map (some b)] 55) := fun w' hg => (hg.block p h.lt (fun e => hT.apart (by cases e; rfl))).trans h.blk
  have hlo := h.lo
  have hhi := h.hi
  have hbd : ∀ x, everyS c n x = true → 0 ≤ x ∧ x < (c : Int) := fun x hx => by unfold everyS at hx; rw [decide_eq_true_iff] at hx; omega
  by_cases hz : n = 0
  · subst hz
    refine (every_zero w p b c 300 D hT).mono ?_
    rintro e w' ⟨he, hT', hg⟩
    refine ⟨he, ts_of hT' (fun x => ?_) hlo hhi hbd (hblk _ hg), hg⟩
    unfold everyS
    simp [Maps.has]
  · refine (every_pos2 w p b c 300 D hT (by omega) (by omega) n (by omega) h1).mono ?_
    rintro e w' ⟨he, j, q1, q2, hT', hg⟩
    exact ⟨he, ts_of hT' (fun x => mult_every (by omega) q1 q2 x) hlo hhi hbd (hblk _ hg), hg⟩
end Go.Proofs.Ytpjodppcedkneaa
