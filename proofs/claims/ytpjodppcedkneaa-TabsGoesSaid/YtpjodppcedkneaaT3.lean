/- tabs: Every, ints, Next. -/
import Derived.Test.YtpjodppcedkneaaT2
namespace Go.Proofs.Ytpjodppcedkneaa
open Go.RowKit Go.Maps Go.Sort Go.Shelf Go.ChangeMaps Go.WideMaps Go.WideElems
set_option linter.unusedVariables false
set_option linter.unusedSimpArgs false
set_option maxRecDepth 100000
def leB : Int → Int → Bool := fun x y => decide (x ≤ y)
/-- The columns, rising. -/
def keysOf (D : Set3) : List Int := (intKeys D).mergeSort leB
theorem sort_perm {a b : List Int} (h : a.Perm b) : a.mergeSort leB = b.mergeSort leB := by
  have tr : ∀ x y z : Int, leB x y = true → leB y z = true → leB x z = true := fun x y z h1 h2 => by simp [leB] at *; omega
  have tot : ∀ x y : Int, (leB x y || leB y x) = true := fun x y => by simp [leB]; omega
  refine List.Perm.eq_of_pairwise (le := fun x y => leB x y = true) (fun x y _ _ h1 h2 => by simp [leB] at *; omega) (List.pairwise_mergeSort tr tot a) (List.pairwise_mergeSort tr tot b) ?_
  exact ((List.mergeSort_perm a leB).trans h).trans (List.mergeSort_perm b leB).symm
theorem list_is (w : World) (p b : Nat) (c : Int) (nn : Nat) (D : Set3) (h : TObj w p b c nn D) (hmax : Maps.size D ≤ 100000) :
    Calls Try.prog 11 #[.pointer (some ⟨p, 0, none⟩)] w fun e w' => ∃ v, e = .returned v ∧ OwnI w' w.heap.size v (keysOf D) ∧ Below w.heap.size w w' := by
  refine (list_any w p b c nn D h hmax).mono ?_
  rintro e w' ⟨v, ss, rfl, hp, hrow, hb⟩
  refine ⟨v, rfl, ?_, hb⟩
  have e1 : ss.mergeSort (fun x y => decide (x ≤ y)) = keysOf D := sort_perm hp
  have e2 : ss.length = (keysOf D).length := by rw [← e1]; simp [List.length_mergeSort]
  rw [e1, e2] at hrow
  exact hrow
theorem run_clear53 (W : World) (b : Nat) (n : Nat) (D : Set3) (h : OwnS W b n D) (ty : TypeId) :
    ∃ W', (Builtin.clear_ #[53] ty #[.map (some b)]).run Try.prog W = .ok (.tuple #[]) W' ∧ OwnS W' b 0 (.map []) ∧ W.grownBy W' (some b) := by
  obtain ⟨es, clock, hb, F, hs, hD⟩ := h
  have hu := run_underlying Try.underlying53
  have hlt := (Array.getElem?_eq_some_iff.1 hb).1
  refine ⟨W.putObj b (.map #[] clock), ?_, ?_, ?_⟩
  · simp [Builtin.clear_, hu, MapKept.run_getObj_map hb, MapKept.run_setObj_map _ hb, Result.andThen, World.putObj]
  · exact ⟨#[], clock, World.putObj_heap_same hlt, ⟨by simp, MapKept.stamped_empty clock, by simp⟩, Nat.le_refl _, rfl⟩
  · exact ⟨rfl, rfl, rfl, by simp [World.putObj], fun i hi hne => World.putObj_heap_other (by rintro rfl; exact hne rfl)⟩
/-- The set of the first j multiples of n. -/
def multD (n : Int) (j : Nat) : Set3 := Maps.setOf (.agg []) ((List.range j).map fun (i : Nat) => Lit.int .i64 (((i : Int) + 1) * n))
theorem multD_succ (n : Int) (j : Nat) : multD n (j + 1) = (multD n j).put (.int .i64 (((j : Int) + 1) * n)) (.agg []) := by
  unfold multD
  rw [List.range_succ, List.map_append]
  exact Maps.setOf_snoc _ _ _
theorem grown_cell {W W3 : World} {b q o : Nat} {v : Value} (hg : W.grownBy W3 (some b)) (hq : q ≠ b) (h : W.cell? ⟨q, o, none⟩ = some v) : W3.cell? ⟨q, o, none⟩ = some v :=
  (World.cell?_of_block (hg.block q (World.block_lt_of_cell? W ⟨q, o, none⟩ h) (fun e => hq (by cases e; rfl)))).trans h
theorem grown_trans {W W1 W2 : World} {b : Nat} (h : W.grownBy W1 (some b)) (k : W1.grownBy W2 (some b)) : W.grownBy W2 (some b) := h.trans k
set_option maxHeartbeats 1000000 in
theorem every_pos (w : World) (p b : Nat) (cols : Int) (n0 : Nat) (D : Set3) (h : TObj w p b cols n0 D) (h1 : 1 ≤ cols) (h2 : cols ≤ 255) (n : Int) (hn : 1 ≤ n) (hn2 : n ≤ 1000) :
    Calls Try.prog 10 #[.pointer (some ⟨p, 0, none⟩), .int .i64 n] w fun e w' => e = .returned (.int .i64 0) ∧ ∃ j : Nat, (cols ≤ ((j : Int) + 1) * n) ∧ (∀ i, i < j → ((i : Int) + 1) * n < cols) ∧ TObj w' p b cols j (multD n j) ∧ w.grownBy w' (some b) := by
  have hne : p ≠ b := by
    rintro rfl
    obtain ⟨es, clock, hb, _⟩ := h.m
    have := h.c0
    simp [World.cell?, hb] at this
  have k0 := h.c0
  have k1 := h.c1
  have HCl := Lib.hid (fun ty => run_clear53 w b n0 D h.m ty)
  have hpl := h.lt
  have Hne := Lib.hid hne
  have Hpl := Lib.hid hpl
  have K0 := Lib.hid k0
  have K1 := Lib.hid k1
  have g1 : ¬ n < 0 := by omega
  have g2 : 0 < n := by omega
  clear h hne hpl
  obtain ⟨w1, hrun, hown1, hg1⟩ := HCl.out 0
  have Hown1 := Lib.hid hown1
  have Hg1 := Lib.hid hg1
  clear hown1 hg1 HCl
  go_enter Try.func10, Try.ntmps10
  go_wp2_with fail
  go_loopw [5] (fun c wr => ∃ j : Nat, c = .int .i64 (((j : Int) + 1) * n) ∧ OwnS wr b j (multD n j) ∧ w.grownBy wr (some b) ∧ ∀ i, i < j → ((i : Int) + 1) * n < cols) (fun c _ => (1300 - intOf c).toNat)
  case atStart => exact ⟨0, by simp, Hown1.out, Hg1.out, fun i hi => absurd hi (Nat.not_lt_zero i)⟩
  case round =>
    obtain ⟨j, rfl, hown, hg, hall⟩ := hrel
    have c0 := grown_cell hg Hne.out K0.out
    have c1 := grown_cell hg Hne.out K1.out
    have hge : (j : Int) + 1 ≤ ((j : Int) + 1) * n := by
      have := Int.mul_le_mul_of_nonneg_left hn (show (0 : Int) ≤ (j : Int) + 1 by omega)
      simpa using this
    have hnext : (((j + 1 : Nat) : Int) + 1) * n = ((j : Int) + 1) * n + n := by push_cast; rw [Int.add_mul ((j : Int) + 1) 1 n]; omega
    have hD := multD_succ n j
    have hall' : ((j : Int) + 1) * n < cols → ∀ i, i < j + 1 → ((i : Int) + 1) * n < cols := fun hc i hi => by
      by_cases e : i = j
      · subst e; exact hc
      · exact hall i (by omega)
    generalize hcc : ((j : Int) + 1) * n = c at *
    have Hown := Lib.hid hown
    have Hg := Lib.hid hg
    have Hall := Lib.hid hall
    have Hall' := Lib.hid hall'
    have Hnext := Lib.hid hnext
    have HD := Lib.hid hD
    have Hcc := Lib.hid hcc
    clear hown hg hall hall' hnext hD hcc
    by_cases hlt : c < cols
    · have hkey : keyOf Try.prog 3 (.int .i64 c) = some (.int .i64 c) := keyOf_int_mk Try.underlying3 (WalkArith.wf_i64 (by omega))
      have Hkey := Lib.hid hkey
      clear hkey
      go_wp2_with (at_mapUpdate; refine wpList_mapUpdate_own _ rfl _ _ _ 53 rfl 3 57 (int_keyed Try.underlying3) Try.underlying53 _ b j _ rfl Hown.out (by unfold maxLen; omega) _ _ _ rfl rfl Hkey.out _ [] unitElem_mk ?_; intro w2 hown2 hg2)
      go_roundw
      case rel => exact ⟨j + 1, by rw [Hnext.out]; try go_num, by rw [HD.out]; exact hown2, Hg.out.trans hg2, Hall'.out hlt⟩
      case measure => simp [intOf]; omega
    · have HTo := Lib.hid (show TObj wr p b cols j (multD n j) from ⟨c0, c1, Hown.out⟩)
      go_wp2_with fail
      go_ret
      exact ⟨rfl, j, by rw [Hcc.out]; omega, Hall.out, HTo.out, Hg.out⟩
end Go.Proofs.Ytpjodppcedkneaa
