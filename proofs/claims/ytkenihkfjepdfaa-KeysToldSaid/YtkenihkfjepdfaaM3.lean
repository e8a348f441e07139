/- Code: what it answers. -/
import Derived.Test.YtkenihkfjepdfaaM2
namespace Go.Proofs.Ytkenihkfjepdfaa
open Go.RowKit Go.Maps
set_option linter.unusedVariables false
set_option linter.unusedSimpArgs false
theorem res2 {W : World} {b : Nat} {u0 u1 : Value} (v0 v1 : Value) (e0 : W.cell? ⟨b, 0, none⟩ = some u0) (e1 : W.cell? ⟨b, 1, none⟩ = some u1) :
    ((W.setCell ⟨b, 0, none⟩ v0).setCell ⟨b, 1, none⟩ v1).cell? ⟨b, 0, none⟩ = some v0 ∧ ((W.setCell ⟨b, 0, none⟩ v0).setCell ⟨b, 1, none⟩ v1).cell? ⟨b, 1, none⟩ = some v1 := by
  have n1 : (⟨b, 0, none⟩ : Addr) ≠ ⟨b, 1, none⟩ := by simp
  exact ⟨(World.cell?_setCell_other _ _ _ _ n1.symm).trans (World.cell?_setCell_same' _ _ _ (by rw [e0]; rfl)), World.cell?_setCell_same' _ _ _ (by rw [World.cell?_setCell_other _ _ _ _ n1, e1]; rfl)⟩
theorem num_at (l : List Int) (i : Nat) (n : Nat) (hn : n < 256) (hl : l[i]? = some (n : Int)) (h : i < (strOfNums l).size) : wrap64 (((strOfNums l)[i]'h).toNat : Int) = (n : Int) := by
  have e : ((strOfNums l)[i]'h).toNat = n := by
    have h2 : i < l.length := (List.getElem?_eq_some_iff.1 hl).1
    have h3 : l[i] = (n : Int) := (List.getElem?_eq_some_iff.1 hl).2
    simp only [strOfNums, ByteArray.getElem_eq_getElem_data, List.getElem_toArray, List.getElem_map, h3]
    simp
    omega
  rw [e]
  unfold wrap64
  omega
theorem code_bad (k c : Int) (s t : Bool) (h : ¬ checkOf k c = 0) : Fn 16 #[keyv k c s t] (.tuple #[codeV false 0, .bool false]) := by
  have HE := encode_any 2 k c s t false
  have e1 : encText 2 k c s t false = [] := by unfold encText; rw [if_neg (by omega), if_neg h]
  have e2 : encErr 2 k c = checkOf k c := by unfold encErr; rw [if_neg (by omega)]
  rw [e1, e2] at HE
  have h2 : decide (checkOf k c = 0) = false := by simp [h]
  have h3 : (checkOf k c == 0) = false := by simp [h]
  generalize checkOf k c = q at *
  unfold Fn keyv at *
  intro w
  have HE' := Lib.hid HE
  clear HE e1 e2
  go_enter Try.func16, Try.ntmps16
  go_wp2_with fail
  refine (HE'.out _).mono ?_
  rintro e w1 ⟨rfl, hb1⟩
  have k3 := hb1.cell (p := ⟨w.heap.size + 1, 0, none⟩) (by simp)
  have k4 := hb1.cell (p := ⟨w.heap.size + 1, 1, none⟩) (by simp)
  have k5 := hb1.frozen (p := ⟨w.heap.size + 1, 0, none⟩) (by simp)
  have k6 := hb1.frozen (p := ⟨w.heap.size + 1, 1, none⟩) (by simp)
  simp [go_sem] at k3 k4 k5 k6
  have BW := bel_call (bel_alloc (bel_alloc (Below.refl _ _) _) _) hb1
  obtain ⟨z0, z1⟩ := res2 (W := w1) (b := w.heap.size + 1) (.bool false) (.int .i64 0) k3 k4
  go_wp2
  refine bodyPost_ret (v := .tuple #[codeV false 0, .bool false]) (by simp [results, Try.results16, go_sem, z0, z1]) rfl ⟨rfl, ?_⟩
  exact (BW.setCell (p := ⟨w.heap.size + 1, 0, none⟩) (by simp) _).setCell (p := ⟨w.heap.size + 1, 1, none⟩) (by simp) _
theorem code_ok (k c : Int) (s t : Bool) (h : checkOf k c = 0) (e : Bool) (n : Nat) (hn : n < 256) (hs : kSends 2 k c s t false = (if e then [0, (n : Int)] else [(n : Int)])) : Fn 16 #[keyv k c s t] (.tuple #[codeV e n, .bool true]) := by
  have HE := encode_any 2 k c s t false
  have e1 : encText 2 k c s t false = kSends 2 k c s t false := by unfold encText; rw [if_neg (by omega), if_pos h]
  have e2 : encErr 2 k c = 0 := by unfold encErr; rw [if_neg (by omega), h]
  rw [e1, e2, hs] at HE
  unfold Fn keyv at *
  intro w
  have HE' := Lib.hid HE
  clear HE e1 e2 hs
  cases e
  · simp only [Bool.false_eq_true, if_false] at HE'
    have hz : (strOfNums [(n : Int)]).size = 1 := by rw [strOfNums_size]; rfl
    generalize hS : strOfNums [(n : Int)] = S at *
    go_enter Try.func16, Try.ntmps16
    go_wp2_with fail
    refine (HE'.out _).mono ?_
    rintro e w1 ⟨rfl, hb1⟩
    have k3 := hb1.cell (p := ⟨w.heap.size + 1, 0, none⟩) (by simp)
    have k4 := hb1.cell (p := ⟨w.heap.size + 1, 1, none⟩) (by simp)
    have k5 := hb1.frozen (p := ⟨w.heap.size + 1, 0, none⟩) (by simp)
    have k6 := hb1.frozen (p := ⟨w.heap.size + 1, 1, none⟩) (by simp)
    simp [go_sem] at k3 k4 k5 k6
    have BW := bel_call (bel_alloc (bel_alloc (Below.refl _ _) _) _) hb1
    go_wp2
    rw [show wrap64 ((S[0]'(by rw [hz]; decide)).toNat : Int) = (n : Int) by subst hS; exact num_at _ 0 n hn rfl _]
    obtain ⟨z0, z1⟩ := res2 (W := w1) (b := w.heap.size + 1) (.bool false) (.int .i64 (n : Int)) k3 k4
    refine bodyPost_ret (v := .tuple #[codeV false n, .bool true]) (by simp [results, Try.results16, go_sem, z0, z1]) rfl ⟨rfl, ?_⟩
    exact (BW.setCell (p := ⟨w.heap.size + 1, 0, none⟩) (by simp) _).setCell (p := ⟨w.heap.size + 1, 1, none⟩) (by simp) _
  · simp only [if_true] at HE'
    have hz : (strOfNums [0, (n : Int)]).size = 2 := by rw [strOfNums_size]; rfl
    generalize hS : strOfNums [0, (n : Int)] = S at *
    go_enter Try.func16, Try.ntmps16
    go_wp2_with fail
    refine (HE'.out _).mono ?_
    rintro e w1 ⟨rfl, hb1⟩
    have k3 := hb1.cell (p := ⟨w.heap.size + 1, 0, none⟩) (by simp)
    have k4 := hb1.cell (p := ⟨w.heap.size + 1, 1, none⟩) (by simp)
    have k5 := hb1.frozen (p := ⟨w.heap.size + 1, 0, none⟩) (by simp)
    have k6 := hb1.frozen (p := ⟨w.heap.size + 1, 1, none⟩) (by simp)
    simp [go_sem] at k3 k4 k5 k6
    have BW := bel_call (bel_alloc (bel_alloc (Below.refl _ _) _) _) hb1
    go_wp2
    rw [show wrap64 ((S[1]'(by rw [hz]; decide)).toNat : Int) = (n : Int) by subst hS; exact num_at _ 1 n hn rfl _]
    obtain ⟨z0, z1⟩ := res2 (W := w1) (b := w.heap.size + 1) (.bool true) (.int .i64 (n : Int)) k3 k4
    refine bodyPost_ret (v := .tuple #[codeV true n, .bool true]) (by simp [results, Try.results16, go_sem, z0, z1]) rfl ⟨rfl, ?_⟩
    exact (BW.setCell (p := ⟨w.heap.size + 1, 0, none⟩) (by simp) _).setCell (p := ⟨w.heap.size + 1, 1, none⟩) (by simp) _
end Go.Proofs.Ytkenihkfjepdfaa
