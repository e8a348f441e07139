/- slices.SortFunc at codes, cmp.Compare at int: the layings; order; the sorted codes. -/
import Derived.Test.YtnfpfpppnfighaaDoorSB
import Derived.Shelf.SlSortCmp.NoneTotal
import Derived.Shelf.SlicesG.Cmp
import Derived.Ground.SlsfProg
import Derived.Ground.SlgcProg
namespace Go.Proofs.YtnfpfpppnfighaaDoor
open Go.Shelf Go.RowKit Go.Maps Go.Sort Go.Lib
set_option linter.unusedVariables false
set_option linter.unusedSimpArgs false
set_option maxRecDepth 100000
def Tryd.sortF_ren : Go.Shelf.Ren := ⟨fun | 6 => 48 | 15 => 57 | 14 => 56 | 28 => 74 | 29 => 75 | 20 => 66 | 21 => 67 | 22 => 68 | 23 => 69 | 24 => 70 | 25 => 71 | 26 => 72 | 27 => 73 | 46 => 86 | 47 => 87 | 48 => 88 | 49 => 89 | 50 => 90 | 57 => 96 | n => n, fun | 22 => 89 | 24 => 24 | 25 => 94 | 3 => 3 | 39 => 113 | 0 => 0 | 53 => 131 | 55 => 117 | 4 => 4 | 46 => 124 | 45 => 123 | 50 => 128 | 5 => 5 | 9 => 9 | 66 => 142 | 70 => 146 | 76 => 154 | 77 => 155 | n => n, fun | n => n⟩
theorem Tryd.sortF : Go.Proofs.SlLaysF0.n6 Tryd.prog Tryd.sortF_ren := {
  mixed := by kernel_rfl
  f6 := ⟨Tryd.f48.name, by decide, Tryd.func48.trans (congrArg some (by kernel_rfl))⟩
  f14 := ⟨Tryd.f56.name, by decide, Tryd.func56.trans (congrArg some (by kernel_rfl))⟩
  f15 := Tryd.func57.trans (congrArg some (by kernel_rfl))
  f20 := ⟨Tryd.f66.name, by decide, Tryd.func66.trans (congrArg some (by kernel_rfl))⟩
  f21 := ⟨Tryd.f67.name, by decide, Tryd.func67.trans (congrArg some (by kernel_rfl))⟩
  f22 := ⟨Tryd.f68.name, by decide, Tryd.func68.trans (congrArg some (by kernel_rfl))⟩
  f23 := ⟨Tryd.f69.name, by decide, Tryd.func69.trans (congrArg some (by kernel_rfl))⟩
  f24 := ⟨Tryd.f70.name, by decide, Tryd.func70.trans (congrArg some (by kernel_rfl))⟩
  f25 := ⟨Tryd.f71.name, by decide, Tryd.func71.trans (congrArg some (by kernel_rfl))⟩
  f26 := ⟨Tryd.f72.name, by decide, Tryd.func72.trans (congrArg some (by kernel_rfl))⟩
  f27 := ⟨Tryd.f73.name, by decide, Tryd.func73.trans (congrArg some (by kernel_rfl))⟩
  f28 := Tryd.func74.trans (congrArg some (by kernel_rfl))
  f29 := Tryd.func75.trans (congrArg some (by kernel_rfl))
  f46 := ⟨Tryd.f86.name, by decide, Tryd.func86.trans (congrArg some (by kernel_rfl))⟩
  f47 := Tryd.func87.trans (congrArg some (by kernel_rfl))
  f48 := Tryd.func88.trans (congrArg some (by kernel_rfl))
  f49 := ⟨Tryd.f89.name, by decide, Tryd.func89.trans (congrArg some (by kernel_rfl))⟩
  f50 := ⟨Tryd.f90.name, by decide, Tryd.func90.trans (congrArg some (by kernel_rfl))⟩
  f57 := ⟨Tryd.f96.name, by decide, Tryd.func96.trans (congrArg some (by kernel_rfl))⟩
  t0 := Tryd.underlying0
  a0 := Tryd.isAgg0
  z0 := Tryd.sizeOf0
  v0 := Tryd.zeroValue0
  t3 := Tryd.underlying3
  a3 := Tryd.isAgg3
  z3 := Tryd.sizeOf3
  v3 := Tryd.zeroValue3
  t4 := Tryd.underlying4
  a4 := Tryd.isAgg4
  z4 := Tryd.sizeOf4
  v4 := Tryd.zeroValue4
  t5 := Tryd.underlying5
  a5 := Tryd.isAgg5
  z5 := Tryd.sizeOf5
  v5 := Tryd.zeroValue5
  t9 := Tryd.underlying9
  a9 := Tryd.isAgg9
  z9 := Tryd.sizeOf9
  v9 := Tryd.zeroValue9
  t22 := Tryd.underlying89
  a22 := Tryd.isAgg89
  z22 := Tryd.sizeOf89
  v22 := Tryd.zeroValue89
  t25 := Tryd.underlying94
  a25 := Tryd.isAgg94
  z25 := Tryd.sizeOf94
  v25 := Tryd.zeroValue94
  t39 := Tryd.underlying113
  a39 := Tryd.isAgg113
  z39 := Tryd.sizeOf113
  v39 := Tryd.zeroValue113
  t45 := Tryd.underlying123
  a45 := Tryd.isAgg123
  z45 := Tryd.sizeOf123
  v45 := Tryd.zeroValue123
  t46 := Tryd.underlying124
  a46 := Tryd.isAgg124
  z46 := Tryd.sizeOf124
  v46 := Tryd.zeroValue124
  t50 := Tryd.underlying128
  a50 := Tryd.isAgg128
  z50 := Tryd.sizeOf128
  v50 := Tryd.zeroValue128
  t53 := Tryd.underlying131
  a53 := Tryd.isAgg131
  z53 := Tryd.sizeOf131
  v53 := Tryd.zeroValue131
  t55 := Tryd.underlying117
  a55 := Tryd.isAgg117
  z55 := Tryd.sizeOf117
  v55 := Tryd.zeroValue117
  t66 := Tryd.underlying142
  a66 := Tryd.isAgg142
  z66 := Tryd.sizeOf142
  v66 := Tryd.zeroValue142
  t70 := Tryd.underlying146
  a70 := Tryd.isAgg146
  z70 := Tryd.sizeOf146
  v70 := Tryd.zeroValue146
  t76 := Tryd.underlying154
  a76 := Tryd.isAgg154
  z76 := Tryd.sizeOf154
  v76 := Tryd.zeroValue154
  t77 := Tryd.underlying155
  a77 := Tryd.isAgg155
  z77 := Tryd.sizeOf155
  v77 := Tryd.zeroValue155 }
def Tryd.cmpI_ren : Go.Shelf.Ren := ⟨fun | 5 => 50 | 7 => 58 | n => n, fun | 22 => 3 | 3 => 3 | 4 => 4 | n => n, fun | n => n⟩
theorem Tryd.cmpI : Go.Proofs.SlLaysC2.n5 Tryd.prog Tryd.cmpI_ren := {
  mixed := by kernel_rfl
  f5 := ⟨Tryd.f50.name, by decide, Tryd.func50.trans (congrArg some (by kernel_rfl))⟩
  f7 := ⟨Tryd.f58.name, by decide, Tryd.func58.trans (congrArg some (by kernel_rfl))⟩
  t3 := Tryd.underlying3
  a3 := Tryd.isAgg3
  z3 := Tryd.sizeOf3
  v3 := Tryd.zeroValue3
  t4 := Tryd.underlying4
  a4 := Tryd.isAgg4
  z4 := Tryd.sizeOf4
  v4 := Tryd.zeroValue4
  t22 := Tryd.underlying3
  a22 := Tryd.isAgg3
  z22 := Tryd.sizeOf3
  v22 := Tryd.zeroValue3 }

/-- What order answers. -/
def ordC (x y : CodeD) : Int := if x.e = y.e then Lib.compareInt x.n y.n else if y.e then -1 else 1
def enc2 (x : CodeD) : List Value := [.bool x.e, .int .i64 x.n]
theorem order_any (x y : CodeD) (W : World) : Calls Tryd.prog 41 #[.agg #[.bool x.e, .int .i64 x.n], .agg #[.bool y.e, .int .i64 y.n]] W fun e w' => e = .returned (.int .i64 (ordC x y)) ∧ ∃ q os', w' = grow (W.drewN q) os' := by
  obtain ⟨e1, n1⟩ := x
  obtain ⟨e2, n2⟩ := y
  have hcon := fun W' => AnyG.cmp_Compare_int Tryd.cmpI n1 n2 W'
  change ∀ W', Calls Tryd.prog 50 _ _ _ at hcon
  unfold ordC
  simp only
  generalize Lib.compareInt n1 n2 = r at hcon ⊢
  by_cases he : e1 = e2
  · subst he
    rw [if_pos rfl]
    cases e1
    all_goals (
      go_enter Tryd.func41, Tryd.ntmps41
      go_wp2_with (go_at_call 50; refine (hcon _).mono ?_; rintro e w' ⟨rfl, rfl⟩)
      go_ret
      exact ⟨rfl, 0, _, by rw [alloc_eq_grow, alloc_eq_grow, grow_grow]; rfl⟩)
  · rw [if_neg he]
    cases e1 <;> cases e2
    · exact absurd rfl he
    · go_enter Tryd.func41, Tryd.ntmps41
      go_wp2_with fail
      go_ret
      exact ⟨rfl, 0, _, by rw [alloc_eq_grow, alloc_eq_grow, grow_grow]; rfl⟩
    · go_enter Tryd.func41, Tryd.ntmps41
      go_wp2_with fail
      go_ret
      exact ⟨rfl, 0, _, by rw [alloc_eq_grow, alloc_eq_grow, grow_grow]; rfl⟩
    · exact absurd rfl he
theorem lt_ord (x y : CodeD) : ltOf ordC x y = decide ((x.e = false ∧ y.e = true) ∨ (x.e = y.e ∧ x.n < y.n)) := by
  obtain ⟨e1, n1⟩ := x
  obtain ⟨e2, n2⟩ := y
  unfold ltOf ordC Lib.compareInt
  cases e1 <;> cases e2 <;> simp
  all_goals (
    by_cases h1 : n1 < n2
    · simp [h1]
    · by_cases h2 : n2 < n1 <;> simp [h1, h2])
theorem swo_ord : SWO (ltOf ordC) where
  irrefl x := by rw [lt_ord]; simp
  trans x y z h1 h2 := by
    rw [lt_ord] at *
    simp only [decide_eq_true_eq] at *
    rcases x with ⟨_ | _, a⟩ <;> rcases y with ⟨_ | _, b⟩ <;> rcases z with ⟨_ | _, c⟩ <;> simp_all <;> omega
  ntrans x y z h1 h2 := by
    rw [lt_ord] at *
    simp only [decide_eq_false_iff_not] at *
    rcases x with ⟨_ | _, a⟩ <;> rcases y with ⟨_ | _, b⟩ <;> rcases z with ⟨_ | _, c⟩ <;> simp_all <;> omega
theorem tot_ord (x y : CodeD) (h1 : ltOf ordC x y = false) (h2 : ltOf ordC y x = false) : x = y := by
  rw [lt_ord] at *
  simp only [decide_eq_false_iff_not] at *
  rcases x with ⟨_ | _, a⟩ <;> rcases y with ⟨_ | _, b⟩ <;> simp_all <;> omega
def leC (x y : CodeD) : Bool := !(ltOf ordC) y x
theorem sorted_all : allC.Pairwise (fun x y => leC x y = true) := by
  unfold allC
  rw [List.pairwise_map]
  refine List.pairwise_lt_range.imp_of_mem fun {a b} ha hb hlt => ?_
  rw [List.mem_range] at ha hb
  unfold leC codeAt
  rw [lt_ord]
  simp
  omega
theorem sort_ks {m : MF} {ss : List CodeD} (h : ss.Perm (ksOf m)) : ss.mergeSort leC = ksOf m := by
  have tr : ∀ x y z : CodeD, leC x y = true → leC y z = true → leC x z = true := fun x y z h1 h2 => by
    unfold leC at *
    simp only [Bool.not_eq_true'] at *
    exact swo_ord.ntrans _ _ _ h2 h1
  have tot : ∀ x y : CodeD, (leC x y || leC y x) = true := fun x y => by
    unfold leC
    rw [lt_ord, lt_ord]
    rcases x with ⟨_ | _, a⟩ <;> rcases y with ⟨_ | _, b⟩ <;> simp <;> omega
  refine List.Perm.eq_of_pairwise (le := fun x y => leC x y = true) (fun x y _ _ h1 h2 => ?_) (List.pairwise_mergeSort tr tot ss) (sorted_all.filter _) ((List.mergeSort_perm ss leC).trans h)
  unfold leC at h1 h2
  simp only [Bool.not_eq_true'] at h1 h2
  exact tot_ord x y h2 h1
theorem cmpLays_ord (blk off size : Nat) (w : World) : CmpLays Tryd.prog 41 #[] enc2 2 ordC blk off size w := fun _ _ _ _ x y => order_any x y _
/-- slices.SortFunc over codes. -/
theorem sortf_any (blk cap : Nat) (ss : List CodeD) (m : MF) (hp : ss.Perm (ksOf m)) (w : World) (hH : HoldsK enc2 2 w blk 0 ss.toArray) (hblk : blk < w.heap.size) :
    Calls Tryd.prog 48 #[.slice (some ⟨blk, 0, none⟩) ss.length cap, .func (.func 41) #[] #[]] w fun e w' => e = .returned (.tuple #[]) ∧ ∃ n os, w' = sortWorldK enc2 2 w blk 0 n (ksOf m).toArray os := by
  have eg : ∀ args w, (callFunc 41 args).run Tryd.prog w = .ok (.enter 41 args) w := enters_of Tryd.func41 (by kernel_rfl) rfl
  have hl : ss.length ≤ 512 := by rw [hp.length_eq]; exact len_ks m
  have hcon := AnyQ.slices_SortFunc_total Tryd.sortF 2 Tryd.isAgg24 Tryd.sizeOf24 enc2 (fun _ => rfl) (fun x v hv => by simp [enc2] at hv; rcases hv with rfl | rfl <;> rfl) ordC swo_ord 41 #[] blk 0 cap ss.toArray w eg (cmpLays_ord blk 0 _ w) hH hblk (by simp; omega) tot_ord
  change Calls Tryd.prog 48 _ _ _ at hcon
  have e1 : (ss.toArray.toList.mergeSort fun x y => !(ltOf ordC) y x) = ksOf m := sort_ks hp
  rw [e1] at hcon
  simpa using hcon
theorem sortf_none (p : Option Addr) (cap : Nat) (fv : Value) (w : World) : Calls Tryd.prog 48 #[.slice p 0 cap, fv] w fun e w' => e = .returned (.tuple #[]) ∧ w' = w :=
  AnyF.slices_SortFunc_none Tryd.sortF p cap fv w
end Go.Proofs.YtnfpfpppnfighaaDoor
