/- tabs: awake. -/
import Derived.Test.YtpjodppcedkneaaT7
namespace Go.Proofs.Ytpjodppcedkneaa
open Go.RowKit Go.Maps Go.Sort Go.Shelf
set_option linter.unusedVariables false
set_option linter.unusedSimpArgs false
set_option maxRecDepth 100000
theorem ikeys8 : intKeys (multD 8 2) = [8, 16] := by rfl
theorem keys8 : keysOf (multD 8 2) = [8, 16] := by
  unfold keysOf
  rw [ikeys8]
  exact List.mergeSort_of_pairwise (by simp [leB])
theorem size8 : Maps.size (multD 8 2) ≤ 100000 := by decide +kernel
theorem nx1 : nextIn [8, 16] 20 8 = 16 := by decide +kernel
theorem nx2 : nextIn [8, 16] 20 16 = 19 := by decide +kernel
theorem pv1 : prevIn [8, 16] 8 = 0 := by decide +kernel
theorem go1 : goIn (nextIn [8, 16] 20) (prevIn [8, 16]) 20 0 2 = 16 := by decide +kernel
theorem below_grown {W W' : World} {b n : Nat} (h : W.grownBy W' (some b)) (hn : n ≤ W.heap.size) (hb : n ≤ b) : Below n W W' :=
  ⟨h.os, h.tape, h.output, h.size, fun k hk => h.block k (by omega) (fun e => by cases e; omega)⟩
set_option maxHeartbeats 1000000 in
theorem awake_any (w : World) : Calls Try.prog 9 #[] w fun e w' => e = .returned (.bool true) ∧ Below w.heap.size w w' := by
  have HNew := Lib.hid (new_ok 20 (by decide) (by decide) w)
  obtain ⟨w1, hw1⟩ : ∃ w1, (w.alloc (.map #[] 0)).alloc (.cells #[.int .i64 20, .map (some w.heap.size)] 55) = w1 := ⟨_, rfl⟩
  have hT1 : TObj w1 (w.heap.size + 1) w.heap.size 20 0 (.map []) := by
    refine ⟨?_, ?_, ?_⟩
    · rw [← hw1]; simp [go_sem]
    · rw [← hw1]; simp [go_sem]
    · rw [← hw1]; exact World.ownsMap.alloc (World.ownsMap_made w Try.prog 3 _) _
  have B1 : Below w.heap.size w w1 := by rw [← hw1]; exact bel_alloc (bel_alloc (Below.refl _ _) _) _
  have HEv := Lib.hid (every_pos w1 (w.heap.size + 1) w.heap.size 20 0 (.map []) hT1 (by decide) (by decide) 8 (by decide) (by decide))
  rw [hw1] at HNew
  have hn : ∀ (v : Nat), (binOp .neq 23 (.pointer (some ⟨v, 0, none⟩)) (.pointer none)) = (binOp .neq 23 (.pointer (some ⟨v, 0, none⟩)) (.pointer none)) := fun _ => rfl
  clear hw1 hT1 hn
  go_enter Try.func9, Try.ntmps9
  go_wp2_with fail
  refine HNew.out.mono ?_
  rintro e w' ⟨rfl, rfl⟩
  go_wp2_with fail
  refine HEv.out.mono ?_
  rintro e w2 ⟨rfl, j, hj1, hj2, hT2, hg2⟩
  have hj : j = 2 := by
    have h0 : ¬ 2 < j := fun h => by have := hj2 2 h; omega
    have h1 : ¬ j < 1 := fun h => by have : j = 0 := by omega
                                     subst this; simp at hj1
    have h2 : ¬ j = 1 := fun h => by subst h; simp at hj1
    omega
  subst hj
  have B2 := B1.trans ((below_grown hg2 B1.size (Nat.le_refl _)))
  have hK := keys8
  have HLs := Lib.hid (fun W hW => list_is W _ _ _ _ _ (TObj.later (W' := W) hT2 hW) size8)
  have HNx := Lib.hid (fun W hW col => next_any W _ _ _ _ _ (TObj.later (W' := W) hT2 hW) size8 (by decide) (by decide) col (by rw [keys8]; decide))
  have HPv := Lib.hid (fun W hW col => prev_any W _ _ _ _ _ (TObj.later (W' := W) hT2 hW) size8 (by rw [keys8]; decide) col)
  have HCo := Lib.hid (fun W hW => cols_any W _ _ _ _ _ (TObj.later (W' := W) hT2 hW))
  simp only [keys8] at HLs HNx HPv
  have HGo := Lib.hid (fun W (hW : Below w2.heap.size w2 W) => go_some (w.heap.size + 1) W (nextIn [8, 16] 20) (prevIn [8, 16]) 20 0 2 (by decide) (by decide) (by decide) (fun X x hX => HNx.out X (bel_call hW hX) x) (fun X x hX => HPv.out X (bel_call hW hX) x) (fun X hX => HCo.out X (bel_call hW hX)))
  rw [go1] at HGo
  clear hj1 hj2 hT2 hg2 hK HNew HEv
  go_wp2_with fail
  refine (HLs.out _ (Below.refl _ _)).mono ?_
  rintro e w3 ⟨v, rfl, hown, hb3⟩
  have hat := hown.at
  have hat2 := hat.later (bel_alloc (Below.refl _ w3) (.cells #[.int .i64 8, .int .i64 16] 3))
  have hat3 : IntsAt (w3.alloc (.cells #[.int .i64 8, .int .i64 16] 3)) (.slice (some ⟨w3.heap.size, 0, none⟩) 2 2) [8, 16] :=
    ⟨_, 2, rfl, fun _ => ⟨w3.heap.size, 0, rfl, by simp, fun i hi => by
      have : i = 0 ∨ i = 1 := by simp at hi; omega
      rcases this with rfl | rfl <;> simp [go_sem]⟩⟩
  have HIn := Lib.hid (ints_same _ v _ [8, 16] hat2 hat3 (by decide))
  obtain ⟨ad, cap, rfl, _⟩ := hat
  have b3 := bel_alloc hb3 (.cells #[.int .i64 8, .int .i64 16] 3)
  clear hown hat2 hat3 hb3
  go_wp2_with fail
  refine HIn.out.mono ?_
  rintro e w4 ⟨rfl, hb4⟩
  have b4 := bel_call b3 hb4
  go_wp2_with fail
  refine (HNx.out _ b4 8).mono ?_
  rintro e w5 ⟨rfl, hb5⟩
  have b5 := bel_call b4 hb5
  rw [nx1]
  go_wp2_with fail
  refine (HNx.out _ b5 16).mono ?_
  rintro e w6 ⟨rfl, hb6⟩
  have b6 := bel_call b5 hb6
  rw [nx2]
  go_wp2_with fail
  refine (HPv.out _ b6 8).mono ?_
  rintro e w7 ⟨rfl, hb7⟩
  have b7 := bel_call b6 hb7
  rw [pv1]
  go_wp2_with fail
  refine (HGo.out _ b7).mono ?_
  rintro e w8 ⟨rfl, hb8⟩
  have b8 := bel_call b7 hb8
  go_wp2_with fail
  go_ret
  exact ⟨rfl, bel_call B2 b8⟩
end Go.Proofs.Ytpjodppcedkneaa
