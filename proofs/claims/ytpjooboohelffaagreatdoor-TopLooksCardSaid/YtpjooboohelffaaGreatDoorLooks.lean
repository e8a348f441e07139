/- TopLooks: for every input the law returns true, and the input reads as it did. No condition but that the listed variables start as the program's text lays them (the card ties them). -/
import Derived.Test.YtpjooboohelffaaGreatDoorM26
import Derived.Test.YtpjooboohelffaaGreatDoorM10
import Derived.Test.YtpjooboohelffaaGreatDoorTie
import Derived.Test.YtpjooboohelffaaGreatDoorCards
import Derived.SevenTiedAt
/- Top: TopLooks, walked. -/
namespace Go.Proofs.YtpjooboohelffaaGreatDoor
open Go.RowKit Go.Shelf T05
set_option linter.unusedVariables false
set_option linter.unusedSimpArgs false
set_option maxRecDepth 100000
theorem wcell_p {c : Cl} (h : WCell c) : CellP WAttr c := by
 refine ⟨?_, ?_, fun hm => ?_, fun m hm => h.a.or hm⟩
 ·rcases h.m with h0 | h0
  ·omega
  ·have := h0.bd; omega
 ·rcases h.m with h0 | h0
  ·omega
  ·have := h0.bd; omega
 ·rcases h.m with h0 | h0
  ·omega
  ·exact h0
/-- A glyph of a Wyse 60 is found in one of its sets. -/
theorem wglyph_back {g : Int} (h : WGlyph g) : ∃ x y z1 z2, backV 1 g = .tuple #[.int .u8 x, .bool z1] ∧ backV 4 g = .tuple #[.int .u8 y, .bool z2] ∧ (z1 = true ∨ z2 = true) := by
 have k : ∀ set, ∃ x z, backV set g = .tuple #[.int .u8 x, .bool z] ∧ z = (gets (tabT set) 256 g).isSome := fun set => by
  unfold backV
  cases gets (tabT set) 256 g with
  | none => exact ⟨0, false, rfl, rfl⟩
  | some b => exact ⟨b, true, rfl, rfl⟩
 obtain ⟨x, z1, h1, e1⟩ := k 1
 obtain ⟨y, z2, h2, e2⟩ := k 4
 refine ⟨x, y, z1, z2, h1, h2, ?_⟩
 rcases h with h | h
 ·exact .inl (by rw [e1]; exact h)
 ·exact .inr (by rw [e2]; exact h)
theorem looks_no (W : World) (hg : Glob W) (R C : Int) (text : ByteArray) (h : ¬ (1 ≤ R ∧ R ≤ 6 ∧ 1 ≤ C ∧ C ≤ 12)) :
  Calls Tryz.prog 3 #[pr R C, .string text] W fun e w' => e = .returned (.bool true) ∧ Below W.heap.size W w' := by
 have HF := Lib.hid (fun w => few_no w R C h)
 have HA := Lib.hid (fun w (hb : Below W.heap.size W w) => awake_any w (hg.later hb))
 clear h hg
 go_enter Tryz.func3, Tryz.ntmps3
 go_wp2_with fail
 refine (HF.out _).mono ?_
 rintro e w1 ⟨rfl, b1⟩
 have B1 := Lib.hid (bel_call (bel_alloc (Below.refl W.heap.size W) _) b1)
 clear b1
 go_wp2_with fail
 refine (HA.out _ B1.out).mono ?_
 rintro e w2 ⟨rfl, b2⟩
 have B2 := Lib.hid (bel_call B1.out b2)
 clear b2
 go_wp2_with fail
 go_ret
 exact ⟨rfl, B2.out⟩
theorem looks_long (W : World) (hg : Glob W) (R C : Int) (text : ByteArray) (h1 : 1 ≤ R) (h2 : R ≤ 6) (h3 : 1 ≤ C) (h4 : C ≤ 12) (hl : 200 < text.size) :
  Calls Tryz.prog 3 #[pr R C, .string text] W fun e w' => e = .returned (.bool true) ∧ Below W.heap.size W w' := by
 have HF := Lib.hid (fun w => few_ok w R C h1 h2 h3 h4)
 have HA := Lib.hid (fun w (hb : Below W.heap.size W w) => awake_any w (hg.later hb))
 have q1 : (200 : Int) < (text.size : Int) := by omega
 clear h1 h2 h3 h4 hg hl
 go_enter Tryz.func3, Tryz.ntmps3
 go_wp2_with fail
 refine (HF.out _).mono ?_
 rintro e w1 ⟨rfl, b1⟩
 have B1 := Lib.hid (bel_call (bel_alloc (Below.refl W.heap.size W) _) b1)
 clear b1
 go_wp2_with fail
 refine (HA.out _ B1.out).mono ?_
 rintro e w2 ⟨rfl, b2⟩
 have B2 := Lib.hid (bel_call B1.out b2)
 clear b2
 go_wp2_with fail
 go_ret
 exact ⟨rfl, B2.out⟩
set_option maxHeartbeats 8000000 in
theorem looks_walk (W : World) (hg : Glob W) (R C : Nat) (text : ByteArray) (h1 : 1 ≤ R) (h2 : R ≤ 6) (h3 : 1 ≤ C) (h4 : C ≤ 12) (hl : text.size ≤ 200) :
  Calls Tryz.prog 3 #[pr R C, .string text] W fun e w' => e = .returned (.bool true) ∧ Below W.heap.size W w' := by
 have HF := Lib.hid (fun w => few_ok w R C (by omega) (by omega) (by omega) (by omega))
 have HA := Lib.hid (fun w (hb : Below W.heap.size W w) => awake_any w (hg.later hb))
 have HM := Lib.hid (fun w (hb : Below W.heap.size W w) => made_any w (hg.later hb) R C ⟨by omega, by omega, by omega, by omega⟩)
 have HFd := Lib.hid (fun (w w3 : World) L tm qb lb rs (hK : KB (fun k => k < w.heap.size) w3) (h : Wy (fun k => k < w.heap.size) L tm qb lb w3 rs (fun _ _ => blankC) 0 0 (fun _ => false) tm0 0 [] false) (hR : L.R = R) (hC : L.C = C) => y_feed_any w3 hK ⟨_, _, _, _, _, _, _, _, h, fun _ _ _ _ => wcell_blank, WAttr.zero, (show (⟨#[]⟩ : ByteArray).size ≤ 64 from by decide)⟩ (by omega) (by omega) text (by omega))
 have HB1 := Lib.hid (fun g w => Back_any 1 (.inl rfl) g w)
 have HB4 := Lib.hid (fun g w => Back_any 4 (.inr rfl) g w)
 have HKp := Lib.hid (fun z (hz : WAttr z) w => keep_wattr z hz w)
 have q1 : ¬ (200 : Int) < (text.size : Int) := by omega
 have qR : R ≤ 255 := by omega
 have qC : C ≤ 255 := by omega
 clear hg h2 h4 hl
 go_enter Tryz.func3, Tryz.ntmps3
 go_wp2_with fail
 refine gen_calls ?_
 intro u hu0
 have u0 : u.cell? ⟨W.heap.size, 0, none⟩ = some (.int .i64 (R : Int)) := by rw [hu0]; simp [go_sem]
 have u1 : u.cell? ⟨W.heap.size, 1, none⟩ = some (.int .i64 (C : Int)) := by rw [hu0]; simp [go_sem]
 have Bu := Lib.hid (show Below W.heap.size W u from by rw [hu0]; exact bel_alloc (Below.refl _ _) _)
 clear hu0
 refine (HF.out _).mono ?_
 rintro e w1 ⟨rfl, b1⟩
 have k0 := cellB b1 u0
 have k1 := cellB b1 u1
 have B1 := Lib.hid (bel_call Bu.out b1)
 clear b1 u0 u1 Bu
 go_wp2_with fail
 refine (HM.out _ B1.out).mono ?_
 rintro e w2 ⟨L, rs, qb, lb, rfl, hM⟩
 have HMM := Lib.hid hM
 have HOn := Lib.hid (on_made hM (Below.refl _ _))
 clear hM
 go_wp2_with fail
 refine HOn.out.mono ?_
 rintro e w3 ⟨rfl, hwy, b3⟩
 have hK3 : KB (fun k => k < w1.heap.size) w3 := fun k hk => by have := b3.size; have := HMM.out.bel.size; (try simp only at hk); omega
 have HFe := Lib.hid (HFd.out _ _ _ _ _ _ _ hK3 hwy HMM.out.hR HMM.out.hC)
 have B3 := Lib.hid (bel_call HMM.out.bel b3)
 clear hwy b3 hK3 HOn
 go_wp2_with fail
 refine HFe.out.mono ?_
 rintro e w4 ⟨rfl, ⟨rs4, cell, r, c, S4, t4, Q4, ov4, h4, hall, -, -⟩, hk4⟩
 have b4 : Below w1.heap.size w1 w4 := B3.out.trans (Kept.below hk4)
 have B4 := Lib.hid (bel_call B1.out b4)
 have m0 := cellB b4 k0
 have m1 := cellB b4 k1
 have HT := Lib.hid (take_any WAttr WAttr.zero (fun _ h => h) w4 h4.scr (fun i j hi hj => wcell_p (hall i j hi hj)))
 have HAll := Lib.hid hall
 have eR := HMM.out.hR
 have eC := HMM.out.hC
 rw [eR, eC] at HT HAll
 clear h4 hall hk4 HFe B3 b4 k0 k1 eR eC
 go_wp2_with fail
 refine HT.out.mono ?_
 rintro e w5 ⟨a, b, s, rfl, hT⟩
 have ha := hT.rows
 obtain ⟨ob, rfl, -⟩ := ha
 obtain ⟨lob, lc, rfl, hlb⟩ := hT.lks
 obtain ⟨sa, sc, hsv⟩ := ownI_shape hT.sts
 subst hsv
 have n0 := cellB hT.bel m0
 have n1 := cellB hT.bel m1
 have hl5 := blt n0
 have HTT := Lib.hid hT
 have HLB := Lib.hid hlb
 unfold shotV
 clear hT hlb m0 m1 HT
 go_wp2_with fail
 refine gen_wp ?_
 intro w6 hw6
 have b6 : Below w5.heap.size w5 w6 := by rw [hw6]; exact bel_alloc (Below.refl _ _) _
 have f0 := cellB b6 n0
 have f1 := cellB b6 n1
 have f6 : w6.cell? ⟨w5.heap.size, 6, none⟩ = some (.slice (some ⟨ob, 0, none⟩) R R) := by rw [hw6]; simp [go_sem]
 have f7 : w6.cell? ⟨w5.heap.size, 7, none⟩ = some (.slice (some ⟨lob, 0, none⟩) R lc) := by rw [hw6]; simp [go_sem]
 have HF1 := Lib.hid (fun wr (hb : Below w6.heap.size w6 wr) => (show wr.cell? ⟨W.heap.size, 0, none⟩ = some (.int .i64 (R : Int)) ∧ wr.cell? ⟨W.heap.size, 1, none⟩ = some (.int .i64 (C : Int)) ∧ wr.cell? ⟨w5.heap.size, 6, none⟩ = some (.slice (some ⟨ob, 0, none⟩) R R) ∧ wr.cell? ⟨w5.heap.size, 7, none⟩ = some (.slice (some ⟨lob, 0, none⟩) R lc) from ⟨cellB hb f0, cellB hb f1, cellB hb f6, cellB hb f7⟩))
 have HRow := Lib.hid (fun wr (hb : Below w6.heap.size w6 wr) i (hi : i < R) => (show ∃ b cap b', wr.cell? ⟨ob, i, none⟩ = some (.slice (some ⟨b, 0, none⟩) C cap) ∧ wr.cell? ⟨lob, i, none⟩ = some (.slice (some ⟨b', 0, none⟩) C C) ∧ ∀ j, j < C → wr.cell? ⟨b, j * 4, none⟩ = some (.int .i32 (cell i j).g) ∧ ∃ z, wr.cell? ⟨b', j, none⟩ = some (.int .i64 z) ∧ WAttr z from by
  have hbb := bel_call b6 hb
  obtain ⟨ob', h1, h2, h3⟩ := HTT.out.rows
  cases h1
  obtain ⟨b, cap, a1, a2, a3⟩ := h3 i hi
  obtain ⟨x, h4, b', hbe, -, -, h5⟩ := HLB.out.rows i hi
  cases hbe
  refine ⟨b, cap, x, cellB hbb a1, cellB hbb h4, fun j hj => ⟨cellB hbb (a3 j hj).1, ?_⟩⟩
  obtain ⟨z, h6, h7⟩ := h5 j hj
  exact ⟨z, cellB hbb h6, h7⟩))
 have HB0 := Lib.hid (bel_call (bel_call B4.out HTT.out.bel) b6)
 clear hw6 b6 f0 f1 f6 f7 n0 n1 HTT HLB hl5
 go_loopw [12] (fun s12 wr => ∃ i : Nat, i ≤ R ∧ s12 = .int .i64 (i : Int) ∧ Hid (Below w6.heap.size w6 wr)) (fun s _ => R - (intOf s).toNat)
 case atStart => exact ⟨0, Nat.zero_le _, rfl, Lib.hid (Below.refl _ _)⟩
 case round =>
  obtain ⟨i, hi, rfl, HB⟩ := hrel
  obtain ⟨f0, f1, f6, f7⟩ := HF1.out _ HB.out
  by_cases hlt : i < R
  ·have q2 : (i : Int) < (R : Int) := by omega
   obtain ⟨b, cap, b', r0, r1, -⟩ := HRow.out _ HB.out i hlt
   go_wp2_with fail
   refine wp_region_held_drew (S := fun W' => W'.cell? ⟨w5.heap.size, 6, none⟩ = some (.slice (some ⟨ob, 0, none⟩) R R) ∧ W'.cell? ⟨w5.heap.size, 7, none⟩ = some (.slice (some ⟨lob, 0, none⟩) R lc) ∧ W'.cell? ⟨W.heap.size, 1, none⟩ = some (.int .i64 (C : Int)) ∧ W'.cell? ⟨ob, i, none⟩ = some (.slice (some ⟨b, 0, none⟩) C cap) ∧ W'.cell? ⟨lob, i, none⟩ = some (.slice (some ⟨b', 0, none⟩) C C)) (by kernel_rfl) (⟨f6, f7, f1, r0, r1⟩) (fun hHeld => ?_)
   refine sY 0 81 ?_
   refine sY 1 82 ?_
   refine sY 2 83 ?_
   refine sY 3 84 ?_
   refine sY 4 85 ?_
   refine sY 5 86 ?_
   refine sY 6 87 ?_
   refine sY 7 88 ?_
   refine sY 8 89 ?_
   refine sY 9 90 ?_
   refine sY 10 91 ?_
   refine sY 11 92 ?_
   refine sY 12 93 ?_
   refine sY 13 94 ?_
   refine sY 14 95 ?_
   refine sY 15 96 ?_
   refine sY 16 97 ?_
   refine sY 17 98 ?_
   refine sY 18 99 ?_
   refine sY 19 100 ?_
   refine wpAnyH_done (by kernel_rfl) ?_ _
   clear hHeld f0 f1 f6 f7 r0 r1
   go_wp2_with fail
   go_loopw [13] (fun s13 wx => ∃ j : Nat, j ≤ C ∧ s13 = .int .i64 (j : Int) ∧ Hid (Below w6.heap.size w6 wx)) (fun s _ => C - (intOf s).toNat)
   case atStart => exact ⟨0, Nat.zero_le _, rfl, Lib.hid HB.out.drew⟩
   case round =>
    clear HB
    obtain ⟨j, hj, rfl, HB⟩ := hrel
    obtain ⟨f0, f1, f6, f7⟩ := HF1.out _ HB.out
    by_cases hjt : j < C
    ·have q3 : (j : Int) < (C : Int) := by omega
     obtain ⟨b, cap, b', r0, r1, hr⟩ := HRow.out _ HB.out i hlt
     obtain ⟨g0, z, z0, hz⟩ := hr j hjt
     obtain ⟨x, y, z1, z2, e1, e2, hzz⟩ := wglyph_back (HAll.out i j hlt hjt).g
     have HG1 := Lib.hid (fun w => HB1.out (cell i j).g w)
     have HG4 := Lib.hid (fun w => HB4.out (cell i j).g w)
     rw [e1] at HG1
     rw [e2] at HG4
     clear e1 e2 hr
     go_wp2_with fail
     refine (HG1.out _).mono ?_
     rintro e w7 ⟨rfl, b7⟩
     have p1 := cellB b7 f1
     have p6 := cellB b7 f6
     have p7 := cellB b7 f7
     have s0 := cellB b7 r0
     have s1 := cellB b7 r1
     have sg := cellB b7 g0
     have sz := cellB b7 z0
     have HB7 := Lib.hid (bel_call HB.out b7)
     clear b7 f0 f1 f6 f7 r0 r1 g0 z0 HB HG1
     go_wp2_with fail
     refine (HG4.out _).mono ?_
     rintro e w8 ⟨rfl, b8⟩
     have p7 := cellB b8 p7
     have p1 := cellB b8 s1
     have pz := cellB b8 sz
     have HB8 := Lib.hid (bel_call HB7.out b8)
     clear b8 s0 s1 sg sz HB7 HG4 p6
     go_wp2_with fail
     cases z1 with
     | true =>
      refine wp_region_held_drew (S := fun W' => W'.cell? ⟨w5.heap.size, 7, none⟩ = some (.slice (some ⟨lob, 0, none⟩) R lc) ∧ W'.cell? ⟨lob, i, none⟩ = some (.slice (some ⟨b', 0, none⟩) C C) ∧ W'.cell? ⟨b', j, none⟩ = some (.int .i64 z)) (by kernel_rfl) (⟨p7, p1, pz⟩) (fun hHeld => ?_)
      refine sY 0 133 ?_
      refine sY 1 134 ?_
      refine sY 2 135 ?_
      refine sY 3 136 ?_
      refine sY 4 137 ?_
      refine sY 5 138 ?_
      refine sY 6 139 ?_
      refine sY 7 140 ?_
      refine sY 9 142 ?_
      refine sY 10 143 ?_
      refine sY 11 144 ?_
      refine sY 12 145 ?_
      refine sY 13 146 ?_
      refine sY 14 147 ?_
      refine sY 15 148 ?_
      refine sY 16 149 ?_
      refine sO 8 fun K hK => ?_
      go_simp
      refine (HKp.out z hz _).mono ?_
      rintro e w9 ⟨rfl, rfl⟩
      (try go_wp2_with fail)
      refine hK.out _ _ ?_ (fun hHeld => ?_)
      ·exact hHeld
      clear hK K
      try simp only [Act.put, List.setIfInBounds_toArray, List.set_cons_zero, List.set_cons_succ]
      refine sY 17 150 ?_
      refine sY 18 151 ?_
      refine sY 19 152 ?_
      refine sY 20 153 ?_
      refine sY 21 154 ?_
      refine sU 22 155 ?_
      refine sU 23 156 ?_
      refine sY 24 157 ?_
      refine sY 25 158 ?_
      refine wpAnyH_done (by kernel_rfl) ?_ _
      go_wp2_with fail
      go_roundw
      case rel => exact ⟨j + 1, by omega, by go_num, Lib.hid HB8.out.drew⟩
      case measure => simp [intOf]; omega
     | false =>
      obtain rfl : z2 = true := by rcases hzz with h | h <;> simp_all
      refine wp_region_held_drew (S := fun W' => W'.cell? ⟨w5.heap.size, 7, none⟩ = some (.slice (some ⟨lob, 0, none⟩) R lc) ∧ W'.cell? ⟨lob, i, none⟩ = some (.slice (some ⟨b', 0, none⟩) C C) ∧ W'.cell? ⟨b', j, none⟩ = some (.int .i64 z)) (by kernel_rfl) (⟨p7, p1, pz⟩) (fun hHeld => ?_)
      refine sY 0 133 ?_
      refine sY 1 134 ?_
      refine sY 2 135 ?_
      refine sY 3 136 ?_
      refine sY 4 137 ?_
      refine sY 5 138 ?_
      refine sY 6 139 ?_
      refine sY 7 140 ?_
      refine sY 9 142 ?_
      refine sY 10 143 ?_
      refine sY 11 144 ?_
      refine sY 12 145 ?_
      refine sY 13 146 ?_
      refine sY 14 147 ?_
      refine sY 15 148 ?_
      refine sY 16 149 ?_
      refine sO 8 fun K hK => ?_
      go_simp
      refine (HKp.out z hz _).mono ?_
      rintro e w9 ⟨rfl, rfl⟩
      (try go_wp2_with fail)
      refine hK.out _ _ ?_ (fun hHeld => ?_)
      ·exact hHeld
      clear hK K
      try simp only [Act.put, List.setIfInBounds_toArray, List.set_cons_zero, List.set_cons_succ]
      refine sY 17 150 ?_
      refine sY 18 151 ?_
      refine sY 19 152 ?_
      refine sY 20 153 ?_
      refine sY 21 154 ?_
      refine sY 22 155 ?_
      refine sY 23 156 ?_
      refine sY 24 157 ?_
      refine sY 25 158 ?_
      refine wpAnyH_done (by kernel_rfl) ?_ _
      go_wp2_with fail
      go_roundw
      case rel => exact ⟨j + 1, by omega, by go_num, Lib.hid HB8.out.drew⟩
      case measure => simp [intOf]; omega
    ·obtain rfl : C = j := by omega
     go_wp2_with fail
     go_roundw
     case rel => exact ⟨i + 1, by omega, by go_num, HB⟩
     case measure => simp [intOf]; omega
  ·obtain rfl : R = i := by omega
   go_wp2_with fail
   have HBe := Lib.hid (bel_call HB0.out HB.out)
   refine (HA.out _ HBe.out).mono ?_
   rintro e wz ⟨rfl, bz⟩
   have HBz := Lib.hid (bel_call HBe.out bz)
   clear bz
   go_wp2_with fail
   go_ret
   exact ⟨rfl, HBz.out⟩
end Go.Proofs.YtpjooboohelffaaGreatDoor
/- TopLooks: for every input the law returns true, and the input reads as it did. No condition but that the listed variables start as the program's text lays them (the card ties them). -/
namespace Go.Proofs.YtpjooboohelffaaGreatDoor.topLooks
open Go.ChangeShapes Go.WideShapes Go.ChangeAt Go.WideMaps Go.WideElems Go.RowKit
set_option linter.unusedVariables false
theorem any (W : World) (hg : Glob W) (R C : Int) (text : ByteArray) : Calls Tryz.prog 3 #[pr R C, .string text] W fun e w' => e = .returned (.bool true) ∧ Below W.heap.size W w' := by
 by_cases h : 1 ≤ R ∧ R ≤ 6 ∧ 1 ≤ C ∧ C ≤ 12
 ·obtain ⟨h1, h2, h3, h4⟩ := h
  by_cases hl : 200 < text.size
  ·exact looks_long W hg R C text h1 h2 h3 h4 hl
  ·obtain ⟨r, rfl⟩ := Int.eq_ofNat_of_zero_le (show 0 ≤ R by omega)
   obtain ⟨c, rfl⟩ := Int.eq_ofNat_of_zero_le (show 0 ≤ C by omega)
   exact looks_walk W hg r c text (by omega) (by omega) (by omega) (by omega) (by omega)
 ·exact looks_no W hg R C text h
set_option maxRecDepth 100000 in
theorem lifted (os : Os) (started : os.Started) (H : Type) (enc : TypeId × Value → H) :
  ReturnsInHanded {} Tryz.checked os 3 .any (fun w args => (Rows.topLooksSpec.pre enc Tryz.prog Tryz.f3 [] false w args ∧ laidMetH Tryz.prog laid9 w) ∧ sizedMet enc Tryz.prog Tryz.f3 (OpenSpec.ofChange Rows.topLooksSpec) false w args)
   (Rows.topLooksSpec.post enc Tryz.prog Tryz.f3 false true false false) := by
 refine returnsBoth (C := Tryz.checked) (X := fun w _ => laidMetH Tryz.prog laid9 w) (fun _ _ _ hh h => h.of_heap hh) own started (by kernel_rfl) Tryz.func3
  (ChangeSpec.witness_shaped (enc := enc) (C := Tryz.checked) (os := os) (X := fun w _ => laidMetH Tryz.prog laid9 w) false (wit0 os) #[.agg #[.int .i64 0, .int .i64 0], .string ⟨#[]⟩] 8 rfl (World.shaped_of_RefB (by kernel_rfl) (by kernel_rfl)) (by kernel_rfl) (by kernel_rfl) (by kernel_rfl) (door_met os _)) ?_
 intro W base args ds gs before hval0 hW hsh hL0
 have hval : ∀ (j : Nat) t v, Tryz.f3.params[j]? = some t → args[j]? = some v → Value.okWide Tryz.prog W .any base t v := hval0
 have hW' := hW
 obtain ⟨p, q, hA0, hV, rfl, hfz, hnd⟩ := hW
 have hA : DataW.TrodAll enc Tryz.prog W 0 (fun _ => true) true Tryz.f3.params.toList args.toList ds p := hA0
 rw [Tryz.params3] at hA hval
 obtain ⟨v0, vs0, d0, ds0, p0, q0, hargs, rfl, rfl, h0, r0⟩ := trodAll_cons hA
 obtain ⟨v1, vs1, d1, ds1, p1, q1, rfl, rfl, rfl, h1, r1⟩ := trodAll_cons r0
 obtain ⟨rfl, rfl, rfl⟩ := trodAll_nil r1
 obtain rfl : args = #[v0, v1] := by cases args; simp_all
 obtain ⟨rfl, rfl⟩ := trodVars_none hV
 have lt0 : ∀ x ∈ p0, x.block < W.heap.size := by obtain ⟨m, hm⟩ := h0; exact DataW.trod_lt m _ _ _ hm
 have lt1 : ∀ x ∈ p1, x.block < W.heap.size := by obtain ⟨m, hm⟩ := h1; exact DataW.trod_lt m _ _ _ hm
 obtain ⟨R, C, rfl⟩ := read_size (hval 0 23 v0 rfl rfl) h0
 obtain ⟨s, rfl⟩ := okWide_string Tryz.underlying9 (hval 1 9 v1 rfl rfl)
 have hg := glob_of_laid hsh hL0
 clear hA0 hval0 hL0
 refine (any W hg R C s).mono fun e W' ⟨he, bel⟩ => ?_
 subst he
 exact ⟨_, rfl, _, _, _, [], _, [], hW', trodAll_mk1 (shut_bool Tryz.underlying4 _), (trodAll_cons_mk (Below.trod laidOut (by kernel_rfl) (of_decide_eq_true (by kernel_rfl)) h0 bel lt0) (trodAll_cons_mk (Below.trod laidOut (by kernel_rfl) (of_decide_eq_true (by kernel_rfl)) h1 bel lt1) trodAll_mk0)), rfl, bel.frame _, fun h => by cases h⟩

theorem over : Rows.TopLooksSaid :=
 OpenClaim.holds_of_wide 3 Tryz.f3 rfl rfl rfl rfl rfl rfl rfl ⟨rfl, rfl, rfl, rfl, rfl⟩ rfl rfl rfl rfl rfl (by kernel_rfl) Tryz.func3 (by kernel_rfl)
  (of_decide_eq_true (by kernel_rfl)) (by unfold Func.isWrapper; first | (rw [if_pos (by decide +kernel)]; kernel_rfl) | (rw [if_neg (by decide +kernel)]; exact ⟨rfl, rfl⟩))
  (fun os started H enc _ => lifted os started H enc)

/-- The statement: the tied card. -/
theorem proved : Rows.TopLooksCardSaid :=
 Claim7.holds_tied_plain_at .later [] [.data, .data, .data, .data, .sentinel, .sentinel, .data, .data, .pinned] true (true, "35e581b5746ab5589bf96fea05ada15ec45e04ab7650470557ce8412a100e57d") true
  over (fun _ h => by cases h) (by kernel_rfl) (fun _ h => by cases h) topLooks_row_tie rfl ⟨rfl, rfl⟩ (by kernel_rfl) rfl
  (fun f fn hf hfn => by
   obtain rfl : f = 3 := Option.some.inj ((show Tryz.prog.funcNamed "vizard/vizardtop.TopLooks" = some 3 by kernel_rfl).symm.trans hf) |>.symm
   obtain rfl : fn = Tryz.f3 := (Option.some.inj (Tryz.func3.symm.trans hfn)).symm
   exact ⟨by kernel_rfl, fun j t ht => by
    rw [Tryz.params3] at ht
    have hm : t ∈ [23, 9] := by simpa using Array.mem_of_getElem? ht
    have hall : ([23, 9].all fun u => !Tryz.prog.wantsStandIn u) = true := by kernel_rfl
    exact (show Tryz.prog.wantsStandIn t = false by simpa using List.all_eq_true.1 hall t hm)⟩)
  (by kernel_rfl)
#print axioms proved
end Go.Proofs.YtpjooboohelffaaGreatDoor.topLooks
