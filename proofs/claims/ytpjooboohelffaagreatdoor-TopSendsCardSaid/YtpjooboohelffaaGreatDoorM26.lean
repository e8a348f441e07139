/- TopLooks and TopSends, helper 27 of 27. It holds: snap.looks, at a Wyse 60; snap.Take, at a Wyse 60; snap.Print, of a shot in which nothing stands out; awake. Each theorem states its own conditions. -/
import Derived.Test.YtpjooboohelffaaGreatDoorM25
import Derived.Test.YtpjooboohelffaaGreatDoorM12
import Derived.Test.YtpjooboohelffaaGreatDoorM16
/- Top: snap.looks, at a Wyse 60. -/
namespace Go.Proofs.YtpjooboohelffaaGreatDoor
open Go.RowKit Go.Shelf
set_option linter.unusedVariables false
set_option linter.unusedSimpArgs false
set_option maxRecDepth 100000
/-- Rows of numbers at a place. -/
structure LooksB (P : Int → Prop) (W : World) (lo ob cap R C : Nat) : Prop where
 lo1 : lo ≤ ob
 bk : BlkT W ob cap 39
 rows : ∀ i, i < R → ∃ b, W.cell? ⟨ob, i, none⟩ = some (.slice (some ⟨b, 0, none⟩) C C) ∧ LRow P C lo W (.slice (some ⟨b, 0, none⟩) C C)
theorem LooksAt.b {P : Int → Prop} {W : World} {lo R C : Nat} {v : Value} (h : LooksAt P W lo v R C) : ∃ ob cap, v = .slice (some ⟨ob, 0, none⟩) R cap ∧ LooksB P W lo ob cap R C := by
 obtain ⟨ob, cap, h1, h2, h3, h4⟩ := h
 refine ⟨ob, cap, h1, h2, h3, fun i hi => ?_⟩
 obtain ⟨x, h5, b, rfl, h6⟩ := h4 i hi
 exact ⟨b, h5, b, rfl, h6⟩
theorem LooksB.later {P : Int → Prop} {W W' : World} {lo ob cap R C : Nat} (h : LooksB P W lo ob cap R C) (hb : Below W.heap.size W W') : LooksB P W' lo ob cap R C :=
 ⟨h.lo1, h.bk.later hb, fun i hi => by
  obtain ⟨b, h1, h2⟩ := h.rows i hi
  exact ⟨b, cellB hb h1, h2.later hb⟩⟩
theorem LooksB.set {P : Int → Prop} {W : World} {lo ob cap R C b n j : Nat} (h : LooksB P W lo ob cap R C) (hb : BlkT W b n 3) {z : Int} (hz : P z) : LooksB P (W.setCell ⟨b, j, none⟩ (.int .i64 z)) lo ob cap R C :=
 ⟨h.lo1, h.bk.set _ _, fun i hi => by
  obtain ⟨b', h1, h2⟩ := h.rows i hi
  exact ⟨b', cs_other h1 (hb.ne h.bk (by decide)), h2.set _ _ hz⟩⟩
set_option maxHeartbeats 4000000 in
theorem looks_any (P : Int → Prop) (h0 : P 0) (hPW : ∀ x, P x → WAttr x) (w : World) (lo R C : Nat) (v : Value) (cell : Nat → Nat → Cl) (hr : RowsAt w lo v R C cell) (hR1 : 1 ≤ R) (hR : R ≤ 255) (hC1 : 1 ≤ C) (hC : C ≤ 255) (hc : ∀ i j, i < R → j < C → CellP P (cell i j)) :
  Calls Tryz.prog 28 #[.int .i64 3, v] w fun e w' => ∃ ob cap, e = .returned (.slice (some ⟨ob, 0, none⟩) R cap) ∧ LooksB P w' w.heap.size ob cap R C ∧ Below w.heap.size w w' := by
 have HK := Lib.hid (look_any P h0 w lo R C v cell hr hR1 hR hC1 hC hc)
 obtain ⟨ob, rfl, hob, hrows⟩ := hr
 have HR := Lib.hid (fun i (hi : i < R) => (show ∃ b cap, (∀ W, Below w.heap.size w W → W.cell? ⟨ob, i, none⟩ = some (.slice (some ⟨b, 0, none⟩) C cap)) ∧ (∀ W, Below w.heap.size w W → CellsAt W b C (cell i)) ∧ b < w.heap.size from by
  obtain ⟨b, cap, h1, h2, h3⟩ := hrows i hi
  exact ⟨b, cap, fun W hb => cellB hb h1, fun W hb j hj => ⟨cellB hb (h3 j hj).1, cellB hb (h3 j hj).2.1, cellB hb (h3 j hj).2.2.1, cellB hb (h3 j hj).2.2.2⟩, blt (h3 0 (by omega)).1⟩))
 have HPW := Lib.hid hPW
 clear hrows hc h0 hPW
 go_enter Tryz.func28, Tryz.ntmps28
 go_wp2_with fail
 refine HK.out.mono ?_
 rintro e w1 ⟨v1, rfl, hl, b1⟩
 obtain ⟨lb, lc, rfl, hL⟩ := hl.b
 have HL1 := Lib.hid hL
 have HB1 := Lib.hid b1
 clear hl hL b1 HK
 go_wp2_with fail
 go_loopw [14] (fun s14 wr => ∃ k : Nat, k ≤ R ∧ s14 = .int .i64 (k : Int) ∧ Hid (LooksB P wr w.heap.size lb lc R C) ∧ Hid (Below w.heap.size w wr)) (fun i _ => R - (intOf i).toNat)
 case atStart => exact ⟨0, Nat.zero_le _, rfl, HL1, HB1⟩
 case round =>
  clear HL1 HB1
  obtain ⟨k, hk, rfl, HL, HB⟩ := hrel
  by_cases hlt : k < R
  ·have q1 : (k : Int) < (R : Int) := by omega
   obtain ⟨rb, rcap, r0', r1, r2⟩ := HR.out k hlt
   have r0 := r0' wr HB.out
   have R1 := Lib.hid r1
   clear r1 r0'
   go_wp2_with fail
   clear r0
   go_loopw [21] (fun s21 wx => ∃ j : Nat, j ≤ C ∧ s21 = .int .i64 (j : Int) ∧ Hid (LooksB P wx w.heap.size lb lc R C) ∧ Hid (Below w.heap.size w wx)) (fun i _ => C - (intOf i).toNat)
   case atStart => exact ⟨0, Nat.zero_le _, rfl, HL, HB⟩
   case round =>
    clear HL HB
    obtain ⟨j, hj, rfl, HL, HB⟩ := hrel
    by_cases hlt2 : j < C
    ·have q2 : (j : Int) < (C : Int) := by omega
     obtain ⟨c0, c1, c2, c3⟩ := R1.out wr HB.out j hlt2
     generalize cell k j = x at c0 c1 c2 c3
     have hlc := blt c0
     go_wp2_with fail
     refine gen_wp ?_
     intro u hu0
     have FBu : Below wr.heap.size wr u := by rw [hu0]; exact bel_alloc (Below.refl _ _) _
     have HLu := HL.out.later FBu
     have HBu := Lib.hid (bel_call HB.out FBu)
     obtain ⟨b, l0, b', hbe, hlb, hbk, hz⟩ := HLu.rows k hlt
     cases hbe
     obtain ⟨z, z0, hPz⟩ := hz j hlt2
     obtain ⟨_, -, zf⟩ := hbk.blk.get j hlt2
     have hne : b ≠ lb := hbk.ne HLu.bk (by decide)
     have HKp := Lib.hid (fun W => keep_wattr z (HPW.out z hPz) W)
     have HN := Lib.hid (HLu.set (j := j) hbk hPz)
     have hsw := HBu.out.size
     have HNB := Lib.hid (bel_set HBu.out (p := ⟨b, j, none⟩) hlb (.int .i64 z))
     clear hu0 FBu HLu HL HB c0 c1 c2 c3 hlb hbk hz hPz hlc
     refine wp_region_held_drew (S := fun W' => W'.cell? ⟨lb, k, none⟩ = some (.slice (some ⟨b, 0, none⟩) C C) ∧ W'.cell? ⟨b, j, none⟩ = some (.int .i64 z) ∧ W'.frozen? ⟨b, j, none⟩ = false) (by kernel_rfl) (⟨l0, z0, zf⟩) (fun hHeld => ?_)
     refine sY 0 36 ?_
     refine sY 1 37 ?_
     refine sY 2 38 ?_
     refine sY 3 39 ?_
     refine sY 4 40 ?_
     refine sY 5 41 ?_
     refine sY 6 42 ?_
     refine sY 7 43 ?_
     refine sY 8 44 ?_
     refine sY 9 45 ?_
     refine sY 10 46 ?_
     refine sY 11 47 ?_
     refine sY 12 48 ?_
     refine sO 13 fun K hK => ?_
     go_simp
     refine (HKp.out _).mono ?_
     rintro e w2 ⟨rfl, rfl⟩
     (try go_wp2_with fail)
     refine hK.out _ _ ?_ (fun hHeld => ?_)
     ·exact hHeld
     clear hK K
     try simp only [Act.put, List.setIfInBounds_toArray, List.set_cons_zero, List.set_cons_succ]
     refine sY 14 50 ?_
     refine sO 15 fun K hK => ?_
     have zz := hHeld.2.2
     have zc : u.cell? ⟨b, j, none⟩ = some (.int .i64 z) := hHeld.2.1
     go_simp
     (try go_wp2_with fail)
     refine hK.out _ _ ?_ (fun hHeld => ?_)
     ·exact ⟨cs_other hHeld.1 hne, World.cell?_setCell_same' _ _ _ (by first | (rw [zc]; rfl) | (rw [hHeld.2.1]; rfl)), by first | simpa using hHeld.2.2 | (rw [World.frozen?_setCell]; exact hHeld.2.2)⟩
     clear hK K
     try simp only [Act.put, List.setIfInBounds_toArray, List.set_cons_zero, List.set_cons_succ]
     refine wpAnyH_done (by kernel_rfl) ?_ _
     have HN2 := Lib.hid (HN.out.later (Below.refl _ _).drew)
     have HNB2 := Lib.hid HNB.out.drew
     clear HN HNB HBu hHeld l0 z0 zf
     go_wp2_with fail
     go_roundw
     case rel => exact ⟨j + 1, by omega, by go_num, Lib.hid HN2.out, Lib.hid HNB2.out⟩
     case measure => simp [intOf]; omega
    ·obtain rfl : C = j := by omega
     go_wp2_with fail
     go_roundw
     case rel => exact ⟨k + 1, by omega, by go_num, HL, HB⟩
     case measure => simp [intOf]; omega
  ·go_wp2_with fail
   go_ret
   exact ⟨_, _, rfl, HL.out, HB.out⟩
end Go.Proofs.YtpjooboohelffaaGreatDoor
/- Top: snap.Take, at a Wyse 60. -/
namespace Go.Proofs.YtpjooboohelffaaGreatDoor
open Go.RowKit Go.Shelf T05
set_option linter.unusedVariables false
set_option linter.unusedSimpArgs false
set_option maxRecDepth 100000
/-- A shot's value. -/
def shotV (R C r c : Int) (a b s : Value) : Value := .agg #[.int .i64 3, .int .i64 R, .int .i64 C, .int .i64 r, .int .i64 c, .bool false, a, b, s]
/-- What a shot is. -/
structure TakeP (P : Int → Prop) (R C : Nat) (cell : Nat → Nat → Cl) (S : Int → Bool) (w w' : World) (a b s : Value) : Prop where
 rows : RowsAt w' w.heap.size a R C cell
 lks : ∃ ob cap, b = .slice (some ⟨ob, 0, none⟩) R cap ∧ LooksB P w' w.heap.size ob cap R C
 sts : OwnI w' w.heap.size s (rise C S)
 bel : Below w.heap.size w w'
theorem ownI_shape {w : World} {base : Nat} {v : Value} {l : List Int} (h : OwnI w base v l) : ∃ ad cap, v = .slice ad l.length cap := by
 rcases h.2 with ⟨rfl, h0⟩ | ⟨g, cap, cur, hv, _⟩
 ·exact ⟨none, 0, by rw [h0]⟩
 ·exact ⟨_, _, hv⟩
theorem RowsAt.far {W W' : World} {lo lo' R C : Nat} {v : Value} {cell : Nat → Nat → Cl} (h : RowsAt W lo v R C cell) (hC : 1 ≤ C) (hl : lo' ≤ lo) (hk : ∀ k, lo ≤ k → k < W.heap.size → W'.heap[k]? = W.heap[k]?) : RowsAt W' lo' v R C cell := by
 obtain ⟨ob, h1, h2, h3⟩ := h
 refine ⟨ob, h1, Nat.le_trans hl h2, fun i hi => ?_⟩
 obtain ⟨b, cap, a1, a2, a3⟩ := h3 i hi
 have e1 := hk ob h2 (blt a1)
 have e2 := hk b a2.1 (blt (a3 0 (by omega)).1)
 exact ⟨b, cap, (World.cell?_of_block (a := ⟨ob, i, none⟩) e1).trans a1, ⟨Nat.le_trans hl a2.1, a2.2⟩, a3.to e2⟩
theorem LooksB.far {P : Int → Prop} {W W' : World} {lo lo' ob cap R C : Nat} (h : LooksB P W lo ob cap R C) (hl : lo' ≤ lo) (hk : ∀ k, lo ≤ k → k < W.heap.size → W'.heap[k]? = W.heap[k]?) : LooksB P W' lo' ob cap R C := by
 refine ⟨Nat.le_trans hl h.lo1, h.bk.to (hk _ h.lo1 h.bk.blk.lt), fun i hi => ?_⟩
 obtain ⟨b, h1, b', hb, h2, h3, h4⟩ := h.rows i hi
 cases hb
 have e := hk b h2 h3.blk.lt
 refine ⟨b, (World.cell?_of_block (a := ⟨ob, i, none⟩) (hk _ h.lo1 h.bk.blk.lt)).trans h1, b, rfl, Nat.le_trans hl h2, h3.to e, fun j hj => ?_⟩
 obtain ⟨z, h5, h6⟩ := h4 j hj
 exact ⟨z, (World.cell?_of_block (a := ⟨b, j, none⟩) e).trans h5, h6⟩
theorem ownI_far {W W' : World} {lo lo' : Nat} {v : Value} {l : List Int} (h : OwnI W lo v l) (hl : lo' ≤ lo) (hk : ∀ k, lo ≤ k → k < W.heap.size → W'.heap[k]? = W.heap[k]?) : OwnI W' lo' v l := by
 refine ⟨h.1, ?_⟩
 rcases h.2 with h0 | ⟨g, cap, cur, hv, hg, hh, r⟩
 ·exact .inl h0
 ·exact .inr ⟨g, cap, cur, hv, Nat.le_trans hl hg, (hk g hg (Array.getElem?_eq_some_iff.1 hh).1).trans hh, r⟩
set_option maxHeartbeats 4000000 in
theorem take_any {K : Nat → Prop} {L : Lay} {rs : Nat → Nat} {cell : Nat → Nat → Cl} {r c : Int} {S : Int → Bool} (P : Int → Prop) (h0 : P 0) (hPW : ∀ x, P x → WAttr x) (w : World) (h : Scr K L w rs cell r c S) (hc : ∀ i j, i < L.R → j < L.C → CellP P (cell i j)) :
  Calls Tryz.prog 10 #[.int .i64 3, .pointer (some ⟨L.sb, 0, none⟩)] w fun e w' => ∃ a b s, e = .returned (.tuple #[shotV L.R L.C r c a b s, .int .i64 0]) ∧ TakeP P L.R L.C cell S w w' a b s := by
 have HN := Lib.hid (fun W => name3 W)
 have HS := Lib.hid (fun W (hb : Below w.heap.size w W) => s_size W (h.later hb))
 have HR := Lib.hid (fun W (hb : Below w.heap.size w W) => s_rows W (h.later hb))
 have HL := Lib.hid (fun W (hb : Below w.heap.size w W) => s_listed W (h.later hb))
 have HC := Lib.hid (fun W (hb : Below w.heap.size w W) => s_cursor W (h.later hb))
 have HK := Lib.hid (fun W lo v (hr : RowsAt W lo v L.R L.C cell) => looks_any P h0 hPW W lo L.R L.C v cell hr h.gr.r1 h.gr.r2 h.gr.c1 h.gr.c2 hc)
 have HC1 := Lib.hid h.gr.c1
 clear h hc h0 hPW
 go_enter Tryz.func10, Tryz.ntmps10
 go_wp2_with fail
 refine (HN.out _).mono ?_
 rintro e w1 ⟨rfl, rfl⟩
 go_wp2_with fail
 refine gen_calls ?_
 intro wa hwa
 have hba : Blk wa w.heap.size 9 := by rw [hwa]; exact Blk.new rfl rfl
 have Ba := Lib.hid (show Below w.heap.size w wa from by rw [hwa]; exact bel_alloc (Below.refl _ _) _)
 have hza : wa.heap.size = w.heap.size + 1 := by rw [hwa]; simp
 have Hza := Lib.hid hza
 clear hwa hza
 refine (HS.out _ Ba.out).mono ?_
 rintro e w2 ⟨rfl, b2⟩
 have hb2 := hba.later b2
 have Hb2 := Lib.hid hb2
 have B2 := Lib.hid (bel_call Ba.out b2)
 have z2 := b2.size
 clear b2 hb2 hba
 go_wp2_with fail
 refine (HR.out _ B2.out).mono ?_
 rintro e w3 ⟨v, rfl, hrows, b3⟩
 have B3 := Lib.hid (bel_call B2.out b3)
 have z3 := b3.size
 have Hb3 := Lib.hid (Hb2.out.later b3)
 have HRW := Lib.hid hrows
 have hob := hrows
 obtain ⟨ob, rfl, -⟩ := hob
 clear hrows b3
 go_wp2_with fail
 refine (HL.out _ B3.out).mono ?_
 rintro e w4 ⟨sv, rfl, hown, b4⟩
 have B4 := Lib.hid (bel_call B3.out b4)
 have z4 := b4.size
 have Hb4 := Lib.hid (Hb3.out.later b4)
 obtain ⟨ad, cp, hsv⟩ := ownI_shape hown
 subst hsv
 have HOW := Lib.hid hown
 have HR4 := Lib.hid (HRW.out.later b4)
 clear hown b4 HRW
 go_wp2_with fail
 refine gen_calls ?_
 intro u hu0
 have Hu := Lib.hid (show Below w4.heap.size w4 u from by rw [hu0]; exact bel_alloc (Below.refl _ _) _)
 have u0 : u.cell? ⟨w4.heap.size, 0, none⟩ = some (.int .i64 3) := by rw [hu0]; simp [go_sem]
 have u1 : u.cell? ⟨w4.heap.size, 1, none⟩ = some (.int .i64 L.R) := by rw [hu0]; simp [go_sem]
 have u2 : u.cell? ⟨w4.heap.size, 2, none⟩ = some (.int .i64 L.C) := by rw [hu0]; simp [go_sem]
 have u6 : u.cell? ⟨w4.heap.size, 6, none⟩ = some (.slice (some ⟨ob, 0, none⟩) L.R L.R) := by rw [hu0]; simp [go_sem]
 have u8 : u.cell? ⟨w4.heap.size, 8, none⟩ = some (.slice ad (rise L.C S).length cp) := by rw [hu0]; simp [go_sem]
 have hbu : Blk u w4.heap.size 9 := by rw [hu0]; exact Blk.new rfl rfl
 clear hu0
 refine (HC.out _ (bel_call B4.out Hu.out)).mono ?_
 rintro e w5 ⟨rfl, b5⟩
 have hb5 := hbu.later b5
 have v0 := cellB b5 u0
 have v1 := cellB b5 u1
 have v2 := cellB b5 u2
 have v6 := cellB b5 u6
 have v8 := cellB b5 u8
 obtain ⟨x3, y3, f3⟩ := hb5.get 3 (by decide)
 obtain ⟨x4, y4, f4⟩ := hb5.get 4 (by decide)
 obtain ⟨x5, y5, f5⟩ := hb5.get 5 (by decide)
 obtain ⟨x7, y7, f7⟩ := hb5.get 7 (by decide)
 have hlb := hb5.lt
 have Hb5 := Lib.hid ((Hb4.out.later Hu.out).later b5)
 have B5 := Lib.hid (bel_call Hu.out b5)
 clear b5 u0 u1 u2 u6 u8 hbu hb5 Hu
 go_wp2_with fail
 refine gen_calls ?_
 intro q hq0
 have t0 : q.cell? ⟨w4.heap.size, 0, none⟩ = some (.int .i64 3) := by rw [hq0]; simp [go_sem, v0]
 have t1 : q.cell? ⟨w4.heap.size, 1, none⟩ = some (.int .i64 L.R) := by rw [hq0]; simp [go_sem, v1]
 have t2 : q.cell? ⟨w4.heap.size, 2, none⟩ = some (.int .i64 L.C) := by rw [hq0]; simp [go_sem, v2]
 have t3 : q.cell? ⟨w4.heap.size, 3, none⟩ = some (.int .i64 r) := by rw [hq0]; simp [go_sem, y3, y4, y5]
 have t4 : q.cell? ⟨w4.heap.size, 4, none⟩ = some (.int .i64 c) := by rw [hq0]; simp [go_sem, y3, y4, y5]
 have t5 : q.cell? ⟨w4.heap.size, 5, none⟩ = some (.bool false) := by rw [hq0]; simp [go_sem, y3, y4, y5]
 have t6 : q.cell? ⟨w4.heap.size, 6, none⟩ = some (.slice (some ⟨ob, 0, none⟩) L.R L.R) := by rw [hq0]; simp [go_sem, v6]
 have t7 : q.cell? ⟨w4.heap.size, 7, none⟩ = some x7 := by rw [hq0]; simp [go_sem, y7]
 have t8 : q.cell? ⟨w4.heap.size, 8, none⟩ = some (.slice ad (rise L.C S).length cp) := by rw [hq0]; simp [go_sem, v8]
 have g7 : q.frozen? ⟨w4.heap.size, 7, none⟩ = false := by rw [hq0]; simp [go_sem, f7]
 have Bq := Lib.hid (show Below w4.heap.size w4 q from by rw [hq0]; exact bel_set (bel_set (bel_set B5.out (Nat.le_refl _) _) (Nat.le_refl _) _) (Nat.le_refl _) _)
 have Hbq := Lib.hid (show Blk q w.heap.size 9 from by rw [hq0]; exact ((Hb5.out.set _ _).set _ _).set _ _)
 have HRq := Lib.hid (HR4.out.later Bq.out)
 clear hq0 v0 v1 v2 v6 v8 y3 y4 y5 y7 f3 f4 f5 f7 Hb5
 refine (HK.out q _ _ HRq.out).mono ?_
 rintro e w7 ⟨lo7, lc7, rfl, hlk, b7⟩
 have s0 := cellB b7 t0
 have s1 := cellB b7 t1
 have s2 := cellB b7 t2
 have s3 := cellB b7 t3
 have s4 := cellB b7 t4
 have s5 := cellB b7 t5
 have s6 := cellB b7 t6
 have s7 := cellB b7 t7
 have s8 := cellB b7 t8
 have zq := Bq.out.size
 have hqs := blt t0
 have z7 := b7.size
 have fr7 : w7.frozen? ⟨w4.heap.size, 7, none⟩ = false := (b7.frozen (p := ⟨w4.heap.size, 7, none⟩) (blt t7)).trans g7
 have hb7 := Hbq.out.later b7
 obtain ⟨_, m0, n0⟩ := hb7.get 0 (by decide)
 obtain ⟨_, m1, n1⟩ := hb7.get 1 (by decide)
 obtain ⟨_, m2, n2⟩ := hb7.get 2 (by decide)
 obtain ⟨_, m3, n3⟩ := hb7.get 3 (by decide)
 obtain ⟨_, m4, n4⟩ := hb7.get 4 (by decide)
 obtain ⟨_, m5, n5⟩ := hb7.get 5 (by decide)
 obtain ⟨_, m6, n6⟩ := hb7.get 6 (by decide)
 obtain ⟨_, m7, n7⟩ := hb7.get 7 (by decide)
 obtain ⟨_, m8, n8⟩ := hb7.get 8 (by decide)
 have hza := Hza.out
 have hne : w4.heap.size ≠ w.heap.size := by omega
 have hne2 : w.heap.size ≠ w4.heap.size := by omega
 have HLK := Lib.hid hlk
 have B7 := Lib.hid b7
 clear b7 hlk t0 t1 t2 t3 t4 t5 t6 t7 t8 g7 hb7 Hbq hza
 go_wp2_with fail
 refine bodyPost_ret (v := .tuple #[shotV L.R L.C r c (.slice (some ⟨ob, 0, none⟩) L.R L.R) (.slice (some ⟨lo7, 0, none⟩) L.R lc7) (.slice ad (rise L.C S).length cp), .int .i64 0]) (by simp [results, Tryz.results10, shotV, go_sem, m0, m1, m2, m3, m4, m5, m6, m7, m8]) rfl ?_
 refine ⟨_, _, _, rfl, ?_⟩
 have hza := Hza.out
 have c7 : ∀ k, w.heap.size < k → k < w4.heap.size → w7.heap[k]? = w4.heap[k]? := fun k h1 h2 => (B7.out.block k (by omega)).trans (Bq.out.block k h2)
 have cF : ∀ k, k ≠ w4.heap.size → k ≠ w.heap.size → ((((((((((w7.setCell ⟨w4.heap.size, 7, none⟩ (Value.slice (some ⟨lo7, 0, none⟩) L.R lc7)).setCell ⟨w.heap.size, 0, none⟩ (.int .i64 3)).setCell ⟨w.heap.size, 1, none⟩ (.int .i64 L.R)).setCell ⟨w.heap.size, 2, none⟩ (.int .i64 L.C)).setCell ⟨w.heap.size, 3, none⟩ (.int .i64 r)).setCell ⟨w.heap.size, 4, none⟩ (.int .i64 c)).setCell ⟨w.heap.size, 5, none⟩ (.bool false)).setCell ⟨w.heap.size, 6, none⟩ (.slice (some ⟨ob, 0, none⟩) L.R L.R)).setCell ⟨w.heap.size, 7, none⟩ (.slice (some ⟨lo7, 0, none⟩) L.R lc7)).setCell ⟨w.heap.size, 8, none⟩ (.slice ad (rise L.C S).length cp)).heap[k]? = w7.heap[k]? := fun k h1 h2 => by
  repeat rw [Below.heap_setCell _ _ _ _ (by simpa using h2)]
  rw [Below.heap_setCell _ _ _ _ (by simpa using h1)]
 refine ⟨HR4.out.far HC1.out (by omega) (fun k h1 h2 => (cF k (by omega) (by omega)).trans (c7 k (by omega) h2)), ⟨_, _, rfl, HLK.out.far (by omega) (fun k h1 h2 => cF k (by omega) (by omega))⟩, ownI_far HOW.out (by omega) (fun k h1 h2 => (cF k (by omega) (by omega)).trans (c7 k (by omega) h2)), ?_⟩
 repeat refine bel_set ?_ (by first | exact Nat.le_refl _ | (simp only []; omega)) _
 exact bel_call (bel_call B4.out Bq.out) B7.out
end Go.Proofs.YtpjooboohelffaaGreatDoor
/- Top: snap.Print, of a shot in which nothing stands out. -/
namespace Go.Proofs.YtpjooboohelffaaGreatDoor
open Go.RowKit Go.Shelf
set_option linter.unusedVariables false
set_option linter.unusedSimpArgs false
set_option maxRecDepth 100000
attribute [local go_sem] Oper.semAt_some
theorem isb_later {B b : Nat} {bs : List Value} {w W : World} (h : Lib.IsBuilderF 92 5 B b bs w) (hb : Below w.heap.size w W) : Lib.IsBuilderF 92 5 B b bs W := by
 have hg : w.grownBy W none := ⟨hb.os, hb.tape, hb.output, hb.size, fun k hk _ => hb.block k hk⟩
 have key : ∀ p, Lib.BuilderAtF 92 5 B b p bs w → Lib.BuilderAtF 92 5 B b p bs W := by
  rintro p ⟨h1, v, h2, h3, h4⟩
  exact ⟨h1, v, (hb.block b (Array.getElem?_eq_some_iff.1 h2).1).trans h2, h3.kept hg (by cases hc : v.ownBlock with | none => exact .inl rfl | some k => exact .inr (by simp)), h4⟩
 exact h.elim (fun h => .inl (key _ h)) (fun h => .inr (key _ h))
theorem oth_below {b : Option Nat} {w W : World} (hb : Below w.heap.size w W) : Lib.OthersKept 5 b w W := fun k o hk _ _ => (hb.block k (Array.getElem?_eq_some_iff.1 hk).1).trans hk
theorem Wrote.later {B b : Nat} {bs : List Value} {u w W : World} (h : Wrote B b bs u w) (hBu : B ≤ u.heap.size) (hb : Below w.heap.size w W) : Wrote B b bs u W :=
 ⟨isb_later h.isb hb, h.bel.trans (hb.mono (Nat.le_trans hBu h.bel.size)), h.oth.trans (oth_below hb)⟩
/-- A list put. -/
theorem ps_put {B b : Nat} {bs : List Value} {u W : World} (l : List It) (h : Wrote B b bs u W) (hBu : B ≤ u.heap.size) (hbB : b < W.heap.size) (hok : ∀ i ∈ l, i.ok) (hl : l.length ≤ 100) (hlen : bs.length ≤ 1000000) :
  Calls Tryz.prog 39 #[.slice (some ⟨W.heap.size, 0, none⟩) l.length l.length, .pointer (some ⟨b, 0, none⟩)] (W.alloc (.cells (l.map It.v).toArray 20)) fun e w' => e = .returned (.tuple #[]) ∧ Wrote B b (bs ++ l.flatMap itC) u w' := by
 have h1 := h.later hBu (bel_alloc (Below.refl _ _) (.cells (l.map It.v).toArray 20))
 refine (put_any B b W.heap.size l bs _ h1.isb hok hl hlen (Nat.le_trans hBu h1.bel.size) (by omega) ⟨_, heap_alloc_new W _, by simp⟩ (fun i hi => ?_)).mono fun e w' ⟨e1, e2⟩ => ⟨e1, h1.trans e2⟩
 rw [World.cell?_alloc_new]
 simp [hi]
theorem runs_fn (w : World) (R C r c : Int) (a b s : Value) (ha : ∃ x n m, a = .slice x n m) (hb : ∃ x n m, b = .slice x n m) (hs : ∃ x n m, s = .slice x n m) :
  Calls Tryz.prog 43 #[shotV R C r c a b s] w fun e w' => e = .returned (.func (.func 67) #[] #[.pointer (some ⟨w.heap.size, 0, none⟩)]) ∧ w' = w.alloc (.cells #[.int .i64 3, .int .i64 R, .int .i64 C, .int .i64 r, .int .i64 c, .bool false, a, b, s] 41) := by
 obtain ⟨_, _, _, rfl⟩ := ha
 obtain ⟨_, _, _, rfl⟩ := hb
 obtain ⟨_, _, _, rfl⟩ := hs
 unfold shotV
 go_enter Tryz.func43, Tryz.ntmps43
 go_wp2_with fail
 go_ret
 exact ⟨rfl, rfl⟩
theorem byte_list (l : List It) : Lib.byteCells (l.flatMap fun i => i.t.data.toList) = l.flatMap itC := by
 induction l with
 | nil => rfl
 | cons x l ih =>
  simp only [List.flatMap_cons, ← ih]
  unfold Lib.byteCells
  rw [List.map_append]
  rfl
/-- What is put ahead of the first k rows' end. -/
def prL (R C rr cc : Nat) (ch : Nat → Nat → UInt8) (k : Nat) : List It := [.s ⟨#[119, 121, 115, 101]⟩, .s ⟨#[32]⟩, .n R, .s ⟨#[120]⟩, .n C, .s ⟨#[32]⟩, .n rr, .s ⟨#[44]⟩, .n cc] ++ [.s ⟨#[10]⟩] ++ (List.range k).flatMap (fun i => [.s ⟨#[124]⟩, .s (rowT C (ch i)), .s ⟨#[124, 10]⟩])
theorem prL_succ (R C rr cc : Nat) (ch : Nat → Nat → UInt8) (k : Nat) : prL R C rr cc ch (k + 1) = prL R C rr cc ch k ++ [.s ⟨#[124]⟩, .s (rowT C (ch k)), .s ⟨#[124, 10]⟩] := by
 simp only [prL, List.range_succ, List.flatMap_append, List.append_assoc]
 simp
theorem rowT_size (C : Nat) (ch : Nat → UInt8) : (rowT C ch).size = C := by
 show (((List.range C).map ch).toArray).size = C
 simp
theorem prL_ok (R C rr cc : Nat) (ch : Nat → Nat → UInt8) (k : Nat) (hR : R < 100) (hC : C < 100) (hrr : rr < 100) (hcc : cc < 100) : ∀ i ∈ prL R C rr cc ch k, i.ok := by
 intro i hi
 simp only [prL, List.mem_append, List.mem_cons, List.not_mem_nil, or_false, List.mem_flatMap] at hi
 rcases hi with ((rfl | rfl | rfl | rfl | rfl | rfl | rfl | rfl | rfl) | rfl) | ⟨j, hj, rfl | rfl | rfl⟩ <;> first | (show ByteArray.size _ ≤ 1000; rw [rowT_size]; omega) | (show ByteArray.size _ ≤ 1000; decide) | (show _ < 100; omega)
theorem prL_len (R C rr cc : Nat) (ch : Nat → Nat → UInt8) (k : Nat) (hR : R < 100) (hC : C < 100) (hrr : rr < 100) (hcc : cc < 100) : ((prL R C rr cc ch k).flatMap itC).length ≤ 1000 * (10 + 3 * k) := by
 refine Nat.le_trans (put_len _ (prL_ok R C rr cc ch k hR hC hrr hcc)) ?_
 refine Nat.mul_le_mul_left _ ?_
 have : ((List.range k).flatMap (fun i => ([.s ⟨#[124]⟩, .s (rowT C (ch i)), .s ⟨#[124, 10]⟩] : List It))).length = 3 * k := by
  induction k with
  | zero => rfl
  | succ k ih => rw [List.range_succ, List.flatMap_append, List.length_append, ih]; simp; omega
 simp only [prL, List.length_append, List.length_cons, List.length_nil, this]
 omega
set_option maxHeartbeats 4000000 in
theorem print_any (w : World) (R C rr cc : Nat) (hR1 : 1 ≤ R) (hC1 : 1 ≤ C) (hR : R < 100) (hC : C < 100) (hrr : rr < 100) (hcc : cc < 100) (ob lob lc sc : Nat) (sa : Option Addr) (lo lo' : Nat) (cell : Nat → Nat → Cl) (ch : Nat → Nat → UInt8)
  (hd : ∀ i j, i < R → j < C → (cell i j).d = false) (hch : ∀ i, i < R → Byt C (cell i) (ch i)) (hrows : RowsAt w lo (.slice (some ⟨ob, 0, none⟩) R R) R C cell) (hlk : LooksB (fun x => x = 0) w lo' lob lc R C) :
  Calls Tryz.prog 21 #[shotV R C rr cc (.slice (some ⟨ob, 0, none⟩) R R) (.slice (some ⟨lob, 0, none⟩) R lc) (.slice sa 0 sc)] w fun e w' => e = .returned (.string ⟨((prL R C rr cc ch R).flatMap fun i => i.t.data.toList).toArray⟩) ∧ Below w.heap.size w w' := by
 unfold shotV
 refine (callsIn_wide (n := 3)).1 (callsIn_of_wp_marks Tryz.func21 rfl trivial ?_ rfl)
 simp only [Tryz.ntmps21, List.size_toArray, List.length_cons, List.length_nil, Nat.reduceAdd, Nat.reduceSub, Array.replicate_succ, Array.replicate_zero, List.push_toArray, List.append_toArray, List.nil_append, List.cons_append]
 refine wpIn_wide.2 ?_
 go_wp2_with fail
 refine gen_wp ?_
 intro u hu0
 have Bu : Below w.heap.size w u := by rw [hu0]; exact bel_alloc (bel_alloc (bel_alloc (Below.refl _ _) _) _) _
 have hzu : u.heap.size = w.heap.size + 3 := by rw [hu0]; simp
 have hW0 : Wrote (w.heap.size + 1) (w.heap.size + 1) [] u u := ⟨isb_later (w := (w.alloc (.cells #[.int .i64 3, .int .i64 R, .int .i64 C, .int .i64 rr, .int .i64 cc, .bool false, .slice (some ⟨ob, 0, none⟩) R R, .slice (some ⟨lob, 0, none⟩) R lc, .slice sa 0 sc] 41)).alloc (.cells #[.pointer none, .slice none 0 0] 92)) (by simpa using Lib.IsBuilderF.of (Lib.fresh_isBuilder 92 5 (w.alloc (.cells #[.int .i64 3, .int .i64 R, .int .i64 C, .int .i64 rr, .int .i64 cc, .bool false, .slice (some ⟨ob, 0, none⟩) R R, .slice (some ⟨lob, 0, none⟩) R lc, .slice sa 0 sc] 41)))) (by rw [hu0]; exact bel_alloc (Below.refl _ _) _), Below.refl _ _, Lib.OthersKept.refl _ _ _⟩
 have hfu : BlkT u (w.heap.size + 1 + 1) 1 98 := by rw [hu0]; refine ⟨_, by first | exact heap_alloc_new _ _ | (simpa using heap_alloc_new ((w.alloc (.cells #[.int .i64 3, .int .i64 R, .int .i64 C, .int .i64 rr, .int .i64 cc, .bool false, .slice (some ⟨ob, 0, none⟩) R R, .slice (some ⟨lob, 0, none⟩) R lc, .slice sa 0 sc] 41)).alloc (.cells #[.pointer none, .slice none 0 0] 92)) (.cells #[.func (.func 39) #[] #[.pointer (some ⟨w.heap.size + 1, 0, none⟩)]] 98)), rfl⟩
 have hF0 : u.cell? ⟨w.heap.size, 0, none⟩ = some (.int .i64 3) ∧ u.cell? ⟨w.heap.size, 1, none⟩ = some (.int .i64 R) ∧ u.cell? ⟨w.heap.size, 2, none⟩ = some (.int .i64 C) ∧ u.cell? ⟨w.heap.size, 3, none⟩ = some (.int .i64 rr) ∧ u.cell? ⟨w.heap.size, 4, none⟩ = some (.int .i64 cc) ∧ u.cell? ⟨w.heap.size, 5, none⟩ = some (.bool false) ∧ u.cell? ⟨w.heap.size, 6, none⟩ = some (.slice (some ⟨ob, 0, none⟩) R R) ∧ u.cell? ⟨w.heap.size, 7, none⟩ = some (.slice (some ⟨lob, 0, none⟩) R lc) ∧ u.cell? ⟨w.heap.size, 8, none⟩ = some (.slice sa 0 sc) ∧ u.cell? ⟨w.heap.size + 1 + 1, 0, none⟩ = some (.func (.func 39) #[] #[.pointer (some ⟨w.heap.size + 1, 0, none⟩)]) := by
  rw [hu0]
  refine ⟨?_, ?_, ?_, ?_, ?_, ?_, ?_, ?_, ?_, ?_⟩ <;> simp [go_sem]
 have HF := Lib.hid (fun bs W (hw : Wrote (w.heap.size + 1) (w.heap.size + 1) bs u W) => (show W.cell? ⟨w.heap.size, 0, none⟩ = some (.int .i64 3) ∧ W.cell? ⟨w.heap.size, 1, none⟩ = some (.int .i64 R) ∧ W.cell? ⟨w.heap.size, 2, none⟩ = some (.int .i64 C) ∧ W.cell? ⟨w.heap.size, 3, none⟩ = some (.int .i64 rr) ∧ W.cell? ⟨w.heap.size, 4, none⟩ = some (.int .i64 cc) ∧ W.cell? ⟨w.heap.size, 5, none⟩ = some (.bool false) ∧ W.cell? ⟨w.heap.size, 6, none⟩ = some (.slice (some ⟨ob, 0, none⟩) R R) ∧ W.cell? ⟨w.heap.size, 7, none⟩ = some (.slice (some ⟨lob, 0, none⟩) R lc) ∧ W.cell? ⟨w.heap.size, 8, none⟩ = some (.slice sa 0 sc) ∧ W.cell? ⟨w.heap.size + 1 + 1, 0, none⟩ = some (.func (.func 39) #[] #[.pointer (some ⟨w.heap.size + 1, 0, none⟩)]) from by
  obtain ⟨f0, f1, f2, f3, f4, f5, f6, f7, f8, f9⟩ := hF0
  have hb : ∀ o, W.cell? ⟨w.heap.size, o, none⟩ = u.cell? ⟨w.heap.size, o, none⟩ := fun o => hw.bel.cell (p := ⟨w.heap.size, o, none⟩) (Nat.lt_succ_self _)
  exact ⟨(hb 0).trans f0, (hb 1).trans f1, (hb 2).trans f2, (hb 3).trans f3, (hb 4).trans f4, (hb 5).trans f5, (hb 6).trans f6, (hb 7).trans f7, (hb 8).trans f8, (World.cell?_of_block (a := ⟨w.heap.size + 1 + 1, 0, none⟩) (oth_cell hw.oth hfu (show w.heap.size + 1 + 1 ≠ w.heap.size + 1 by omega) (by decide))).trans f9⟩))
 have HN := Lib.hid (fun W => name3 W)
 have HRW := Lib.hid (fun bs W (hw : Wrote (w.heap.size + 1) (w.heap.size + 1) bs u W) i (hi : i < R) => (show ∃ b cap, W.cell? ⟨ob, i, none⟩ = some (.slice (some ⟨b, 0, none⟩) C cap) ∧ CellsAt W b C (cell i) from by
  obtain ⟨ob', h1, h2, h3⟩ := hrows
  cases h1
  obtain ⟨b, cap, a1, a2, a3⟩ := h3 i hi
  have hbb : Below w.heap.size w W := Bu.trans (hw.bel.mono (by omega))
  exact ⟨b, cap, cellB hbb a1, fun j hj => ⟨cellB hbb (a3 j hj).1, cellB hbb (a3 j hj).2.1, cellB hbb (a3 j hj).2.2.1, cellB hbb (a3 j hj).2.2.2⟩⟩))
 have Hch := Lib.hid hch
 have Hd := Lib.hid hd
 have Hlk := Lib.hid hlk
 have Hrows := Lib.hid hrows
 have Hzu := Lib.hid hzu
 have HBu := Lib.hid Bu
 have HW0 := Lib.hid hW0
 have hsw := Bu.size
 have HP0 : Hid (Calls Tryz.prog 39 #[.slice (some ⟨u.heap.size, 0, none⟩) 9 9, .pointer (some ⟨w.heap.size + 1, 0, none⟩)] (u.drew.alloc (.cells #[.iface 9 (.string ⟨#[119, 121, 115, 101]⟩), .iface 9 (.string ⟨#[32]⟩), .iface 3 (.int .i64 R), .iface 9 (.string ⟨#[120]⟩), .iface 3 (.int .i64 C), .iface 9 (.string ⟨#[32]⟩), .iface 3 (.int .i64 rr), .iface 9 (.string ⟨#[44]⟩), .iface 3 (.int .i64 cc)] 20)) fun e w' => e = .returned (.tuple #[]) ∧ Wrote (w.heap.size + 1) (w.heap.size + 1) (([] : List Value) ++ ([.s ⟨#[119, 121, 115, 101]⟩, .s ⟨#[32]⟩, .n R, .s ⟨#[120]⟩, .n C, .s ⟨#[32]⟩, .n rr, .s ⟨#[44]⟩, .n cc] : List It).flatMap itC) u w') :=
  Lib.hid (ps_put (u := u) (W := u.drew) [.s ⟨#[119, 121, 115, 101]⟩, .s ⟨#[32]⟩, .n R, .s ⟨#[120]⟩, .n C, .s ⟨#[32]⟩, .n rr, .s ⟨#[44]⟩, .n cc] (hW0.later (by omega) (Below.refl _ _).drew) (by omega) (show _ < u.heap.size by omega) (by
   intro i hi
   simp only [List.mem_cons, List.not_mem_nil, or_false] at hi
   rcases hi with rfl | rfl | rfl | rfl | rfl | rfl | rfl | rfl | rfl <;> first | (show ByteArray.size _ ≤ 1000; decide) | (show _ < 100; omega)) (show 9 ≤ 100 by decide) (show 0 ≤ 1000000 by decide))
 have Hlen := Lib.hid (fun k => prL_len R C rr cc ch k hR hC hrr hcc)
 have hFd := HF.out _ u.drew (hW0.later (by omega) (Below.refl _ _).drew)
 clear hu0 Bu hzu hW0 hfu hF0 hrows hlk hch hd
 refine wp_only ?_
 refine wp_region_held_drew (S := fun W => W.cell? ⟨w.heap.size, 0, none⟩ = some (.int .i64 3) ∧ W.cell? ⟨w.heap.size, 1, none⟩ = some (.int .i64 R) ∧ W.cell? ⟨w.heap.size, 2, none⟩ = some (.int .i64 C) ∧ W.cell? ⟨w.heap.size, 3, none⟩ = some (.int .i64 rr) ∧ W.cell? ⟨w.heap.size, 4, none⟩ = some (.int .i64 cc) ∧ W.cell? ⟨w.heap.size, 5, none⟩ = some (.bool false) ∧ W.cell? ⟨w.heap.size, 6, none⟩ = some (.slice (some ⟨ob, 0, none⟩) R R) ∧ W.cell? ⟨w.heap.size, 7, none⟩ = some (.slice (some ⟨lob, 0, none⟩) R lc) ∧ W.cell? ⟨w.heap.size, 8, none⟩ = some (.slice sa 0 sc) ∧ W.cell? ⟨w.heap.size + 1 + 1, 0, none⟩ = some (.func (.func 39) #[] #[.pointer (some ⟨w.heap.size + 1, 0, none⟩)])) (by kernel_rfl) (hFd) (fun hHeld => ?_)
 refine sY 0 11 ?_
 refine sY 1 12 ?_
 refine sY 2 13 ?_
 refine sY 5 16 ?_
 refine sY 6 17 ?_
 refine sY 7 18 ?_
 refine sY 8 19 ?_
 refine sY 9 20 ?_
 refine sY 10 21 ?_
 refine sY 11 22 ?_
 refine sY 12 23 ?_
 refine sY 13 24 ?_
 refine sY 14 25 ?_
 refine sY 15 26 ?_
 refine sY 16 27 ?_
 refine sY 17 28 ?_
 refine sY 18 29 ?_
 refine sY 19 30 ?_
 refine sY 20 31 ?_
 refine sY 21 32 ?_
 refine sY 22 33 ?_
 refine sY 23 34 ?_
 refine sY 24 35 ?_
 refine sO 3 fun K hK => ?_
 go_simp
 refine (HN.out _).mono ?_
 rintro e w1 ⟨rfl, rfl⟩
 (try go_wp2_with fail)
 refine hK.out _ _ ?_ (fun hHeld => ?_)
 ·exact hHeld
 clear hK K
 try simp only [Act.put, List.setIfInBounds_toArray, List.set_cons_zero, List.set_cons_succ]
 refine sY 4 15 ?_
 refine sO 25 fun K hK => ?_
 go_simp
 (try go_wp2_with fail)
 refine hK.out _ _ ?_ (fun hHeld => ?_)
 ·exact (HF.out [] _ (HW0.out.later (by have := Hzu.out; omega) (bel_alloc (Below.refl _ _).drew _)))
 clear hK K
 try simp only [Act.put, List.setIfInBounds_toArray, List.set_cons_zero, List.set_cons_succ]
 refine sO 26 fun K hK => ?_
 go_simp
 refine HP0.out.mono ?_
 rintro e w2 ⟨rfl, hw2⟩
 have HW1 := Lib.hid hw2
 clear hw2
 (try go_wp2_with fail)
 refine hK.out _ _ ?_ (fun hHeld => ?_)
 ·exact (HF.out _ _ HW1.out)
 clear hK K
 try simp only [Act.put, List.setIfInBounds_toArray, List.set_cons_zero, List.set_cons_succ]
 refine wpAnyH_done (by kernel_rfl) ?_ _
 dsimp only [OnlyNormal]
 obtain ⟨f0, f1, f2, f3, f4, f5, f6, f7, f8, f9⟩ := hHeld
 go_wp2_with fail
 have HP1 := ps_put (u := u) (W := w2) [.s ⟨#[10]⟩] HW1.out (by have := Hzu.out; omega) (by have := Hzu.out; have := HW1.out.bel.size; omega) (by intro i hi; simp only [List.mem_cons, List.not_mem_nil, or_false] at hi; subst hi; show ByteArray.size _ ≤ 1000; decide) (show 1 ≤ 100 by decide) (by
  have h1 := Hlen.out 0
  have h2 : (([] : List Value) ++ ([.s ⟨#[119, 121, 115, 101]⟩, .s ⟨#[32]⟩, .n R, .s ⟨#[120]⟩, .n C, .s ⟨#[32]⟩, .n rr, .s ⟨#[44]⟩, .n cc] : List It).flatMap itC).length ≤ ((prL R C rr cc ch 0).flatMap itC).length := by simp only [prL, List.flatMap_append, List.length_append, List.nil_append]; omega
  omega)
 refine HP1.mono ?_
 rintro e w3 ⟨rfl, hw3⟩
 have HW2 : Hid (Wrote (w.heap.size + 1) (w.heap.size + 1) ((prL R C rr cc ch 0).flatMap itC) u w3) := Lib.hid (by simpa [prL, List.flatMap_append] using hw3)
 clear HP1 hw3 HW1 f0 f1 f2 f3 f4 f5 f6 f7 f8 f9 HP0 hFd
 obtain ⟨f0, f1, f2, f3, f4, f5, f6, f7, f8, f9⟩ := HF.out _ _ HW2.out
 go_wp2_with fail
 go_loopw [51] (fun s51 wr => s51 = .int .i64 0 ∧ wr = w3) (fun _ _ => 0)
 case atStart => exact ⟨rfl, rfl⟩
 case round =>
  obtain ⟨rfl, rfl⟩ := hrel
  have q0 : ¬ (0 : Int) < ((0 : Nat) : Int) := by decide
  go_wp2_with fail
  go_loopw [80] (fun s80 wx => ∃ k : Nat, k ≤ R ∧ s80 = .int .i64 (k : Int) ∧ Hid (Wrote (w.heap.size + 1) (w.heap.size + 1) ((prL R C rr cc ch k).flatMap itC) u wx)) (fun i _ => R - (intOf i).toNat)
  case atStart => exact ⟨0, Nat.zero_le _, rfl, HW2⟩
  case round =>
   clear HW2 f0 f1 f2 f3 f4 f5 f6 f7 f8 f9
   obtain ⟨k, hk, rfl, HWk⟩ := hrel
   obtain ⟨f0, f1, f2, f3, f4, f5, f6, f7, f8, f9⟩ := HF.out _ _ HWk.out
   by_cases hlt : k < R
   ·have q1 : (k : Int) < (R : Int) := by omega
    obtain ⟨rb, rcap, r0, r1⟩ := HRW.out _ _ HWk.out k hlt
    have R1 := Lib.hid r1
    clear r1 f0 f1 f2 f3 f4 f5 f6 f7 f8
    go_wp2_with fail
    clear r0
    have HG := Lib.hid (show Calls Tryz.prog 42 #[.slice (some ⟨rb, 0, none⟩) C rcap] wr.drew (fun e w' => e = .returned (.string (rowT C (ch k))) ∧ Below wr.heap.size wr.drew w') from glyphs_any wr.drew rb C rcap (cell k) (ch k) R1.out (Hch.out k hlt) (by omega))
    refine wp_only ?_
    refine wp_region_held_drew (S := fun W' => W'.cell? ⟨w.heap.size + 1 + 1, 0, none⟩ = some (.func (.func 39) #[] #[.pointer (some ⟨w.heap.size + 1, 0, none⟩)])) (by kernel_rfl) (f9) (fun hHeld => ?_)
    refine sY 0 84 ?_
    refine sY 1 85 ?_
    refine sY 2 86 ?_
    refine sY 5 89 ?_
    refine sO 3 fun K hK => ?_
    go_simp
    refine HG.out.mono ?_
    rintro e w4 ⟨rfl, b4⟩
    have HW4 := Lib.hid (HWk.out.later (by have := Hzu.out; omega) ((Below.refl _ wr).drew.trans b4))
    have hc4 := cellB b4 hHeld
    clear b4
    (try go_wp2_with fail)
    refine hK.out _ _ ?_ (fun hHeld => ?_)
    ·exact hc4
    clear hK K
    try simp only [Act.put, List.setIfInBounds_toArray, List.set_cons_zero, List.set_cons_succ]
    refine sY 4 88 ?_
    refine sO 6 fun K hK => ?_
    go_simp
    (try go_wp2_with fail)
    refine hK.out _ _ ?_ (fun hHeld => ?_)
    ·exact (cellB (bel_alloc (Below.refl _ _) _) hHeld)
    clear hK K
    try simp only [Act.put, List.setIfInBounds_toArray, List.set_cons_zero, List.set_cons_succ]
    refine sO 7 fun K hK => ?_
    go_simp
    have HP4 := Lib.hid (ps_put (u := u) (W := w4) [.s ⟨#[124]⟩, .s (rowT C (ch k)), .s ⟨#[124, 10]⟩] HW4.out (by have := Hzu.out; omega) (by have := Hzu.out; have := HW4.out.bel.size; omega) (by intro i hi; simp only [List.mem_cons, List.not_mem_nil, or_false] at hi; rcases hi with rfl | rfl | rfl <;> first | (show ByteArray.size _ ≤ 1000; rw [rowT_size]; omega) | (show ByteArray.size _ ≤ 1000; decide)) (show 3 ≤ 100 by decide) (by have := Hlen.out k; omega))
    refine HP4.out.mono ?_
    rintro e w5 ⟨rfl, hw5⟩
    have HW5 : Hid (Wrote (w.heap.size + 1) (w.heap.size + 1) ((prL R C rr cc ch (k + 1)).flatMap itC) u w5) := Lib.hid (by rw [prL_succ, List.flatMap_append]; exact hw5)
    clear hw5 HP4
    (try go_wp2_with fail)
    refine hK.out _ _ ?_ (fun hHeld => ?_)
    ·exact (HF.out _ _ HW5.out).2.2.2.2.2.2.2.2.2
    clear hK K
    try simp only [Act.put, List.setIfInBounds_toArray, List.set_cons_zero, List.set_cons_succ]
    refine wpAnyH_done (by kernel_rfl) ?_ _
    dsimp only [OnlyNormal]
    clear HG HWk hHeld f9
    go_wp2_with fail
    go_roundw
    case rel => exact ⟨k + 1, by omega, by go_num, HW5⟩
    case measure => simp [intOf]; omega
   ·obtain rfl : R = k := by omega
    go_wp2_with fail
    have HRF := runs_fn wr R C rr cc (.slice (some ⟨ob, 0, none⟩) R R) (.slice (some ⟨lob, 0, none⟩) R lc) (.slice sa 0 sc) ⟨_, _, _, rfl⟩ ⟨_, _, _, rfl⟩ ⟨_, _, _, rfl⟩
    unfold shotV at HRF
    refine HRF.mono ?_
    rintro e w6 ⟨rfl, hw6⟩
    have b6 : Below wr.heap.size wr w6 := by rw [hw6]; exact bel_alloc (Below.refl _ _) _
    have HW6 := Lib.hid (HWk.out.later (by have := Hzu.out; omega) b6)
    have hbb : Below w.heap.size w w6 := HBu.out.trans ((HWk.out.bel.mono (by omega)).trans (b6.mono (by have := HBu.out.size; have := HWk.out.bel.size; omega)))
    have HB6 := Lib.hid hbb
    have HSh : Hid (ShotAt w6 wr.heap.size ob R lob lc R C cell) := Lib.hid (by
     obtain ⟨ob', h1, h2, h3⟩ := Hrows.out
     cases h1
     refine ⟨by rw [hw6]; simp [go_sem], by rw [hw6]; simp [go_sem], fun i hi => ?_, fun i hi => ?_⟩
     ·obtain ⟨b, cap, a1, a2, a3⟩ := h3 i hi
      exact ⟨b, cap, cellB hbb a1, a2.2, fun j hj => ⟨cellB hbb (a3 j hj).1, cellB hbb (a3 j hj).2.1, cellB hbb (a3 j hj).2.2.1, cellB hbb (a3 j hj).2.2.2⟩⟩
     ·obtain ⟨b, h4, b', hbe, -, -, h5⟩ := Hlk.out.rows i hi
      cases hbe
      refine ⟨b, C, cellB hbb h4, fun j hj => ?_⟩
      obtain ⟨z, h6, h7⟩ := h5 j hj
      rw [← h7]
      exact cellB hbb h6)
    clear hw6 b6 hbb HRF HWk f0 f1 f2 f3 f4 f5 f6 f7 f8 f9
    go_wp2_with fail
    refine wpIn_wide (n := 3).1 ?_
    refine genT ?_
    intro T hT
    simp only at hT
    refine range_law (n := 2) (m := 1) (gf := 67) (lb := #[.pointer (some ⟨wr.heap.size, 0, none⟩)]) (by rw [hT]; rfl) (enters_of Tryz.func67 (by kernel_rfl) rfl) (encs := encRun C ch) (fun _ => rfl)
     (S := fun ys => ys = List.range R) (Sp := fun _ => True) (V := fun pre x => x = pre.length ∧ x < R) (N := R) (Kp := fun _ _ => True) (fun _ _ => trivial) (fun W l o o' _ hl ho _ => trivial)
     (fun pre W => Below w6.heap.size w6 W) (fun c pre W => False) ?hI ?hIx (Below.refl _ _)
     (fun x a' W => ∃ p, a' = { tmps := (T.setIfInBounds 95 (.agg #[.int .i64 (x : Int), .int .i64 0, .int .i64 C, .int .i64 0, .bool false, .string (rowT C (ch x))])).setIfInBounds 9 (.pointer (some ⟨p, 0, none⟩)), defers := [] } ∧ W.cell? ⟨p, 3, none⟩ = some (.int .i64 0) ∧ W.cell? ⟨p, 4, none⟩ = some (.bool false))
     ?hAx ?hit ?assign ?body ?done ?stop
    case hI => exact ownFrom_below (Nat.le_refl _) (Nat.le_refl _)
    case hIx => exact fun c pre W W' row h _ _ => h
    case hAx => exact fun x a' _ W W' row ⟨p, e, h1, h2⟩ hg hr => ⟨p, e, cell_kept h1 hg (fun r e => (hr r e).2), cell_kept h2 hg (fun r e => (hr r e).2)⟩
    case hit =>
     rintro W0 ⟨o, o', _, _, rfl⟩ hI0
     exact runs_iter 2 (by decide) w6.heap.size wr.heap.size ob R lob lc R C cell ch hC1 (by omega) (by omega) Hd.out Hch.out _ _ _ (fun pre X X' h hb => bel_call h hb) (fun pre X h => HSh.out.later h)
    case assign =>
     rintro l pre x W K hW hK
     subst hT
     simp only [encRun]
     gi_wp2
     exact hK _ _ (keepsB (bel_alloc (Below.refl _ _) _)) trivial (bel_call hW (bel_alloc (Below.refl _ _) _)) ⟨W.heap.size, rfl, by simp [go_sem], by simp [go_sem]⟩
    case body =>
     rintro l pre x a' W hW ⟨p, rfl, c3, c4⟩ hlen hv
     subst hT
     have HWW := Lib.hid hW
     clear hW
     gi_wp2_with fail
     exact ⟨keepsB (Below.refl _ _), trivial, HWW.out⟩
    case done =>
     rintro D ys W hD rfl hW hK
     subst hT
     have HWf := Lib.hid (HW6.out.later (by have := Hzu.out; omega) hW)
     have HKD := Lib.hid hK
     have HBW := Lib.hid (HB6.out.trans (hW.mono (by have := HB6.out.size; omega)))
     have HST := Lib.hid (Tryz.Builder_String_any_k (w.heap.size + 1) (w.heap.size + 1) ((prL R C rr cc ch R).flatMap fun i => i.t.data.toList) W (by rw [byte_list]; exact HWf.out.isb) (by have := HBW.out.size; have := HWf.out.bel.size; have := Hzu.out; omega))
     clear hW hK
     go_wp2_with fail
     refine HST.out.mono ?_
     rintro e w7 ⟨rfl, h71, h72, h73⟩
     have H72 := Lib.hid h72
     have H73 := Lib.hid h73
     clear h71 h72 h73
     go_wp2_with fail
     have h72 := H72.out
     have h73 := H73.out
     have hD7 : w7.heap[D]? = some (.deferred (some [])) := h73 D _ HKD.out (by simp only [ne_eq, Option.some.injEq]; have := HB6.out.size; have := Hzu.out; have := HW6.out.bel.size; omega) (fun c fz e => by cases e)
     refine ⟨by simp, .inl ⟨_, _, rfl, run_takeDeferred hD7, ?_⟩⟩
     refine ⟨_, results_tmp rfl _ _ _, rfl, ?_⟩
     have hb7 : Below w.heap.size w w7 := HBW.out.trans (h72.mono (by omega))
     exact hb7.grown (grownBy_putObj' w7 D (.deferred none)) hb7.size (fun k e => by cases e; have := HB6.out.size; omega)
    case stop => exact fun D c pre W _ _ h _ => h.elim
end Go.Proofs.YtpjooboohelffaaGreatDoor
/- Top: awake. -/
namespace Go.Proofs.YtpjooboohelffaaGreatDoor
open Go.RowKit Go.Shelf T05
set_option linter.unusedVariables false
set_option linter.unusedSimpArgs false
set_option maxRecDepth 100000
def chA (i j : Nat) : UInt8 := if i = 0 ∧ j = 0 then 97 else 32
def textA : ByteArray := ⟨#[119, 121, 115, 101, 32, 50, 120, 51, 32, 48, 44, 49, 10, 124, 97, 32, 32, 124, 10, 124, 32, 32, 32, 124, 10]⟩
theorem textA_eq : (⟨((prL 2 3 0 1 chA 2).flatMap fun i => i.t.data.toList).toArray⟩ : ByteArray) = textA := by kernel_rfl
theorem oneA_ch {cell : Nat → Nat → Cl} (h : ∀ i j, i < 2 → j < 3 → cell i j = if i = 0 ∧ j = 0 then ⟨97, 0, false, 0⟩ else blankC) : ∀ i, i < 2 → Byt 3 (cell i) (chA i) := by
 intro i hi j hj
 rw [h i j hi hj]
 unfold chA
 split <;> exact ⟨by decide, by decide⟩
theorem oneA_p {cell : Nat → Nat → Cl} (h : ∀ i j, i < 2 → j < 3 → cell i j = if i = 0 ∧ j = 0 then ⟨97, 0, false, 0⟩ else blankC) : ∀ i j, i < 2 → j < 3 → CellP (fun x => x = 0) (cell i j) ∧ (cell i j).d = false := by
 have e0 : bits .or .i64 0 0 = 0 := by decide +kernel
 intro i j hi hj
 rw [h i j hi hj]
 split
 ·exact ⟨⟨by decide, by decide, fun hh => absurd hh (by decide), fun m hm => by rw [hm]; exact e0⟩, rfl⟩
 ·exact ⟨⟨by decide, by decide, fun hh => absurd hh (by decide), fun m hm => by rw [hm]; exact e0⟩, rfl⟩
set_option maxHeartbeats 2000000 in
theorem awake_any (w : World) (hg : Glob w) : Calls Tryz.prog 6 #[] w fun e w' => e = .returned (.bool true) ∧ Below w.heap.size w w' := by
 have HM := Lib.hid (show Calls Tryz.prog 7 #[.agg #[.int .i64 2, .int .i64 3]] w _ from made_any w hg 2 3 ⟨by decide, by decide, by decide, by decide⟩)
 have HO := Lib.hid (fun w' L rs qb lb (h : MadeP w w' L rs qb lb 2 3) => on_made h (Below.refl _ _))
 have HF := Lib.hid (fun w3 L tm qb lb rs (hK : KB (fun k => k < w.heap.size) w3) (h : Wy (fun k => k < w.heap.size) L tm qb lb w3 rs (fun _ _ => blankC) 0 0 (fun _ => false) tm0 0 [] false) h1 h2 h3 => y_feed_a w3 hK h h1 h2 h3)
 have HT := Lib.hid (fun w4 L tm qb lb rs (cell : Nat → Nat → Cl) t Q ov (h : Wy (fun k => k < w.heap.size) L tm qb lb w4 rs cell 0 1 (fun _ => false) t 0 Q ov) (hR : L.R = 2) (hC : L.C = 3) (hc : ∀ i j, i < 2 → j < 3 → CellP (fun x => x = 0) (cell i j)) => (show Calls Tryz.prog 10 #[.int .i64 3, .pointer (some ⟨L.sb, 0, none⟩)] w4 (fun e w' => ∃ a b s, e = .returned (.tuple #[.agg #[.int .i64 3, .int .i64 2, .int .i64 3, .int .i64 0, .int .i64 1, .bool false, a, b, s], .int .i64 0]) ∧ TakeP (fun x => x = 0) 2 3 cell (fun _ => false) w4 w' a b s) from by
  have := take_any (fun x => x = 0) rfl (fun x hx => by rw [hx]; exact WAttr.zero) w4 h.scr (by rw [hR, hC]; exact hc)
  rw [hR, hC] at this
  exact this))
 have HPr := Lib.hid (fun W lo lo' ob lob lc sc sa cell h1 h2 h3 h4 => (show Calls Tryz.prog 21 #[.agg #[.int .i64 3, .int .i64 2, .int .i64 3, .int .i64 0, .int .i64 1, .bool false, .slice (some ⟨ob, 0, none⟩) 2 2, .slice (some ⟨lob, 0, none⟩) 2 lc, .slice sa 0 sc]] W (fun e w' => e = .returned (.string textA) ∧ Below W.heap.size W w') from by
  have := print_any W 2 3 0 1 (by decide) (by decide) (by decide) (by decide) (by decide) (by decide) ob lob lc sc sa lo lo' cell chA h1 h2 h3 h4
  rw [textA_eq] at this
  exact this))
 clear hg
 go_enter Tryz.func6, Tryz.ntmps6
 go_wp2_with fail
 refine HM.out.mono ?_
 rintro e w2 ⟨L, rs, qb, lb, rfl, hM⟩
 have HOn := Lib.hid (HO.out _ _ _ _ _ hM)
 have HMM := Lib.hid hM
 clear hM
 go_wp2_with fail
 refine HOn.out.mono ?_
 rintro e w3 ⟨rfl, hwy, b3⟩
 have hM := HMM.out
 have hs := hM.bel.size
 have hK3 : KB (fun k => k < w.heap.size) w3 := fun k hk => by have := b3.size; (try simp only at hk); omega
 have HFd := Lib.hid (HF.out _ _ _ _ _ _ hK3 hwy hM.hR hM.hC hM.inj)
 have B3 := Lib.hid (bel_call hM.bel b3)
 clear hM hwy b3 hK3 HOn hs
 go_wp2_with fail
 refine HFd.out.mono ?_
 rintro e w4 ⟨rfl, ⟨rs4, cell, r, c, S4, t4, Q4, ov4, h4, rfl, rfl, hS, hcell⟩, hk4⟩
 have hS4 : S4 = fun _ => false := hS
 subst hS4
 have B4 := Lib.hid (B3.out.trans (Kept.below hk4))
 have HTk := Lib.hid (HT.out _ _ _ _ _ _ _ _ _ _ h4 HMM.out.hR HMM.out.hC (fun i j hi hj => (oneA_p hcell i j hi hj).1))
 have HCell := Lib.hid hcell
 clear h4 hcell hk4 hS HFd B3
 go_wp2_with fail
 refine HTk.out.mono ?_
 rintro e w5 ⟨a, b, s, rfl, hT⟩
 have ha := hT.rows
 obtain ⟨ob, rfl, -⟩ := ha
 obtain ⟨lob, lc, rfl, hlb⟩ := hT.lks
 obtain ⟨sa, sc, hsv⟩ := ownI_shape hT.sts
 rw [show (rise 3 (fun _ => false)).length = 0 by decide] at hsv
 subst hsv
 have HTT := Lib.hid hT
 have HLB := Lib.hid hlb
 clear hT hlb
 go_wp2_with fail
 refine (HPr.out _ _ _ _ _ _ _ _ cell (fun i j hi hj => (oneA_p HCell.out i j hi hj).2) (oneA_ch HCell.out) (HTT.out.rows.later (bel_alloc (Below.refl _ _) _)) (HLB.out.later (bel_alloc (Below.refl _ _) _))).mono ?_
 rintro e w6 ⟨rfl, b6⟩
 have B6 := Lib.hid (bel_call (bel_alloc (bel_call B4.out HTT.out.bel) _) b6)
 clear b6
 unfold textA
 go_wp2_with fail
 go_ret
 exact ⟨rfl, B6.out⟩
end Go.Proofs.YtpjooboohelffaaGreatDoor
