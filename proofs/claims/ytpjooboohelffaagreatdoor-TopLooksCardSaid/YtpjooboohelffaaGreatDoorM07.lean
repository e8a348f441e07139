/- TopLooks and TopSends, helper 8 of 27. It holds: ink's Guard; what Wipe does to a cell; a world in which the grid's cells are turned, round by round; wipe's turn, for what Wipe does; wipe's Wipe. Each theorem states its own conditions. -/
import Derived.Test.YtpjooboohelffaaGreatDoorM06
import Derived.Test.YtpjooboohelffaaGreatDoorM05
import Derived.Laws.EntriesVeiled
/- Top: ink's Guard. -/
namespace Go.Proofs.YtpjooboohelffaaGreatDoor
open Go.RowKit Go.Shelf
set_option linter.unusedVariables false
set_option linter.unusedSimpArgs false
set_option maxRecDepth 100000
theorem setCl_frm {R C i j : Nat} {x : Cl} {rs : Nat → Nat} {cell : Nat → Nat → Cl} : Frm R C x cell (setCl rs cell i j x) := by
 intro P hx hc i' j' hi' hj'
 unfold setCl
 split
 ·exact hx
 ·exact hc _ _ hi' hj'
set_option maxHeartbeats 1000000 in
theorem guard_any {K : Nat → Prop} {g rb cp R C : Nat} {rs : Nat → Nat} {cell : Nat → Nat → Cl} (w : World) (hK : KB K w) (h : GridIs K w g rb cp R C rs cell) (r c : Int) (p : Bool) (x : Cl) :
  Calls Tryz.prog 151 #[.pointer (some ⟨g, 0, none⟩), plc r c p, x.v] w fun e w' => (∃ a b z, e = .returned (.tuple #[plc a b false, .int .i64 z]) ∧ inR R C a b) ∧ SlideP K w w' g rb cp R C x cell := by
 have HO := Lib.hid (fun W (hb : Below w.heap.size w W) => free0_any W (h.later hb) r c)
 have HG := Lib.hid h
 have HKb := Lib.hid hK
 have Hsame := Lib.hid (fun W (hb : Below w.heap.size w W) => SlideP.same h hK hb x)
 have hsz := h.sz
 have h00 : inR R C 0 0 := by have := h.r1; have := h.c1; unfold inR; omega
 clear h hK
 unfold Cl.v
 go_enter Tryz.func151, Tryz.ntmps151
 go_wp2_with fail
 refine gen_calls ?_
 intro u hu0
 have KFu : ∀ W, Below u.heap.size u W → (W.cell? ⟨w.heap.size, 0, none⟩ = some (.int .i64 r) ∧ W.cell? ⟨w.heap.size, 1, none⟩ = some (.int .i64 c) ∧ W.cell? ⟨w.heap.size, 2, none⟩ = some (.bool p) ∧ W.cell? ⟨w.heap.size + 1, 0, none⟩ = some (.int .i32 x.g) ∧ W.cell? ⟨w.heap.size + 1, 1, none⟩ = some (.int .i64 x.a) ∧ W.cell? ⟨w.heap.size + 1, 2, none⟩ = some (.bool x.d) ∧ W.cell? ⟨w.heap.size + 1, 3, none⟩ = some (.int .i64 x.m)) ∧ (Blk W (w.heap.size + 1 + 1) 3) ∧ Below w.heap.size w W := by
  intro W hu
  refine ⟨⟨?_, ?_, ?_, ?_, ?_, ?_, ?_⟩, ?_, ?_⟩
  ·exact (hu.cell (by rw [hu0]; simp <;> omega)).trans (by rw [hu0]; simp [go_sem])
  ·exact (hu.cell (by rw [hu0]; simp <;> omega)).trans (by rw [hu0]; simp [go_sem])
  ·exact (hu.cell (by rw [hu0]; simp <;> omega)).trans (by rw [hu0]; simp [go_sem])
  ·exact (hu.cell (by rw [hu0]; simp <;> omega)).trans (by rw [hu0]; simp [go_sem])
  ·exact (hu.cell (by rw [hu0]; simp <;> omega)).trans (by rw [hu0]; simp [go_sem])
  ·exact (hu.cell (by rw [hu0]; simp <;> omega)).trans (by rw [hu0]; simp [go_sem])
  ·exact (hu.cell (by rw [hu0]; simp <;> omega)).trans (by rw [hu0]; simp [go_sem])
  ·exact Blk.later (by rw [hu0]; exact Blk.new (by simp) rfl) hu
  ·exact bel_call (by rw [hu0]; (repeat first | exact Below.refl _ _ | refine bel_alloc ?_ _)) hu
 clear hu0
 obtain ⟨_, fr0, kb⟩ := KFu _ (Below.refl _ _)
 refine (HO.out u kb).mono ?_
 rintro e w1 ⟨⟨a, b, i, rfl, hab, -⟩, b1⟩
 obtain ⟨⟨k0, k1, k2, k3, k4, k5, k6⟩, fr1, kb1⟩ := KFu _ b1
 obtain ⟨q0, e0, z0⟩ := fr1.get 0 (by decide)
 obtain ⟨q1, e1, z1⟩ := fr1.get 1 (by decide)
 obtain ⟨q2, e2, z2⟩ := fr1.get 2 (by decide)
 have hl0 := blt k0
 have hl1 := blt k3
 have hl2 := blt e0
 have Hkb := Lib.hid kb1
 cases i with
 | false =>
  clear KFu kb kb1 fr0 fr1 b1 HO hsz
  go_wp2_with fail
  have kb := Hkb.out
  exact bodyPost_ret (v := .tuple #[plc 0 0 false, .int .i64 15]) (by simp [results, Tryz.results151, go_sem, World.cell?_alloc_lt, e0, e1, e2, hl2, Nat.lt_succ_of_lt hl2]) rfl ⟨⟨_, _, _, rfl, h00⟩, Hsame.out _ (by (repeat first | exact kb | exact Below.refl _ _ | refine bel_alloc ?_ _ | refine Below.drew ?_ | refine bel_set ?_ (by simp <;> omega) _))⟩
 | true =>
  have hy2 := hab
  unfold inR at hy2
  obtain ⟨i, rfl⟩ := Int.eq_ofNat_of_zero_le hy2.1
  obtain ⟨j, rfl⟩ := Int.eq_ofNat_of_zero_le hy2.2.2.1
  have hi2 : i < R := by omega
  have hj2 : j < C := by omega
  have Hfr := Lib.hid fr1
  clear KFu kb kb1 fr0 fr1 b1 HO hy2 hab
  go_wp2_with fail
  refine gen_calls ?_
  intro v hv0
  have bv : Below w1.heap.size w1 v := by rw [hv0]; exact bel_alloc (Below.refl _ _) _
  have p0 : v.cell? ⟨w1.heap.size, 0, none⟩ = some (.int .i64 (i : Int)) ∧ v.cell? ⟨w1.heap.size, 1, none⟩ = some (.int .i64 (j : Int)) := by rw [hv0]; constructor <;> simp [go_sem]
  have hvz : v.heap.size = w1.heap.size + 1 := by rw [hv0]; simp
  clear hv0
  have BV := bel_call Hkb.out bv
  refine (set_ok (K := Loc K w v) v (HKb.out.loc BV) (HG.out.loc BV) i j hi2 hj2 x).mono ?_
  rintro e w2 ⟨rfl, hg2, hk2⟩
  have lc := fun {b o val} (h1 : w.heap.size ≤ b) (h2 : b < v.heap.size) (hc : v.cell? ⟨b, o, none⟩ = some val) => (show w2.cell? ⟨b, o, none⟩ = some val from hk2.cell (.inr ⟨h1, h2⟩) hc)
  have hz1 := Hkb.out.size
  have G2 : GridIs K w2 g rb cp R C rs (setCl rs cell i j x) := hg2.under HG.out.kg (fun hk => hg2.kr (.inl hk)) (fun i hi hk => hg2.ks i hi (.inl hk))
  have S2 : SlideP K w w2 g rb cp R C x cell := ⟨⟨rs, _, G2, setCl_frm⟩, (Kept.ofBelow BV HKb.out).trans (hk2.less (fun k hk => .inl hk))⟩
  have HKB2 := Lib.hid (HKb.out.later S2.2)
  have HLt := Lib.hid (fun W W' (hb : Below w2.heap.size w2 W) (hk : Kept (fun k => k < w.heap.size) W W') => (show SlideP K w W' g rb cp R C x cell from ⟨⟨rs, _, (G2.later hb).to (hk.block _ HG.out.glt) (hk.block _ HG.out.rowB.blk.lt) (fun i hi => hk.block _ (HG.out.celB i hi).blk.lt), setCl_frm⟩, (S2.2.trans (Kept.ofBelow hb HKB2.out)).trans (hk.less (fun k hkk => HKb.out k hkk))⟩))
  have j0 := lc (Nat.le_refl _) (by omega) (cellB bv k0)
  have j1 := lc (Nat.le_refl _) (by omega) (cellB bv k1)
  have j2 := lc (Nat.le_refl _) (by omega) (cellB bv k2)
  have j3 := lc (by omega) (by omega) p0.1
  have j4 := lc (by omega) (by omega) p0.2
  have fr2 : Blk w2 (w.heap.size + 1 + 1) 3 := (Hfr.out.later bv).to (hk2.block _ (.inr ⟨by omega, by omega⟩))
  have HS := Lib.hid (fun W (hb : Below w2.heap.size w2 W) => size_any W (G2.later hb))
  have HO := Lib.hid (fun W (hb : Below w2.heap.size w2 W) a b => free0_any W (G2.later hb) a b)
  have HX := Lib.hid (fun W => index_ok W R C (i : Int) (j : Int) hsz (by omega) (by omega))
  have Hnr := Lib.hid (fun W => Near_ok W R C r c hsz)
  clear k0 k1 k2 k3 k4 k5 k6 e0 e1 e2 z0 z1 z2 hl0 hl1 hl2 Hfr Hkb bv p0 BV hg2 hk2 lc HG Hsame HKb G2 S2
  go_wp2_with fail
  refine (HS.out _ (Below.refl _ _)).mono ?_
  rintro e w3 ⟨rfl, b3⟩
  have l0 := cellB b3 j0
  have l1 := cellB b3 j1
  have l2 := cellB b3 j2
  have l3 := cellB b3 j3
  have l4 := cellB b3 j4
  have lt0 := blt l0
  have lt3 := blt l3
  go_wp2_with fail
  refine gen_calls ?_
  intro w4 hw4
  have b4 : Below w3.heap.size w3 w4 := by rw [hw4]; exact bel_alloc (Below.refl _ _) _
  have s4 : w4.cell? ⟨w3.heap.size, 0, none⟩ = some (.int .i64 (R : Int)) ∧ w4.cell? ⟨w3.heap.size, 1, none⟩ = some (.int .i64 (C : Int)) := by rw [hw4]; constructor <;> simp [go_sem]
  have z4 : w4.heap.size = w3.heap.size + 1 := by rw [hw4]; simp
  clear hw4
  have B4 := bel_call b3 b4
  refine (HX.out _).mono ?_
  rintro e w5 ⟨rfl, b5⟩
  have B5 := bel_call B4 b5
  have KF5 : ∀ W, Below w5.heap.size w5 W → (W.cell? ⟨w.heap.size, 0, none⟩ = some (.int .i64 r) ∧ W.cell? ⟨w.heap.size, 1, none⟩ = some (.int .i64 c) ∧ W.cell? ⟨w3.heap.size, 0, none⟩ = some (.int .i64 (R : Int)) ∧ W.cell? ⟨w3.heap.size, 1, none⟩ = some (.int .i64 (C : Int))) ∧ Blk W (w.heap.size + 1 + 1) 3 ∧ Below w2.heap.size w2 W :=
   fun W hb => ⟨⟨cellB (bel_call B5 hb) j0, cellB (bel_call B5 hb) j1, cellB (bel_call b5 hb) s4.1, cellB (bel_call b5 hb) s4.2⟩, fr2.later (bel_call B5 hb), bel_call B5 hb⟩
  have HK5 := Lib.hid KF5
  have Hij := Lib.hid (show 0 ≤ (i : Int) * C + j ∧ (i : Int) * C + j < (R : Int) * C from by
   have h1 : ((i : Int) + 1) * C ≤ (R : Int) * C := Int.mul_le_mul_of_nonneg_right (by omega) (by omega)
   have h2 : 0 ≤ (i : Int) * C := Int.mul_nonneg (by omega) (by omega)
   rw [Int.add_mul] at h1
   omega)
  generalize (i : Int) * C + j = n at *
  clear l0 l1 l2 l3 l4 j0 j1 j2 j3 j4 s4 z4 lt0 lt3 KF5 fr2 b3 b4 b5 B4 B5
  go_wp2_with fail
  obtain ⟨N, hN⟩ : ∃ N : Nat, R * C = N := ⟨_, rfl⟩
  have hNi : (R : Int) * (C : Int) = (N : Int) := by rw [← hN]; push_cast; rfl
  have hN2 : N ≤ 65025 := by rw [← hN]; have := Nat.mul_le_mul (show R ≤ 255 from by have := hsz.2.1; omega) (show C ≤ 255 from by have := hsz.2.2; omega); omega
  have hij := Hij.out
  rw [hNi] at hij
  have m1 : IntKind.i64.wrap ((R : Int) * (C : Int)) = (N : Int) := by rw [hNi]; exact IntWalk.i64_in _ (by omega)
  have m2 : IntKind.i64.wrap (n + 1) = n + 1 := IntWalk.i64_in _ (by omega)
  have nz : ¬ (N : Int) = 0 := by omega
  have nz2 : ¬ N = 0 := by omega
  obtain ⟨t, ht⟩ : ∃ t, (n + 1).tmod (N : Int) = t := ⟨_, rfl⟩
  have htc : 0 ≤ t ∧ t < (N : Int) := by
   rw [← ht]
   exact ⟨Int.tmod_nonneg _ (by omega), Int.tmod_lt_of_pos _ (by omega)⟩
  have HOf := Lib.hid (fun W => of_ok W R C t hsz (by rw [hNi]; exact htc))
  generalize t / (C : Int) = pr1 at *
  generalize t % (C : Int) = pc1 at *
  clear hN hNi hN2 hij htc Hij
  have H5 := Lib.hid (fun W (hb : Below w5.heap.size w5 W) => (show (W.cell? ⟨w.heap.size, 0, none⟩ = some (.int .i64 r) ∧ W.cell? ⟨w.heap.size, 1, none⟩ = some (.int .i64 c) ∧ W.cell? ⟨w3.heap.size, 0, none⟩ = some (.int .i64 (R : Int)) ∧ W.cell? ⟨w3.heap.size, 1, none⟩ = some (.int .i64 (C : Int))) ∧ Blk W (w.heap.size + 1 + 1) 3 ∧ Below w5.heap.size w5 W from
   ⟨(HK5.out W hb).1, (HK5.out W hb).2.1, hb⟩))
  have HB5 := Lib.hid (fun W (hb : Below w5.heap.size w5 W) => (HK5.out W hb).2.2)
  have hz5 := (HK5.out _ (Below.refl _ _)).2.1.lt
  have hz53 := blt (HK5.out _ (Below.refl _ _)).1.2.2.1
  clear HK5
  refine wp_region_held_drew (S := fun W => (W.cell? ⟨w.heap.size, 0, none⟩ = some (.int .i64 r) ∧ W.cell? ⟨w.heap.size, 1, none⟩ = some (.int .i64 c) ∧ W.cell? ⟨w3.heap.size, 0, none⟩ = some (.int .i64 (R : Int)) ∧ W.cell? ⟨w3.heap.size, 1, none⟩ = some (.int .i64 (C : Int))) ∧ Blk W (w.heap.size + 1 + 1) 3 ∧ Below w5.heap.size w5 W) (by kernel_rfl) (H5.out _ (Below.refl _ _).drew) (fun hHeld => ?_)
  refine sY 0 41 ?_
  refine sY 1 42 ?_
  refine sY 2 43 ?_
  refine sY 3 44 ?_
  refine sY 4 45 ?_
  refine sY 5 46 ?_
  refine sY 6 47 ?_
  refine sY 7 48 ?_
  refine sY 8 49 ?_
  refine wpAnyH_ready (rs := [9, 13]) (by kernel_rfl) (by simp) ?_
  refine AllReadyH.cons rfl (fun K hK => ?_) (AllReadyH.cons rfl (fun K hK => ?_) (AllReadyH.nil))
  ·go_simp
   refine (HOf.out _).mono ?_
   rintro e w6 ⟨rfl, b6⟩
   have hb6 := bel_call hHeld.2.2 b6
   (try go_wp2_with fail)
   refine hK.out _ _ ?_ (fun hHeld => ?_)
   ·exact H5.out _ hb6
   clear hK K
   try simp only [Act.put, List.setIfInBounds_toArray, List.set_cons_zero, List.set_cons_succ]
   refine sY 10 40 ?_
   refine sY 11 51 ?_
   refine sY 12 52 ?_
   refine sO 13 fun K hK => ?_
   go_simp
   (try go_wp2_with fail)
   refine hK.out _ _ ?_ (fun hHeld => ?_)
   ·exact H5.out _ (bel_alloc hHeld.2.2 _)
   clear hK K
   try simp only [Act.put, List.setIfInBounds_toArray, List.set_cons_zero, List.set_cons_succ]
   refine sO 14 fun K hK => ?_
   try (refine (fun (xb : Blk w6 w5.heap.size 2) => ?_) (Blk.later ?_ b6); rotate_left; (focus (exact Blk.new rfl rfl)); obtain ⟨q0, x0, y0⟩ := xb.get 0 (by decide); obtain ⟨q1, x1, y1⟩ := xb.get 1 (by decide))
   go_simp
   (try go_wp2_with fail)
   refine hK.out _ _ ?_ (fun hHeld => ?_)
   ·exact (by first | exact H5.out _ (bel_alloc hb6 _) | exact H5.out _ (bel_set (bel_set hb6 (by simp) _) (by simp) _))
   clear hK K
   try simp only [Act.put, List.setIfInBounds_toArray, List.set_cons_zero, List.set_cons_succ]
   refine sY 15 14 ?_
   refine wpAnyH_done (by kernel_rfl) ?_ _
   obtain ⟨⟨j0, j1, j2, j3⟩, jr, B6⟩ := hHeld
   go_wp2_with fail
   refine gen_calls ?_
   intro v7 hv7
   have B7 : Below w5.heap.size w5 v7 := by rw [hv7]; exact B6
   have k0 : v7.cell? ⟨w.heap.size, 0, none⟩ = some (.int .i64 r) := by rw [hv7]; exact j0
   have k1 : v7.cell? ⟨w.heap.size, 1, none⟩ = some (.int .i64 c) := by rw [hv7]; exact j1
   have k2 : v7.cell? ⟨w3.heap.size, 0, none⟩ = some (.int .i64 (R : Int)) := by rw [hv7]; exact j2
   have k3 : v7.cell? ⟨w3.heap.size, 1, none⟩ = some (.int .i64 (C : Int)) := by rw [hv7]; exact j3
   have kr : Blk v7 (w.heap.size + 1 + 1) 3 := by rw [hv7]; exact jr
   first
    | (refine (fun (xa : Blk v7 w6.heap.size 2) => ?_) ?_; rotate_left; focus (rw [hv7]; exact Blk.new rfl rfl))
    | (refine (fun (xa : Blk v7 w5.heap.size 2) => ?_) ?_; rotate_left; focus (rw [hv7]; exact (xb.set _ _).set _ _))
   have hs7 := xa.lt
   clear hv7 j0 j1 j2 j3 jr B6
   refine (HO.out _ (HB5.out _ B7) _ _).mono ?_
   rintro e w8 ⟨⟨a, b, i, rfl, hab, -⟩, b8⟩
   have B8 := bel_call B7 b8
   obtain ⟨g0, f0, y0⟩ := (xa.later b8).get 0 (by decide)
   obtain ⟨g1, f1, y1⟩ := (xa.later b8).get 1 (by decide)
   have kr8 := kr.later b8
   have kr8' := kr8
   have b8' := b8
   obtain ⟨q0, e0, z0⟩ := kr8.get 0 (by decide)
   obtain ⟨q1, e1, z1⟩ := kr8.get 1 (by decide)
   obtain ⟨q2, e2, z2⟩ := kr8.get 2 (by decide)
   have m0 := cellB b8 k0
   have m1 := cellB b8 k1
   have m2 := cellB b8 k2
   have m3 := cellB b8 k3
   have hu1 : w.heap.size < w5.heap.size := by omega
   have hu2 : w.heap.size + 1 + 1 < w6.heap.size := by have := hb6.size; omega
   have hu3 : w3.heap.size < w6.heap.size := by have := hb6.size; omega
   have hu4 : w.heap.size < w6.heap.size := by omega
   have Hnr2 := Hnr.out
   have hni : inR R C (nearI r R) (nearI c C) := by
    have n1 := nearI_in (x := r) (show (1 : Int) ≤ R from hsz.1)
    have n2 := nearI_in (x := c) (show (1 : Int) ≤ C from by have := hsz.2.2; omega)
    exact ⟨n1.1, n1.2, n2.1, n2.2⟩
   generalize nearI r R = nr at *
   generalize nearI c C = nc at *
   have HB8 := Lib.hid B8
   clear k0 k1 k2 k3 kr kr8 B7 B8
   cases i with
   | true =>
    go_wp2_with fail
    refine bodyPost_ret (v := .tuple #[plc a b false, .int .i64 0]) (by simp [results, Tryz.results151, go_sem, e0, e1, e2, f0, f1]) rfl ⟨⟨_, _, _, rfl, hab⟩, HLt.out w8 _ (HB5.out _ HB8.out) ?_⟩
    exact (((((Kept.refl _ _).set (fun hh => by simp at hh <;> omega) _).set (fun hh => by simp at hh <;> omega) _).set (fun hh => by simp at hh <;> omega) _).set (fun hh => by simp at hh <;> omega) _).set (fun hh => by simp at hh <;> omega) _
   | false =>
    go_wp2_with fail
    refine (Hnr2 _).mono ?_
    rintro e w9 ⟨rfl, b9⟩
    first
     | (have xa9 : Blk w9 w6.heap.size 2 := (((xa.later b8').set _ _).set _ _).later b9)
     | (have xa9 : Blk w9 w5.heap.size 2 := (((xa.later b8').set _ _).set _ _).later b9)
    have kr9 : Blk w9 (w.heap.size + 1 + 1) 3 := ((kr8'.set _ _).set _ _).later b9
    obtain ⟨g0', f0', y0'⟩ := xa9.get 0 (by decide)
    obtain ⟨g1', f1', y1'⟩ := xa9.get 1 (by decide)
    obtain ⟨q0', e0', z0'⟩ := kr9.get 0 (by decide)
    obtain ⟨q1', e1', z1'⟩ := kr9.get 1 (by decide)
    obtain ⟨q2', e2', z2'⟩ := kr9.get 2 (by decide)
    have lt9a := blt f0'
    have lt9b := blt e0'
    have HB9 := Lib.hid b9
    have hw8 : w.heap.size < w8.heap.size := by have := blt e0; omega
    clear b9 xa9 kr9 Hnr2 e0 e1 e2 f0 f1 z0 z1 z2 y0 y1
    go_wp2_with fail
    refine bodyPost_ret (v := .tuple #[plc nr nc false, .int .i64 0]) (by simp [results, Tryz.results151, go_sem, e0', e1', e2', f0', f1']) rfl ⟨⟨_, _, _, rfl, hni⟩, HLt.out w8 _ (HB5.out _ HB8.out) ?_⟩
    refine ((((Kept.trans ?_ (Kept.ofBelow HB9.out (fun k hk => by simp only [World.setCell, Array.size_modify]; omega))).set (fun hh => by simp at hh <;> omega) _).set (fun hh => by simp at hh <;> omega) _).set (fun hh => by simp at hh <;> omega) _).set (fun hh => by simp at hh <;> omega) _ |>.set (fun hh => by simp at hh <;> omega) _
    exact ((Kept.refl _ _).set (fun hh => by simp at hh <;> omega) _).set (fun hh => by simp at hh <;> omega) _
  ·go_simp
   (try go_wp2_with fail)
   refine hK.out _ _ ?_ (fun hHeld => ?_)
   ·exact H5.out _ (bel_alloc hHeld.2.2 _)
   clear hK K
   try simp only [Act.put, List.setIfInBounds_toArray, List.set_cons_zero, List.set_cons_succ]
   refine sO 9 fun K hK => ?_
   go_simp
   refine (HOf.out _).mono ?_
   rintro e w6 ⟨rfl, b6⟩
   have hb6 := bel_call hHeld.2.2 b6
   (try go_wp2_with fail)
   refine hK.out _ _ ?_ (fun hHeld => ?_)
   ·exact H5.out _ hb6
   clear hK K
   try simp only [Act.put, List.setIfInBounds_toArray, List.set_cons_zero, List.set_cons_succ]
   refine sY 10 40 ?_
   refine sY 11 51 ?_
   refine sY 12 52 ?_
   refine sO 14 fun K hK => ?_
   try (refine (fun (xb : Blk w6 w5.heap.size 2) => ?_) (Blk.later ?_ b6); rotate_left; (focus (exact Blk.new rfl rfl)); obtain ⟨q0, x0, y0⟩ := xb.get 0 (by decide); obtain ⟨q1, x1, y1⟩ := xb.get 1 (by decide))
   go_simp
   (try go_wp2_with fail)
   refine hK.out _ _ ?_ (fun hHeld => ?_)
   ·exact (by first | exact H5.out _ (bel_alloc hb6 _) | exact H5.out _ (bel_set (bel_set hb6 (by simp) _) (by simp) _))
   clear hK K
   try simp only [Act.put, List.setIfInBounds_toArray, List.set_cons_zero, List.set_cons_succ]
   refine sY 15 14 ?_
   refine wpAnyH_done (by kernel_rfl) ?_ _
   obtain ⟨⟨j0, j1, j2, j3⟩, jr, B6⟩ := hHeld
   go_wp2_with fail
   refine gen_calls ?_
   intro v7 hv7
   have B7 : Below w5.heap.size w5 v7 := by rw [hv7]; exact B6
   have k0 : v7.cell? ⟨w.heap.size, 0, none⟩ = some (.int .i64 r) := by rw [hv7]; exact j0
   have k1 : v7.cell? ⟨w.heap.size, 1, none⟩ = some (.int .i64 c) := by rw [hv7]; exact j1
   have k2 : v7.cell? ⟨w3.heap.size, 0, none⟩ = some (.int .i64 (R : Int)) := by rw [hv7]; exact j2
   have k3 : v7.cell? ⟨w3.heap.size, 1, none⟩ = some (.int .i64 (C : Int)) := by rw [hv7]; exact j3
   have kr : Blk v7 (w.heap.size + 1 + 1) 3 := by rw [hv7]; exact jr
   first
    | (refine (fun (xa : Blk v7 w6.heap.size 2) => ?_) ?_; rotate_left; focus (rw [hv7]; exact Blk.new rfl rfl))
    | (refine (fun (xa : Blk v7 w5.heap.size 2) => ?_) ?_; rotate_left; focus (rw [hv7]; exact (xb.set _ _).set _ _))
   have hs7 := xa.lt
   clear hv7 j0 j1 j2 j3 jr B6
   refine (HO.out _ (HB5.out _ B7) _ _).mono ?_
   rintro e w8 ⟨⟨a, b, i, rfl, hab, -⟩, b8⟩
   have B8 := bel_call B7 b8
   obtain ⟨g0, f0, y0⟩ := (xa.later b8).get 0 (by decide)
   obtain ⟨g1, f1, y1⟩ := (xa.later b8).get 1 (by decide)
   have kr8 := kr.later b8
   have kr8' := kr8
   have b8' := b8
   obtain ⟨q0, e0, z0⟩ := kr8.get 0 (by decide)
   obtain ⟨q1, e1, z1⟩ := kr8.get 1 (by decide)
   obtain ⟨q2, e2, z2⟩ := kr8.get 2 (by decide)
   have m0 := cellB b8 k0
   have m1 := cellB b8 k1
   have m2 := cellB b8 k2
   have m3 := cellB b8 k3
   have hu1 : w.heap.size < w5.heap.size := by omega
   have hu2 : w.heap.size + 1 + 1 < w6.heap.size := by have := hb6.size; omega
   have hu3 : w3.heap.size < w6.heap.size := by have := hb6.size; omega
   have hu4 : w.heap.size < w6.heap.size := by omega
   have Hnr2 := Hnr.out
   have hni : inR R C (nearI r R) (nearI c C) := by
    have n1 := nearI_in (x := r) (show (1 : Int) ≤ R from hsz.1)
    have n2 := nearI_in (x := c) (show (1 : Int) ≤ C from by have := hsz.2.2; omega)
    exact ⟨n1.1, n1.2, n2.1, n2.2⟩
   generalize nearI r R = nr at *
   generalize nearI c C = nc at *
   have HB8 := Lib.hid B8
   clear k0 k1 k2 k3 kr kr8 B7 B8
   cases i with
   | true =>
    go_wp2_with fail
    refine bodyPost_ret (v := .tuple #[plc a b false, .int .i64 0]) (by simp [results, Tryz.results151, go_sem, e0, e1, e2, f0, f1]) rfl ⟨⟨_, _, _, rfl, hab⟩, HLt.out w8 _ (HB5.out _ HB8.out) ?_⟩
    exact (((((Kept.refl _ _).set (fun hh => by simp at hh <;> omega) _).set (fun hh => by simp at hh <;> omega) _).set (fun hh => by simp at hh <;> omega) _).set (fun hh => by simp at hh <;> omega) _).set (fun hh => by simp at hh <;> omega) _
   | false =>
    go_wp2_with fail
    refine (Hnr2 _).mono ?_
    rintro e w9 ⟨rfl, b9⟩
    first
     | (have xa9 : Blk w9 w6.heap.size 2 := (((xa.later b8').set _ _).set _ _).later b9)
     | (have xa9 : Blk w9 w5.heap.size 2 := (((xa.later b8').set _ _).set _ _).later b9)
    have kr9 : Blk w9 (w.heap.size + 1 + 1) 3 := ((kr8'.set _ _).set _ _).later b9
    obtain ⟨g0', f0', y0'⟩ := xa9.get 0 (by decide)
    obtain ⟨g1', f1', y1'⟩ := xa9.get 1 (by decide)
    obtain ⟨q0', e0', z0'⟩ := kr9.get 0 (by decide)
    obtain ⟨q1', e1', z1'⟩ := kr9.get 1 (by decide)
    obtain ⟨q2', e2', z2'⟩ := kr9.get 2 (by decide)
    have lt9a := blt f0'
    have lt9b := blt e0'
    have HB9 := Lib.hid b9
    have hw8 : w.heap.size < w8.heap.size := by have := blt e0; omega
    clear b9 xa9 kr9 Hnr2 e0 e1 e2 f0 f1 z0 z1 z2 y0 y1
    go_wp2_with fail
    refine bodyPost_ret (v := .tuple #[plc nr nc false, .int .i64 0]) (by simp [results, Tryz.results151, go_sem, e0', e1', e2', f0', f1']) rfl ⟨⟨_, _, _, rfl, hni⟩, HLt.out w8 _ (HB5.out _ HB8.out) ?_⟩
    refine ((((Kept.trans ?_ (Kept.ofBelow HB9.out (fun k hk => by simp only [World.setCell, Array.size_modify]; omega))).set (fun hh => by simp at hh <;> omega) _).set (fun hh => by simp at hh <;> omega) _).set (fun hh => by simp at hh <;> omega) _).set (fun hh => by simp at hh <;> omega) _ |>.set (fun hh => by simp at hh <;> omega) _
    exact ((Kept.refl _ _).set (fun hh => by simp at hh <;> omega) _).set (fun hh => by simp at hh <;> omega) _
end Go.Proofs.YtpjooboohelffaaGreatDoor
/- Top: what Wipe does to a cell. -/
namespace Go.Proofs.YtpjooboohelffaaGreatDoor
open Go.RowKit Go.Shelf
set_option linter.unusedVariables false
set_option linter.unusedSimpArgs false
set_option maxRecDepth 100000
def aheadB (a b c d : Int) : Bool := decide (a < c) || (decide (a = c) && decide (b < d))
theorem ahead_any (w : World) (a b c d : Int) : Fn w 244 #[pr a b, pr c d] (.bool (aheadB a b c d)) := by
 by_cases h1 : a < c
 ·have e : aheadB a b c d = true := by unfold aheadB; simp [h1]
  rw [e]
  have d1 : decide (a < c) = true := by simp [h1]
  go_enter Tryz.func244, Tryz.ntmps244
  go_wp2_with fail
  go_ret
  exact ⟨rfl, by (repeat first | exact kb | exact Below.refl _ _ | refine bel_alloc ?_ _ | refine Below.drew ?_ | refine bel_set ?_ (by simp <;> omega) _)⟩
 ·have d1 : decide (a < c) = false := by simp [h1]
  by_cases h2 : a = c
  ·subst h2
   have e : aheadB a b a d = decide (b < d) := by unfold aheadB; simp
   rw [e]
   go_enter Tryz.func244, Tryz.ntmps244
   go_wp2_with fail
   all_goals (go_ret; exact ⟨rfl, by (repeat first | exact kb | exact Below.refl _ _ | refine bel_alloc ?_ _ | refine Below.drew ?_ | refine bel_set ?_ (by simp <;> omega) _)⟩)
  ·have d2 : decide (a = c) = false := by simp [h2]
   have d3 : (a == c) = false := by simp [h2]
   have e : aheadB a b c d = false := by unfold aheadB; simp [h1, h2]
   rw [e]
   go_enter Tryz.func244, Tryz.ntmps244
   go_wp2_with fail
   go_ret
   exact ⟨rfl, by (repeat first | exact kb | exact Below.refl _ _ | refine bel_alloc ?_ _ | refine Below.drew ?_ | refine bel_set ?_ (by simp <;> omega) _)⟩
theorem neq48 (a b : Cl) : ∃ r : Bool, ∀ W : World, (binOp .neq 48 (.agg #[.int .i32 a.g, .int .i64 a.a, .bool a.d, .int .i64 a.m]) (.agg #[.int .i32 b.g, .int .i64 b.a, .bool b.d, .int .i64 b.m])).run Tryz.prog W = .ok (.bool r) W := by
 refine ⟨!(decide (a.g = b.g) && (decide (a.a = b.a) && (decide (a.d = b.d) && decide (a.m = b.m)))), fun W => ?_⟩
 by_cases h1 : a.g = b.g <;> by_cases h2 : a.a = b.a <;> by_cases h3 : a.d = b.d <;> by_cases h4 : a.m = b.m <;> simp [go_sem, h1, h2, h3, h4]
/-- A cell put, or left. -/
theorem how_any (w : World) (bx bg bc : Nat) (x c : Cl) (gd : Bool) (hx : CellsAt w bx 1 (fun _ => x)) (hB : Blk w bx 4) (hg : w.cell? ⟨bg, 0, none⟩ = some (.bool gd)) (hc : CellsAt w bc 1 (fun _ => c)) :
  Calls Tryz.prog 224 #[.pointer (some ⟨bx, 0, none⟩), .pointer (some ⟨bg, 0, none⟩), .pointer (some ⟨bc, 0, none⟩)] w fun e w' => e = .returned (.tuple #[]) ∧ (w' = w ∨ w' = set4 w bx 0 c) := by
 obtain ⟨x0, x1, x2, x3⟩ := hx 0 (by decide)
 obtain ⟨c0, c1, c2, c3⟩ := hc 0 (by decide)
 simp only [Nat.zero_mul, Nat.zero_add] at x0 x1 x2 x3 c0 c1 c2 c3
 obtain ⟨_, _, z0⟩ := hB.get 0 (by decide)
 obtain ⟨_, _, z1⟩ := hB.get 1 (by decide)
 obtain ⟨_, _, z2⟩ := hB.get 2 (by decide)
 obtain ⟨_, _, z3⟩ := hB.get 3 (by decide)
 clear hx hc hB
 cases gd with
 | false =>
  go_enter Tryz.func224, Tryz.ntmps224
  go_wp2_with fail
  go_end0
  exact ⟨rfl, .inr rfl⟩
 | true =>
  cases hd : x.d with
  | false =>
   rw [hd] at x2
   go_enter Tryz.func224, Tryz.ntmps224
   go_wp2_with fail
   go_end0
   exact ⟨rfl, .inr rfl⟩
  | true =>
   rw [hd] at x2
   go_enter Tryz.func224, Tryz.ntmps224
   go_wp2_with fail
   go_end0
   exact ⟨rfl, .inl rfl⟩
theorem how_put (w : World) (bx bg bc : Nat) (x c : Cl) (gd : Bool) (hx : CellsAt w bx 1 (fun _ => x)) (hB : Blk w bx 4) (hg : w.cell? ⟨bg, 0, none⟩ = some (.bool gd)) (hc : CellsAt w bc 1 (fun _ => c)) :
  Calls Tryz.prog 224 #[.pointer (some ⟨bx, 0, none⟩), .pointer (some ⟨bg, 0, none⟩), .pointer (some ⟨bc, 0, none⟩)] w fun e w' => e = .returned (.tuple #[]) ∧ ∃ y, (y = x ∨ y = c) ∧ CellsAt w' bx 1 (fun _ => y) ∧ Below bx w w' := by
 refine (how_any w bx bg bc x c gd hx hB hg hc).mono ?_
 rintro e w' ⟨rfl, h⟩
 refine ⟨rfl, ?_⟩
 rcases h with rfl | rfl
 ·exact ⟨x, .inl rfl, hx, Below.refl _ _⟩
 ·refine ⟨c, .inr rfl, fun j hj => ?_, ⟨rfl, rfl, rfl, by rw [set4_size]; exact Nat.le_refl _, fun k hk => set4_heap (by omega)⟩⟩
  obtain rfl : j = 0 := by omega
  simpa using set4_new hB (by omega : 0 + 3 < 4)
end Go.Proofs.YtpjooboohelffaaGreatDoor
/- Top: a world in which the grid's cells are turned, round by round. -/
namespace Go.Proofs.YtpjooboohelffaaGreatDoor
open Go.RowKit Go.Shelf
set_option linter.unusedVariables false
set_option linter.unusedSimpArgs false
set_option maxRecDepth 100000
/-- What the rounds stand on. -/
structure TA (K : Nat → Prop) (w5 : World) (g rb cp R C : Nat) (rs : Nat → Nat) (cell : Nat → Nat → Cl) (nb : Nat) : Prop where
 kb : KB K w5
 gi : GridIs K w5 g rb cp R C rs cell
 nl : nb < w5.heap.size
 nk : ¬ K nb
 nr : nb ≠ rb
 ns : ∀ i, i < R → nb ≠ rs i
/-- What holds between two rounds. -/
structure TI (K : Nat → Prop) (w5 : World) (g rb cp R C : Nat) (rs : Nat → Nat) (cell : Nat → Nat → Cl) (x : Cl) (nb : Nat) (W : World) : Prop where
 n : ∃ v, W.heap[nb]? = some (.cells #[.int .i64 v] 3 (0, 0))
 gr : ∃ cell', GridIs K W g rb cp R C rs cell' ∧ Frm R C x cell cell'
 kept : Kept K w5 W
section
variable {K : Nat → Prop} {w5 : World} {g rb cp R C : Nat} {rs : Nat → Nat} {cell : Nat → Nat → Cl} {x : Cl} {nb : Nat} {W W' : World}
theorem TI.to (A : TA K w5 g rb cp R C rs cell nb) (h : TI K w5 g rb cp R C rs cell x nb W) (hk : Kept (fun k => k < w5.heap.size) W W') : TI K w5 g rb cp R C rs cell x nb W' := by
 obtain ⟨⟨v, h1⟩, ⟨c', h2, h3⟩, h4⟩ := h
 refine ⟨⟨v, (hk.block _ A.nl).trans h1⟩, ⟨c', h2.to (hk.block _ A.gi.glt) (hk.block _ A.gi.rowB.blk.lt) (fun i hi => hk.block _ (A.gi.celB i hi).blk.lt), h3⟩, h4.trans (hk.less A.kb)⟩
theorem TI.later (A : TA K w5 g rb cp R C rs cell nb) (h : TI K w5 g rb cp R C rs cell x nb W) (hb : Below W.heap.size W W') : TI K w5 g rb cp R C rs cell x nb W' :=
 h.to A (Kept.ofBelow hb (fun k hk => Nat.lt_of_lt_of_le hk h.kept.size))
theorem TI.grown (A : TA K w5 g rb cp R C rs cell nb) (h : TI K w5 g rb cp R C rs cell x nb W) {row : Option Nat} (hg : W.grownBy W' row) (hr : ∀ r, row = some r → w5.heap.size ≤ r) : TI K w5 g rb cp R C rs cell x nb W' :=
 h.to A ((Kept.refl (fun k => k < w5.heap.size) W).grown hg (fun k hk => Nat.lt_of_lt_of_le hk h.kept.size) (fun k e hk => by have := hr k e; omega))
theorem TI.setn (A : TA K w5 g rb cp R C rs cell nb) (h : TI K w5 g rb cp R C rs cell x nb W) (u : Int) : TI K w5 g rb cp R C rs cell x nb (W.setCell ⟨nb, 0, none⟩ (.int .i64 u)) := by
 obtain ⟨⟨v, h1⟩, ⟨c', h2, h3⟩, h4⟩ := h
 have hs : ∀ q, q ≠ nb → (W.setCell ⟨nb, 0, none⟩ (.int .i64 u)).heap[q]? = W.heap[q]? := fun q hq => Below.heap_setCell _ _ _ _ hq
 refine ⟨⟨u, ?_⟩, ⟨c', h2.to (hs _ (fun e => A.nk (e ▸ A.gi.kg))) (hs _ (fun e => A.nr e.symm)) (fun i hi => hs _ (fun e => A.ns i hi e.symm)), h3⟩, h4.set A.nk _⟩
 have := heap_setCell_same W nb 0 _ _ (.int .i64 u) h1
 simpa using this
theorem TI.keeps (A : TA K w5 g rb cp R C rs cell nb) (h : TI K w5 g rb cp R C rs cell x nb W) (u : Int) : KeepsFrom w5.heap.size W (W.setCell ⟨nb, 0, none⟩ (.int .i64 u)) ∧ KeepsT 23 W (W.setCell ⟨nb, 0, none⟩ (.int .i64 u)) := by
 obtain ⟨⟨v, h1⟩, _, _⟩ := h
 have hs : ∀ q, q ≠ nb → (W.setCell ⟨nb, 0, none⟩ (.int .i64 u)).heap[q]? = W.heap[q]? := fun q hq => Below.heap_setCell _ _ _ _ hq
 have hsz : (W.setCell ⟨nb, 0, none⟩ (.int .i64 u)).heap.size = W.heap.size := by simp [World.setCell]
 have hl := A.nl
 exact ⟨⟨by omega, fun q o hB hq _ => (hs q (by omega)).trans hq⟩, ⟨by omega, fun q cs hq => (hs q (fun e => by subst e; rw [h1] at hq; cases hq)).trans hq⟩⟩
/-- The blocks that a store into the grid leaves. -/
def K3 (W : World) (rb R : Nat) (rs : Nat → Nat) : Nat → Prop := fun k => k < W.heap.size ∧ k ≠ rb ∧ ∀ i, i < R → k ≠ rs i
theorem TI.put (A : TA K w5 g rb cp R C rs cell nb) (h : TI K w5 g rb cp R C rs cell x nb W) {i j : Nat} (hi : i < R) (hj : j < C) {c : Cl} (hc : ∀ P : Cl → Prop, P x → (∀ i j, i < R → j < C → P (cell i j)) → P c) :
  ∃ cell', KB (K3 W rb R rs) W ∧ GridIs (K3 W rb R rs) W g rb cp R C rs cell' ∧ ∀ W', GridIs (K3 W rb R rs) W' g rb cp R C rs (setCl rs cell' i j c) → Kept (K3 W rb R rs) W W' →
   KeepsFrom w5.heap.size W W' ∧ KeepsT 23 W W' ∧ TI K w5 g rb cp R C rs cell x nb W' := by
 obtain ⟨⟨v, h1⟩, ⟨c', h2, h3⟩, h4⟩ := h
 have hsz := h4.size
 have hrb := A.gi.rowB.blk.lt
 refine ⟨c', fun k hk => hk.1, h2.under ⟨h2.glt, fun e => h2.kr (e ▸ h2.kg), fun i hi e => h2.ks i hi (e ▸ h2.kg)⟩ (fun hk => hk.2.1 rfl) (fun i hi hk => hk.2.2 i hi rfl), fun W' hg hk => ⟨⟨hk.size, fun q o hB hq _ => ?_⟩, ⟨hk.size, fun q cs hq => ?_⟩, ⟨v, ?_⟩, ⟨setCl rs c' i j c, ?_, ?_⟩, ?_⟩⟩
 ·refine (hk.block q ⟨(Array.getElem?_eq_some_iff.1 hq).1, by omega, fun i hi e => ?_⟩).trans hq
  have := (A.gi.celB i hi).blk.lt
  omega
 ·refine (hk.block q ⟨(Array.getElem?_eq_some_iff.1 hq).1, fun e => ?_, fun i hi e => ?_⟩).trans hq
  ·subst e; obtain ⟨cs', h5, _⟩ := h2.rowB; rw [h5] at hq; cases hq
  ·subst e; obtain ⟨cs', h5, _⟩ := h2.celB i hi; rw [h5] at hq; cases hq
 ·exact (hk.block nb ⟨(Array.getElem?_eq_some_iff.1 h1).1, A.nr, A.ns⟩).trans h1
 ·exact hg.under h2.kg h2.kr h2.ks
 ·intro P hx hP i' j' hi' hj'
  unfold setCl
  split
  ·exact hc P hx hP
  ·exact h3 P hx hP i' j' hi' hj'
 ·exact h4.trans (hk.less (fun k hk => ⟨Nat.lt_of_lt_of_le (A.kb k hk) hsz, fun e => h2.kr (e ▸ hk), fun i hi e => h2.ks i hi (e ▸ hk)⟩))
end
end Go.Proofs.YtpjooboohelffaaGreatDoor
/- Top: wipe's turn, for what Wipe does. -/
namespace Go.Proofs.YtpjooboohelffaaGreatDoor
open Go.RowKit Go.Shelf
set_option linter.unusedVariables false
set_option linter.unusedSimpArgs false
set_option maxRecDepth 100000
attribute [local go_sem] Oper.semAt_some
set_option maxHeartbeats 1000000 in
theorem turn_any {K : Nat → Prop} {g rb cp R C : Nat} {rs : Nat → Nat} {cell : Nat → Nat → Cl} (w : World) (hK : KB K w) (h : GridIs K w g rb cp R C rs cell) (a b c d : Int) (bg bc : Nat) (x : Cl) (gd : Bool)
  (hg : w.cell? ⟨bg, 0, none⟩ = some (.bool gd)) (hc : CellsAt w bc 1 (fun _ => x)) (hbg : K bg) (hbc : K bc) :
  Calls Tryz.prog 223 #[.pointer (some ⟨g, 0, none⟩), pr a b, pr c d, .func (.func 224) #[] #[.pointer (some ⟨bg, 0, none⟩), .pointer (some ⟨bc, 0, none⟩)]] w fun e w' =>
   (∃ n z, e = .returned (.tuple #[.int .i64 n, .int .i64 z])) ∧ SlideP K w w' g rb cp R C x cell := by
 refine (callsIn_wide (n := 3)).1 (callsIn_of_wp_marks Tryz.func223 rfl trivial ?_ rfl)
 simp only [Tryz.ntmps223, List.size_toArray, List.length_cons, List.length_nil, Nat.reduceAdd, Nat.reduceSub, Array.replicate_succ, Array.replicate_zero, List.push_toArray, List.append_toArray, List.nil_append, List.cons_append]
 have HG := Lib.hid h
 have HKb := Lib.hid hK
 have Hsame := Lib.hid (fun W (hb : Below w.heap.size w W) => SlideP.same h hK hb x)
 have HAt := Lib.hid (fun W (hb : Below w.heap.size w W) (i j : Nat) hi hj => at_ok W (h.later hb) i j hi hj)
 have HOut := Lib.hid (fun W (hb : Below w.heap.size w W) (i j : Int) hij => at_out W (h.later hb) i j hij)
 have HA := Lib.hid (fun W => all_any W (some ⟨g, 0, none⟩))
 clear h hK
 gi_wp2_with fail
 refine gen_tmps ?_
 intro T hT
 simp only at hT
 generalize hw2 : ((((w.alloc (Obj.cells #[Value.pointer (some { block := g, off := 0 })] 79)).alloc (Obj.cells #[Value.int IntKind.i64 a, Value.int IntKind.i64 b] 36)).alloc
       (Obj.cells #[Value.int IntKind.i64 c, Value.int IntKind.i64 d] 36)).alloc (Obj.cells #[Value.func (Fn.func 224) #[] #[Value.pointer (some { block := bg, off := 0 }), Value.pointer (some { block := bc, off := 0 })]] 297)).alloc
     (Obj.cells #[Value.int IntKind.i64 a, Value.int IntKind.i64 b, Value.int IntKind.i64 c, Value.int IntKind.i64 d] 36) = w2
 have hB : Below w.heap.size w w2 := by rw [← hw2]; exact bel_alloc (bel_alloc (bel_alloc (bel_alloc (bel_alloc (Below.refl _ _) _) _) _) _) _
 have f0 : w2.cell? ⟨w.heap.size, 0, none⟩ = some (.pointer (some ⟨g, 0, none⟩)) := by rw [← hw2]; simp [go_sem]
 have f1 : w2.cell? ⟨w.heap.size + 1, 0, none⟩ = some (.int .i64 a) ∧ w2.cell? ⟨w.heap.size + 1, 1, none⟩ = some (.int .i64 b) := by rw [← hw2]; constructor <;> simp [go_sem]
 have f2 : w2.cell? ⟨w.heap.size + 1 + 1, 0, none⟩ = some (.int .i64 c) ∧ w2.cell? ⟨w.heap.size + 1 + 1, 1, none⟩ = some (.int .i64 d) := by rw [← hw2]; constructor <;> simp [go_sem]
 have f3 : w2.cell? ⟨w.heap.size + 1 + 1 + 1, 0, none⟩ = some (.func (.func 224) #[] #[.pointer (some ⟨bg, 0, none⟩), .pointer (some ⟨bc, 0, none⟩)]) := by rw [← hw2]; simp [go_sem]
 have f4 : PosAt w2 (w.heap.size + 1 + 1 + 1 + 1) 2 (two a c) (two b d) := posAt_two (by rw [← hw2]; simp [go_sem]) (by rw [← hw2]; simp [go_sem]) (by rw [← hw2]; simp [go_sem]) (by rw [← hw2]; simp [go_sem])
 have hsz : w.heap.size + 5 ≤ w2.heap.size := by rw [← hw2]; simp
 have H0 := Lib.hid f0
 have H1 := Lib.hid f1
 have H2 := Lib.hid f2
 have H3 := Lib.hid f3
 have H4 := Lib.hid f4
 have HB := Lib.hid hB
 have HSz := Lib.hid hsz
 clear f0 f1 f2 f3 f4 hB hsz hw2
 subst hT
 gi_loopw [22] (fun i wr => ∃ k : Nat, k ≤ 2 ∧ i = .int .i64 (k : Int) ∧ (∀ j, j < k → inR R C (two a c j) (two b d j)) ∧ Below w2.heap.size w2 wr) (fun i _ => 2 - (intOf i).toNat)
 case atStart => exact ⟨0, by omega, rfl, fun j hj => absurd hj (by omega), Below.refl _ _⟩
 case round =>
  obtain ⟨k, hk, rfl, hall, hb⟩ := hrel
  have hbw : Below w.heap.size w wr := bel_call HB.out hb
  have k0 := cellB hb H0.out
  have Hb := Lib.hid hb
  have Hbw := Lib.hid hbw
  by_cases hlt : k < 2
  ·have q1 : (k : Int) < 2 := by omega
   obtain ⟨p0, p1⟩ := H4.out.later hb k hlt
   have hs4 := blt p0
   have hs0 := blt k0
   clear hb hbw
   by_cases hin : inR R C (two a c k) (two b d k)
   ·obtain ⟨r, hr⟩ : ∃ r, two a c k = r := ⟨_, rfl⟩
    obtain ⟨q, hq⟩ : ∃ q, two b d k = q := ⟨_, rfl⟩
    have hin' := hin
    rw [hr] at p0 hin'
    rw [hq] at p1 hin'
    unfold inR at hin'
    obtain ⟨r, rfl⟩ := Int.eq_ofNat_of_zero_le hin'.1
    obtain ⟨q, rfl⟩ := Int.eq_ofNat_of_zero_le hin'.2.2.1
    have hr2 : r < R := by omega
    have hq2 : q < C := by omega
    clear hin'
    gi_wp2_with (refine ⟨trivial, ?_⟩; gi_at_call 96; refine (callsIn_wide.2 (HAt.out _ (bel_alloc Hbw.out _) r q hr2 hq2)).mono ?_; rintro e w3 ⟨rfl, b3⟩; unfold Cl.v)
    refine ⟨⟨k + 1, by omega, by push_cast; rfl, fun j hj => ?_, bel_call Hb.out (bel_alloc (bel_call (bel_alloc (Below.refl _ _) _) b3) _)⟩, by simp [intOf]; omega⟩
    by_cases hjk : j = k
    ·subst hjk; exact hin
    ·exact hall j (by omega)
   ·gi_wp2_with (refine ⟨trivial, ?_⟩; gi_at_call 96; refine (callsIn_wide.2 (HOut.out _ (bel_alloc Hbw.out _) _ _ hin)).mono ?_; rintro e w3 ⟨rfl, b3⟩; unfold Cl.v)
    exact ⟨.tuple #[.int .i64 0, .int .i64 11], by simp [results, Tryz.results223, go_sem], ⟨_, _, rfl⟩, Hsame.out _ (bel_alloc (bel_call (bel_alloc Hbw.out _) b3) _)⟩
  ·obtain rfl : k = 2 := by omega
   have hin0 := hall 0 (by decide)
   have hin1 := hall 1 (by decide)
   have j0 := (show wr.cell? ⟨w.heap.size + 1, 0, none⟩ = some (.int .i64 a) from cellB hb H1.out.1)
   have j1 := (show wr.cell? ⟨w.heap.size + 1, 1, none⟩ = some (.int .i64 b) from cellB hb H1.out.2)
   have j2 := (show wr.cell? ⟨w.heap.size + 1 + 1, 0, none⟩ = some (.int .i64 c) from cellB hb H2.out.1)
   have j3 := (show wr.cell? ⟨w.heap.size + 1 + 1, 1, none⟩ = some (.int .i64 d) from cellB hb H2.out.2)
   clear hb hbw hall
   have Hin0 := Lib.hid hin0
   have Hin1 := Lib.hid hin1
   clear hin0 hin1
   cases hah : aheadB c d a b with
   | true =>
    gi_wp2_with (refine ⟨trivial, ?_⟩; gi_at_call 244; refine (callsIn_wide.2 (ahead_any _ c d a b)).mono ?_; rintro e w3 ⟨rfl, b3⟩; rw [hah])
    exact ⟨.tuple #[.int .i64 0, .int .i64 1], by simp [results, Tryz.results223, go_sem], ⟨_, _, rfl⟩, Hsame.out _ (bel_call Hbw.out b3)⟩
   | false =>
    gi_wp2_with (refine ⟨trivial, ?_⟩; first | (gi_at_call 244; refine (callsIn_wide.2 (ahead_any _ c d a b)).mono ?_; rintro e w3 ⟨rfl, b3⟩; rw [hah]; have k3 := cellB b3 k0; have hl3 := blt k3) | (gi_at_call 63; refine (callsIn_wide.2 (HA.out _)).mono ?_; rintro e w4 ⟨rfl, rfl⟩))
    refine gen_tmps ?_
    intro T hT
    simp only at hT
    generalize hw5 : (w3.alloc (Obj.cells #[Value.int IntKind.i64 0] 3)).alloc (Obj.cells #[Value.pointer (some { block := g, off := 0 })] 79) = w5
    have b5 : Below w3.heap.size w3 w5 := by rw [← hw5]; exact bel_alloc (bel_alloc (Below.refl _ _) _) _
    have hsz5 : w5.heap.size = w3.heap.size + 1 + 1 := by rw [← hw5]; simp
    have cn : w5.heap[w3.heap.size]? = some (.cells #[.int .i64 0] 3 (0, 0)) := by
     rw [← hw5]
     exact (Below.heap_alloc _ _ _ (by simp)).trans (heap_alloc_new w3 _)
    have cx : w5.cell? ⟨w3.heap.size + 1, 0, none⟩ = some (.pointer (some ⟨g, 0, none⟩)) := by rw [← hw5]; simp [go_sem]
    clear hw5
    have B3 := bel_call Hb.out b3
    have B5 := bel_call B3 b5
    have BW := bel_call HB.out B5
    have hz2 := HSz.out
    have hz3 := B3.size
    have hz5 := B5.size
    have A : TA (fun k => Loc K w w5 k ∧ k ≠ w3.heap.size) w5 g rb cp R C rs cell w3.heap.size := by
     have G5 := HG.out.loc BW
     refine ⟨fun k hk => HKb.out.loc BW k hk.1, G5.under ⟨G5.kg, fun e => ?_⟩ (fun hk => G5.kr hk.1) (fun i hi hk => G5.ks i hi hk.1), by omega, fun hk => hk.2 rfl, fun e => ?_, fun i hi e => ?_⟩
     ·have := HKb.out g HG.out.kg; omega
     ·have := HG.out.rowB.blk.lt; omega
     ·have := (HG.out.celB i hi).blk.lt; omega
    have I0 : TI (fun k => Loc K w w5 k ∧ k ≠ w3.heap.size) w5 g rb cp R C rs cell x w3.heap.size w5 := ⟨⟨0, cn⟩, ⟨cell, A.gi, Frm.refl _ _ _ _⟩, Kept.refl _ _⟩
    have HE : ∀ W, TI (fun k => Loc K w w5 k ∧ k ≠ w3.heap.size) w5 g rb cp R C rs cell x w3.heap.size W → SlideP K w W g rb cp R C x cell := by
     rintro W ⟨_, ⟨c', h1, h2⟩, h3⟩
     have hl : ∀ k, K k → Loc K w w5 k ∧ k ≠ w3.heap.size := fun k hk => ⟨.inl hk, fun e => by have := HKb.out k hk; omega⟩
     exact ⟨⟨rs, c', h1.under HG.out.kg (fun hk => h1.kr (hl _ hk)) (fun i hi hk => h1.ks i hi (hl _ hk)), h2⟩, (Kept.ofBelow BW HKb.out).trans (h3.less hl)⟩
    have HC : ∀ W, TI (fun k => Loc K w w5 k ∧ k ≠ w3.heap.size) w5 g rb cp R C rs cell x w3.heap.size W →
      W.cell? ⟨w.heap.size, 0, none⟩ = some (.pointer (some ⟨g, 0, none⟩)) ∧ W.cell? ⟨w.heap.size + 1, 0, none⟩ = some (.int .i64 a) ∧ W.cell? ⟨w.heap.size + 1, 1, none⟩ = some (.int .i64 b) ∧
      W.cell? ⟨w.heap.size + 1 + 1, 0, none⟩ = some (.int .i64 c) ∧ W.cell? ⟨w.heap.size + 1 + 1, 1, none⟩ = some (.int .i64 d) ∧
      W.cell? ⟨w.heap.size + 1 + 1 + 1, 0, none⟩ = some (.func (.func 224) #[] #[.pointer (some ⟨bg, 0, none⟩), .pointer (some ⟨bc, 0, none⟩)]) ∧
      W.cell? ⟨w3.heap.size + 1, 0, none⟩ = some (.pointer (some ⟨g, 0, none⟩)) ∧ W.cell? ⟨bg, 0, none⟩ = some (.bool gd) ∧ CellsAt W bc 1 (fun _ => x) := by
     intro W hW
     have kl := fun k (h1 : w.heap.size ≤ k) (h2 : k < w3.heap.size) => (show Loc K w w5 k ∧ k ≠ w3.heap.size from ⟨.inr ⟨h1, by omega⟩, by omega⟩)
     have kk := fun k (hk : K k) => (show Loc K w w5 k ∧ k ≠ w3.heap.size from ⟨.inl hk, fun e => by have := HKb.out k hk; omega⟩)
     refine ⟨hW.kept.cell (kl _ (by omega) (by omega)) (cellB B5 H0.out), hW.kept.cell (kl _ (by omega) (by omega)) (cellB B5 H1.out.1), hW.kept.cell (kl _ (by omega) (by omega)) (cellB B5 H1.out.2),
      hW.kept.cell (kl _ (by omega) (by omega)) (cellB B5 H2.out.1), hW.kept.cell (kl _ (by omega) (by omega)) (cellB B5 H2.out.2), hW.kept.cell (kl _ (by omega) (by omega)) (cellB B5 H3.out),
      hW.kept.cell ⟨.inr ⟨by omega, by omega⟩, by omega⟩ cx, hW.kept.cell (kk _ hbg) (cellB BW hg), fun j hj => ?_⟩
     obtain ⟨c0, c1, c2, c3⟩ := hc j hj
     exact ⟨hW.kept.cell (kk _ hbc) (cellB BW c0), hW.kept.cell (kk _ hbc) (cellB BW c1), hW.kept.cell (kk _ hbc) (cellB BW c2), hW.kept.cell (kk _ hbc) (cellB BW c3)⟩
    clear b3 b5 cn cx B3 B5 BW k3 hl3 j0 j1 j2 j3 k0 Hb Hbw Hin0 Hin1 HOut HAt H0 H1 H2 H3 H4 HA Hsame hg hc
    generalize (fun k => Loc K w w5 k ∧ k ≠ w3.heap.size) = K2 at *
    have HTA := Lib.hid A
    have HI0 := Lib.hid I0
    have HEE := Lib.hid HE
    have HCC := Lib.hid HC
    have Hz5 := Lib.hid hsz5
    have Hlt := Lib.hid (show w.heap.size < w3.heap.size from by omega)
    clear A I0 HE HC hsz5 hz2 hz3 hz5
    refine range_law (n := 2) (m := 1) (gf := 99) (lb := #[.pointer (some ⟨w3.heap.size + 1, 0, none⟩)]) (by rw [hT]; rfl) (enters_of Tryz.func99 (by kernel_rfl) rfl) (encs := encPC) (fun _ => rfl)
     (S := fun ys => ys.length = R * C) (Sp := fun _ => True) (V := fun _ y => y.i < R ∧ y.j < C ∧ ∀ P : Cl → Prop, P x → (∀ i j, i < R → j < C → P (cell i j)) → P y.c) (N := R * C) (Kp := KeepsT 23) KeepsT.trans (fun W l o o' _ hl ho _ => KeepsT.putObj W l o o' hl ho)
     (fun pre W => TI K2 w5 g rb cp R C rs cell x w3.heap.size W)
     (fun c pre W => False)
     ?hI ?hIx HI0.out
     (fun y a' W => ∃ b c, w5.heap.size ≤ b ∧ w5.heap.size ≤ c ∧ W.heap[b]? = some (.cells #[.int .i64 (y.i : Int), .int .i64 (y.j : Int)] 36 (0, 0)) ∧ CellsAt W c 1 (fun _ => y.c) ∧
      a' = { tmps := (((T.setIfInBounds 41 (pr y.i y.j)).setIfInBounds 42 y.c.v).setIfInBounds 15 (.pointer (some ⟨b, 0, none⟩))).setIfInBounds 16 (.pointer (some ⟨c, 0, none⟩)), defers := [] })
     ?hAx ?hit ?assign ?body ?done ?stop
    case hI => exact fun s W W' row h hg hr => h.grown HTA.out hg (fun r e => (hr r e).1)
    case hIx => exact fun c pre W W' row h _ _ => h
    case hAx =>
     rintro y a' _ W W' row ⟨b, c, hb, hc, k0, k2, e⟩ hg hr
     have kk := fun {b o v} (k : W.cell? ⟨b, o, none⟩ = some v) => cell_kept k hg (fun r e => (hr r e).2)
     exact ⟨b, c, hb, hc, blk_kept k0 hg (fun r e => (hr r e).2), fun j hj => ⟨kk (k2 j hj).1, kk (k2 j hj).2.1, kk (k2 j hj).2.2.1, kk (k2 j hj).2.2.2⟩, e⟩
    case hit =>
     rintro W0 ⟨o, o', _, _, rfl⟩ hI0
     refine all_iter 2 (by decide) (w3.heap.size + 1) w5.heap.size g rb cp R C K2 _ _ _ _ (by simp; omega) (fun pre X X' h hb => h.later HTA.out hb) (fun pre X h => ⟨(HCC.out _ h).2.2.2.2.2.2.1, ?_⟩) (fun _ _ h => h)
     obtain ⟨c', h1, h2⟩ := h.gr
     refine ⟨rs, c', h1, fun hl => ?_⟩
     have hc1 := h1.c1
     have q1 : pre.length / C < R := Nat.div_lt_of_lt_mul (by rw [Nat.mul_comm]; exact hl)
     have q2 : pre.length % C < C := Nat.mod_lt _ hc1
     exact ⟨q1, q2, fun P hx hP => h2 P hx hP _ _ q1 q2⟩
    case assign =>
     rintro l pre y W Kk hi hK
     have hbW : Below W.heap.size W ((W.alloc (Obj.cells #[Value.int IntKind.i64 ↑y.i, Value.int IntKind.i64 ↑y.j] 36)).alloc
      (Obj.cells #[Value.int IntKind.i32 y.c.g, Value.int IntKind.i64 y.c.a, Value.bool y.c.d, Value.int IntKind.i64 y.c.m] 48)) := bel_alloc (bel_alloc (Below.refl _ _) _) _
     have h5 := hi.kept.size
     have HKk := Lib.hid (fun (a : Act) h => hK a _ (keepsB hbW) (KeepsT.ofBelow hbW) (hi.later HTA.out hbW)
      ⟨W.heap.size, W.heap.size + 1, by omega, by omega, (Below.heap_alloc _ _ _ (by simp)).trans (heap_alloc_new W _), fun j hj => by (obtain rfl : j = 0 := by omega); (refine ⟨?_, ?_, ?_, ?_⟩ <;> simp [go_sem]), h⟩)
     clear hK hi h5 hbW
     subst hT
     simp only [encPC, Cl.v]
     gi_wp2
     exact HKk.out _ rfl
    case body =>
     rintro l pre y a' W hi ⟨bb, bcc, hbb, hbcc, kb0, kc0, rfl⟩ hlen ⟨hyi, hyj, hyc⟩
     subst hT
     obtain ⟨v0, v1⟩ := cells2 kb0
     have kc0' := kc0
     obtain ⟨d0, d1, d2, d3⟩ := kc0 0 (by decide)
     simp only [Nat.zero_mul, Nat.zero_add] at d0 d1 d2 d3
     obtain ⟨n, hn⟩ := hi.n
     obtain ⟨n0, n1⟩ := cell1 hn
     obtain ⟨e0, e1, e2, e3, e4, e5, e6, e7, e8⟩ := HCC.out _ hi
     have HI := Lib.hid hi
     have Hyc := Lib.hid hyc
     have H8 := Lib.hid e8
     have Hkc := Lib.hid kc0
     clear hi hyc e6 hn e8 kc0 kc0' kb0
     have END := Lib.hid (fun X (hb : Below W.heap.size W X) => (show KeepsFrom w5.heap.size W X ∧ KeepsT 23 W X ∧ TI K2 w5 g rb cp R C rs cell x w3.heap.size X from ⟨keepsB hb, KeepsT.ofBelow hb, HI.out.later HTA.out hb⟩))
     have l0 := blt e0
     have l1 := blt e1
     have l3 := blt e3
     have l5 := blt e5
     have lv := blt v0
     have ld := blt d0
     have ln := blt n0
     cases h1 : aheadB y.i y.j a b with
     | true =>
      gi_wp2_with (first | (refine ⟨trivial, ?_⟩; gi_at_call 244; refine (CallsIn.inRound l (callsIn_wide.2 (ahead_any _ _ _ _ _))).mono ?_; rintro e w6 ⟨rfl, b6⟩; rw [h1]) | refine ⟨trivial, ?_⟩)
      exact END.out _ b6
     | false =>
      cases h2 : aheadB c d y.i y.j with
      | true =>
       gi_wp2_with (refine ⟨trivial, ?_⟩; gi_at_call 244; refine (CallsIn.inRound l (callsIn_wide.2 (ahead_any _ _ _ _ _))).mono ?_; rintro e w6 ⟨rfl, b6⟩; first | (rw [h1]; have B6 := b6; have e3' := cellB b6 e3; have e4' := cellB b6 e4; have v0' := cellB b6 v0; have v1' := cellB b6 v1; clear b6) | rw [h2])
       exact END.out _ (bel_call B6 b6)
      | false =>
       gi_wp2_with (refine ⟨trivial, ?_⟩; gi_at_call 244; refine (CallsIn.inRound l (callsIn_wide.2 (ahead_any _ _ _ _ _))).mono ?_; rintro e w6 ⟨rfl, b6⟩; first | (rw [h1]; have B6 := b6; have e3' := cellB b6 e3; have e4' := cellB b6 e4; have v0' := cellB b6 v0; have v1' := cellB b6 v1; clear b6) | (rw [h2]; have b67 := bel_call B6 b6; have d0' := cellB b67 d0; have d1' := cellB b67 d1; have d2' := cellB b67 d2; have d3' := cellB b67 d3; have e5' := cellB b67 e5; have l5' := blt e5'))
       have b68 : Below W.heap.size W (w6.alloc (Obj.cells #[Value.int IntKind.i32 y.c.g, Value.int IntKind.i64 y.c.a, Value.bool y.c.d, Value.int IntKind.i64 y.c.m] 48)) := bel_alloc b67 _
       refine ⟨trivial, ?_⟩
       refine (CallsIn.inRound l (callsIn_wide.2 (how_put _ _ _ _ y.c x gd (fun j hj => ?_) (Blk.new rfl rfl) (cellB b68 e7) (fun j hj => ?_)))).mono ?_
       ·obtain rfl : j = 0 := by omega
        refine ⟨?_, ?_, ?_, ?_⟩ <;> simp [go_sem]
       ·obtain ⟨c0, c1, c2, c3⟩ := H8.out j hj
        exact ⟨cellB b68 c0, cellB b68 c1, cellB b68 c2, cellB b68 c3⟩
       rintro e w8 ⟨rfl, yv, hy, hcy, b8⟩
       have B8 : Below W.heap.size W w8 := bel_call b67 (((Below.refl w6.heap.size w6).alloc (Nat.le_refl _) _).trans b8)
       obtain ⟨c0, c1, c2, c3⟩ := hcy 0 (by decide)
       simp only [Nat.zero_mul, Nat.zero_add] at c0 c1 c2 c3
       obtain ⟨r, hr⟩ := neq48 yv y.c
       have m0 := cellB B8 n0
       have m1 := (B8.frozen (p := ⟨w3.heap.size, 0, none⟩) ln).trans n1
       have g0 := cellB B8 e0
       have p0 := cellB B8 v0
       have p1 := cellB B8 v1
       have t0 := cellB B8 d0
       have t1 := cellB B8 d1
       have t2 := cellB B8 d2
       have t3 := cellB B8 d3
       have hz := Hz5.out
       have hs0 := Hlt.out
       have hs1 : w3.heap.size < bb := by omega
       have hs2 : w3.heap.size < w6.heap.size := by have := b67.size; omega
       have I8 := HI.out.later HTA.out B8
       have hyv : ∀ P : Cl → Prop, P x → (∀ i j, i < R → j < C → P (cell i j)) → P yv := fun P hx hP => by
        rcases hy with rfl | rfl
        ·exact Hyc.out P hx hP
        ·exact hx
       have HP9 := Lib.hid (fun u => (I8.setn HTA.out u).put HTA.out hyi hyj hyv)
       have HN9 := Lib.hid (fun u => I8.keeps HTA.out u)
       have HB8 := Lib.hid B8
       have EB := END.out _ B8
       have EN := Lib.hid EB
       clear EB I8 hyv hy hcy b8 B8 b68 b67 B6 b6 hz H8 Hyc END HI e0 e1 e2 e3 e4 e5 e7 v0 v1 d0 d1 d2 d3 n0 n1 d0' d1' d2' d3' e5' e3' e4' v0' v1' HI0 HEE HCC h1 h2 hbb hbcc l0 l1 l3 l5 lv ld ln l5' hlen
       cases r with
       | false =>
        gi_wp2_with fail
        exact EN.out
       | true =>
        gi_wp2_with fail
        obtain ⟨c', hk9, hg9, hend⟩ := HP9.out (wrap64 (n + 1))
        obtain ⟨r1, r2⟩ := HN9.out (wrap64 (n + 1))
        refine ⟨trivial, ?_⟩
        refine (CallsIn.inRound l (callsIn_wide.2 (set_ok _ hk9 hg9 y.i y.j hyi hyj yv))).mono ?_
        rintro e wA ⟨rfl, hgA, hkA⟩
        obtain ⟨q1, q2, q3⟩ := hend wA hgA hkA
        have FIN := Lib.hid (show KeepsFrom w5.heap.size W wA ∧ KeepsT 23 W wA ∧ TI K2 w5 g rb cp R C rs cell x w3.heap.size wA from ⟨EN.out.1.trans (r1.trans q1), EN.out.2.1.trans (r2.trans q2), q3⟩)
        clear hend hk9 hg9 hgA hkA q1 q2 q3 r1 r2 HP9 HN9 EN
        gi_wp2_with fail
        exact FIN.out
    case done =>
     rintro D ys W hD hlen hi hK
     subst hT
     obtain ⟨v, hn⟩ := hi.n
     obtain ⟨n0, n1⟩ := cell1 hn
     have HI := Lib.hid hi
     have HK := Lib.hid hK
     clear hi hK hn
     gi_wp2
     refine ⟨by simp, .inl ⟨_, _, rfl, run_takeDeferred HK.out, ?_⟩⟩
     exact ⟨.tuple #[.int .i64 v, .int .i64 0], by simp [results, Tryz.results223, go_sem], ⟨v, 0, rfl⟩, HEE.out _ (HI.out.grown HTA.out (grownBy_putObj' W D (.deferred none)) (fun k e => by cases e; exact hD))⟩
    case stop => exact fun D c pre W _ _ h _ => h.elim
end Go.Proofs.YtpjooboohelffaaGreatDoor
/- Top: wipe's Wipe. -/
namespace Go.Proofs.YtpjooboohelffaaGreatDoor
open Go.RowKit Go.Shelf
set_option linter.unusedVariables false
set_option linter.unusedSimpArgs false
set_option maxRecDepth 100000
set_option maxHeartbeats 1000000 in
theorem wipe_any {K : Nat → Prop} {g rb cp R C : Nat} {rs : Nat → Nat} {cell : Nat → Nat → Cl} (w : World) (hK : KB K w) (h : GridIs K w g rb cp R C rs cell) (a b c d : Int) (x : Cl) (gd : Bool) :
  Calls Tryz.prog 186 #[.pointer (some ⟨g, 0, none⟩), pr a b, pr c d, x.v, .bool gd] w fun e w' => (∃ n z, e = .returned (.tuple #[.int .i64 n, .int .i64 z])) ∧ SlideP K w w' g rb cp R C x cell := by
 have HT := Lib.hid (fun W (hb : Below w.heap.size w W) bg bc hg hc hbg hbc => turn_any (K := Loc K w W) W (hK.loc hb) (h.loc hb) a b c d bg bc x gd hg hc hbg hbc)
 have HB := Lib.hid (fun W W2 (hb : Below w.heap.size w W) (hs : SlideP (Loc K w W) W W2 g rb cp R C x cell) => hs.back hK h.kg hb)
 clear h hK
 unfold Cl.v at *
 go_enter Tryz.func186, Tryz.ntmps186
 go_wp2_with fail
 refine gen_calls ?_
 intro u hu0
 have KFu : ∀ W, Below u.heap.size u W → (W.cell? ⟨w.heap.size + 1 + 1, 0, none⟩ = some (.int .i32 x.g) ∧ W.cell? ⟨w.heap.size + 1 + 1, 1, none⟩ = some (.int .i64 x.a) ∧ W.cell? ⟨w.heap.size + 1 + 1, 2, none⟩ = some (.bool x.d) ∧ W.cell? ⟨w.heap.size + 1 + 1, 3, none⟩ = some (.int .i64 x.m) ∧ W.cell? ⟨w.heap.size + 1 + 1 + 1, 0, none⟩ = some (.bool gd)) ∧ True ∧ Below w.heap.size w W := by
  intro W hu
  refine ⟨⟨?_, ?_, ?_, ?_, ?_⟩, trivial, ?_⟩
  ·exact (hu.cell (by rw [hu0]; simp <;> omega)).trans (by rw [hu0]; simp [go_sem])
  ·exact (hu.cell (by rw [hu0]; simp <;> omega)).trans (by rw [hu0]; simp [go_sem])
  ·exact (hu.cell (by rw [hu0]; simp <;> omega)).trans (by rw [hu0]; simp [go_sem])
  ·exact (hu.cell (by rw [hu0]; simp <;> omega)).trans (by rw [hu0]; simp [go_sem])
  ·exact (hu.cell (by rw [hu0]; simp <;> omega)).trans (by rw [hu0]; simp [go_sem])
  ·exact bel_call (by rw [hu0]; (repeat first | exact Below.refl _ _ | refine bel_alloc ?_ _)) hu
 clear hu0
 obtain ⟨⟨k0, k1, k2, k3, k4⟩, _, kb⟩ := KFu _ (Below.refl _ _)
 have hl2 := blt k0
 have hl3 := blt k4
 refine (HT.out u kb _ _ k4 (fun j hj => ?_) (.inr ⟨by omega, hl3⟩) (.inr ⟨by omega, hl2⟩)).mono ?_
 ·obtain rfl : j = 0 := by omega
  exact ⟨k0, k1, k2, k3⟩
 rintro e w1 ⟨⟨n, z, rfl⟩, hs⟩
 have hs' := HB.out _ _ kb hs
 clear hs KFu k0 k1 k2 k3 k4 HT HB
 go_wp2_with fail
 exact bodyPost_ret (v := .tuple #[.int .i64 n, .int .i64 z]) (by simp [results, Tryz.results186, go_sem]) rfl ⟨⟨_, _, rfl⟩, hs'⟩
end Go.Proofs.YtpjooboohelffaaGreatDoor
