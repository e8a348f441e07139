/- TopLooks and TopSends, helper 14 of 27. It holds: the screen: Part, Tab, Stop, Stops. Each theorem states its own conditions. -/
import Derived.Test.YtpjooboohelffaaGreatDoorM12
import Derived.Deep.Cut
/- Top: the screen: Part, Tab, Stop, Stops. -/
namespace Go.Proofs.YtpjooboohelffaaGreatDoor
open Go.RowKit Go.Shelf T05
set_option linter.unusedVariables false
set_option linter.unusedSimpArgs false
set_option maxRecDepth 100000
theorem wpAnyH_name {P : Program} {md : Region.Mode} {ops : Array Oper} {Q : Exit → Act → World → Prop} {S : World → Prop} {fuel : Nat} {listed : Array Bool} {a : Act} {w0 : World} (h : ∀ W, W = w0 → wpAnyH P md ops Q S fuel listed a W) : wpAnyH P md ops Q S fuel listed a w0 := h _ rfl
theorem blk_named {W w : World} {cs : Array Value} {t : TypeId} {n : Nat} (h : W = w.alloc (.cells cs t)) (hn : cs.size = n) : Blk W w.heap.size n := by rw [h]; exact Blk.new rfl hn
theorem Blk.named {W w : World} {o : Obj} {b n : Nat} (hb : Blk w b n) (h : W = w.alloc o) : Blk W b n := by rw [h]; exact hb.alloc o
theorem blk_named' {W w : World} {cs : Array Value} {t : TypeId} {n : Nat} (h : W = (w.alloc (.cells cs t)).drew) (hn : cs.size = n) : Blk W w.heap.size n := by
 have : Blk (w.alloc (.cells cs t)).drew w.heap.size n := Blk.later (Blk.new rfl hn) (Below.refl _ _).drew
 rw [h]; exact this
theorem Blk.named' {W w : World} {o : Obj} {b n : Nat} (hb : Blk w.drew b n) (h : W = (w.alloc o).drew) : Blk W b n := by rw [h]; exact hb.alloc o
theorem Blk.later2 {W w w0 : World} {b n : Nat} (hb : Blk w0 b n) (h : W = w) (hk : Below w0.heap.size w0 w) : Blk W b n := by rw [h]; exact hb.later hk
theorem Blk.set2 {W w : World} {b n : Nat} {p q : Addr} {u v : Value} (hb : Blk w b n) (h : W = (w.setCell p u).setCell q v) : Blk W b n := by rw [h]; exact (hb.set _ _).set _ _
/-- Two values in a block of the call's own. -/
def At2 (W : World) (b : Nat) (u v : Value) : Prop := W.cell? ⟨b, 0, none⟩ = some u ∧ W.cell? ⟨b, 1, none⟩ = some v
theorem at2_set {W w : World} {b : Nat} {u v : Value} (h : W = (w.setCell ⟨b, 0, none⟩ u).setCell ⟨b, 1, none⟩ v) (hb : Blk w b 2) : At2 W b u v := by
 obtain ⟨_, e0, _⟩ := hb.get 0 (by decide)
 obtain ⟨_, e1, _⟩ := hb.get 1 (by decide)
 rw [h]
 constructor
 ·rw [World.cell?_setCell_other _ _ _ _ (by simp)]
  exact World.cell?_setCell_same' _ _ _ (by rw [e0]; rfl)
 ·exact World.cell?_setCell_same' _ _ _ (by rw [World.cell?_setCell_other _ _ _ _ (by simp), e1]; rfl)
theorem at2_later {W w w0 : World} {b : Nat} {u v : Value} (h : W = w) (hy : At2 w0 b u v) (hk : Below w0.heap.size w0 w) : At2 W b u v := by rw [h]; exact ⟨cellB hk hy.1, cellB hk hy.2⟩
theorem at2_alloc {W w : World} {o : Obj} {b : Nat} {u v : Value} (h : W = w.alloc o) (hy : At2 w b u v) : At2 W b u v := at2_later h hy (bel_alloc (Below.refl _ _) _)
theorem at2_other {W w : World} {b c : Nat} {u v u' v' : Value} (h : W = (w.setCell ⟨c, 0, none⟩ u').setCell ⟨c, 1, none⟩ v') (hy : At2 w b u v) (hne : c ≠ b) : At2 W b u v := by
 rw [h]; exact ⟨cs_other (cs_other hy.1 hne) hne, cs_other (cs_other hy.2 hne) hne⟩
section
variable {K : Nat → Prop} {L : Lay} {rs : Nat → Nat} {cell : Nat → Nat → Cl} {r c : Int} {S : Int → Bool}
theorem SlidS.back {w W W' : World} {x : Cl} (h : SlidS (Loc K w W) L W W' cell r c S x) (hK : KB K w) (hb : Below w.heap.size w W) (hg : GK K) : SlidS K L w W' cell r c S x := by
 obtain ⟨⟨rs', cell', h1, h2⟩, h3⟩ := h
 exact ⟨⟨rs', cell', h1.less (fun k hk => .inl hk) hg, h2⟩, (Kept.ofBelow hb hK).trans (h3.less (fun k hk => .inl hk))⟩
theorem SlidS.same {w W : World} (h : Scr K L w rs cell r c S) (hK : KB K w) (hb : Below w.heap.size w W) (x : Cl) : SlidS K L w W cell r c S x := ⟨⟨rs, cell, h.later hb, Frm.refl _ _ _ _⟩, Kept.ofBelow hb hK⟩
set_option maxHeartbeats 8000000 in
theorem s_part (w : World) (hK : KB K w) (h : Scr K L w rs cell r c S) (part : Int) (hp : part = 1 ∨ part = 2 ∨ part = 5) (x : Cl) (gd : Bool) :
  Calls Tryz.prog 110 #[.pointer (some ⟨L.sb, 0, none⟩), .int .i64 part, x.v, .bool gd] w fun e w' => e = .returned (.tuple #[]) ∧ SlidS K L w w' cell r c S x := by
 obtain ⟨i, j, rfl, rfl, hi, hj⟩ := inR_nat h.rc
 have HS := Lib.hid (fun W (hb : Below w.heap.size w W) => s_size W (h.later hb))
 have HP := Lib.hid (fun W => part_any W L.R L.C h.gr.sz i j hi hj part hp)
 have HC := Lib.hid (fun W (hb : Below w.heap.size w W) a b d e => s_wipe (K := Loc K w W) W (hK.loc hb) (h.loc hb) a b d e x gd)
 have HE := Lib.hid (fun W W2 (hb : Below w.heap.size w W) (hs : SlidS (Loc K w W) L W W2 cell i j S x) => hs.back hK hb h.gk)
 have HE0 := Lib.hid (fun W (hb : Below w.heap.size w W) => SlidS.same h hK hb x)
 have k0 := h.s0
 have k1 := h.s1
 have hl := blt k0
 clear h hK hp
 unfold Cl.v at *
 go_enter Tryz.func110, Tryz.ntmps110
 go_wp2_with fail
 refine gen_wp ?_
 intro u hu0
 have FB : Below w.heap.size w u := by rw [hu0]; exact bel_alloc (Below.refl _ _) _
 have KFu : ∀ W, Below u.heap.size u W → (W.cell? ⟨w.heap.size, 0, none⟩ = some (.int .i32 x.g) ∧ W.cell? ⟨w.heap.size, 1, none⟩ = some (.int .i64 x.a) ∧ W.cell? ⟨w.heap.size, 2, none⟩ = some (.bool x.d) ∧ W.cell? ⟨w.heap.size, 3, none⟩ = some (.int .i64 x.m) ∧ W.cell? ⟨L.sb, 0, none⟩ = some (.int .i64 (i : Int)) ∧ W.cell? ⟨L.sb, 1, none⟩ = some (.int .i64 (j : Int))) ∧ True ∧ Below w.heap.size w W := by
  intro W hu
  refine ⟨⟨?_, ?_, ?_, ?_, ?_, ?_⟩, trivial, ?_⟩
  ·exact (hu.cell (by rw [hu0]; simp <;> omega)).trans (by rw [hu0]; simp [go_sem])
  ·exact (hu.cell (by rw [hu0]; simp <;> omega)).trans (by rw [hu0]; simp [go_sem])
  ·exact (hu.cell (by rw [hu0]; simp <;> omega)).trans (by rw [hu0]; simp [go_sem])
  ·exact (hu.cell (by rw [hu0]; simp <;> omega)).trans (by rw [hu0]; simp [go_sem])
  ·exact cellB (bel_call (by rw [hu0]; (repeat first | exact Below.refl _ _ | refine bel_alloc ?_ _)) hu) (k0)
  ·exact cellB (bel_call (by rw [hu0]; (repeat first | exact Below.refl _ _ | refine bel_alloc ?_ _)) hu) (k1)
  ·exact bel_call (by rw [hu0]; (repeat first | exact Below.refl _ _ | refine bel_alloc ?_ _)) hu
 clear hu0 k0 k1
 have hsu := FB.size
 have hbu : w.heap.size < u.heap.size := blt (KFu u (Below.refl _ _)).1.1
 go_cut [8, 9, 10] from 11 (fun s t e wx => ∃ p q a b c' d z, s = .pointer (some ⟨p, 0, none⟩) ∧ t = .pointer (some ⟨q, 0, none⟩) ∧ e = .int .i64 z ∧ Hid ((wx.cell? ⟨p, 0, none⟩ = some (.int .i64 a) ∧ wx.cell? ⟨p, 1, none⟩ = some (.int .i64 b) ∧ wx.cell? ⟨q, 0, none⟩ = some (.int .i64 c') ∧ wx.cell? ⟨q, 1, none⟩ = some (.int .i64 d)) ∧
  (wx.cell? ⟨w.heap.size, 0, none⟩ = some (.int .i32 x.g) ∧ wx.cell? ⟨w.heap.size, 1, none⟩ = some (.int .i64 x.a) ∧ wx.cell? ⟨w.heap.size, 2, none⟩ = some (.bool x.d) ∧ wx.cell? ⟨w.heap.size, 3, none⟩ = some (.int .i64 x.m)) ∧ Below w.heap.size w wx))
 case first =>
  refine wp_region_held_drew (S := fun W => (W.cell? ⟨w.heap.size, 0, none⟩ = some (.int .i32 x.g) ∧ W.cell? ⟨w.heap.size, 1, none⟩ = some (.int .i64 x.a) ∧ W.cell? ⟨w.heap.size, 2, none⟩ = some (.bool x.d) ∧ W.cell? ⟨w.heap.size, 3, none⟩ = some (.int .i64 x.m) ∧ W.cell? ⟨L.sb, 0, none⟩ = some (.int .i64 (i : Int)) ∧ W.cell? ⟨L.sb, 1, none⟩ = some (.int .i64 (j : Int))) ∧ True ∧ Below w.heap.size w W) (by kernel_rfl) (KFu _ (Below.refl _ _).drew) (fun hHeld => ?_)
  refine sY 0 14 ?_
  refine sY 2 16 ?_
  refine sY 3 17 ?_
  refine sY 4 18 ?_
  refine sY 5 19 ?_
  refine sY 6 20 ?_
  refine sY 7 21 ?_
  refine wpAnyH_ready (rs := [1, 13, 14]) (by kernel_rfl) (by simp) ?_
  refine AllReadyH.cons rfl (fun K hK => ?_) (AllReadyH.cons rfl (fun K hK => ?_) (AllReadyH.cons rfl (fun K hK => ?_) (AllReadyH.nil)))
  ·obtain ⟨⟨fc0, fc1, fc2, fc3, fc4, fc5⟩, _, fb⟩ := hHeld
   go_simp
   refine (HS.out _ fb).mono ?_
   rintro e w1 ⟨rfl, b1⟩
   (try go_wp2_with fail)
   refine hK.out _ _ ?_ (fun hHeld => ?_)
   ·exact ⟨⟨cellB b1 fc0, cellB b1 fc1, cellB b1 fc2, cellB b1 fc3, cellB b1 fc4, cellB b1 fc5⟩, trivial, bel_call fb b1⟩
   clear hK K
   refine wpAnyH_name ?_
   intro W1 hW1
   rw [← hW1] at hHeld
   clear hW1
   try simp only [Act.put, List.setIfInBounds_toArray, List.set_cons_zero, List.set_cons_succ]
   refine wpAnyH_ready (rs := [8, 13, 14]) (by kernel_rfl) (by simp) ?_
   refine AllReadyH.cons rfl (fun K hK => ?_) (AllReadyH.cons rfl (fun K hK => ?_) (AllReadyH.cons rfl (fun K hK => ?_) (AllReadyH.nil)))
   ·obtain ⟨⟨fc0, fc1, fc2, fc3, fc4, fc5⟩, _, fb⟩ := hHeld
    go_simp
    refine (HP.out _).mono ?_
    rintro e w2 ⟨⟨a, b, c', d, z, rfl⟩, b2⟩
    (try go_wp2_with fail)
    refine hK.out _ _ ?_ (fun hHeld => ?_)
    ·exact ⟨⟨cellB b2 fc0, cellB b2 fc1, cellB b2 fc2, cellB b2 fc3, cellB b2 fc4, cellB b2 fc5⟩, trivial, bel_call fb b2⟩
    clear hK K
    refine wpAnyH_name ?_
    intro W8 hW8
    rw [← hW8] at hHeld
    clear hW8
    try simp only [Act.put, List.setIfInBounds_toArray, List.set_cons_zero, List.set_cons_succ]
    refine sY 9 13 ?_
    refine sY 10 23 ?_
    refine sY 11 24 ?_
    refine sY 12 25 ?_
    refine wpAnyH_ready (rs := [13, 14]) (by kernel_rfl) (by simp) ?_
    refine AllReadyH.cons rfl (fun K hK => ?_) (AllReadyH.cons rfl (fun K hK => ?_) (AllReadyH.nil))
    ·obtain ⟨⟨fc0, fc1, fc2, fc3, fc4, fc5⟩, _, fb⟩ := hHeld
     go_simp
     (try go_wp2_with fail)
     refine hK.out _ _ ?_ (fun hHeld => ?_)
     ·exact ⟨⟨cellB (bel_alloc (Below.refl _ _) _) fc0, cellB (bel_alloc (Below.refl _ _) _) fc1, cellB (bel_alloc (Below.refl _ _) _) fc2, cellB (bel_alloc (Below.refl _ _) _) fc3, cellB (bel_alloc (Below.refl _ _) _) fc4, cellB (bel_alloc (Below.refl _ _) _) fc5⟩, trivial, bel_alloc fb _⟩
     clear hK K
     refine wpAnyH_name ?_
     intro W13 hW13
     rw [← hW13] at hHeld
     first | (have xb13 := blk_named hW13 (n := 2) rfl) | (have xb13 := blk_named' hW13 (n := 2) rfl)
     have hw13 := fb.size
     have hz13_0 := blt fc0
     have hz13_4 := blt fc4
     clear hW13
     try simp only [Act.put, List.setIfInBounds_toArray, List.set_cons_zero, List.set_cons_succ]
     refine sO 14 fun K hK => ?_
     obtain ⟨⟨fc0, fc1, fc2, fc3, fc4, fc5⟩, _, fb⟩ := hHeld
     go_simp
     (try go_wp2_with fail)
     refine hK.out _ _ ?_ (fun hHeld => ?_)
     ·exact ⟨⟨cellB (bel_alloc (Below.refl _ _) _) fc0, cellB (bel_alloc (Below.refl _ _) _) fc1, cellB (bel_alloc (Below.refl _ _) _) fc2, cellB (bel_alloc (Below.refl _ _) _) fc3, cellB (bel_alloc (Below.refl _ _) _) fc4, cellB (bel_alloc (Below.refl _ _) _) fc5⟩, trivial, bel_alloc fb _⟩
     clear hK K
     refine wpAnyH_name ?_
     intro W14 hW14
     rw [← hW14] at hHeld
     first | (have xb14 := blk_named hW14 (n := 2) rfl) | (have xb14 := blk_named' hW14 (n := 2) rfl)
     have hw14 := fb.size
     have hz14_0 := blt fc0
     have hz14_4 := blt fc4
     have hv14_13 := xb13.lt
     first | (have xb13 := xb13.named hW14) | (have xb13 := xb13.named' hW14)
     clear hW14
     try simp only [Act.put, List.setIfInBounds_toArray, List.set_cons_zero, List.set_cons_succ]
     refine sO 15 fun K hK => ?_
     obtain ⟨⟨fc0, fc1, fc2, fc3, fc4, fc5⟩, _, fb⟩ := hHeld
     obtain ⟨x0, e0, z0⟩ := xb13.get 0 (by decide)
     obtain ⟨x1, e1, z1⟩ := xb13.get 1 (by decide)
     have hlx := blt e0
     have hfb := fb.size
     have hwx13 := hw13
     go_simp
     (try go_wp2_with fail)
     refine hK.out _ _ ?_ (fun hHeld => ?_)
     ·exact ⟨⟨(cs_other (cs_other fc0 (by simp <;> omega)) (by simp <;> omega)), (cs_other (cs_other fc1 (by simp <;> omega)) (by simp <;> omega)), (cs_other (cs_other fc2 (by simp <;> omega)) (by simp <;> omega)), (cs_other (cs_other fc3 (by simp <;> omega)) (by simp <;> omega)), (cs_other (cs_other fc4 (by simp <;> omega)) (by simp <;> omega)), (cs_other (cs_other fc5 (by simp <;> omega)) (by simp <;> omega))⟩, trivial, (bel_set (bel_set fb (by first | omega | (simp <;> omega)) _) (by first | omega | (simp <;> omega)) _)⟩
     clear hK K
     refine wpAnyH_name ?_
     intro W15 hW15
     rw [← hW15] at hHeld
     have y13 := at2_set hW15 xb13
     have xb13 := xb13.set2 hW15
     have xb14 := xb14.set2 hW15
     clear hW15
     try simp only [Act.put, List.setIfInBounds_toArray, List.set_cons_zero, List.set_cons_succ]
     refine sO 16 fun K hK => ?_
     obtain ⟨⟨fc0, fc1, fc2, fc3, fc4, fc5⟩, _, fb⟩ := hHeld
     obtain ⟨x0, e0, z0⟩ := xb14.get 0 (by decide)
     obtain ⟨x1, e1, z1⟩ := xb14.get 1 (by decide)
     have hlx := blt e0
     have hfb := fb.size
     have hwx14 := hw14
     go_simp
     (try go_wp2_with fail)
     refine hK.out _ _ ?_ (fun hHeld => ?_)
     ·exact ⟨⟨(cs_other (cs_other fc0 (by simp <;> omega)) (by simp <;> omega)), (cs_other (cs_other fc1 (by simp <;> omega)) (by simp <;> omega)), (cs_other (cs_other fc2 (by simp <;> omega)) (by simp <;> omega)), (cs_other (cs_other fc3 (by simp <;> omega)) (by simp <;> omega)), (cs_other (cs_other fc4 (by simp <;> omega)) (by simp <;> omega)), (cs_other (cs_other fc5 (by simp <;> omega)) (by simp <;> omega))⟩, trivial, (bel_set (bel_set fb (by first | omega | (simp <;> omega)) _) (by first | omega | (simp <;> omega)) _)⟩
     clear hK K
     refine wpAnyH_name ?_
     intro W16 hW16
     rw [← hW16] at hHeld
     have y14 := at2_set hW16 xb14
     have xb14 := xb14.set2 hW16
     have xb13 := xb13.set2 hW16
     have y13 := at2_other hW16 y13 (by first | omega | (simp <;> omega))
     clear hW16
     try simp only [Act.put, List.setIfInBounds_toArray, List.set_cons_zero, List.set_cons_succ]
     refine sY 17 10 ?_
     refine wpAnyH_done (by kernel_rfl) ?_ _
     go_wp2_with fail
     go_meet
     exact ⟨_, _, _, _, _, _, _, rfl, rfl, rfl, Lib.hid ⟨⟨y13.1, y13.2, y14.1, y14.2⟩, ⟨hHeld.1.1, hHeld.1.2.1, hHeld.1.2.2.1, hHeld.1.2.2.2.1⟩, hHeld.2.2⟩⟩
    ·obtain ⟨⟨fc0, fc1, fc2, fc3, fc4, fc5⟩, _, fb⟩ := hHeld
     go_simp
     (try go_wp2_with fail)
     refine hK.out _ _ ?_ (fun hHeld => ?_)
     ·exact ⟨⟨cellB (bel_alloc (Below.refl _ _) _) fc0, cellB (bel_alloc (Below.refl _ _) _) fc1, cellB (bel_alloc (Below.refl _ _) _) fc2, cellB (bel_alloc (Below.refl _ _) _) fc3, cellB (bel_alloc (Below.refl _ _) _) fc4, cellB (bel_alloc (Below.refl _ _) _) fc5⟩, trivial, bel_alloc fb _⟩
     clear hK K
     refine wpAnyH_name ?_
     intro W14 hW14
     rw [← hW14] at hHeld
     first | (have xb14 := blk_named hW14 (n := 2) rfl) | (have xb14 := blk_named' hW14 (n := 2) rfl)
     have hw14 := fb.size
     have hz14_0 := blt fc0
     have hz14_4 := blt fc4
     clear hW14
     try simp only [Act.put, List.setIfInBounds_toArray, List.set_cons_zero, List.set_cons_succ]
     refine sO 13 fun K hK => ?_
     obtain ⟨⟨fc0, fc1, fc2, fc3, fc4, fc5⟩, _, fb⟩ := hHeld
     go_simp
     (try go_wp2_with fail)
     refine hK.out _ _ ?_ (fun hHeld => ?_)
     ·exact ⟨⟨cellB (bel_alloc (Below.refl _ _) _) fc0, cellB (bel_alloc (Below.refl _ _) _) fc1, cellB (bel_alloc (Below.refl _ _) _) fc2, cellB (bel_alloc (Below.refl _ _) _) fc3, cellB (bel_alloc (Below.refl _ _) _) fc4, cellB (bel_alloc (Below.refl _ _) _) fc5⟩, trivial, bel_alloc fb _⟩
     clear hK K
     refine wpAnyH_name ?_
     intro W13 hW13
     rw [← hW13] at hHeld
     first | (have xb13 := blk_named hW13 (n := 2) rfl) | (have xb13 := blk_named' hW13 (n := 2) rfl)
     have hw13 := fb.size
     have hz13_0 := blt fc0
     have hz13_4 := blt fc4
     have hv13_14 := xb14.lt
     first | (have xb14 := xb14.named hW13) | (have xb14 := xb14.named' hW13)
     clear hW13
     try simp only [Act.put, List.setIfInBounds_toArray, List.set_cons_zero, List.set_cons_succ]
     refine sO 15 fun K hK => ?_
     obtain ⟨⟨fc0, fc1, fc2, fc3, fc4, fc5⟩, _, fb⟩ := hHeld
     obtain ⟨x0, e0, z0⟩ := xb13.get 0 (by decide)
     obtain ⟨x1, e1, z1⟩ := xb13.get 1 (by decide)
     have hlx := blt e0
     have hfb := fb.size
     have hwx13 := hw13
     go_simp
     (try go_wp2_with fail)
     refine hK.out _ _ ?_ (fun hHeld => ?_)
     ·exact ⟨⟨(cs_other (cs_other fc0 (by simp <;> omega)) (by simp <;> omega)), (cs_other (cs_other fc1 (by simp <;> omega)) (by simp <;> omega)), (cs_other (cs_other fc2 (by simp <;> omega)) (by simp <;> omega)), (cs_other (cs_other fc3 (by simp <;> omega)) (by simp <;> omega)), (cs_other (cs_other fc4 (by simp <;> omega)) (by simp <;> omega)), (cs_other (cs_other fc5 (by simp <;> omega)) (by simp <;> omega))⟩, trivial, (bel_set (bel_set fb (by first | omega | (simp <;> omega)) _) (by first | omega | (simp <;> omega)) _)⟩
     clear hK K
     refine wpAnyH_name ?_
     intro W15 hW15
     rw [← hW15] at hHeld
     have y13 := at2_set hW15 xb13
     have xb13 := xb13.set2 hW15
     have xb14 := xb14.set2 hW15
     clear hW15
     try simp only [Act.put, List.setIfInBounds_toArray, List.set_cons_zero, List.set_cons_succ]
     refine sO 16 fun K hK => ?_
     obtain ⟨⟨fc0, fc1, fc2, fc3, fc4, fc5⟩, _, fb⟩ := hHeld
     obtain ⟨x0, e0, z0⟩ := xb14.get 0 (by decide)
     obtain ⟨x1, e1, z1⟩ := xb14.get 1 (by decide)
     have hlx := blt e0
     have hfb := fb.size
     have hwx14 := hw14
     go_simp
     (try go_wp2_with fail)
     refine hK.out _ _ ?_ (fun hHeld => ?_)
     ·exact ⟨⟨(cs_other (cs_other fc0 (by simp <;> omega)) (by simp <;> omega)), (cs_other (cs_other fc1 (by simp <;> omega)) (by simp <;> omega)), (cs_other (cs_other fc2 (by simp <;> omega)) (by simp <;> omega)), (cs_other (cs_other fc3 (by simp <;> omega)) (by simp <;> omega)), (cs_other (cs_other fc4 (by simp <;> omega)) (by simp <;> omega)), (cs_other (cs_other fc5 (by simp <;> omega)) (by simp <;> omega))⟩, trivial, (bel_set (bel_set fb (by first | omega | (simp <;> omega)) _) (by first | omega | (simp <;> omega)) _)⟩
     clear hK K
     refine wpAnyH_name ?_
     intro W16 hW16
     rw [← hW16] at hHeld
     have y14 := at2_set hW16 xb14
     have xb14 := xb14.set2 hW16
     have xb13 := xb13.set2 hW16
     have y13 := at2_other hW16 y13 (by first | omega | (simp <;> omega))
     clear hW16
     try simp only [Act.put, List.setIfInBounds_toArray, List.set_cons_zero, List.set_cons_succ]
     refine sY 17 10 ?_
     refine wpAnyH_done (by kernel_rfl) ?_ _
     go_wp2_with fail
     go_meet
     exact ⟨_, _, _, _, _, _, _, rfl, rfl, rfl, Lib.hid ⟨⟨y13.1, y13.2, y14.1, y14.2⟩, ⟨hHeld.1.1, hHeld.1.2.1, hHeld.1.2.2.1, hHeld.1.2.2.2.1⟩, hHeld.2.2⟩⟩
   ·obtain ⟨⟨fc0, fc1, fc2, fc3, fc4, fc5⟩, _, fb⟩ := hHeld
    go_simp
    (try go_wp2_with fail)
    refine hK.out _ _ ?_ (fun hHeld => ?_)
    ·exact ⟨⟨cellB (bel_alloc (Below.refl _ _) _) fc0, cellB (bel_alloc (Below.refl _ _) _) fc1, cellB (bel_alloc (Below.refl _ _) _) fc2, cellB (bel_alloc (Below.refl _ _) _) fc3, cellB (bel_alloc (Below.refl _ _) _) fc4, cellB (bel_alloc (Below.refl _ _) _) fc5⟩, trivial, bel_alloc fb _⟩
    clear hK K
    refine wpAnyH_name ?_
    intro W13 hW13
    rw [← hW13] at hHeld
    first | (have xb13 := blk_named hW13 (n := 2) rfl) | (have xb13 := blk_named' hW13 (n := 2) rfl)
    have hw13 := fb.size
    have hz13_0 := blt fc0
    have hz13_4 := blt fc4
    clear hW13
    try simp only [Act.put, List.setIfInBounds_toArray, List.set_cons_zero, List.set_cons_succ]
    refine wpAnyH_ready (rs := [8, 14]) (by kernel_rfl) (by simp) ?_
    refine AllReadyH.cons rfl (fun K hK => ?_) (AllReadyH.cons rfl (fun K hK => ?_) (AllReadyH.nil))
    ·obtain ⟨⟨fc0, fc1, fc2, fc3, fc4, fc5⟩, _, fb⟩ := hHeld
     go_simp
     refine (HP.out _).mono ?_
     rintro e w2 ⟨⟨a, b, c', d, z, rfl⟩, b2⟩
     (try go_wp2_with fail)
     refine hK.out _ _ ?_ (fun hHeld => ?_)
     ·exact ⟨⟨cellB b2 fc0, cellB b2 fc1, cellB b2 fc2, cellB b2 fc3, cellB b2 fc4, cellB b2 fc5⟩, trivial, bel_call fb b2⟩
     clear hK K
     refine wpAnyH_name ?_
     intro W8 hW8
     rw [← hW8] at hHeld
     have xb13 := xb13.later2 hW8 b2
     clear hW8
     try simp only [Act.put, List.setIfInBounds_toArray, List.set_cons_zero, List.set_cons_succ]
     refine sY 9 13 ?_
     refine sY 10 23 ?_
     refine sY 11 24 ?_
     refine sY 12 25 ?_
     refine sO 14 fun K hK => ?_
     obtain ⟨⟨fc0, fc1, fc2, fc3, fc4, fc5⟩, _, fb⟩ := hHeld
     go_simp
     (try go_wp2_with fail)
     refine hK.out _ _ ?_ (fun hHeld => ?_)
     ·exact ⟨⟨cellB (bel_alloc (Below.refl _ _) _) fc0, cellB (bel_alloc (Below.refl _ _) _) fc1, cellB (bel_alloc (Below.refl _ _) _) fc2, cellB (bel_alloc (Below.refl _ _) _) fc3, cellB (bel_alloc (Below.refl _ _) _) fc4, cellB (bel_alloc (Below.refl _ _) _) fc5⟩, trivial, bel_alloc fb _⟩
     clear hK K
     refine wpAnyH_name ?_
     intro W14 hW14
     rw [← hW14] at hHeld
     first | (have xb14 := blk_named hW14 (n := 2) rfl) | (have xb14 := blk_named' hW14 (n := 2) rfl)
     have hw14 := fb.size
     have hz14_0 := blt fc0
     have hz14_4 := blt fc4
     have hv14_13 := xb13.lt
     first | (have xb13 := xb13.named hW14) | (have xb13 := xb13.named' hW14)
     clear hW14
     try simp only [Act.put, List.setIfInBounds_toArray, List.set_cons_zero, List.set_cons_succ]
     refine sO 15 fun K hK => ?_
     obtain ⟨⟨fc0, fc1, fc2, fc3, fc4, fc5⟩, _, fb⟩ := hHeld
     obtain ⟨x0, e0, z0⟩ := xb13.get 0 (by decide)
     obtain ⟨x1, e1, z1⟩ := xb13.get 1 (by decide)
     have hlx := blt e0
     have hfb := fb.size
     have hwx13 := hw13
     go_simp
     (try go_wp2_with fail)
     refine hK.out _ _ ?_ (fun hHeld => ?_)
     ·exact ⟨⟨(cs_other (cs_other fc0 (by simp <;> omega)) (by simp <;> omega)), (cs_other (cs_other fc1 (by simp <;> omega)) (by simp <;> omega)), (cs_other (cs_other fc2 (by simp <;> omega)) (by simp <;> omega)), (cs_other (cs_other fc3 (by simp <;> omega)) (by simp <;> omega)), (cs_other (cs_other fc4 (by simp <;> omega)) (by simp <;> omega)), (cs_other (cs_other fc5 (by simp <;> omega)) (by simp <;> omega))⟩, trivial, (bel_set (bel_set fb (by first | omega | (simp <;> omega)) _) (by first | omega | (simp <;> omega)) _)⟩
     clear hK K
     refine wpAnyH_name ?_
     intro W15 hW15
     rw [← hW15] at hHeld
     have y13 := at2_set hW15 xb13
     have xb13 := xb13.set2 hW15
     have xb14 := xb14.set2 hW15
     clear hW15
     try simp only [Act.put, List.setIfInBounds_toArray, List.set_cons_zero, List.set_cons_succ]
     refine sO 16 fun K hK => ?_
     obtain ⟨⟨fc0, fc1, fc2, fc3, fc4, fc5⟩, _, fb⟩ := hHeld
     obtain ⟨x0, e0, z0⟩ := xb14.get 0 (by decide)
     obtain ⟨x1, e1, z1⟩ := xb14.get 1 (by decide)
     have hlx := blt e0
     have hfb := fb.size
     have hwx14 := hw14
     go_simp
     (try go_wp2_with fail)
     refine hK.out _ _ ?_ (fun hHeld => ?_)
     ·exact ⟨⟨(cs_other (cs_other fc0 (by simp <;> omega)) (by simp <;> omega)), (cs_other (cs_other fc1 (by simp <;> omega)) (by simp <;> omega)), (cs_other (cs_other fc2 (by simp <;> omega)) (by simp <;> omega)), (cs_other (cs_other fc3 (by simp <;> omega)) (by simp <;> omega)), (cs_other (cs_other fc4 (by simp <;> omega)) (by simp <;> omega)), (cs_other (cs_other fc5 (by simp <;> omega)) (by simp <;> omega))⟩, trivial, (bel_set (bel_set fb (by first | omega | (simp <;> omega)) _) (by first | omega | (simp <;> omega)) _)⟩
     clear hK K
     refine wpAnyH_name ?_
     intro W16 hW16
     rw [← hW16] at hHeld
     have y14 := at2_set hW16 xb14
     have xb14 := xb14.set2 hW16
     have xb13 := xb13.set2 hW16
     have y13 := at2_other hW16 y13 (by first | omega | (simp <;> omega))
     clear hW16
     try simp only [Act.put, List.setIfInBounds_toArray, List.set_cons_zero, List.set_cons_succ]
     refine sY 17 10 ?_
     refine wpAnyH_done (by kernel_rfl) ?_ _
     go_wp2_with fail
     go_meet
     exact ⟨_, _, _, _, _, _, _, rfl, rfl, rfl, Lib.hid ⟨⟨y13.1, y13.2, y14.1, y14.2⟩, ⟨hHeld.1.1, hHeld.1.2.1, hHeld.1.2.2.1, hHeld.1.2.2.2.1⟩, hHeld.2.2⟩⟩
    ·obtain ⟨⟨fc0, fc1, fc2, fc3, fc4, fc5⟩, _, fb⟩ := hHeld
     go_simp
     (try go_wp2_with fail)
     refine hK.out _ _ ?_ (fun hHeld => ?_)
     ·exact ⟨⟨cellB (bel_alloc (Below.refl _ _) _) fc0, cellB (bel_alloc (Below.refl _ _) _) fc1, cellB (bel_alloc (Below.refl _ _) _) fc2, cellB (bel_alloc (Below.refl _ _) _) fc3, cellB (bel_alloc (Below.refl _ _) _) fc4, cellB (bel_alloc (Below.refl _ _) _) fc5⟩, trivial, bel_alloc fb _⟩
     clear hK K
     refine wpAnyH_name ?_
     intro W14 hW14
     rw [← hW14] at hHeld
     first | (have xb14 := blk_named hW14 (n := 2) rfl) | (have xb14 := blk_named' hW14 (n := 2) rfl)
     have hw14 := fb.size
     have hz14_0 := blt fc0
     have hz14_4 := blt fc4
     have hv14_13 := xb13.lt
     first | (have xb13 := xb13.named hW14) | (have xb13 := xb13.named' hW14)
     clear hW14
     try simp only [Act.put, List.setIfInBounds_toArray, List.set_cons_zero, List.set_cons_succ]
     refine sO 8 fun K hK => ?_
     obtain ⟨⟨fc0, fc1, fc2, fc3, fc4, fc5⟩, _, fb⟩ := hHeld
     go_simp
     refine (HP.out _).mono ?_
     rintro e w2 ⟨⟨a, b, c', d, z, rfl⟩, b2⟩
     (try go_wp2_with fail)
     refine hK.out _ _ ?_ (fun hHeld => ?_)
     ·exact ⟨⟨cellB b2 fc0, cellB b2 fc1, cellB b2 fc2, cellB b2 fc3, cellB b2 fc4, cellB b2 fc5⟩, trivial, bel_call fb b2⟩
     clear hK K
     refine wpAnyH_name ?_
     intro W8 hW8
     rw [← hW8] at hHeld
     have xb13 := xb13.later2 hW8 b2
     have xb14 := xb14.later2 hW8 b2
     clear hW8
     try simp only [Act.put, List.setIfInBounds_toArray, List.set_cons_zero, List.set_cons_succ]
     refine sY 9 13 ?_
     refine sY 10 23 ?_
     refine sY 11 24 ?_
     refine sY 12 25 ?_
     refine sO 15 fun K hK => ?_
     obtain ⟨⟨fc0, fc1, fc2, fc3, fc4, fc5⟩, _, fb⟩ := hHeld
     obtain ⟨x0, e0, z0⟩ := xb13.get 0 (by decide)
     obtain ⟨x1, e1, z1⟩ := xb13.get 1 (by decide)
     have hlx := blt e0
     have hfb := fb.size
     have hwx13 := hw13
     go_simp
     (try go_wp2_with fail)
     refine hK.out _ _ ?_ (fun hHeld => ?_)
     ·exact ⟨⟨(cs_other (cs_other fc0 (by simp <;> omega)) (by simp <;> omega)), (cs_other (cs_other fc1 (by simp <;> omega)) (by simp <;> omega)), (cs_other (cs_other fc2 (by simp <;> omega)) (by simp <;> omega)), (cs_other (cs_other fc3 (by simp <;> omega)) (by simp <;> omega)), (cs_other (cs_other fc4 (by simp <;> omega)) (by simp <;> omega)), (cs_other (cs_other fc5 (by simp <;> omega)) (by simp <;> omega))⟩, trivial, (bel_set (bel_set fb (by first | omega | (simp <;> omega)) _) (by first | omega | (simp <;> omega)) _)⟩
     clear hK K
     refine wpAnyH_name ?_
     intro W15 hW15
     rw [← hW15] at hHeld
     have y13 := at2_set hW15 xb13
     have xb13 := xb13.set2 hW15
     have xb14 := xb14.set2 hW15
     clear hW15
     try simp only [Act.put, List.setIfInBounds_toArray, List.set_cons_zero, List.set_cons_succ]
     refine sO 16 fun K hK => ?_
     obtain ⟨⟨fc0, fc1, fc2, fc3, fc4, fc5⟩, _, fb⟩ := hHeld
     obtain ⟨x0, e0, z0⟩ := xb14.get 0 (by decide)
     obtain ⟨x1, e1, z1⟩ := xb14.get 1 (by decide)
     have hlx := blt e0
     have hfb := fb.size
     have hwx14 := hw14
     go_simp
     (try go_wp2_with fail)
     refine hK.out _ _ ?_ (fun hHeld => ?_)
     ·exact ⟨⟨(cs_other (cs_other fc0 (by simp <;> omega)) (by simp <;> omega)), (cs_other (cs_other fc1 (by simp <;> omega)) (by simp <;> omega)), (cs_other (cs_other fc2 (by simp <;> omega)) (by simp <;> omega)), (cs_other (cs_other fc3 (by simp <;> omega)) (by simp <;> omega)), (cs_other (cs_other fc4 (by simp <;> omega)) (by simp <;> omega)), (cs_other (cs_other fc5 (by simp <;> omega)) (by simp <;> omega))⟩, trivial, (bel_set (bel_set fb (by first | omega | (simp <;> omega)) _) (by first | omega | (simp <;> omega)) _)⟩
     clear hK K
     refine wpAnyH_name ?_
     intro W16 hW16
     rw [← hW16] at hHeld
     have y14 := at2_set hW16 xb14
     have xb14 := xb14.set2 hW16
     have xb13 := xb13.set2 hW16
     have y13 := at2_other hW16 y13 (by first | omega | (simp <;> omega))
     clear hW16
     try simp only [Act.put, List.setIfInBounds_toArray, List.set_cons_zero, List.set_cons_succ]
     refine sY 17 10 ?_
     refine wpAnyH_done (by kernel_rfl) ?_ _
     go_wp2_with fail
     go_meet
     exact ⟨_, _, _, _, _, _, _, rfl, rfl, rfl, Lib.hid ⟨⟨y13.1, y13.2, y14.1, y14.2⟩, ⟨hHeld.1.1, hHeld.1.2.1, hHeld.1.2.2.1, hHeld.1.2.2.2.1⟩, hHeld.2.2⟩⟩
   ·obtain ⟨⟨fc0, fc1, fc2, fc3, fc4, fc5⟩, _, fb⟩ := hHeld
    go_simp
    (try go_wp2_with fail)
    refine hK.out _ _ ?_ (fun hHeld => ?_)
    ·exact ⟨⟨cellB (bel_alloc (Below.refl _ _) _) fc0, cellB (bel_alloc (Below.refl _ _) _) fc1, cellB (bel_alloc (Below.refl _ _) _) fc2, cellB (bel_alloc (Below.refl _ _) _) fc3, cellB (bel_alloc (Below.refl _ _) _) fc4, cellB (bel_alloc (Below.refl _ _) _) fc5⟩, trivial, bel_alloc fb _⟩
    clear hK K
    refine wpAnyH_name ?_
    intro W14 hW14
    rw [← hW14] at hHeld
    first | (have xb14 := blk_named hW14 (n := 2) rfl) | (have xb14 := blk_named' hW14 (n := 2) rfl)
    have hw14 := fb.size
    have hz14_0 := blt fc0
    have hz14_4 := blt fc4
    clear hW14
    try simp only [Act.put, List.setIfInBounds_toArray, List.set_cons_zero, List.set_cons_succ]
    refine wpAnyH_ready (rs := [8, 13]) (by kernel_rfl) (by simp) ?_
    refine AllReadyH.cons rfl (fun K hK => ?_) (AllReadyH.cons rfl (fun K hK => ?_) (AllReadyH.nil))
    ·obtain ⟨⟨fc0, fc1, fc2, fc3, fc4, fc5⟩, _, fb⟩ := hHeld
     go_simp
     refine (HP.out _).mono ?_
     rintro e w2 ⟨⟨a, b, c', d, z, rfl⟩, b2⟩
     (try go_wp2_with fail)
     refine hK.out _ _ ?_ (fun hHeld => ?_)
     ·exact ⟨⟨cellB b2 fc0, cellB b2 fc1, cellB b2 fc2, cellB b2 fc3, cellB b2 fc4, cellB b2 fc5⟩, trivial, bel_call fb b2⟩
     clear hK K
     refine wpAnyH_name ?_
     intro W8 hW8
     rw [← hW8] at hHeld
     have xb14 := xb14.later2 hW8 b2
     clear hW8
     try simp only [Act.put, List.setIfInBounds_toArray, List.set_cons_zero, List.set_cons_succ]
     refine sY 9 13 ?_
     refine sY 10 23 ?_
     refine sY 11 24 ?_
     refine sY 12 25 ?_
     refine sO 13 fun K hK => ?_
     obtain ⟨⟨fc0, fc1, fc2, fc3, fc4, fc5⟩, _, fb⟩ := hHeld
     go_simp
     (try go_wp2_with fail)
     refine hK.out _ _ ?_ (fun hHeld => ?_)
     ·exact ⟨⟨cellB (bel_alloc (Below.refl _ _) _) fc0, cellB (bel_alloc (Below.refl _ _) _) fc1, cellB (bel_alloc (Below.refl _ _) _) fc2, cellB (bel_alloc (Below.refl _ _) _) fc3, cellB (bel_alloc (Below.refl _ _) _) fc4, cellB (bel_alloc (Below.refl _ _) _) fc5⟩, trivial, bel_alloc fb _⟩
     clear hK K
     refine wpAnyH_name ?_
     intro W13 hW13
     rw [← hW13] at hHeld
     first | (have xb13 := blk_named hW13 (n := 2) rfl) | (have xb13 := blk_named' hW13 (n := 2) rfl)
     have hw13 := fb.size
     have hz13_0 := blt fc0
     have hz13_4 := blt fc4
     have hv13_14 := xb14.lt
     first | (have xb14 := xb14.named hW13) | (have xb14 := xb14.named' hW13)
     clear hW13
     try simp only [Act.put, List.setIfInBounds_toArray, List.set_cons_zero, List.set_cons_succ]
     refine sO 15 fun K hK => ?_
     obtain ⟨⟨fc0, fc1, fc2, fc3, fc4, fc5⟩, _, fb⟩ := hHeld
     obtain ⟨x0, e0, z0⟩ := xb13.get 0 (by decide)
     obtain ⟨x1, e1, z1⟩ := xb13.get 1 (by decide)
     have hlx := blt e0
     have hfb := fb.size
     have hwx13 := hw13
     go_simp
     (try go_wp2_with fail)
     refine hK.out _ _ ?_ (fun hHeld => ?_)
     ·exact ⟨⟨(cs_other (cs_other fc0 (by simp <;> omega)) (by simp <;> omega)), (cs_other (cs_other fc1 (by simp <;> omega)) (by simp <;> omega)), (cs_other (cs_other fc2 (by simp <;> omega)) (by simp <;> omega)), (cs_other (cs_other fc3 (by simp <;> omega)) (by simp <;> omega)), (cs_other (cs_other fc4 (by simp <;> omega)) (by simp <;> omega)), (cs_other (cs_other fc5 (by simp <;> omega)) (by simp <;> omega))⟩, trivial, (bel_set (bel_set fb (by first | omega | (simp <;> omega)) _) (by first | omega | (simp <;> omega)) _)⟩
     clear hK K
     refine wpAnyH_name ?_
     intro W15 hW15
     rw [← hW15] at hHeld
     have y13 := at2_set hW15 xb13
     have xb13 := xb13.set2 hW15
     have xb14 := xb14.set2 hW15
     clear hW15
     try simp only [Act.put, List.setIfInBounds_toArray, List.set_cons_zero, List.set_cons_succ]
     refine sO 16 fun K hK => ?_
     obtain ⟨⟨fc0, fc1, fc2, fc3, fc4, fc5⟩, _, fb⟩ := hHeld
     obtain ⟨x0, e0, z0⟩ := xb14.get 0 (by decide)
     obtain ⟨x1, e1, z1⟩ := xb14.get 1 (by decide)
     have hlx := blt e0
     have hfb := fb.size
     have hwx14 := hw14
     go_simp
     (try go_wp2_with fail)
     refine hK.out _ _ ?_ (fun hHeld => ?_)
     ·exact ⟨⟨(cs_other (cs_other fc0 (by simp <;> omega)) (by simp <;> omega)), (cs_other (cs_other fc1 (by simp <;> omega)) (by simp <;> omega)), (cs_other (cs_other fc2 (by simp <;> omega)) (by simp <;> omega)), (cs_other (cs_other fc3 (by simp <;> omega)) (by simp <;> omega)), (cs_other (cs_other fc4 (by simp <;> omega)) (by simp <;> omega)), (cs_other (cs_other fc5 (by simp <;> omega)) (by simp <;> omega))⟩, trivial, (bel_set (bel_set fb (by first | omega | (simp <;> omega)) _) (by first | omega | (simp <;> omega)) _)⟩
     clear hK K
     refine wpAnyH_name ?_
     intro W16 hW16
     rw [← hW16] at hHeld
     have y14 := at2_set hW16 xb14
     have xb14 := xb14.set2 hW16
     have xb13 := xb13.set2 hW16
     have y13 := at2_other hW16 y13 (by first | omega | (simp <;> omega))
     clear hW16
     try simp only [Act.put, List.setIfInBounds_toArray, List.set_cons_zero, List.set_cons_succ]
     refine sY 17 10 ?_
     refine wpAnyH_done (by kernel_rfl) ?_ _
     go_wp2_with fail
     go_meet
     exact ⟨_, _, _, _, _, _, _, rfl, rfl, rfl, Lib.hid ⟨⟨y13.1, y13.2, y14.1, y14.2⟩, ⟨hHeld.1.1, hHeld.1.2.1, hHeld.1.2.2.1, hHeld.1.2.2.2.1⟩, hHeld.2.2⟩⟩
    ·obtain ⟨⟨fc0, fc1, fc2, fc3, fc4, fc5⟩, _, fb⟩ := hHeld
     go_simp
     (try go_wp2_with fail)
     refine hK.out _ _ ?_ (fun hHeld => ?_)
     ·exact ⟨⟨cellB (bel_alloc (Below.refl _ _) _) fc0, cellB (bel_alloc (Below.refl _ _) _) fc1, cellB (bel_alloc (Below.refl _ _) _) fc2, cellB (bel_alloc (Below.refl _ _) _) fc3, cellB (bel_alloc (Below.refl _ _) _) fc4, cellB (bel_alloc (Below.refl _ _) _) fc5⟩, trivial, bel_alloc fb _⟩
     clear hK K
     refine wpAnyH_name ?_
     intro W13 hW13
     rw [← hW13] at hHeld
     first | (have xb13 := blk_named hW13 (n := 2) rfl) | (have xb13 := blk_named' hW13 (n := 2) rfl)
     have hw13 := fb.size
     have hz13_0 := blt fc0
     have hz13_4 := blt fc4
     have hv13_14 := xb14.lt
     first | (have xb14 := xb14.named hW13) | (have xb14 := xb14.named' hW13)
     clear hW13
     try simp only [Act.put, List.setIfInBounds_toArray, List.set_cons_zero, List.set_cons_succ]
     refine sO 8 fun K hK => ?_
     obtain ⟨⟨fc0, fc1, fc2, fc3, fc4, fc5⟩, _, fb⟩ := hHeld
     go_simp
     refine (HP.out _).mono ?_
     rintro e w2 ⟨⟨a, b, c', d, z, rfl⟩, b2⟩
     (try go_wp2_with fail)
     refine hK.out _ _ ?_ (fun hHeld => ?_)
     ·exact ⟨⟨cellB b2 fc0, cellB b2 fc1, cellB b2 fc2, cellB b2 fc3, cellB b2 fc4, cellB b2 fc5⟩, trivial, bel_call fb b2⟩
     clear hK K
     refine wpAnyH_name ?_
     intro W8 hW8
     rw [← hW8] at hHeld
     have xb13 := xb13.later2 hW8 b2
     have xb14 := xb14.later2 hW8 b2
     clear hW8
     try simp only [Act.put, List.setIfInBounds_toArray, List.set_cons_zero, List.set_cons_succ]
     refine sY 9 13 ?_
     refine sY 10 23 ?_
     refine sY 11 24 ?_
     refine sY 12 25 ?_
     refine sO 15 fun K hK => ?_
     obtain ⟨⟨fc0, fc1, fc2, fc3, fc4, fc5⟩, _, fb⟩ := hHeld
     obtain ⟨x0, e0, z0⟩ := xb13.get 0 (by decide)
     obtain ⟨x1, e1, z1⟩ := xb13.get 1 (by decide)
     have hlx := blt e0
     have hfb := fb.size
     have hwx13 := hw13
     go_simp
     (try go_wp2_with fail)
     refine hK.out _ _ ?_ (fun hHeld => ?_)
     ·exact ⟨⟨(cs_other (cs_other fc0 (by simp <;> omega)) (by simp <;> omega)), (cs_other (cs_other fc1 (by simp <;> omega)) (by simp <;> omega)), (cs_other (cs_other fc2 (by simp <;> omega)) (by simp <;> omega)), (cs_other (cs_other fc3 (by simp <;> omega)) (by simp <;> omega)), (cs_other (cs_other fc4 (by simp <;> omega)) (by simp <;> omega)), (cs_other (cs_other fc5 (by simp <;> omega)) (by simp <;> omega))⟩, trivial, (bel_set (bel_set fb (by first | omega | (simp <;> omega)) _) (by first | omega | (simp <;> omega)) _)⟩
     clear hK K
     refine wpAnyH_name ?_
     intro W15 hW15
     rw [← hW15] at hHeld
     have y13 := at2_set hW15 xb13
     have xb13 := xb13.set2 hW15
     have xb14 := xb14.set2 hW15
     clear hW15
     try simp only [Act.put, List.setIfInBounds_toArray, List.set_cons_zero, List.set_cons_succ]
     refine sO 16 fun K hK => ?_
     obtain ⟨⟨fc0, fc1, fc2, fc3, fc4, fc5⟩, _, fb⟩ := hHeld
     obtain ⟨x0, e0, z0⟩ := xb14.get 0 (by decide)
     obtain ⟨x1, e1, z1⟩ := xb14.get 1 (by decide)
     have hlx := blt e0
     have hfb := fb.size
     have hwx14 := hw14
     go_simp
     (try go_wp2_with fail)
     refine hK.out _ _ ?_ (fun hHeld => ?_)
     ·exact ⟨⟨(cs_other (cs_other fc0 (by simp <;> omega)) (by simp <;> omega)), (cs_other (cs_other fc1 (by simp <;> omega)) (by simp <;> omega)), (cs_other (cs_other fc2 (by simp <;> omega)) (by simp <;> omega)), (cs_other (cs_other fc3 (by simp <;> omega)) (by simp <;> omega)), (cs_other (cs_other fc4 (by simp <;> omega)) (by simp <;> omega)), (cs_other (cs_other fc5 (by simp <;> omega)) (by simp <;> omega))⟩, trivial, (bel_set (bel_set fb (by first | omega | (simp <;> omega)) _) (by first | omega | (simp <;> omega)) _)⟩
     clear hK K
     refine wpAnyH_name ?_
     intro W16 hW16
     rw [← hW16] at hHeld
     have y14 := at2_set hW16 xb14
     have xb14 := xb14.set2 hW16
     have xb13 := xb13.set2 hW16
     have y13 := at2_other hW16 y13 (by first | omega | (simp <;> omega))
     clear hW16
     try simp only [Act.put, List.setIfInBounds_toArray, List.set_cons_zero, List.set_cons_succ]
     refine sY 17 10 ?_
     refine wpAnyH_done (by kernel_rfl) ?_ _
     go_wp2_with fail
     go_meet
     exact ⟨_, _, _, _, _, _, _, rfl, rfl, rfl, Lib.hid ⟨⟨y13.1, y13.2, y14.1, y14.2⟩, ⟨hHeld.1.1, hHeld.1.2.1, hHeld.1.2.2.1, hHeld.1.2.2.2.1⟩, hHeld.2.2⟩⟩
  ·obtain ⟨⟨fc0, fc1, fc2, fc3, fc4, fc5⟩, _, fb⟩ := hHeld
   go_simp
   (try go_wp2_with fail)
   refine hK.out _ _ ?_ (fun hHeld => ?_)
   ·exact ⟨⟨cellB (bel_alloc (Below.refl _ _) _) fc0, cellB (bel_alloc (Below.refl _ _) _) fc1, cellB (bel_alloc (Below.refl _ _) _) fc2, cellB (bel_alloc (Below.refl _ _) _) fc3, cellB (bel_alloc (Below.refl _ _) _) fc4, cellB (bel_alloc (Below.refl _ _) _) fc5⟩, trivial, bel_alloc fb _⟩
   clear hK K
   refine wpAnyH_name ?_
   intro W13 hW13
   rw [← hW13] at hHeld
   first | (have xb13 := blk_named hW13 (n := 2) rfl) | (have xb13 := blk_named' hW13 (n := 2) rfl)
   have hw13 := fb.size
   have hz13_0 := blt fc0
   have hz13_4 := blt fc4
   clear hW13
   try simp only [Act.put, List.setIfInBounds_toArray, List.set_cons_zero, List.set_cons_succ]
   refine wpAnyH_ready (rs := [1, 14]) (by kernel_rfl) (by simp) ?_
   refine AllReadyH.cons rfl (fun K hK => ?_) (AllReadyH.cons rfl (fun K hK => ?_) (AllReadyH.nil))
   ·obtain ⟨⟨fc0, fc1, fc2, fc3, fc4, fc5⟩, _, fb⟩ := hHeld
    go_simp
    refine (HS.out _ fb).mono ?_
    rintro e w1 ⟨rfl, b1⟩
    (try go_wp2_with fail)
    refine hK.out _ _ ?_ (fun hHeld => ?_)
    ·exact ⟨⟨cellB b1 fc0, cellB b1 fc1, cellB b1 fc2, cellB b1 fc3, cellB b1 fc4, cellB b1 fc5⟩, trivial, bel_call fb b1⟩
    clear hK K
    refine wpAnyH_name ?_
    intro W1 hW1
    rw [← hW1] at hHeld
    have xb13 := xb13.later2 hW1 b1
    clear hW1
    try simp only [Act.put, List.setIfInBounds_toArray, List.set_cons_zero, List.set_cons_succ]
    refine wpAnyH_ready (rs := [8, 14]) (by kernel_rfl) (by simp) ?_
    refine AllReadyH.cons rfl (fun K hK => ?_) (AllReadyH.cons rfl (fun K hK => ?_) (AllReadyH.nil))
    ·obtain ⟨⟨fc0, fc1, fc2, fc3, fc4, fc5⟩, _, fb⟩ := hHeld
     go_simp
     refine (HP.out _).mono ?_
     rintro e w2 ⟨⟨a, b, c', d, z, rfl⟩, b2⟩
     (try go_wp2_with fail)
     refine hK.out _ _ ?_ (fun hHeld => ?_)
     ·exact ⟨⟨cellB b2 fc0, cellB b2 fc1, cellB b2 fc2, cellB b2 fc3, cellB b2 fc4, cellB b2 fc5⟩, trivial, bel_call fb b2⟩
     clear hK K
     refine wpAnyH_name ?_
     intro W8 hW8
     rw [← hW8] at hHeld
     have xb13 := xb13.later2 hW8 b2
     clear hW8
     try simp only [Act.put, List.setIfInBounds_toArray, List.set_cons_zero, List.set_cons_succ]
     refine sY 9 13 ?_
     refine sY 10 23 ?_
     refine sY 11 24 ?_
     refine sY 12 25 ?_
     refine sO 14 fun K hK => ?_
     obtain ⟨⟨fc0, fc1, fc2, fc3, fc4, fc5⟩, _, fb⟩ := hHeld
     go_simp
     (try go_wp2_with fail)
     refine hK.out _ _ ?_ (fun hHeld => ?_)
     ·exact ⟨⟨cellB (bel_alloc (Below.refl _ _) _) fc0, cellB (bel_alloc (Below.refl _ _) _) fc1, cellB (bel_alloc (Below.refl _ _) _) fc2, cellB (bel_alloc (Below.refl _ _) _) fc3, cellB (bel_alloc (Below.refl _ _) _) fc4, cellB (bel_alloc (Below.refl _ _) _) fc5⟩, trivial, bel_alloc fb _⟩
     clear hK K
     refine wpAnyH_name ?_
     intro W14 hW14
     rw [← hW14] at hHeld
     first | (have xb14 := blk_named hW14 (n := 2) rfl) | (have xb14 := blk_named' hW14 (n := 2) rfl)
     have hw14 := fb.size
     have hz14_0 := blt fc0
     have hz14_4 := blt fc4
     have hv14_13 := xb13.lt
     first | (have xb13 := xb13.named hW14) | (have xb13 := xb13.named' hW14)
     clear hW14
     try simp only [Act.put, List.setIfInBounds_toArray, List.set_cons_zero, List.set_cons_succ]
     refine sO 15 fun K hK => ?_
     obtain ⟨⟨fc0, fc1, fc2, fc3, fc4, fc5⟩, _, fb⟩ := hHeld
     obtain ⟨x0, e0, z0⟩ := xb13.get 0 (by decide)
     obtain ⟨x1, e1, z1⟩ := xb13.get 1 (by decide)
     have hlx := blt e0
     have hfb := fb.size
     have hwx13 := hw13
     go_simp
     (try go_wp2_with fail)
     refine hK.out _ _ ?_ (fun hHeld => ?_)
     ·exact ⟨⟨(cs_other (cs_other fc0 (by simp <;> omega)) (by simp <;> omega)), (cs_other (cs_other fc1 (by simp <;> omega)) (by simp <;> omega)), (cs_other (cs_other fc2 (by simp <;> omega)) (by simp <;> omega)), (cs_other (cs_other fc3 (by simp <;> omega)) (by simp <;> omega)), (cs_other (cs_other fc4 (by simp <;> omega)) (by simp <;> omega)), (cs_other (cs_other fc5 (by simp <;> omega)) (by simp <;> omega))⟩, trivial, (bel_set (bel_set fb (by first | omega | (simp <;> omega)) _) (by first | omega | (simp <;> omega)) _)⟩
     clear hK K
     refine wpAnyH_name ?_
     intro W15 hW15
     rw [← hW15] at hHeld
     have y13 := at2_set hW15 xb13
     have xb13 := xb13.set2 hW15
     have xb14 := xb14.set2 hW15
     clear hW15
     try simp only [Act.put, List.setIfInBounds_toArray, List.set_cons_zero, List.set_cons_succ]
     refine sO 16 fun K hK => ?_
     obtain ⟨⟨fc0, fc1, fc2, fc3, fc4, fc5⟩, _, fb⟩ := hHeld
     obtain ⟨x0, e0, z0⟩ := xb14.get 0 (by decide)
     obtain ⟨x1, e1, z1⟩ := xb14.get 1 (by decide)
     have hlx := blt e0
     have hfb := fb.size
     have hwx14 := hw14
     go_simp
     (try go_wp2_with fail)
     refine hK.out _ _ ?_ (fun hHeld => ?_)
     ·exact ⟨⟨(cs_other (cs_other fc0 (by simp <;> omega)) (by simp <;> omega)), (cs_other (cs_other fc1 (by simp <;> omega)) (by simp <;> omega)), (cs_other (cs_other fc2 (by simp <;> omega)) (by simp <;> omega)), (cs_other (cs_other fc3 (by simp <;> omega)) (by simp <;> omega)), (cs_other (cs_other fc4 (by simp <;> omega)) (by simp <;> omega)), (cs_other (cs_other fc5 (by simp <;> omega)) (by simp <;> omega))⟩, trivial, (bel_set (bel_set fb (by first | omega | (simp <;> omega)) _) (by first | omega | (simp <;> omega)) _)⟩
     clear hK K
     refine wpAnyH_name ?_
     intro W16 hW16
     rw [← hW16] at hHeld
     have y14 := at2_set hW16 xb14
     have xb14 := xb14.set2 hW16
     have xb13 := xb13.set2 hW16
     have y13 := at2_other hW16 y13 (by first | omega | (simp <;> omega))
     clear hW16
     try simp only [Act.put, List.setIfInBounds_toArray, List.set_cons_zero, List.set_cons_succ]
     refine sY 17 10 ?_
     refine wpAnyH_done (by kernel_rfl) ?_ _
     go_wp2_with fail
     go_meet
     exact ⟨_, _, _, _, _, _, _, rfl, rfl, rfl, Lib.hid ⟨⟨y13.1, y13.2, y14.1, y14.2⟩, ⟨hHeld.1.1, hHeld.1.2.1, hHeld.1.2.2.1, hHeld.1.2.2.2.1⟩, hHeld.2.2⟩⟩
    ·obtain ⟨⟨fc0, fc1, fc2, fc3, fc4, fc5⟩, _, fb⟩ := hHeld
     go_simp
     (try go_wp2_with fail)
     refine hK.out _ _ ?_ (fun hHeld => ?_)
     ·exact ⟨⟨cellB (bel_alloc (Below.refl _ _) _) fc0, cellB (bel_alloc (Below.refl _ _) _) fc1, cellB (bel_alloc (Below.refl _ _) _) fc2, cellB (bel_alloc (Below.refl _ _) _) fc3, cellB (bel_alloc (Below.refl _ _) _) fc4, cellB (bel_alloc (Below.refl _ _) _) fc5⟩, trivial, bel_alloc fb _⟩
     clear hK K
     refine wpAnyH_name ?_
     intro W14 hW14
     rw [← hW14] at hHeld
     first | (have xb14 := blk_named hW14 (n := 2) rfl) | (have xb14 := blk_named' hW14 (n := 2) rfl)
     have hw14 := fb.size
     have hz14_0 := blt fc0
     have hz14_4 := blt fc4
     have hv14_13 := xb13.lt
     first | (have xb13 := xb13.named hW14) | (have xb13 := xb13.named' hW14)
     clear hW14
     try simp only [Act.put, List.setIfInBounds_toArray, List.set_cons_zero, List.set_cons_succ]
     refine sO 8 fun K hK => ?_
     obtain ⟨⟨fc0, fc1, fc2, fc3, fc4, fc5⟩, _, fb⟩ := hHeld
     go_simp
     refine (HP.out _).mono ?_
     rintro e w2 ⟨⟨a, b, c', d, z, rfl⟩, b2⟩
     (try go_wp2_with fail)
     refine hK.out _ _ ?_ (fun hHeld => ?_)
     ·exact ⟨⟨cellB b2 fc0, cellB b2 fc1, cellB b2 fc2, cellB b2 fc3, cellB b2 fc4, cellB b2 fc5⟩, trivial, bel_call fb b2⟩
     clear hK K
     refine wpAnyH_name ?_
     intro W8 hW8
     rw [← hW8] at hHeld
     have xb13 := xb13.later2 hW8 b2
     have xb14 := xb14.later2 hW8 b2
     clear hW8
     try simp only [Act.put, List.setIfInBounds_toArray, List.set_cons_zero, List.set_cons_succ]
     refine sY 9 13 ?_
     refine sY 10 23 ?_
     refine sY 11 24 ?_
     refine sY 12 25 ?_
     refine sO 15 fun K hK => ?_
     obtain ⟨⟨fc0, fc1, fc2, fc3, fc4, fc5⟩, _, fb⟩ := hHeld
     obtain ⟨x0, e0, z0⟩ := xb13.get 0 (by decide)
     obtain ⟨x1, e1, z1⟩ := xb13.get 1 (by decide)
     have hlx := blt e0
     have hfb := fb.size
     have hwx13 := hw13
     go_simp
     (try go_wp2_with fail)
     refine hK.out _ _ ?_ (fun hHeld => ?_)
     ·exact ⟨⟨(cs_other (cs_other fc0 (by simp <;> omega)) (by simp <;> omega)), (cs_other (cs_other fc1 (by simp <;> omega)) (by simp <;> omega)), (cs_other (cs_other fc2 (by simp <;> omega)) (by simp <;> omega)), (cs_other (cs_other fc3 (by simp <;> omega)) (by simp <;> omega)), (cs_other (cs_other fc4 (by simp <;> omega)) (by simp <;> omega)), (cs_other (cs_other fc5 (by simp <;> omega)) (by simp <;> omega))⟩, trivial, (bel_set (bel_set fb (by first | omega | (simp <;> omega)) _) (by first | omega | (simp <;> omega)) _)⟩
     clear hK K
     refine wpAnyH_name ?_
     intro W15 hW15
     rw [← hW15] at hHeld
     have y13 := at2_set hW15 xb13
     have xb13 := xb13.set2 hW15
     have xb14 := xb14.set2 hW15
     clear hW15
     try simp only [Act.put, List.setIfInBounds_toArray, List.set_cons_zero, List.set_cons_succ]
     refine sO 16 fun K hK => ?_
     obtain ⟨⟨fc0, fc1, fc2, fc3, fc4, fc5⟩, _, fb⟩ := hHeld
     obtain ⟨x0, e0, z0⟩ := xb14.get 0 (by decide)
     obtain ⟨x1, e1, z1⟩ := xb14.get 1 (by decide)
     have hlx := blt e0
     have hfb := fb.size
     have hwx14 := hw14
     go_simp
     (try go_wp2_with fail)
     refine hK.out _ _ ?_ (fun hHeld => ?_)
     ·exact ⟨⟨(cs_other (cs_other fc0 (by simp <;> omega)) (by simp <;> omega)), (cs_other (cs_other fc1 (by simp <;> omega)) (by simp <;> omega)), (cs_other (cs_other fc2 (by simp <;> omega)) (by simp <;> omega)), (cs_other (cs_other fc3 (by simp <;> omega)) (by simp <;> omega)), (cs_other (cs_other fc4 (by simp <;> omega)) (by simp <;> omega)), (cs_other (cs_other fc5 (by simp <;> omega)) (by simp <;> omega))⟩, trivial, (bel_set (bel_set fb (by first | omega | (simp <;> omega)) _) (by first | omega | (simp <;> omega)) _)⟩
     clear hK K
     refine wpAnyH_name ?_
     intro W16 hW16
     rw [← hW16] at hHeld
     have y14 := at2_set hW16 xb14
     have xb14 := xb14.set2 hW16
     have xb13 := xb13.set2 hW16
     have y13 := at2_other hW16 y13 (by first | omega | (simp <;> omega))
     clear hW16
     try simp only [Act.put, List.setIfInBounds_toArray, List.set_cons_zero, List.set_cons_succ]
     refine sY 17 10 ?_
     refine wpAnyH_done (by kernel_rfl) ?_ _
     go_wp2_with fail
     go_meet
     exact ⟨_, _, _, _, _, _, _, rfl, rfl, rfl, Lib.hid ⟨⟨y13.1, y13.2, y14.1, y14.2⟩, ⟨hHeld.1.1, hHeld.1.2.1, hHeld.1.2.2.1, hHeld.1.2.2.2.1⟩, hHeld.2.2⟩⟩
   ·obtain ⟨⟨fc0, fc1, fc2, fc3, fc4, fc5⟩, _, fb⟩ := hHeld
    go_simp
    (try go_wp2_with fail)
    refine hK.out _ _ ?_ (fun hHeld => ?_)
    ·exact ⟨⟨cellB (bel_alloc (Below.refl _ _) _) fc0, cellB (bel_alloc (Below.refl _ _) _) fc1, cellB (bel_alloc (Below.refl _ _) _) fc2, cellB (bel_alloc (Below.refl _ _) _) fc3, cellB (bel_alloc (Below.refl _ _) _) fc4, cellB (bel_alloc (Below.refl _ _) _) fc5⟩, trivial, bel_alloc fb _⟩
    clear hK K
    refine wpAnyH_name ?_
    intro W14 hW14
    rw [← hW14] at hHeld
    first | (have xb14 := blk_named hW14 (n := 2) rfl) | (have xb14 := blk_named' hW14 (n := 2) rfl)
    have hw14 := fb.size
    have hz14_0 := blt fc0
    have hz14_4 := blt fc4
    have hv14_13 := xb13.lt
    first | (have xb13 := xb13.named hW14) | (have xb13 := xb13.named' hW14)
    clear hW14
    try simp only [Act.put, List.setIfInBounds_toArray, List.set_cons_zero, List.set_cons_succ]
    refine sO 1 fun K hK => ?_
    obtain ⟨⟨fc0, fc1, fc2, fc3, fc4, fc5⟩, _, fb⟩ := hHeld
    go_simp
    refine (HS.out _ fb).mono ?_
    rintro e w1 ⟨rfl, b1⟩
    (try go_wp2_with fail)
    refine hK.out _ _ ?_ (fun hHeld => ?_)
    ·exact ⟨⟨cellB b1 fc0, cellB b1 fc1, cellB b1 fc2, cellB b1 fc3, cellB b1 fc4, cellB b1 fc5⟩, trivial, bel_call fb b1⟩
    clear hK K
    refine wpAnyH_name ?_
    intro W1 hW1
    rw [← hW1] at hHeld
    have xb13 := xb13.later2 hW1 b1
    have xb14 := xb14.later2 hW1 b1
    clear hW1
    try simp only [Act.put, List.setIfInBounds_toArray, List.set_cons_zero, List.set_cons_succ]
    refine sO 8 fun K hK => ?_
    obtain ⟨⟨fc0, fc1, fc2, fc3, fc4, fc5⟩, _, fb⟩ := hHeld
    go_simp
    refine (HP.out _).mono ?_
    rintro e w2 ⟨⟨a, b, c', d, z, rfl⟩, b2⟩
    (try go_wp2_with fail)
    refine hK.out _ _ ?_ (fun hHeld => ?_)
    ·exact ⟨⟨cellB b2 fc0, cellB b2 fc1, cellB b2 fc2, cellB b2 fc3, cellB b2 fc4, cellB b2 fc5⟩, trivial, bel_call fb b2⟩
    clear hK K
    refine wpAnyH_name ?_
    intro W8 hW8
    rw [← hW8] at hHeld
    have xb13 := xb13.later2 hW8 b2
    have xb14 := xb14.later2 hW8 b2
    clear hW8
    try simp only [Act.put, List.setIfInBounds_toArray, List.set_cons_zero, List.set_cons_succ]
    refine sY 9 13 ?_
    refine sY 10 23 ?_
    refine sY 11 24 ?_
    refine sY 12 25 ?_
    refine sO 15 fun K hK => ?_
    obtain ⟨⟨fc0, fc1, fc2, fc3, fc4, fc5⟩, _, fb⟩ := hHeld
    obtain ⟨x0, e0, z0⟩ := xb13.get 0 (by decide)
    obtain ⟨x1, e1, z1⟩ := xb13.get 1 (by decide)
    have hlx := blt e0
    have hfb := fb.size
    have hwx13 := hw13
    go_simp
    (try go_wp2_with fail)
    refine hK.out _ _ ?_ (fun hHeld => ?_)
    ·exact ⟨⟨(cs_other (cs_other fc0 (by simp <;> omega)) (by simp <;> omega)), (cs_other (cs_other fc1 (by simp <;> omega)) (by simp <;> omega)), (cs_other (cs_other fc2 (by simp <;> omega)) (by simp <;> omega)), (cs_other (cs_other fc3 (by simp <;> omega)) (by simp <;> omega)), (cs_other (cs_other fc4 (by simp <;> omega)) (by simp <;> omega)), (cs_other (cs_other fc5 (by simp <;> omega)) (by simp <;> omega))⟩, trivial, (bel_set (bel_set fb (by first | omega | (simp <;> omega)) _) (by first | omega | (simp <;> omega)) _)⟩
    clear hK K
    refine wpAnyH_name ?_
    intro W15 hW15
    rw [← hW15] at hHeld
    have y13 := at2_set hW15 xb13
    have xb13 := xb13.set2 hW15
    have xb14 := xb14.set2 hW15
    clear hW15
    try simp only [Act.put, List.setIfInBounds_toArray, List.set_cons_zero, List.set_cons_succ]
    refine sO 16 fun K hK => ?_
    obtain ⟨⟨fc0, fc1, fc2, fc3, fc4, fc5⟩, _, fb⟩ := hHeld
    obtain ⟨x0, e0, z0⟩ := xb14.get 0 (by decide)
    obtain ⟨x1, e1, z1⟩ := xb14.get 1 (by decide)
    have hlx := blt e0
    have hfb := fb.size
    have hwx14 := hw14
    go_simp
    (try go_wp2_with fail)
    refine hK.out _ _ ?_ (fun hHeld => ?_)
    ·exact ⟨⟨(cs_other (cs_other fc0 (by simp <;> omega)) (by simp <;> omega)), (cs_other (cs_other fc1 (by simp <;> omega)) (by simp <;> omega)), (cs_other (cs_other fc2 (by simp <;> omega)) (by simp <;> omega)), (cs_other (cs_other fc3 (by simp <;> omega)) (by simp <;> omega)), (cs_other (cs_other fc4 (by simp <;> omega)) (by simp <;> omega)), (cs_other (cs_other fc5 (by simp <;> omega)) (by simp <;> omega))⟩, trivial, (bel_set (bel_set fb (by first | omega | (simp <;> omega)) _) (by first | omega | (simp <;> omega)) _)⟩
    clear hK K
    refine wpAnyH_name ?_
    intro W16 hW16
    rw [← hW16] at hHeld
    have y14 := at2_set hW16 xb14
    have xb14 := xb14.set2 hW16
    have xb13 := xb13.set2 hW16
    have y13 := at2_other hW16 y13 (by first | omega | (simp <;> omega))
    clear hW16
    try simp only [Act.put, List.setIfInBounds_toArray, List.set_cons_zero, List.set_cons_succ]
    refine sY 17 10 ?_
    refine wpAnyH_done (by kernel_rfl) ?_ _
    go_wp2_with fail
    go_meet
    exact ⟨_, _, _, _, _, _, _, rfl, rfl, rfl, Lib.hid ⟨⟨y13.1, y13.2, y14.1, y14.2⟩, ⟨hHeld.1.1, hHeld.1.2.1, hHeld.1.2.2.1, hHeld.1.2.2.2.1⟩, hHeld.2.2⟩⟩
  ·obtain ⟨⟨fc0, fc1, fc2, fc3, fc4, fc5⟩, _, fb⟩ := hHeld
   go_simp
   (try go_wp2_with fail)
   refine hK.out _ _ ?_ (fun hHeld => ?_)
   ·exact ⟨⟨cellB (bel_alloc (Below.refl _ _) _) fc0, cellB (bel_alloc (Below.refl _ _) _) fc1, cellB (bel_alloc (Below.refl _ _) _) fc2, cellB (bel_alloc (Below.refl _ _) _) fc3, cellB (bel_alloc (Below.refl _ _) _) fc4, cellB (bel_alloc (Below.refl _ _) _) fc5⟩, trivial, bel_alloc fb _⟩
   clear hK K
   refine wpAnyH_name ?_
   intro W14 hW14
   rw [← hW14] at hHeld
   first | (have xb14 := blk_named hW14 (n := 2) rfl) | (have xb14 := blk_named' hW14 (n := 2) rfl)
   have hw14 := fb.size
   have hz14_0 := blt fc0
   have hz14_4 := blt fc4
   clear hW14
   try simp only [Act.put, List.setIfInBounds_toArray, List.set_cons_zero, List.set_cons_succ]
   refine wpAnyH_ready (rs := [1, 13]) (by kernel_rfl) (by simp) ?_
   refine AllReadyH.cons rfl (fun K hK => ?_) (AllReadyH.cons rfl (fun K hK => ?_) (AllReadyH.nil))
   ·obtain ⟨⟨fc0, fc1, fc2, fc3, fc4, fc5⟩, _, fb⟩ := hHeld
    go_simp
    refine (HS.out _ fb).mono ?_
    rintro e w1 ⟨rfl, b1⟩
    (try go_wp2_with fail)
    refine hK.out _ _ ?_ (fun hHeld => ?_)
    ·exact ⟨⟨cellB b1 fc0, cellB b1 fc1, cellB b1 fc2, cellB b1 fc3, cellB b1 fc4, cellB b1 fc5⟩, trivial, bel_call fb b1⟩
    clear hK K
    refine wpAnyH_name ?_
    intro W1 hW1
    rw [← hW1] at hHeld
    have xb14 := xb14.later2 hW1 b1
    clear hW1
    try simp only [Act.put, List.setIfInBounds_toArray, List.set_cons_zero, List.set_cons_succ]
    refine wpAnyH_ready (rs := [8, 13]) (by kernel_rfl) (by simp) ?_
    refine AllReadyH.cons rfl (fun K hK => ?_) (AllReadyH.cons rfl (fun K hK => ?_) (AllReadyH.nil))
    ·obtain ⟨⟨fc0, fc1, fc2, fc3, fc4, fc5⟩, _, fb⟩ := hHeld
     go_simp
     refine (HP.out _).mono ?_
     rintro e w2 ⟨⟨a, b, c', d, z, rfl⟩, b2⟩
     (try go_wp2_with fail)
     refine hK.out _ _ ?_ (fun hHeld => ?_)
     ·exact ⟨⟨cellB b2 fc0, cellB b2 fc1, cellB b2 fc2, cellB b2 fc3, cellB b2 fc4, cellB b2 fc5⟩, trivial, bel_call fb b2⟩
     clear hK K
     refine wpAnyH_name ?_
     intro W8 hW8
     rw [← hW8] at hHeld
     have xb14 := xb14.later2 hW8 b2
     clear hW8
     try simp only [Act.put, List.setIfInBounds_toArray, List.set_cons_zero, List.set_cons_succ]
     refine sY 9 13 ?_
     refine sY 10 23 ?_
     refine sY 11 24 ?_
     refine sY 12 25 ?_
     refine sO 13 fun K hK => ?_
     obtain ⟨⟨fc0, fc1, fc2, fc3, fc4, fc5⟩, _, fb⟩ := hHeld
     go_simp
     (try go_wp2_with fail)
     refine hK.out _ _ ?_ (fun hHeld => ?_)
     ·exact ⟨⟨cellB (bel_alloc (Below.refl _ _) _) fc0, cellB (bel_alloc (Below.refl _ _) _) fc1, cellB (bel_alloc (Below.refl _ _) _) fc2, cellB (bel_alloc (Below.refl _ _) _) fc3, cellB (bel_alloc (Below.refl _ _) _) fc4, cellB (bel_alloc (Below.refl _ _) _) fc5⟩, trivial, bel_alloc fb _⟩
     clear hK K
     refine wpAnyH_name ?_
     intro W13 hW13
     rw [← hW13] at hHeld
     first | (have xb13 := blk_named hW13 (n := 2) rfl) | (have xb13 := blk_named' hW13 (n := 2) rfl)
     have hw13 := fb.size
     have hz13_0 := blt fc0
     have hz13_4 := blt fc4
     have hv13_14 := xb14.lt
     first | (have xb14 := xb14.named hW13) | (have xb14 := xb14.named' hW13)
     clear hW13
     try simp only [Act.put, List.setIfInBounds_toArray, List.set_cons_zero, List.set_cons_succ]
     refine sO 15 fun K hK => ?_
     obtain ⟨⟨fc0, fc1, fc2, fc3, fc4, fc5⟩, _, fb⟩ := hHeld
     obtain ⟨x0, e0, z0⟩ := xb13.get 0 (by decide)
     obtain ⟨x1, e1, z1⟩ := xb13.get 1 (by decide)
     have hlx := blt e0
     have hfb := fb.size
     have hwx13 := hw13
     go_simp
     (try go_wp2_with fail)
     refine hK.out _ _ ?_ (fun hHeld => ?_)
     ·exact ⟨⟨(cs_other (cs_other fc0 (by simp <;> omega)) (by simp <;> omega)), (cs_other (cs_other fc1 (by simp <;> omega)) (by simp <;> omega)), (cs_other (cs_other fc2 (by simp <;> omega)) (by simp <;> omega)), (cs_other (cs_other fc3 (by simp <;> omega)) (by simp <;> omega)), (cs_other (cs_other fc4 (by simp <;> omega)) (by simp <;> omega)), (cs_other (cs_other fc5 (by simp <;> omega)) (by simp <;> omega))⟩, trivial, (bel_set (bel_set fb (by first | omega | (simp <;> omega)) _) (by first | omega | (simp <;> omega)) _)⟩
     clear hK K
     refine wpAnyH_name ?_
     intro W15 hW15
     rw [← hW15] at hHeld
     have y13 := at2_set hW15 xb13
     have xb13 := xb13.set2 hW15
     have xb14 := xb14.set2 hW15
     clear hW15
     try simp only [Act.put, List.setIfInBounds_toArray, List.set_cons_zero, List.set_cons_succ]
     refine sO 16 fun K hK => ?_
     obtain ⟨⟨fc0, fc1, fc2, fc3, fc4, fc5⟩, _, fb⟩ := hHeld
     obtain ⟨x0, e0, z0⟩ := xb14.get 0 (by decide)
     obtain ⟨x1, e1, z1⟩ := xb14.get 1 (by decide)
     have hlx := blt e0
     have hfb := fb.size
     have hwx14 := hw14
     go_simp
     (try go_wp2_with fail)
     refine hK.out _ _ ?_ (fun hHeld => ?_)
     ·exact ⟨⟨(cs_other (cs_other fc0 (by simp <;> omega)) (by simp <;> omega)), (cs_other (cs_other fc1 (by simp <;> omega)) (by simp <;> omega)), (cs_other (cs_other fc2 (by simp <;> omega)) (by simp <;> omega)), (cs_other (cs_other fc3 (by simp <;> omega)) (by simp <;> omega)), (cs_other (cs_other fc4 (by simp <;> omega)) (by simp <;> omega)), (cs_other (cs_other fc5 (by simp <;> omega)) (by simp <;> omega))⟩, trivial, (bel_set (bel_set fb (by first | omega | (simp <;> omega)) _) (by first | omega | (simp <;> omega)) _)⟩
     clear hK K
     refine wpAnyH_name ?_
     intro W16 hW16
     rw [← hW16] at hHeld
     have y14 := at2_set hW16 xb14
     have xb14 := xb14.set2 hW16
     have xb13 := xb13.set2 hW16
     have y13 := at2_other hW16 y13 (by first | omega | (simp <;> omega))
     clear hW16
     try simp only [Act.put, List.setIfInBounds_toArray, List.set_cons_zero, List.set_cons_succ]
     refine sY 17 10 ?_
     refine wpAnyH_done (by kernel_rfl) ?_ _
     go_wp2_with fail
     go_meet
     exact ⟨_, _, _, _, _, _, _, rfl, rfl, rfl, Lib.hid ⟨⟨y13.1, y13.2, y14.1, y14.2⟩, ⟨hHeld.1.1, hHeld.1.2.1, hHeld.1.2.2.1, hHeld.1.2.2.2.1⟩, hHeld.2.2⟩⟩
    ·obtain ⟨⟨fc0, fc1, fc2, fc3, fc4, fc5⟩, _, fb⟩ := hHeld
     go_simp
     (try go_wp2_with fail)
     refine hK.out _ _ ?_ (fun hHeld => ?_)
     ·exact ⟨⟨cellB (bel_alloc (Below.refl _ _) _) fc0, cellB (bel_alloc (Below.refl _ _) _) fc1, cellB (bel_alloc (Below.refl _ _) _) fc2, cellB (bel_alloc (Below.refl _ _) _) fc3, cellB (bel_alloc (Below.refl _ _) _) fc4, cellB (bel_alloc (Below.refl _ _) _) fc5⟩, trivial, bel_alloc fb _⟩
     clear hK K
     refine wpAnyH_name ?_
     intro W13 hW13
     rw [← hW13] at hHeld
     first | (have xb13 := blk_named hW13 (n := 2) rfl) | (have xb13 := blk_named' hW13 (n := 2) rfl)
     have hw13 := fb.size
     have hz13_0 := blt fc0
     have hz13_4 := blt fc4
     have hv13_14 := xb14.lt
     first | (have xb14 := xb14.named hW13) | (have xb14 := xb14.named' hW13)
     clear hW13
     try simp only [Act.put, List.setIfInBounds_toArray, List.set_cons_zero, List.set_cons_succ]
     refine sO 8 fun K hK => ?_
     obtain ⟨⟨fc0, fc1, fc2, fc3, fc4, fc5⟩, _, fb⟩ := hHeld
     go_simp
     refine (HP.out _).mono ?_
     rintro e w2 ⟨⟨a, b, c', d, z, rfl⟩, b2⟩
     (try go_wp2_with fail)
     refine hK.out _ _ ?_ (fun hHeld => ?_)
     ·exact ⟨⟨cellB b2 fc0, cellB b2 fc1, cellB b2 fc2, cellB b2 fc3, cellB b2 fc4, cellB b2 fc5⟩, trivial, bel_call fb b2⟩
     clear hK K
     refine wpAnyH_name ?_
     intro W8 hW8
     rw [← hW8] at hHeld
     have xb13 := xb13.later2 hW8 b2
     have xb14 := xb14.later2 hW8 b2
     clear hW8
     try simp only [Act.put, List.setIfInBounds_toArray, List.set_cons_zero, List.set_cons_succ]
     refine sY 9 13 ?_
     refine sY 10 23 ?_
     refine sY 11 24 ?_
     refine sY 12 25 ?_
     refine sO 15 fun K hK => ?_
     obtain ⟨⟨fc0, fc1, fc2, fc3, fc4, fc5⟩, _, fb⟩ := hHeld
     obtain ⟨x0, e0, z0⟩ := xb13.get 0 (by decide)
     obtain ⟨x1, e1, z1⟩ := xb13.get 1 (by decide)
     have hlx := blt e0
     have hfb := fb.size
     have hwx13 := hw13
     go_simp
     (try go_wp2_with fail)
     refine hK.out _ _ ?_ (fun hHeld => ?_)
     ·exact ⟨⟨(cs_other (cs_other fc0 (by simp <;> omega)) (by simp <;> omega)), (cs_other (cs_other fc1 (by simp <;> omega)) (by simp <;> omega)), (cs_other (cs_other fc2 (by simp <;> omega)) (by simp <;> omega)), (cs_other (cs_other fc3 (by simp <;> omega)) (by simp <;> omega)), (cs_other (cs_other fc4 (by simp <;> omega)) (by simp <;> omega)), (cs_other (cs_other fc5 (by simp <;> omega)) (by simp <;> omega))⟩, trivial, (bel_set (bel_set fb (by first | omega | (simp <;> omega)) _) (by first | omega | (simp <;> omega)) _)⟩
     clear hK K
     refine wpAnyH_name ?_
     intro W15 hW15
     rw [← hW15] at hHeld
     have y13 := at2_set hW15 xb13
     have xb13 := xb13.set2 hW15
     have xb14 := xb14.set2 hW15
     clear hW15
     try simp only [Act.put, List.setIfInBounds_toArray, List.set_cons_zero, List.set_cons_succ]
     refine sO 16 fun K hK => ?_
     obtain ⟨⟨fc0, fc1, fc2, fc3, fc4, fc5⟩, _, fb⟩ := hHeld
     obtain ⟨x0, e0, z0⟩ := xb14.get 0 (by decide)
     obtain ⟨x1, e1, z1⟩ := xb14.get 1 (by decide)
     have hlx := blt e0
     have hfb := fb.size
     have hwx14 := hw14
     go_simp
     (try go_wp2_with fail)
     refine hK.out _ _ ?_ (fun hHeld => ?_)
     ·exact ⟨⟨(cs_other (cs_other fc0 (by simp <;> omega)) (by simp <;> omega)), (cs_other (cs_other fc1 (by simp <;> omega)) (by simp <;> omega)), (cs_other (cs_other fc2 (by simp <;> omega)) (by simp <;> omega)), (cs_other (cs_other fc3 (by simp <;> omega)) (by simp <;> omega)), (cs_other (cs_other fc4 (by simp <;> omega)) (by simp <;> omega)), (cs_other (cs_other fc5 (by simp <;> omega)) (by simp <;> omega))⟩, trivial, (bel_set (bel_set fb (by first | omega | (simp <;> omega)) _) (by first | omega | (simp <;> omega)) _)⟩
     clear hK K
     refine wpAnyH_name ?_
     intro W16 hW16
     rw [← hW16] at hHeld
     have y14 := at2_set hW16 xb14
     have xb14 := xb14.set2 hW16
     have xb13 := xb13.set2 hW16
     have y13 := at2_other hW16 y13 (by first | omega | (simp <;> omega))
     clear hW16
     try simp only [Act.put, List.setIfInBounds_toArray, List.set_cons_zero, List.set_cons_succ]
     refine sY 17 10 ?_
     refine wpAnyH_done (by kernel_rfl) ?_ _
     go_wp2_with fail
     go_meet
     exact ⟨_, _, _, _, _, _, _, rfl, rfl, rfl, Lib.hid ⟨⟨y13.1, y13.2, y14.1, y14.2⟩, ⟨hHeld.1.1, hHeld.1.2.1, hHeld.1.2.2.1, hHeld.1.2.2.2.1⟩, hHeld.2.2⟩⟩
   ·obtain ⟨⟨fc0, fc1, fc2, fc3, fc4, fc5⟩, _, fb⟩ := hHeld
    go_simp
    (try go_wp2_with fail)
    refine hK.out _ _ ?_ (fun hHeld => ?_)
    ·exact ⟨⟨cellB (bel_alloc (Below.refl _ _) _) fc0, cellB (bel_alloc (Below.refl _ _) _) fc1, cellB (bel_alloc (Below.refl _ _) _) fc2, cellB (bel_alloc (Below.refl _ _) _) fc3, cellB (bel_alloc (Below.refl _ _) _) fc4, cellB (bel_alloc (Below.refl _ _) _) fc5⟩, trivial, bel_alloc fb _⟩
    clear hK K
    refine wpAnyH_name ?_
    intro W13 hW13
    rw [← hW13] at hHeld
    first | (have xb13 := blk_named hW13 (n := 2) rfl) | (have xb13 := blk_named' hW13 (n := 2) rfl)
    have hw13 := fb.size
    have hz13_0 := blt fc0
    have hz13_4 := blt fc4
    have hv13_14 := xb14.lt
    first | (have xb14 := xb14.named hW13) | (have xb14 := xb14.named' hW13)
    clear hW13
    try simp only [Act.put, List.setIfInBounds_toArray, List.set_cons_zero, List.set_cons_succ]
    refine sO 1 fun K hK => ?_
    obtain ⟨⟨fc0, fc1, fc2, fc3, fc4, fc5⟩, _, fb⟩ := hHeld
    go_simp
    refine (HS.out _ fb).mono ?_
    rintro e w1 ⟨rfl, b1⟩
    (try go_wp2_with fail)
    refine hK.out _ _ ?_ (fun hHeld => ?_)
    ·exact ⟨⟨cellB b1 fc0, cellB b1 fc1, cellB b1 fc2, cellB b1 fc3, cellB b1 fc4, cellB b1 fc5⟩, trivial, bel_call fb b1⟩
    clear hK K
    refine wpAnyH_name ?_
    intro W1 hW1
    rw [← hW1] at hHeld
    have xb13 := xb13.later2 hW1 b1
    have xb14 := xb14.later2 hW1 b1
    clear hW1
    try simp only [Act.put, List.setIfInBounds_toArray, List.set_cons_zero, List.set_cons_succ]
    refine sO 8 fun K hK => ?_
    obtain ⟨⟨fc0, fc1, fc2, fc3, fc4, fc5⟩, _, fb⟩ := hHeld
    go_simp
    refine (HP.out _).mono ?_
    rintro e w2 ⟨⟨a, b, c', d, z, rfl⟩, b2⟩
    (try go_wp2_with fail)
    refine hK.out _ _ ?_ (fun hHeld => ?_)
    ·exact ⟨⟨cellB b2 fc0, cellB b2 fc1, cellB b2 fc2, cellB b2 fc3, cellB b2 fc4, cellB b2 fc5⟩, trivial, bel_call fb b2⟩
    clear hK K
    refine wpAnyH_name ?_
    intro W8 hW8
    rw [← hW8] at hHeld
    have xb13 := xb13.later2 hW8 b2
    have xb14 := xb14.later2 hW8 b2
    clear hW8
    try simp only [Act.put, List.setIfInBounds_toArray, List.set_cons_zero, List.set_cons_succ]
    refine sY 9 13 ?_
    refine sY 10 23 ?_
    refine sY 11 24 ?_
    refine sY 12 25 ?_
    refine sO 15 fun K hK => ?_
    obtain ⟨⟨fc0, fc1, fc2, fc3, fc4, fc5⟩, _, fb⟩ := hHeld
    obtain ⟨x0, e0, z0⟩ := xb13.get 0 (by decide)
    obtain ⟨x1, e1, z1⟩ := xb13.get 1 (by decide)
    have hlx := blt e0
    have hfb := fb.size
    have hwx13 := hw13
    go_simp
    (try go_wp2_with fail)
    refine hK.out _ _ ?_ (fun hHeld => ?_)
    ·exact ⟨⟨(cs_other (cs_other fc0 (by simp <;> omega)) (by simp <;> omega)), (cs_other (cs_other fc1 (by simp <;> omega)) (by simp <;> omega)), (cs_other (cs_other fc2 (by simp <;> omega)) (by simp <;> omega)), (cs_other (cs_other fc3 (by simp <;> omega)) (by simp <;> omega)), (cs_other (cs_other fc4 (by simp <;> omega)) (by simp <;> omega)), (cs_other (cs_other fc5 (by simp <;> omega)) (by simp <;> omega))⟩, trivial, (bel_set (bel_set fb (by first | omega | (simp <;> omega)) _) (by first | omega | (simp <;> omega)) _)⟩
    clear hK K
    refine wpAnyH_name ?_
    intro W15 hW15
    rw [← hW15] at hHeld
    have y13 := at2_set hW15 xb13
    have xb13 := xb13.set2 hW15
    have xb14 := xb14.set2 hW15
    clear hW15
    try simp only [Act.put, List.setIfInBounds_toArray, List.set_cons_zero, List.set_cons_succ]
    refine sO 16 fun K hK => ?_
    obtain ⟨⟨fc0, fc1, fc2, fc3, fc4, fc5⟩, _, fb⟩ := hHeld
    obtain ⟨x0, e0, z0⟩ := xb14.get 0 (by decide)
    obtain ⟨x1, e1, z1⟩ := xb14.get 1 (by decide)
    have hlx := blt e0
    have hfb := fb.size
    have hwx14 := hw14
    go_simp
    (try go_wp2_with fail)
    refine hK.out _ _ ?_ (fun hHeld => ?_)
    ·exact ⟨⟨(cs_other (cs_other fc0 (by simp <;> omega)) (by simp <;> omega)), (cs_other (cs_other fc1 (by simp <;> omega)) (by simp <;> omega)), (cs_other (cs_other fc2 (by simp <;> omega)) (by simp <;> omega)), (cs_other (cs_other fc3 (by simp <;> omega)) (by simp <;> omega)), (cs_other (cs_other fc4 (by simp <;> omega)) (by simp <;> omega)), (cs_other (cs_other fc5 (by simp <;> omega)) (by simp <;> omega))⟩, trivial, (bel_set (bel_set fb (by first | omega | (simp <;> omega)) _) (by first | omega | (simp <;> omega)) _)⟩
    clear hK K
    refine wpAnyH_name ?_
    intro W16 hW16
    rw [← hW16] at hHeld
    have y14 := at2_set hW16 xb14
    have xb14 := xb14.set2 hW16
    have xb13 := xb13.set2 hW16
    have y13 := at2_other hW16 y13 (by first | omega | (simp <;> omega))
    clear hW16
    try simp only [Act.put, List.setIfInBounds_toArray, List.set_cons_zero, List.set_cons_succ]
    refine sY 17 10 ?_
    refine wpAnyH_done (by kernel_rfl) ?_ _
    go_wp2_with fail
    go_meet
    exact ⟨_, _, _, _, _, _, _, rfl, rfl, rfl, Lib.hid ⟨⟨y13.1, y13.2, y14.1, y14.2⟩, ⟨hHeld.1.1, hHeld.1.2.1, hHeld.1.2.2.1, hHeld.1.2.2.2.1⟩, hHeld.2.2⟩⟩
 case rest =>
  obtain ⟨p, q, a, b, c', d, z, rfl, rfl, rfl, HH⟩ := hcut
  obtain ⟨⟨m0, m1, m2, m3⟩, ⟨n0, n1, n2, n3⟩, fb⟩ := HH.out
  have hlp := blt m0
  have hlq := blt m2
  have hlx := blt n0
  have Fb := Lib.hid fb
  clear HH fb
  by_cases hz : z = 0
  ·subst hz
   go_wp2_with fail
   refine (HC.out _ Fb.out _ _ _ _).mono ?_
   rintro e w3 ⟨rfl, hs⟩
   have Hs := Lib.hid hs
   clear hs
   go_wp2_with fail
   go_end0
   exact ⟨rfl, HE.out _ _ Fb.out Hs.out⟩
  ·go_wp2_with fail
   go_end0
   exact ⟨rfl, HE0.out _ Fb.out⟩
end
end Go.Proofs.YtpjooboohelffaaGreatDoor
