/- TopLooks and TopSends, helper 16 of 27. It holds: the screen: Free; the screen: New; the queue: New, put; the queue: Push; A range over a function whose iterator turns what the caller looks at: as IT's law, with a second invariant where a thing is handed over; the queue: taken, and its iterator; the tables of glyphs: ascii. Each theorem states its own conditions. -/
import Derived.Test.YtpjooboohelffaaGreatDoorM14
import Derived.Test.YtpjooboohelffaaGreatDoorM01
import Derived.Test.YtpjooboohelffaaGreatDoorM00
/- Top: the screen: Free. -/
namespace Go.Proofs.YtpjooboohelffaaGreatDoor
open Go.RowKit Go.Shelf T05
set_option linter.unusedVariables false
set_option linter.unusedSimpArgs false
set_option maxRecDepth 100000
section
variable {K : Nat → Prop} {L : Lay} {rs : Nat → Nat} {cell : Nat → Nat → Cl} {r c : Int} {S : Int → Bool}
/-- What Free leaves: an open place, or nothing turned where all are guarded. -/
def FreeP (K : Nat → Prop) (L : Lay) (rs : Nat → Nat) (cell : Nat → Nat → Cl) (r c : Int) (S : Int → Bool) (i : Bool) (w w' : World) : Prop :=
 ∃ a b, Scr K L w' rs cell a b S ∧ (i = true → (cell a.toNat b.toNat).d = false) ∧ (i = false → a = r ∧ b = c ∧ ∀ p q, p < L.R → q < L.C → (cell p q).d = true)
set_option maxHeartbeats 4000000 in
theorem s_free (w : World) (hK : KB K w) (h : Scr K L w rs cell r c S) (back : Bool) :
  Calls Tryz.prog 15 #[.pointer (some ⟨L.sb, 0, none⟩), .bool back] w fun e w' => ∃ i, e = .returned (.bool i) ∧ FreeP K L rs cell r c S i w w' ∧ Kept K w w' := by
 have HF := Lib.hid (fun W (hb : Below w.heap.size w W) => free0_any W (h.gr.later hb) r c)
 have HL := Lib.hid (fun W (hb : Below w.heap.size w W) => last0_any W (h.gr.later hb) r c)
 have HM := Lib.hid (fun W (hb : Below w.heap.size w W) a b => s_move (K := Loc K w W) W (hK.loc hb) (h.loc hb) a b)
 have HE := Lib.hid (fun W W2 (a b : Int) (hb : Below w.heap.size w W) (hab : inR L.R L.C a b) (ho : OpenP L.R L.C cell a b true) (hs : Scr (Loc K w W) L W2 rs cell (nearI a L.R) (nearI b L.C) S ∧ Kept (Loc K w W) W W2) =>
  (show FreeP K L rs cell r c S true w W2 ∧ Kept K w W2 from by
   obtain ⟨h1, h2⟩ := Scr.back hs hK hb h.gk
   rw [nearI_id hab.1 hab.2.1, nearI_id hab.2.2.1 hab.2.2.2] at h1
   exact ⟨⟨a, b, h1, fun _ => ho.1 rfl, fun e => (by cases e)⟩, h2⟩))
 have HE0 := Lib.hid (fun W (a b : Int) (hb : Below w.heap.size w W) (ho : OpenP L.R L.C cell a b false) => (show FreeP K L rs cell r c S false w W ∧ Kept K w W from ⟨⟨r, c, h.later hb, fun e => (by cases e), fun _ => ⟨rfl, rfl, ho.2 rfl⟩⟩, Kept.ofBelow hb hK⟩))
 have k0 := h.s0
 have k1 := h.s1
 have k3 := h.s3
 have hl := blt k0
 clear h hK
 cases back with
 | true =>
  go_enter Tryz.func15, Tryz.ntmps15
  go_wp2_with fail
  refine gen_wp ?_
  intro u hu0
  have FB : Below w.heap.size w u := by rw [hu0]; exact Below.refl _ _
  have KFu : ∀ W, Below u.heap.size u W → (W.cell? ⟨L.sb, 0, none⟩ = some (.int .i64 r) ∧ W.cell? ⟨L.sb, 1, none⟩ = some (.int .i64 c) ∧ W.cell? ⟨L.sb, 3, none⟩ = some (.pointer (some ⟨L.g, 0, none⟩))) ∧ True ∧ Below w.heap.size w W := by
   intro W hu
   refine ⟨⟨?_, ?_, ?_⟩, trivial, ?_⟩
   ·exact cellB (bel_call (by rw [hu0]; (repeat first | exact Below.refl _ _ | refine bel_alloc ?_ _)) hu) (k0)
   ·exact cellB (bel_call (by rw [hu0]; (repeat first | exact Below.refl _ _ | refine bel_alloc ?_ _)) hu) (k1)
   ·exact cellB (bel_call (by rw [hu0]; (repeat first | exact Below.refl _ _ | refine bel_alloc ?_ _)) hu) (k3)
   ·exact bel_call (by rw [hu0]; (repeat first | exact Below.refl _ _ | refine bel_alloc ?_ _)) hu
  clear hu0 k0 k1 k3
  have hsu := FB.size
  go_cut [6, 7] from 8 (fun s t wx => ∃ p a b i, s = .pointer (some ⟨p, 0, none⟩) ∧ t = .bool i ∧ Hid (At2 wx p (.int .i64 a) (.int .i64 b) ∧ inR L.R L.C a b ∧ OpenP L.R L.C cell a b i ∧ Below w.heap.size w wx))
  case first =>
   refine wp_region_held_drew (S := fun W => (W.cell? ⟨L.sb, 0, none⟩ = some (.int .i64 r) ∧ W.cell? ⟨L.sb, 1, none⟩ = some (.int .i64 c) ∧ W.cell? ⟨L.sb, 3, none⟩ = some (.pointer (some ⟨L.g, 0, none⟩))) ∧ True ∧ Below w.heap.size w W) (by kernel_rfl) (KFu _ (Below.refl _ _).drew) (fun hHeld => ?_)
   refine sY 0 12 ?_
   refine sY 1 13 ?_
   refine sY 2 14 ?_
   refine sY 3 15 ?_
   refine sY 4 16 ?_
   refine sY 5 17 ?_
   refine sY 6 18 ?_
   refine sY 7 19 ?_
   refine sY 8 20 ?_
   refine sY 9 21 ?_
   refine wpAnyH_ready (rs := [10, 14]) (by kernel_rfl) (by simp) ?_
   refine AllReadyH.cons rfl (fun K hK => ?_) (AllReadyH.cons rfl (fun K hK => ?_) (AllReadyH.nil))
   ·obtain ⟨⟨fc0, fc1, fc2⟩, _, fb⟩ := hHeld
    go_simp
    refine (HL.out _ fb).mono ?_
    rintro e w1 ⟨⟨a, b, i, rfl, hab, hop⟩, b1⟩
    (try go_wp2_with fail)
    refine hK.out _ _ ?_ (fun hHeld => ?_)
    ·exact ⟨⟨cellB b1 fc0, cellB b1 fc1, cellB b1 fc2⟩, trivial, bel_call fb b1⟩
    clear hK K
    refine wpAnyH_name ?_
    intro W10 hW10
    rw [← hW10] at hHeld
    clear hW10
    try simp only [Act.put, List.setIfInBounds_toArray, List.set_cons_zero, List.set_cons_succ]
    refine sY 11 11 ?_
    refine sY 12 23 ?_
    refine sY 13 24 ?_
    refine sO 14 fun K hK => ?_
    obtain ⟨⟨fc0, fc1, fc2⟩, _, fb⟩ := hHeld
    go_simp
    (try go_wp2_with fail)
    refine hK.out _ _ ?_ (fun hHeld => ?_)
    ·exact ⟨⟨cellB (bel_alloc (Below.refl _ _) _) fc0, cellB (bel_alloc (Below.refl _ _) _) fc1, cellB (bel_alloc (Below.refl _ _) _) fc2⟩, trivial, bel_alloc fb _⟩
    clear hK K
    refine wpAnyH_name ?_
    intro W14 hW14
    rw [← hW14] at hHeld
    first | (have xb14 := blk_named hW14 (n := 2) rfl) | (have xb14 := blk_named' hW14 (n := 2) rfl)
    have hw14 := fb.size
    have hz14_0 := blt fc0
    clear hW14
    try simp only [Act.put, List.setIfInBounds_toArray, List.set_cons_zero, List.set_cons_succ]
    refine sO 15 fun K hK => ?_
    obtain ⟨⟨fc0, fc1, fc2⟩, _, fb⟩ := hHeld
    obtain ⟨x0, e0, z0⟩ := xb14.get 0 (by decide)
    obtain ⟨x1, e1, z1⟩ := xb14.get 1 (by decide)
    have hlx := blt e0
    have hfb := fb.size
    have hwx14 := hw14
    go_simp
    (try go_wp2_with fail)
    refine hK.out _ _ ?_ (fun hHeld => ?_)
    ·exact ⟨⟨(cs_other (cs_other fc0 (by simp <;> omega)) (by simp <;> omega)), (cs_other (cs_other fc1 (by simp <;> omega)) (by simp <;> omega)), (cs_other (cs_other fc2 (by simp <;> omega)) (by simp <;> omega))⟩, trivial, (bel_set (bel_set fb (by first | omega | (simp <;> omega)) _) (by first | omega | (simp <;> omega)) _)⟩
    clear hK K
    refine wpAnyH_name ?_
    intro W15 hW15
    rw [← hW15] at hHeld
    have y14 := at2_set hW15 xb14
    have xb14 := xb14.set2 hW15
    clear hW15
    try simp only [Act.put, List.setIfInBounds_toArray, List.set_cons_zero, List.set_cons_succ]
    refine sY 16 7 ?_
    refine wpAnyH_done (by kernel_rfl) ?_ _
    go_wp2_with fail
    go_meet
    exact ⟨_, _, _, _, rfl, rfl, Lib.hid ⟨y14, hab, hop, hHeld.2.2⟩⟩
   ·obtain ⟨⟨fc0, fc1, fc2⟩, _, fb⟩ := hHeld
    go_simp
    (try go_wp2_with fail)
    refine hK.out _ _ ?_ (fun hHeld => ?_)
    ·exact ⟨⟨cellB (bel_alloc (Below.refl _ _) _) fc0, cellB (bel_alloc (Below.refl _ _) _) fc1, cellB (bel_alloc (Below.refl _ _) _) fc2⟩, trivial, bel_alloc fb _⟩
    clear hK K
    refine wpAnyH_name ?_
    intro W14 hW14
    rw [← hW14] at hHeld
    first | (have xb14 := blk_named hW14 (n := 2) rfl) | (have xb14 := blk_named' hW14 (n := 2) rfl)
    have hw14 := fb.size
    have hz14_0 := blt fc0
    clear hW14
    try simp only [Act.put, List.setIfInBounds_toArray, List.set_cons_zero, List.set_cons_succ]
    refine sO 10 fun K hK => ?_
    obtain ⟨⟨fc0, fc1, fc2⟩, _, fb⟩ := hHeld
    go_simp
    refine (HL.out _ fb).mono ?_
    rintro e w1 ⟨⟨a, b, i, rfl, hab, hop⟩, b1⟩
    (try go_wp2_with fail)
    refine hK.out _ _ ?_ (fun hHeld => ?_)
    ·exact ⟨⟨cellB b1 fc0, cellB b1 fc1, cellB b1 fc2⟩, trivial, bel_call fb b1⟩
    clear hK K
    refine wpAnyH_name ?_
    intro W10 hW10
    rw [← hW10] at hHeld
    have xb14 := xb14.later2 hW10 b1
    clear hW10
    try simp only [Act.put, List.setIfInBounds_toArray, List.set_cons_zero, List.set_cons_succ]
    refine sY 11 11 ?_
    refine sY 12 23 ?_
    refine sY 13 24 ?_
    refine sO 15 fun K hK => ?_
    obtain ⟨⟨fc0, fc1, fc2⟩, _, fb⟩ := hHeld
    obtain ⟨x0, e0, z0⟩ := xb14.get 0 (by decide)
    obtain ⟨x1, e1, z1⟩ := xb14.get 1 (by decide)
    have hlx := blt e0
    have hfb := fb.size
    have hwx14 := hw14
    go_simp
    (try go_wp2_with fail)
    refine hK.out _ _ ?_ (fun hHeld => ?_)
    ·exact ⟨⟨(cs_other (cs_other fc0 (by simp <;> omega)) (by simp <;> omega)), (cs_other (cs_other fc1 (by simp <;> omega)) (by simp <;> omega)), (cs_other (cs_other fc2 (by simp <;> omega)) (by simp <;> omega))⟩, trivial, (bel_set (bel_set fb (by first | omega | (simp <;> omega)) _) (by first | omega | (simp <;> omega)) _)⟩
    clear hK K
    refine wpAnyH_name ?_
    intro W15 hW15
    rw [← hW15] at hHeld
    have y14 := at2_set hW15 xb14
    have xb14 := xb14.set2 hW15
    clear hW15
    try simp only [Act.put, List.setIfInBounds_toArray, List.set_cons_zero, List.set_cons_succ]
    refine sY 16 7 ?_
    refine wpAnyH_done (by kernel_rfl) ?_ _
    go_wp2_with fail
    go_meet
    exact ⟨_, _, _, _, rfl, rfl, Lib.hid ⟨y14, hab, hop, hHeld.2.2⟩⟩
  case rest =>
   obtain ⟨p, a, b, i, rfl, rfl, HH⟩ := hcut
   obtain ⟨⟨m0, m1⟩, hab, hop, fb⟩ := HH.out
   have hlp := blt m0
   have Fb := Lib.hid fb
   clear HH fb
   cases i with
   | true =>
    go_wp2_with fail
    refine (HM.out _ Fb.out _ _).mono ?_
    rintro e w3 ⟨rfl, hs⟩
    have Hs := Lib.hid hs
    clear hs
    go_wp2_with fail
    go_ret
    exact ⟨true, rfl, HE.out _ _ _ _ Fb.out hab hop Hs.out⟩
   | false =>
    go_wp2_with fail
    go_ret
    exact ⟨false, rfl, HE0.out _ _ _ Fb.out hop⟩
 | false =>
  go_enter Tryz.func15, Tryz.ntmps15
  go_wp2_with fail
  refine gen_wp ?_
  intro u hu0
  have FB : Below w.heap.size w u := by rw [hu0]; exact Below.refl _ _
  have KFu : ∀ W, Below u.heap.size u W → (W.cell? ⟨L.sb, 0, none⟩ = some (.int .i64 r) ∧ W.cell? ⟨L.sb, 1, none⟩ = some (.int .i64 c) ∧ W.cell? ⟨L.sb, 3, none⟩ = some (.pointer (some ⟨L.g, 0, none⟩))) ∧ True ∧ Below w.heap.size w W := by
   intro W hu
   refine ⟨⟨?_, ?_, ?_⟩, trivial, ?_⟩
   ·exact cellB (bel_call (by rw [hu0]; (repeat first | exact Below.refl _ _ | refine bel_alloc ?_ _)) hu) (k0)
   ·exact cellB (bel_call (by rw [hu0]; (repeat first | exact Below.refl _ _ | refine bel_alloc ?_ _)) hu) (k1)
   ·exact cellB (bel_call (by rw [hu0]; (repeat first | exact Below.refl _ _ | refine bel_alloc ?_ _)) hu) (k3)
   ·exact bel_call (by rw [hu0]; (repeat first | exact Below.refl _ _ | refine bel_alloc ?_ _)) hu
  clear hu0 k0 k1 k3
  have hsu := FB.size
  go_cut [6, 7] from 8 (fun s t wx => ∃ p a b i, s = .pointer (some ⟨p, 0, none⟩) ∧ t = .bool i ∧ Hid (At2 wx p (.int .i64 a) (.int .i64 b) ∧ inR L.R L.C a b ∧ OpenP L.R L.C cell a b i ∧ Below w.heap.size w wx))
  case first =>
   refine wp_region_held_drew (S := fun W => (W.cell? ⟨L.sb, 0, none⟩ = some (.int .i64 r) ∧ W.cell? ⟨L.sb, 1, none⟩ = some (.int .i64 c) ∧ W.cell? ⟨L.sb, 3, none⟩ = some (.pointer (some ⟨L.g, 0, none⟩))) ∧ True ∧ Below w.heap.size w W) (by kernel_rfl) (KFu _ (Below.refl _ _).drew) (fun hHeld => ?_)
   refine sY 0 12 ?_
   refine sY 1 13 ?_
   refine sY 2 14 ?_
   refine sY 3 15 ?_
   refine sY 4 16 ?_
   refine sY 5 17 ?_
   refine sY 6 18 ?_
   refine sY 7 19 ?_
   refine sY 8 20 ?_
   refine sY 9 21 ?_
   refine wpAnyH_ready (rs := [10, 14]) (by kernel_rfl) (by simp) ?_
   refine AllReadyH.cons rfl (fun K hK => ?_) (AllReadyH.cons rfl (fun K hK => ?_) (AllReadyH.nil))
   ·obtain ⟨⟨fc0, fc1, fc2⟩, _, fb⟩ := hHeld
    go_simp
    refine (HF.out _ fb).mono ?_
    rintro e w1 ⟨⟨a, b, i, rfl, hab, hop⟩, b1⟩
    (try go_wp2_with fail)
    refine hK.out _ _ ?_ (fun hHeld => ?_)
    ·exact ⟨⟨cellB b1 fc0, cellB b1 fc1, cellB b1 fc2⟩, trivial, bel_call fb b1⟩
    clear hK K
    refine wpAnyH_name ?_
    intro W10 hW10
    rw [← hW10] at hHeld
    clear hW10
    try simp only [Act.put, List.setIfInBounds_toArray, List.set_cons_zero, List.set_cons_succ]
    refine sY 11 11 ?_
    refine sY 12 23 ?_
    refine sY 13 24 ?_
    refine sO 14 fun K hK => ?_
    obtain ⟨⟨fc0, fc1, fc2⟩, _, fb⟩ := hHeld
    go_simp
    (try go_wp2_with fail)
    refine hK.out _ _ ?_ (fun hHeld => ?_)
    ·exact ⟨⟨cellB (bel_alloc (Below.refl _ _) _) fc0, cellB (bel_alloc (Below.refl _ _) _) fc1, cellB (bel_alloc (Below.refl _ _) _) fc2⟩, trivial, bel_alloc fb _⟩
    clear hK K
    refine wpAnyH_name ?_
    intro W14 hW14
    rw [← hW14] at hHeld
    first | (have xb14 := blk_named hW14 (n := 2) rfl) | (have xb14 := blk_named' hW14 (n := 2) rfl)
    have hw14 := fb.size
    have hz14_0 := blt fc0
    clear hW14
    try simp only [Act.put, List.setIfInBounds_toArray, List.set_cons_zero, List.set_cons_succ]
    refine sO 15 fun K hK => ?_
    obtain ⟨⟨fc0, fc1, fc2⟩, _, fb⟩ := hHeld
    obtain ⟨x0, e0, z0⟩ := xb14.get 0 (by decide)
    obtain ⟨x1, e1, z1⟩ := xb14.get 1 (by decide)
    have hlx := blt e0
    have hfb := fb.size
    have hwx14 := hw14
    go_simp
    (try go_wp2_with fail)
    refine hK.out _ _ ?_ (fun hHeld => ?_)
    ·exact ⟨⟨(cs_other (cs_other fc0 (by simp <;> omega)) (by simp <;> omega)), (cs_other (cs_other fc1 (by simp <;> omega)) (by simp <;> omega)), (cs_other (cs_other fc2 (by simp <;> omega)) (by simp <;> omega))⟩, trivial, (bel_set (bel_set fb (by first | omega | (simp <;> omega)) _) (by first | omega | (simp <;> omega)) _)⟩
    clear hK K
    refine wpAnyH_name ?_
    intro W15 hW15
    rw [← hW15] at hHeld
    have y14 := at2_set hW15 xb14
    have xb14 := xb14.set2 hW15
    clear hW15
    try simp only [Act.put, List.setIfInBounds_toArray, List.set_cons_zero, List.set_cons_succ]
    refine sY 16 7 ?_
    refine wpAnyH_done (by kernel_rfl) ?_ _
    go_wp2_with fail
    go_meet
    exact ⟨_, _, _, _, rfl, rfl, Lib.hid ⟨y14, hab, hop, hHeld.2.2⟩⟩
   ·obtain ⟨⟨fc0, fc1, fc2⟩, _, fb⟩ := hHeld
    go_simp
    (try go_wp2_with fail)
    refine hK.out _ _ ?_ (fun hHeld => ?_)
    ·exact ⟨⟨cellB (bel_alloc (Below.refl _ _) _) fc0, cellB (bel_alloc (Below.refl _ _) _) fc1, cellB (bel_alloc (Below.refl _ _) _) fc2⟩, trivial, bel_alloc fb _⟩
    clear hK K
    refine wpAnyH_name ?_
    intro W14 hW14
    rw [← hW14] at hHeld
    first | (have xb14 := blk_named hW14 (n := 2) rfl) | (have xb14 := blk_named' hW14 (n := 2) rfl)
    have hw14 := fb.size
    have hz14_0 := blt fc0
    clear hW14
    try simp only [Act.put, List.setIfInBounds_toArray, List.set_cons_zero, List.set_cons_succ]
    refine sO 10 fun K hK => ?_
    obtain ⟨⟨fc0, fc1, fc2⟩, _, fb⟩ := hHeld
    go_simp
    refine (HF.out _ fb).mono ?_
    rintro e w1 ⟨⟨a, b, i, rfl, hab, hop⟩, b1⟩
    (try go_wp2_with fail)
    refine hK.out _ _ ?_ (fun hHeld => ?_)
    ·exact ⟨⟨cellB b1 fc0, cellB b1 fc1, cellB b1 fc2⟩, trivial, bel_call fb b1⟩
    clear hK K
    refine wpAnyH_name ?_
    intro W10 hW10
    rw [← hW10] at hHeld
    have xb14 := xb14.later2 hW10 b1
    clear hW10
    try simp only [Act.put, List.setIfInBounds_toArray, List.set_cons_zero, List.set_cons_succ]
    refine sY 11 11 ?_
    refine sY 12 23 ?_
    refine sY 13 24 ?_
    refine sO 15 fun K hK => ?_
    obtain ⟨⟨fc0, fc1, fc2⟩, _, fb⟩ := hHeld
    obtain ⟨x0, e0, z0⟩ := xb14.get 0 (by decide)
    obtain ⟨x1, e1, z1⟩ := xb14.get 1 (by decide)
    have hlx := blt e0
    have hfb := fb.size
    have hwx14 := hw14
    go_simp
    (try go_wp2_with fail)
    refine hK.out _ _ ?_ (fun hHeld => ?_)
    ·exact ⟨⟨(cs_other (cs_other fc0 (by simp <;> omega)) (by simp <;> omega)), (cs_other (cs_other fc1 (by simp <;> omega)) (by simp <;> omega)), (cs_other (cs_other fc2 (by simp <;> omega)) (by simp <;> omega))⟩, trivial, (bel_set (bel_set fb (by first | omega | (simp <;> omega)) _) (by first | omega | (simp <;> omega)) _)⟩
    clear hK K
    refine wpAnyH_name ?_
    intro W15 hW15
    rw [← hW15] at hHeld
    have y14 := at2_set hW15 xb14
    have xb14 := xb14.set2 hW15
    clear hW15
    try simp only [Act.put, List.setIfInBounds_toArray, List.set_cons_zero, List.set_cons_succ]
    refine sY 16 7 ?_
    refine wpAnyH_done (by kernel_rfl) ?_ _
    go_wp2_with fail
    go_meet
    exact ⟨_, _, _, _, rfl, rfl, Lib.hid ⟨y14, hab, hop, hHeld.2.2⟩⟩
  case rest =>
   obtain ⟨p, a, b, i, rfl, rfl, HH⟩ := hcut
   obtain ⟨⟨m0, m1⟩, hab, hop, fb⟩ := HH.out
   have hlp := blt m0
   have Fb := Lib.hid fb
   clear HH fb
   cases i with
   | true =>
    go_wp2_with fail
    refine (HM.out _ Fb.out _ _).mono ?_
    rintro e w3 ⟨rfl, hs⟩
    have Hs := Lib.hid hs
    clear hs
    go_wp2_with fail
    go_ret
    exact ⟨true, rfl, HE.out _ _ _ _ Fb.out hab hop Hs.out⟩
   | false =>
    go_wp2_with fail
    go_ret
    exact ⟨false, rfl, HE0.out _ _ _ Fb.out hop⟩
end
end Go.Proofs.YtpjooboohelffaaGreatDoor
/- Top: the screen: New. -/
namespace Go.Proofs.YtpjooboohelffaaGreatDoor
open Go.RowKit Go.Shelf T05 Go.Maps
set_option linter.unusedVariables false
set_option linter.unusedSimpArgs false
set_option maxRecDepth 100000
theorem ts_new (w : World) (c : Nat) (h1 : 1 ≤ c) (h2 : c ≤ 255) : TS ((w.alloc (.map #[] 0)).alloc (.cells #[.int .i64 (c : Int), .map (some w.heap.size)] 142)) (w.heap.size + 1) w.heap.size c (fun _ => false) := by
 have hT : TObj ((w.alloc (.map #[] 0)).alloc (.cells #[.int .i64 (c : Int), .map (some w.heap.size)] 142)) (w.heap.size + 1) w.heap.size c 0 (.map []) := by
  refine ⟨?_, ?_, ?_⟩
  ·simp [go_sem]
  ·simp [go_sem]
  ·exact World.ownsMap.alloc (World.ownsMap_made w Tryz.prog 3 _) _
 refine ts_of hT (fun x => rfl) h1 h2 (fun x h => by cases h) ?_
 have := heap_alloc_new (w.alloc (.map #[] 0)) (.cells #[.int .i64 (c : Int), .map (some w.heap.size)] 142)
 simpa using this
theorem s_new (K : Nat → Prop) (w : World) (hK : KB K w) (hgk : GK K) (hgl : Glob w) (R C : Nat) (h : SzOk R C) :
  Calls Tryz.prog 22 #[pr R C] w fun e w' => ∃ L rs, e = .returned (.tuple #[.pointer (some ⟨L.sb, 0, none⟩), .int .i64 0]) ∧ L.R = R ∧ L.C = C ∧ w.heap.size ≤ L.sb ∧ Scr K L w' rs (fun _ _ => blankC) 0 0 (fun _ => false) ∧ (∀ i j, i < R → j < R → rs i = rs j → i = j) ∧ Below w.heap.size w w' := by
 have HG := Lib.hid (fun W => new_ok W R C blankC h)
 have HT := Lib.hid (fun W => T05.new_ok (C : Int) (by have := h.2.2; omega) (by have := h.2.2; omega) W)
 have HTS := Lib.hid (fun W => ts_new W C (by have := h.2.2; omega) (by have := h.2.2; omega))
 obtain ⟨b0, b1', b2', b3'⟩ := hgl.blank 0 (by decide)
 simp only [Nat.zero_mul, Nat.zero_add, blankC] at b0 b1' b2' b3'
 have hl0 := blt b0
 simp only [Cl.v, blankC] at HG
 have H := Lib.hid h
 have HK := Lib.hid hK
 have HGK := Lib.hid hgk
 have HGL := Lib.hid hgl
 clear h hK hgk hgl
 go_enter Tryz.func22, Tryz.ntmps22
 go_wp2_with fail
 refine gen_calls ?_
 intro u hu0
 have KFu : ∀ W, Below u.heap.size u W → (W.cell? ⟨w.heap.size, 0, none⟩ = some (.int .i64 (R : Int)) ∧ W.cell? ⟨w.heap.size, 1, none⟩ = some (.int .i64 (C : Int))) ∧ True ∧ Below w.heap.size w W := by
  intro W hu
  refine ⟨⟨?_, ?_⟩, trivial, ?_⟩
  ·exact (hu.cell (by rw [hu0]; simp <;> omega)).trans (by rw [hu0]; simp [go_sem])
  ·exact (hu.cell (by rw [hu0]; simp <;> omega)).trans (by rw [hu0]; simp [go_sem])
  ·exact bel_call (by rw [hu0]; (repeat first | exact Below.refl _ _ | refine bel_alloc ?_ _)) hu
 clear hu0 b0 b1' b2' b3'
 refine (HG.out _).mono ?_
 rintro e w1 ⟨g, rfl, rb, cp, rs, hG, hg1, hg2, hg3, hg4, hg5, b1⟩
 have Hg4 := Lib.hid hg4
 clear hg4
 obtain ⟨⟨k0, k1⟩, -, kb⟩ := KFu _ b1
 have hub := (KFu u (Below.refl _ _)).2.2.size
 have HG1 := Lib.hid hG
 have Kb := Lib.hid kb
 have hz1 := kb.size
 have hgl1 := hG.glt
 have hrb1 := hG.rowB.blk.lt
 clear hG kb b1 KFu
 go_wp2_with fail
 refine (HT.out _).mono ?_
 rintro e w2 ⟨rfl, hw2⟩
 have b2 : Below w1.heap.size w1 w2 := by rw [hw2]; exact bel_alloc (bel_alloc (Below.refl _ _) _) _
 have T2 : TS w2 (w1.heap.size + 1) w1.heap.size C (fun _ => false) := by rw [hw2]; exact HTS.out w1
 have hz2 : w2.heap.size = w1.heap.size + 1 + 1 := by rw [hw2]; simp
 have B2 := Lib.hid b2
 have TT := Lib.hid T2
 have Hz2 := Lib.hid hz2
 clear hw2 b2 T2 hz2 k0 k1
 go_wp2_with fail
 go_ret2
 have hz2 := Hz2.out
 have b3 : Below w2.heap.size w2 (w2.alloc (.cells #[.int .i64 0, .int .i64 0, .bool false, .pointer (some ⟨g, 0, none⟩), .pointer (some ⟨w1.heap.size + 1, 0, none⟩)] 82)) := bel_alloc (Below.refl _ _) _
 have hB := bel_call (bel_call Kb.out B2.out) b3
 have hk := HK.out
 refine ⟨⟨w2.heap.size, g, w1.heap.size + 1, w1.heap.size, rb, cp, R, C⟩, rs, by simp, rfl, rfl, by simp only []; omega, ⟨HGK.out, HGL.out.later hB, fun h => by have := hk _ h; simp only [] at this; omega, fun h => by have := hk _ h; simp only [] at this; omega, by simp only []; omega, by simp only []; omega, by simp only []; omega, by simp only []; omega, by simp only []; omega,
  by simp [go_sem], by simp [go_sem], by simp [go_sem], by simp [go_sem], by simp [go_sem], ⟨_, heap_alloc_new w2 _, rfl⟩, ⟨by simp, by simp only []; have := H.out.1; omega, by simp, by simp only []; have := H.out.2.2.1; omega⟩, ?_, TT.out.later b3⟩, Hg4.out, hB⟩
 refine ((HG1.out.later (bel_call B2.out b3))).under (.inr (.inr (.inl rfl))) (fun h => ?_) (fun i hi h => ?_)
 ·rcases h with h | h | h | h | h
  ·have := hk _ h; omega
  ·simp only [] at h; omega
  ·simp only [] at h; omega
  ·simp only [] at h; omega
  ·simp only [] at h; omega
 ·have h1 := hg3 i hi
  have h2 := (HG1.out.celB i hi).blk.lt
  rcases h with h | h | h | h | h
  ·have := hk _ h; omega
  ·simp only [] at h; omega
  ·simp only [] at h; omega
  ·simp only [] at h; omega
  ·simp only [] at h; omega
end Go.Proofs.YtpjooboohelffaaGreatDoor
/- Top: the queue: New, put. -/
namespace Go.Proofs.YtpjooboohelffaaGreatDoor
open Go.RowKit Go.Shelf
set_option linter.unusedVariables false
set_option linter.unusedSimpArgs false
set_option maxRecDepth 100000
/-- A queue behind a pointer: qb its block, lb the bytes' block; L what waits. -/
structure QIs (W : World) (qb lb f : Nat) (L : List Int) (ov : Bool) : Prop where
 hf : f < 4096
 hn : L.length ≤ 4096
 q0 : W.cell? ⟨qb, 0, none⟩ = some (.slice (some ⟨lb, 0, none⟩) 4096 4096)
 q1 : W.cell? ⟨qb, 1, none⟩ = some (.int .i64 (f : Int))
 q2 : W.cell? ⟨qb, 2, none⟩ = some (.int .i64 (L.length : Int))
 q3 : W.cell? ⟨qb, 3, none⟩ = some (.bool ov)
 qB : BlkT W qb 4 88
 lB : BlkT W lb 4096 5
 cs : ∀ k (h : k < L.length), W.cell? ⟨lb, (f + k) % 4096, none⟩ = some (.int .u8 L[k])
section
variable {W W' : World} {qb lb f : Nat} {L : List Int} {ov : Bool}
theorem QIs.ne (h : QIs W qb lb f L ov) : qb ≠ lb := h.qB.ne h.lB (by decide)
theorem QIs.to (h : QIs W qb lb f L ov) (h1 : W'.heap[qb]? = W.heap[qb]?) (h2 : W'.heap[lb]? = W.heap[lb]?) : QIs W' qb lb f L ov :=
 have c1 := fun o => World.cell?_of_block (a := ⟨qb, o, none⟩) h1
 ⟨h.hf, h.hn, (c1 0).trans h.q0, (c1 1).trans h.q1, (c1 2).trans h.q2, (c1 3).trans h.q3, h.qB.to h1, h.lB.to h2, fun k hk => (World.cell?_of_block (a := ⟨lb, _, none⟩) h2).trans (h.cs k hk)⟩
theorem QIs.later (h : QIs W qb lb f L ov) (hb : Below W.heap.size W W') : QIs W' qb lb f L ov := h.to (hb.block _ h.qB.blk.lt) (hb.block _ h.lB.blk.lt)
/-- A byte behind the others. -/
theorem QIs.push (h : QIs W qb lb f L ov) (hn : L.length < 4096) (x : Int) :
  QIs ((W.setCell ⟨lb, (f + L.length) % 4096, none⟩ (.int .u8 x)).setCell ⟨qb, 2, none⟩ (.int .i64 ((L.length : Int) + 1))) qb lb f (L ++ [x]) ov ∧
   Kept (fun k => k ≠ qb ∧ k ≠ lb) W ((W.setCell ⟨lb, (f + L.length) % 4096, none⟩ (.int .u8 x)).setCell ⟨qb, 2, none⟩ (.int .i64 ((L.length : Int) + 1))) := by
 have hne := h.ne
 have hne2 : lb ≠ qb := fun e => hne e.symm
 have hlt : (f + L.length) % 4096 < 4096 := Nat.mod_lt _ (by decide)
 refine ⟨⟨h.hf, by simp; omega, ?_, ?_, ?_, ?_, (h.qB.set _ _).set _ _, (h.lB.set _ _).set _ _, fun k hk => ?_⟩, ((Kept.refl _ _).set (fun hh => hh.2 rfl) _).set (fun hh => hh.1 rfl) _⟩
 ·rw [World.cell?_setCell_other _ _ _ _ (by simp)]; exact cs_other h.q0 hne2
 ·rw [World.cell?_setCell_other _ _ _ _ (by simp)]; exact cs_other h.q1 hne2
 ·have := World.cell?_setCell_same' (W.setCell ⟨lb, (f + L.length) % 4096, none⟩ (.int .u8 x)) ⟨qb, 2, none⟩ (.int .i64 ((L.length : Int) + 1)) (by rw [cs_other h.q2 hne2]; rfl)
  rw [this]; simp
 ·rw [World.cell?_setCell_other _ _ _ _ (by simp)]; exact cs_other h.q3 hne2
 ·refine cs_other ?_ hne
  by_cases e : k = L.length
  ·subst e
   obtain ⟨_, hc, _⟩ := h.lB.blk.get _ hlt
   rw [World.cell?_setCell_same' _ _ _ (by rw [hc]; rfl)]
   simp
  ·have hk2 : k < L.length := by simp at hk; omega
   have hmod : (f + k) % 4096 ≠ (f + L.length) % 4096 := by have := h.hf; omega
   rw [World.cell?_setCell_other _ _ _ _ (by simp <;> omega), h.cs k hk2]
   simp [List.getElem_append_left hk2]
/-- The first byte goes. -/
theorem QIs.pop {x : Int} (h : QIs W qb lb f (x :: L) ov) : QIs ((W.setCell ⟨qb, 1, none⟩ (.int .i64 (((f + 1) % 4096 : Nat) : Int))).setCell ⟨qb, 2, none⟩ (.int .i64 (L.length : Int))) qb lb ((f + 1) % 4096) L ov := by
 have hne := h.ne
 refine ⟨Nat.mod_lt _ (by decide), by have := h.hn; simp at this; omega, ?_, ?_, ?_, ?_, (h.qB.set _ _).set _ _, (h.lB.set _ _).set _ _, fun k hk => ?_⟩
 ·rw [World.cell?_setCell_other _ _ _ _ (by simp), World.cell?_setCell_other _ _ _ _ (by simp)]; exact h.q0
 ·rw [World.cell?_setCell_other _ _ _ _ (by simp)]
  exact World.cell?_setCell_same' _ _ _ (by rw [h.q1]; rfl)
 ·exact World.cell?_setCell_same' _ _ _ (by rw [World.cell?_setCell_other _ _ _ _ (by simp), h.q2]; rfl)
 ·rw [World.cell?_setCell_other _ _ _ _ (by simp), World.cell?_setCell_other _ _ _ _ (by simp)]; exact h.q3
 ·refine cs_other (cs_other ?_ hne) hne
  have := h.cs (k + 1) (by simp; omega)
  rw [show ((f + 1) % 4096 + k) % 4096 = (f + (k + 1)) % 4096 by omega, this]
  simp
end
set_option maxHeartbeats 1000000 in
theorem ring_put (w : World) (qb lb f : Nat) (L : List Int) (ov : Bool) (h : QIs w qb lb f L ov) (hn : L.length < 4096) (x : Int) :
  Calls Tryz.prog 105 #[.pointer (some ⟨qb, 0, none⟩), .int .u8 x] w fun e w' => e = .returned (.tuple #[]) ∧ QIs w' qb lb f (L ++ [x]) ov ∧ Kept (fun k => k ≠ qb ∧ k ≠ lb) w w' := by
 have HP := Lib.hid (h.push hn x)
 have k0 := h.q0
 have k1 := h.q1
 have k2 := h.q2
 have hf := h.hf
 have hlq := blt k0
 have hll := h.lB.blk.lt
 have hlt : (f + L.length) % 4096 < 4096 := Nat.mod_lt _ (by decide)
 obtain ⟨x0, e0, z0⟩ := h.lB.blk.get _ hlt
 obtain ⟨_, -, z2⟩ := h.qB.blk.get 2 (by decide)
 have hne := h.ne
 have hne2 : lb ≠ qb := fun e => hne e.symm
 have m1 : IntKind.i64.wrap ((f : Int) + (L.length : Int)) = ((f + L.length : Nat) : Int) := by rw [IntWalk.i64_in _ (by omega)]; push_cast; rfl
 have m2 : ((f + L.length : Nat) : Int).tmod 4096 = (((f + L.length) % 4096 : Nat) : Int) := by rw [Int.tmod_eq_emod_of_nonneg (by omega)]; omega
 have m3 : IntKind.i64.wrap ((L.length : Int) + 1) = (L.length : Int) + 1 := IntWalk.i64_in _ (by omega)
 clear h hn
 generalize hnn : L.length = n at *
 clear hnn
 go_enter Tryz.func105, Tryz.ntmps105
 go_wp2_with fail
 go_region
 all_goals go_wp2_with fail
 all_goals go_end0
 all_goals exact ⟨rfl, HP.out.1.to rfl rfl, HP.out.2.drew⟩
theorem infoQ : (Tryz.prog.info? 5).map (fun i => (i.zero, i.size, i.bytes)) = some (some (.int .u8 0), 1, 1) := by kernel_rfl
def newQ : Obj := .cells (madeCells #[.int .u8 0] 4096) 5
theorem make_q (w : World) : (Instr.makeSlice 84 (.int .i64 4096) (.int .i64 4096)).run Tryz.prog w = .ok (.slice (some ⟨w.heap.size, 0, none⟩) 4096 4096) (w.alloc newQ) := by
 obtain ⟨i0, hi, hz0, hz1, hz2⟩ := info_parts infoQ
 have := run_make (P := Tryz.prog) w 84 5 i0 _ Tryz.underlying84 hi hz0 .i64 .i64 (4096 : Int) (4096 : Int) (by omega) (by omega) (by rw [hz2]; omega) (by omega)
 rw [hz1] at this
 simpa [newQ, Value.cells] using this
theorem q_new (w : World) : Calls Tryz.prog 23 #[.int .i64 4096] w fun e w' => ∃ qb lb, e = .returned (.tuple #[.pointer (some ⟨qb, 0, none⟩), .int .i64 0]) ∧ w.heap.size ≤ qb ∧ w.heap.size ≤ lb ∧ QIs w' qb lb 0 [] false ∧ Below w.heap.size w w' := by
 have hm := make_q
 go_enter Tryz.func23, Tryz.ntmps23
 go_wp2_with fail
 go_ret2
 have hq : BlkT (w.alloc newQ) w.heap.size 4096 5 := ⟨_, heap_alloc_new w _, size_madeCells _ _⟩
 have hB : BlkT ((w.alloc newQ).alloc (.cells #[.slice (some ⟨w.heap.size, 0, none⟩) 4096 4096, .int .i64 0, .int .i64 0, .bool false] 88)) (w.heap.size + 1) 4 88 := by
  have := heap_alloc_new (w.alloc newQ) (.cells #[.slice (some ⟨w.heap.size, 0, none⟩) 4096 4096, .int .i64 0, .int .i64 0, .bool false] 88)
  exact ⟨#[.slice (some ⟨w.heap.size, 0, none⟩) 4096 4096, .int .i64 0, .int .i64 0, .bool false], by simpa using this, rfl⟩
 exact ⟨w.heap.size + 1, w.heap.size, by simp, by omega, Nat.le_refl _, ⟨by decide, by simp, by simp [go_sem], by simp [go_sem], by simp [go_sem], by simp [go_sem], hB, hq.later (bel_alloc (Below.refl _ _) _), fun k hk => absurd hk (by simp)⟩, bel_alloc (bel_alloc (Below.refl _ _) _) _⟩
end Go.Proofs.YtpjooboohelffaaGreatDoor
/- Top: the queue: Push. -/
namespace Go.Proofs.YtpjooboohelffaaGreatDoor
open Go.RowKit Go.Shelf
set_option linter.unusedVariables false
set_option linter.unusedSimpArgs false
set_option maxRecDepth 100000
def bytesI (s : ByteArray) : List Int := s.data.toList.map fun b => (b.toNat : Int)
theorem bytesI_len (s : ByteArray) : (bytesI s).length = s.size := by unfold bytesI; rw [List.length_map]; rfl
theorem bytesI_take {s : ByteArray} {j : Nat} (h : j < s.size) : (bytesI s).take (j + 1) = (bytesI s).take j ++ [((s[j]'h).toNat : Int)] := by
 have hl : j < (bytesI s).length := by rw [bytesI_len]; exact h
 rw [List.take_succ_eq_append_getElem hl]
 congr 1
 simp [bytesI]
 rfl
/-- What Push answers, and leaves. -/
def PushP (e : Ending) (w' : World) (qb lb f : Nat) (L : List Int) (ov : Bool) (s : ByteArray) : Prop :=
 (L.length + s.size ≤ 4096 → e = .returned (.bool true) ∧ QIs w' qb lb f (L ++ bytesI s) ov) ∧ (¬ L.length + s.size ≤ 4096 → e = .returned (.bool false) ∧ QIs w' qb lb f L true)
theorem QIs.over {W : World} {qb lb f : Nat} {L : List Int} {ov : Bool} (h : QIs W qb lb f L ov) (v : Bool) : QIs (W.setCell ⟨qb, 3, none⟩ (.bool v)) qb lb f L v ∧ Kept (fun k => k ≠ qb ∧ k ≠ lb) W (W.setCell ⟨qb, 3, none⟩ (.bool v)) := by
 have hne := h.ne
 refine ⟨⟨h.hf, h.hn, ?_, ?_, ?_, ?_, h.qB.set _ _, h.lB.set _ _, fun k hk => cs_other (h.cs k hk) hne⟩, (Kept.refl _ _).set (fun hh => hh.1 rfl) _⟩
 ·rw [World.cell?_setCell_other _ _ _ _ (by simp)]; exact h.q0
 ·rw [World.cell?_setCell_other _ _ _ _ (by simp)]; exact h.q1
 ·rw [World.cell?_setCell_other _ _ _ _ (by simp)]; exact h.q2
 ·exact World.cell?_setCell_same' _ _ _ (by rw [h.q3]; rfl)
set_option maxHeartbeats 2000000 in
theorem q_push (w : World) (qb lb f : Nat) (L : List Int) (ov : Bool) (h : QIs w qb lb f L ov) (b : Nat) (s : ByteArray) (hs : w.cell? ⟨b, 0, none⟩ = some (.string s)) (hb1 : b ≠ qb) (hb2 : b ≠ lb) (hsz : s.size ≤ 100000) :
  Calls Tryz.prog 74 #[.pointer (some ⟨qb, 0, none⟩), .slice (some ⟨b, 0, none⟩) 1 1] w fun e w' => PushP e w' qb lb f L ov s ∧ Kept (fun k => k ≠ qb ∧ k ≠ lb) w w' := by
 have k0 := h.q0
 have k2 := h.q2
 have hn := h.hn
 obtain ⟨_, k3, z3⟩ := h.qB.blk.get 3 (by decide)
 have hlq := blt k0
 have H := Lib.hid h
 have Hs := Lib.hid hs
 have hqq : qb ≠ b := fun e => hb1 e.symm
 clear h
 go_enter Tryz.func74, Tryz.ntmps74
 go_wp2_with fail
 go_loopw [5, 20] (fun n i wr => ∃ k : Nat, k ≤ 1 ∧ i = .int .i64 (k : Int) ∧ n = .int .i64 ((L.length : Int) + k * s.size) ∧ wr = w) (fun _ i _ => 1 - (intOf i).toNat)
 case atStart => exact ⟨0, by decide, rfl, by simp, rfl⟩
 case round =>
  obtain ⟨k, hk, rfl, rfl, rfl⟩ := hrel
  obtain rfl | rfl : k = 0 ∨ k = 1 := by omega
  ·have m1 : IntKind.i64.wrap ((L.length : Int) + (s.size : Int)) = (L.length : Int) + (s.size : Int) := IntWalk.i64_in _ (by omega)
   go_wp2_with fail
   exact ⟨⟨1, by decide, rfl, by simp, trivial⟩, by simp [intOf]⟩
  ·have e1 : ((1 : Nat) : Int) * (s.size : Int) = (s.size : Int) := by omega
   rw [e1]
   have WR := Lib.hid (Kept.refl (fun k => k ≠ qb ∧ k ≠ lb) wr)
   by_cases hfit : L.length + s.size ≤ 4096
   ·have g1 : ¬ (4096 : Int) < (L.length : Int) + (s.size : Int) := by omega
    have Hfit := Lib.hid hfit
    clear hfit k3 z3 k2
    go_wp2_with fail
    go_loopw [42] (fun i wx => ∃ k : Nat, k ≤ 1 ∧ i = .int .i64 (k : Int) ∧ Hid (QIs wx qb lb f (L ++ (bytesI s).take (k * s.size)) ov ∧ Kept (fun k => k ≠ qb ∧ k ≠ lb) wr wx)) (fun i _ => 1 - (intOf i).toNat)
    case atStart => exact ⟨0, by decide, rfl, Lib.hid ⟨by simpa using H.out, Kept.refl _ _⟩⟩
    case round =>
     obtain ⟨k, hk, rfl, HQ⟩ := hrel
     obtain rfl | rfl : k = 0 ∨ k = 1 := by omega
     ·have hs' := HQ.out.2.cell ⟨hb1, hb2⟩ Hs.out
      have hlb := blt hs'
      clear hs k0
      rw [show ((0 : Nat) : Int) = 0 from rfl]
      go_wp2_with fail
      go_loopw [48] (fun j wy => ∃ m : Nat, m ≤ s.size ∧ j = .int .i64 (m : Int) ∧ Hid (QIs wy qb lb f (L ++ (bytesI s).take m) ov ∧ Kept (fun k => k ≠ qb ∧ k ≠ lb) wr wy)) (fun j _ => s.size - (intOf j).toNat)
      case atStart => exact ⟨0, Nat.zero_le _, rfl, Lib.hid ⟨by simpa using HQ.out.1, Kept.refl _ _⟩⟩
      case round =>
       obtain ⟨m, hm, rfl, HM⟩ := hrel
       by_cases hlt : m < s.size
       ·have q1 : (m : Int) < (s.size : Int) := by omega
        have hlen : (L ++ (bytesI s).take m).length < 4096 := by have := Hfit.out; simp [bytesI_len]; omega
        have HPut := Lib.hid (fun x => ring_put _ qb lb f _ ov (HM.out.1.to (W' := World.drew _) rfl rfl) hlen x)
        go_wp2_with fail
        refine wp_region_held_drew (S := fun _ => True) (by kernel_rfl) (trivial) (fun hHeld => ?_)
        refine sY 0 51 ?_
        refine sY 1 52 ?_
        refine sY 2 53 ?_
        refine sY 3 54 ?_
        refine sY 4 55 ?_
        refine sY 5 56 ?_
        refine sO 6 fun K hK => ?_
        go_simp
        refine (HPut.out _).mono ?_
        rintro e w5 ⟨rfl, hq5, hk5⟩
        (try go_wp2_with fail)
        refine hK.out _ _ ?_ (fun hHeld => ?_)
        ·exact trivial
        clear hK K
        try simp only [Act.put, List.setIfInBounds_toArray, List.set_cons_zero, List.set_cons_succ]
        refine wpAnyH_done (by kernel_rfl) ?_ _
        have HN := Lib.hid (show QIs w5 qb lb f (L ++ (bytesI s).take (m + 1)) ov from by rw [bytesI_take hlt, ← List.append_assoc]; exact hq5)
        have HK5 := Lib.hid (HM.out.2.trans ((show Kept (fun k => k ≠ qb ∧ k ≠ lb) _ _ from (Kept.refl _ _).drew).trans hk5))
        clear hq5 hk5
        go_wp2_with fail
        go_roundw
        case rel => exact ⟨m + 1, by omega, by go_num, Lib.hid ⟨HN.out, HK5.out⟩⟩
        case measure => simp [intOf]; omega
       ·obtain rfl : m = s.size := by omega
        go_wp2_with fail
        exact ⟨⟨1, by decide, rfl, Lib.hid ⟨by simpa using HM.out.1, HQ.out.2.trans HM.out.2⟩⟩, by simp [intOf]⟩
     ·clear hs k0
      go_wp2_with fail
      go_ret
      exact ⟨⟨fun _ => ⟨rfl, by have := HQ.out.1; rw [Nat.one_mul, List.take_of_length_le (by rw [bytesI_len]; exact Nat.le_refl _)] at this; exact this⟩, fun h => absurd Hfit.out h⟩, HQ.out.2⟩
   ·have g1 : (4096 : Int) < (L.length : Int) + (s.size : Int) := by omega
    have Hfit := Lib.hid hfit
    clear hfit
    go_wp2_with fail
    go_ret
    exact ⟨⟨fun h => absurd h Hfit.out, fun _ => ⟨rfl, (H.out.over true).1⟩⟩, (H.out.over true).2⟩
end Go.Proofs.YtpjooboohelffaaGreatDoor
/- A range over a function whose iterator turns what the caller looks at: as IT's law, with a second invariant where a thing is handed over. -/
namespace Go.Proofs.YtpjooboohelffaaGreatDoor
open Go.RowKit Go.Shelf
set_option linter.unusedVariables false
section
variable {α : Type} {P : Program} {n m : Nat}

/-- .. for an iterator that turns what the caller looks at: Iy holds where it hands x over. -/
def IteratesY (P : Program) (n m : Nat) (gf : Nat) (lb : Array Value) (encs : α → Array Value) (S Sp : List α → Prop) (V : List α → α → Prop) (N B : Nat) (I : List α → World → Prop) (Iy : List α → α → World → Prop) (Kp : World → World → Prop) (W0 : World) : Prop :=
 ∀ (l : Nat) (J : List α → World → Prop) (Jy : List α → α → World → Prop) (Jx : List α → World → Prop), J [] W0 → (∀ s X X', J s X → I s X' → KeepsFrom B X X' → J s X') → (∀ s x X X', J s X → Iy s x X' → KeepsFrom B X X' → Jy s x X') → (∀ s X, J s X → I s X) →
  (∀ pre x X, Jy pre x X → pre.length < N → V pre x → YieldAt Fence.wide m P l (encs x) X fun e X' =>
   (e = .returned (.bool true) ∧ J (pre ++ [x]) X' ∧ Kp X X') ∨ (e = .returned (.bool false) ∧ Jx (pre ++ [x]) X')) →
  CallsIn Fence.wide n P gf (#[.func (.yield l) #[] #[]] ++ lb) W0 fun e W' => (∃ v, e = .returned v) ∧ ((∃ xs, S xs ∧ J xs W') ∨ (∃ pre, Sp pre ∧ Jx pre W'))

theorem range_lawY {g : Operand} {ps : Array Tmp} {assign body : Code} {Q : Exit → Act → World → Prop} {a : Act} {w : World} {gf : Nat} {lb : Array Value}
  (hg : a.eval g = .func (.func gf) #[] lb) (eg : ∀ args w, (callFunc gf args).run P w = .ok (.enter gf args) w) {encs : α → Array Value} (hps : ∀ x, (encs x).size = ps.size)
  {S Sp : List α → Prop} {V : List α → α → Prop} {N : Nat} {Kp : World → World → Prop} (hKt : ∀ {X Y Z : World}, Kp X Y → Kp Y Z → Kp X Z)
  (hKb : ∀ (W : World) (l : Nat) (o o' : Obj), w.heap.size ≤ l → W.heap[l]? = some o → o.isCells = false → o.isWalk = false → Kp W (W.putObj l o'))
  (I : List α → World → Prop) (Ix : Code → List α → World → Prop) (Iy : List α → α → World → Prop) (hI : OwnFrom w.heap.size I) (hIy : ∀ x, OwnFrom w.heap.size (fun pre W => Iy pre x W)) (hIx : ∀ c, OwnFrom w.heap.size (Ix c)) (h0 : I [] w)
  (Ax : α → Act → World → Prop) (hAx : ∀ x a', OwnFrom w.heap.size (fun (_ : Unit) W => Ax x a' W))
  (hit : ∀ W0, (∃ o o', o.isCells = false ∧ o'.isCells = false ∧ W0 = (w.alloc o).alloc o') → I [] W0 → IteratesY P n m gf lb encs S Sp V N w.heap.size I Iy Kp W0)
  (hassign : ∀ (l : Nat) (pre : List α) (x : α) (W : World) (K : Act → World → Prop), Iy pre x W → (∀ a' W', KeepsFrom w.heap.size W W' → Kp W W' → Iy pre x W' → Ax x a' W' → K a' W') →
   assign.wpIn (Fence.wide.inRound l) m P (Exit.then K (fun _ _ _ => False)) { tmps := (ps.zip (encs x)).foldl (fun t (p, v) => t.setIfInBounds p v) a.tmps, defers := [] } W)
  (hbody : ∀ (l : Nat) (pre : List α) (x : α) (a' : Act) (W : World), Iy pre x W → Ax x a' W → pre.length < N → V pre x → body.wpIn (Fence.wide.inRound l) m P (ownPostG w.heap.size Kp I Ix (pre ++ [x]) W) a' W)
  (hdone : ∀ (D : Nat) (xs : List α) (W : World), w.heap.size ≤ D → S xs → I xs W → W.heap[D]? = some (.deferred (some [])) → Q .normal { a with defers := { target := .collected D, args := #[] } :: a.defers } W)
  (hstop : ∀ (D : Nat) (c : Code) (pre : List α) (W : World), w.heap.size ≤ D → Sp pre → Ix c pre W → W.heap[D]? = some (.deferred (some [])) → c.wpIn Fence.wide (n + 1) P Q { a with defers := { target := .collected D, args := #[] } :: a.defers } W) :
  (Code.rangeFunc g ps assign body).wpIn Fence.wide (n + 1) P Q a w := by
 refine wpIn_rangeFunc fun fn hfn => ?_
 have hD : w.heap.size ≠ w.heap.size + 1 := by omega
 let rc : LoopState → Option Code → Loop := fun st pe => { state := st, pending := pe, fn, tmps := a.tmps, params := ps, assign, body, defers := w.heap.size }
 have hW : ∃ o o' : Obj, o.isCells = false ∧ o'.isCells = false ∧ (w.alloc (.deferred (some []))).alloc (.loop (rc .ready none)) = (w.alloc o).alloc o' := ⟨_, _, rfl, rfl, rfl⟩
 have hbook : Book ((w.alloc (.deferred (some []))).alloc (.loop (rc .ready none))) w.heap.size (w.heap.size + 1) (rc .ready none) := by
  constructor
  ·have := World.alloc_heap_new (w.alloc (.deferred (some []))) (.loop (rc .ready none))
   rwa [World.size_alloc] at this
  ·exact (Below.heap_alloc _ _ _ (by simp)).trans (World.alloc_heap_new w _)
 have hI1 : I [] ((w.alloc (.deferred (some []))).alloc (.loop (rc .ready none))) := hI.alloc _ (hI.alloc _ h0)
 obtain ⟨W1, hW1⟩ : ∃ W1, (w.alloc (.deferred (some []))).alloc (.loop (rc .ready none)) = W1 := ⟨_, rfl⟩
 rw [hW1] at hbook hI1 hW
 refine ⟨w.heap.size + 1, [{ target := .collected w.heap.size, args := #[] }], W1, { target := .fn (.func gf) lb, args := #[.func (.yield (w.heap.size + 1)) #[] #[]] }, W1, gf,
  #[.func (.yield (w.heap.size + 1)) #[] #[]] ++ lb, W1, by rw [← hW1]; exact run_enterLoop_outer _ _ _ _ _, ?_, fun _ _ => trivial, ?_, fun _ => Nat.le_add_left 1 n, ?_⟩
 ·simp only [resolve, hg]
  simp [go_sem]
 ·simp [invoke, go_sem, eg]
 refine (hit W1 hW hI1 (w.heap.size + 1) (fun pre X => I pre X ∧ Book X w.heap.size (w.heap.size + 1) (rc .ready none))
  (fun pre x X => Iy pre x X ∧ Book X w.heap.size (w.heap.size + 1) (rc .ready none))
  (fun pre X => ∃ c, Ix c pre X ∧ Book X w.heap.size (w.heap.size + 1) (rc .done (some c))) ⟨hI1, hbook⟩
  (fun s X X' hj hi hk => ⟨hi, hj.2.kept hk (Nat.le_refl _) (by omega)⟩)
  (fun s x X X' hj hi hk => ⟨hi, hj.2.kept hk (Nat.le_refl _) (by omega)⟩) (fun s X hj => hj.1) ?_).mono ?_
 ·rintro pre x X ⟨hi, hb⟩ hlen hv
  refine ⟨fn, _, assign, body, run_yield hb.1 (hps x), roundIn_of_wpIn hfn (hassign _ pre x X _ hi ?_)⟩
  intro a' Xa hka hpa hia hax
  have hba := hb.kept hka (Nat.le_refl _) (by omega)
  refine ⟨_, run_beginRound hba.1 rfl, ?_⟩
  have hbb := hba.turn hD { rc .ready none with state := .busy }
  have hpb := hKb Xa _ _ (.loop { rc .ready none with state := .busy }) (by omega) hba.1 rfl rfl
  refine wpIn_mono (hbody _ pre x a' _ (ownsB (s := pre) (hIy x) hba (by omega) _ hia) (ownsB (s := ()) (hAx x a') hba (by omega) _ hax) hlen hv) ?_
  have stop : ∀ (c : Code) (Y : World), KeepsFrom w.heap.size (Xa.putObj (w.heap.size + 1) (.loop { rc .ready none with state := .busy })) Y → Ix c (pre ++ [x]) Y →
    ∃ v Y', (Instr.endRound (w.heap.size + 1) (some c)).run P Y = .ok v Y' ∧ ((Ending.returned v = .returned (.bool true) ∧ (I (pre ++ [x]) Y' ∧ Book Y' w.heap.size (w.heap.size + 1) (rc .ready none)) ∧ Kp X Y') ∨
     (Ending.returned v = .returned (.bool false) ∧ ∃ c, Ix c (pre ++ [x]) Y' ∧ Book Y' w.heap.size (w.heap.size + 1) (rc .done (some c)))) := fun c Y hk hx => by
   have hby := hbb.kept hk (Nat.le_refl _) (by omega)
   exact ⟨_, _, run_endRound (some c) hby.1, .inr ⟨rfl, c, ownsB (hIx c) hby (by omega) _ hx, hby.turn hD _⟩⟩
  rintro e b Y hp
  cases e with
  | normal =>
   obtain ⟨hk, hkp, hi3⟩ := hp
   have hby := hbb.kept hk (Nat.le_refl _) (by omega)
   exact ⟨_, _, run_endRound none hby.1, .inl ⟨rfl, ⟨ownsB hI hby (by omega) _ hi3, hby.turn hD _⟩, hKt hpa (hKt (hKt hpb hkp) (hKb Y _ _ _ (by omega) hby.1 rfl rfl))⟩⟩
  | ret => exact stop .ret Y hp.1 hp.2
  | exit id => exact stop (.exit id) Y hp.1 hp.2
  | goto t => exact stop (.goto t) Y hp.1 hp.2
  | panic ch => exact hp.elim
  | outgrown => exact hp.elim
 ·rintro e Y ⟨⟨v, rfl⟩, ⟨xs, hS, hi, hb⟩ | ⟨pre, hSp, c, hx, hb⟩⟩
  ·exact ⟨none, _, run_endLoop hb.1 (by simp [rc]), hdone _ xs _ (Nat.le_refl _) hS (ownsB hI hb (by omega) _ hi) ((World.putObj_heap_other hD).trans hb.2)⟩
  ·exact ⟨some c, _, run_endLoop hb.1 (by simp [rc]), hstop _ c pre _ (Nat.le_refl _) hSp (ownsB (hIx c) hb (by omega) _ hx) ((World.putObj_heap_other hD).trans hb.2)⟩
end
end Go.Proofs.YtpjooboohelffaaGreatDoor
/- Top: the queue: taken, and its iterator. -/
namespace Go.Proofs.YtpjooboohelffaaGreatDoor
open Go.RowKit Go.Shelf
set_option linter.unusedVariables false
set_option linter.unusedSimpArgs false
set_option maxRecDepth 100000
attribute [local go_sem] Oper.semAt_some
def encY (x : Int) : Array Value := #[.int .u8 x]
theorem taken_any (w : World) (qb : Nat) (n : Int) : Calls Tryz.prog 62 #[.pointer (some ⟨qb, 0, none⟩), .int .i64 n] w fun e w' =>
  e = .returned (.func (.func 98) #[] #[.pointer (some ⟨w.heap.size + 1, 0, none⟩), .pointer (some ⟨w.heap.size, 0, none⟩)]) ∧ w' = (w.alloc (.cells #[.pointer (some ⟨qb, 0, none⟩)] 171)).alloc (.cells #[.int .i64 n] 3) := by
 go_enter Tryz.func62, Tryz.ntmps62
 go_wp2_with fail
 go_ret
 exact ⟨rfl, rfl⟩
/-- The queue, k bytes taken. -/
def QAt (qb lb f : Nat) (L : List Int) (ov : Bool) (k : Nat) (W : World) : Prop := QIs W qb lb ((f + k) % 4096) (L.drop k) ov
theorem QAt.to {qb lb f : Nat} {L : List Int} {ov : Bool} {k : Nat} {W W' : World} (h : QAt qb lb f L ov k W) (h1 : W'.heap[qb]? = W.heap[qb]?) (h2 : W'.heap[lb]? = W.heap[lb]?) : QAt qb lb f L ov k W' := QIs.to h h1 h2
theorem QAt.next {qb lb f : Nat} {L : List Int} {ov : Bool} {k : Nat} {W : World} (h : QAt qb lb f L ov k W) (hk : k < L.length) :
  QAt qb lb f L ov (k + 1) ((W.setCell ⟨qb, 1, none⟩ (.int .i64 ((((f + k) % 4096 + 1) % 4096 : Nat) : Int))).setCell ⟨qb, 2, none⟩ (.int .i64 ((L.length : Int) - k - 1))) := by
 unfold QAt at *
 rw [List.drop_eq_getElem_cons hk] at h
 have h2 := h.pop
 rw [show ((f + k) % 4096 + 1) % 4096 = (f + (k + 1)) % 4096 by omega] at h2 ⊢
 rw [show (((L.drop (k + 1)).length : Nat) : Int) = (L.length : Int) - k - 1 by simp; omega] at h2
 exact h2
set_option maxHeartbeats 4000000 in
theorem taken_iter (d : Nat) (hd : 1 ≤ d) (qb lb f bn br B : Nat) (hB : qb < B) (L : List Int) (ov : Bool) (I0 : List Int → World → Prop) (Kp : World → World → Prop) (W0 : World)
  (hI0 : ∀ pre X X', I0 pre X → Kept (fun k => k < X.heap.size ∧ k ≠ qb) X X' → I0 pre X')
  (hI0c : ∀ pre X, I0 pre X → X.cell? ⟨bn, 0, none⟩ = some (.int .i64 (L.length : Int)) ∧ X.cell? ⟨br, 0, none⟩ = some (.pointer (some ⟨qb, 0, none⟩)))
  (hbn : bn ≠ qb) (hbr : br ≠ qb) (hL4 : L.length ≤ 4096) :
  IteratesY Tryz.prog d (d - 1) 98 #[.pointer (some ⟨bn, 0, none⟩), .pointer (some ⟨br, 0, none⟩)] encY (fun ys => ys = L) (fun _ => True) (fun pre y => ∃ t, L = pre ++ y :: t) L.length B (fun pre W => I0 pre W ∧ QAt qb lb f L ov pre.length W) (fun pre x W => I0 pre W ∧ QAt qb lb f L ov (pre.length + 1) W) Kp W0 := by
 intro l J Jy Jx hJ0 _ hJk hJI hY
 have HJk := Lib.hid hJk
 have HJI := Lib.hid hJI
 have HI0 := Lib.hid hI0
 have HY := Lib.hid hY
 obtain ⟨c0, c1⟩ := hI0c _ _ (hJI _ _ hJ0).1
 have HI0c := Lib.hid hI0c
 have HJ0 := Lib.hid hJ0
 clear hJk hJI hY hI0 hI0c hJ0
 refine callsIn_of_wp Tryz.func98 rfl trivial ?_ rfl
 simp only [Tryz.ntmps98, List.size_toArray, List.length_cons, List.length_nil, Nat.reduceAdd, Nat.reduceSub, Array.replicate_succ, Array.replicate_zero, List.push_toArray, List.append_toArray, List.nil_append, List.cons_append]
 gi_wp2_with fail
 clear c0 c1
 gi_loopw [6] (fun i wr => ∃ k : Nat, k ≤ L.length ∧ i = .int .i64 (k : Int) ∧ Hid (J (L.take k) wr)) (fun i _ => L.length - (intOf i).toNat)
 case atStart => exact ⟨0, Nat.zero_le _, rfl, HJ0⟩
 case round =>
  obtain ⟨k, hk, rfl, HJ⟩ := hrel
  have hlen : (L.take k).length = k := by simp; omega
  have HQ := Lib.hid (show QAt qb lb f L ov k wr from by have := (HJI.out _ _ HJ.out).2; rwa [hlen] at this)
  by_cases hlt : k < L.length
  ·have q1 : (k : Int) < (L.length : Int) := by omega
   obtain ⟨c0, c1⟩ := HI0c.out _ _ (HJI.out _ _ HJ.out).1
   have hq := HQ.out
   unfold QAt at hq
   rw [List.drop_eq_getElem_cons hlt] at hq
   obtain ⟨x, hx⟩ : ∃ x, x = L[k] := ⟨_, rfl⟩
   rw [← hx] at hq
   have a0 := hq.q0
   have a1 := hq.q1
   have a2 := hq.q2
   have hF := hq.hf
   have a4 := hq.cs 0 (by simp)
   simp only [Nat.add_zero, List.getElem_cons_zero, Nat.mod_eq_of_lt hF] at a4
   obtain ⟨_, -, z1⟩ := hq.qB.blk.get 1 (by decide)
   obtain ⟨_, -, z2⟩ := hq.qB.blk.get 2 (by decide)
   have hll := hq.lB.blk.lt
   have hlq := blt a0
   have hne := hq.ne
   have HX := Lib.hid hx
   have hN := HQ.out.next hlt
   have e2 : (((x :: L.drop (k + 1)).length : Nat) : Int) = (L.length : Int) - k := by simp; omega
   rw [e2] at a2
   clear hq hx
   generalize (f + k) % 4096 = F at *
   have m1 : IntKind.i64.wrap ((F : Int) + 1) = ((F + 1 : Nat) : Int) := by rw [IntWalk.i64_in _ (by omega)]; push_cast; rfl
   have m3 : IntKind.i64.wrap ((L.length : Int) - k - 1) = (L.length : Int) - k - 1 := IntWalk.i64_in _ (by omega)
   have HN := Lib.hid hN
   clear hN
   gi_wp2_with fail
   refine (wpIn_wide (n := d)).2 ?_
   go_region
   gi_wp2_with fail
   refine (wpIn_wide (n := d)).2 ?_
   go_region
   obtain ⟨X1, hX1⟩ : ∃ X1, (wr.setCell ⟨qb, 1, none⟩ (.int .i64 (((F : Int) + 1) % 4096))).drew.drew = X1 := ⟨_, rfl⟩
   rw [hX1]
   have e1 : (wr.setCell ⟨qb, 1, none⟩ (.int .i64 (((F : Int) + 1) % 4096))).heap = X1.heap := by rw [← hX1]; rfl
   have cc : ∀ a, X1.cell? a = (wr.setCell ⟨qb, 1, none⟩ (.int .i64 (((F : Int) + 1) % 4096))).cell? a := fun a => by rw [← hX1]; rfl
   have cz : ∀ a, X1.frozen? a = (wr.setCell ⟨qb, 1, none⟩ (.int .i64 (((F : Int) + 1) % 4096))).frozen? a := fun a => by rw [← hX1]; rfl
   have b1 : X1.cell? ⟨br, 0, none⟩ = some (.pointer (some ⟨qb, 0, none⟩)) := by rw [cc]; exact cs_other c1 (fun e => hbr e.symm)
   have b2 : X1.cell? ⟨qb, 2, none⟩ = some (.int .i64 ((L.length : Int) - k)) := by rw [cc, World.cell?_setCell_other _ _ _ _ (by simp)]; exact a2
   have bz : X1.frozen? ⟨qb, 2, none⟩ = false := by rw [cz]; simpa [go_sem] using z2
   have hlb := blt b1
   have hlq1 := blt b2
   obtain ⟨X2, hX2⟩ : ∃ X2, X1.setCell ⟨qb, 2, none⟩ (.int .i64 ((L.length : Int) - k - 1)) = X2 := ⟨_, rfl⟩
   have hq2 : QAt qb lb f L ov (k + 1) X2 := by
    refine HN.out.to ?_ ?_
    ·rw [← hX2]
     show (X1.setCell _ _).heap[qb]? = _
     simp only [World.setCell]
     rw [← e1]
     simp only [World.setCell]
     rw [show (((F + 1) % 4096 : Nat) : Int) = ((F : Int) + 1) % 4096 by omega]
    ·rw [← hX2, Below.heap_setCell _ _ _ _ (by simp; exact fun e => hne e.symm), ← e1, Below.heap_setCell _ _ _ _ (by simp; exact fun e => hne e.symm), Below.heap_setCell _ _ _ _ (by simp; exact fun e => hne e.symm), Below.heap_setCell _ _ _ _ (by simp; exact fun e => hne e.symm)]
   have hkX : Kept (fun j => j < wr.heap.size ∧ j ≠ qb) wr X2 := by
    rw [← hX2, ← hX1]
    exact ((((Kept.refl _ _).set (fun hh => hh.2 rfl) _).drew).drew).set (fun hh => hh.2 rfl) _
   have hkf : KeepsFrom B wr X2 := ⟨hkX.size, fun q o hBq hq _ => (hkX.block q ⟨(Array.getElem?_eq_some_iff.1 hq).1, by omega⟩).trans hq⟩
   have hJ2 : Jy (L.take k) x X2 := HJk.out _ x _ _ HJ.out ⟨HI0.out _ _ _ (HJI.out _ _ HJ.out).1 hkX, by rw [hlen]; exact hq2⟩ hkf
   obtain ⟨fn, tmps, assign, body, hy, hR⟩ := HY.out _ x X2 hJ2 (by rw [hlen]; exact hlt) ⟨L.drop (k + 1), by rw [HX.out, ← List.drop_eq_getElem_cons hlt, List.take_append_drop]⟩
   have hR' := (roundIn_any (m := d - 1) hR).mono (R' := fun e X' => ∃ r : Bool, e = .returned (.bool r) ∧ Hid ((r = true ∧ J (L.take (k + 1)) X') ∨ (r = false ∧ ∃ p2, Jx p2 X'))) (fun e X' h => by
    rcases h with ⟨rfl, a, c⟩ | ⟨rfl, a⟩
    ·refine ⟨true, rfl, .inl ⟨rfl, ?_⟩⟩
     rw [List.take_succ_eq_append_getElem hlt, ← HX.out]
     exact a
    ·exact ⟨false, rfl, .inr ⟨rfl, _, a⟩⟩)
   simp only [encY] at hy
   clear hX1 e1 cc cz hR hJ2 hkf hkX hq2 c0 c1 a0 a1 a2 a4 z1 z2 hll hlq e2 HN hlen
   gi_wp2_with fail
   refine hR'.mono ?_
   rintro e W' ⟨r, rfl, hpost⟩
   cases r
   ·rcases hpost with ⟨hr, _⟩ | ⟨-, hJx'⟩
    ·cases hr
    have HJx := Lib.hid hJx'
    clear hJx'
    gi_wp2_with fail
    refine bodyPost_ret (results_none rfl _ _ _) rfl ?_
    obtain ⟨p2, hp2⟩ := HJx.out
    exact ⟨⟨_, rfl⟩, .inr ⟨p2, trivial, hp2⟩⟩
   ·rcases hpost with ⟨-, hJ'⟩ | ⟨hr, _⟩
    rotate_left
    ·cases hr
    have HJ' := Lib.hid hJ'
    clear hJ'
    gi_wp2_with fail
    go_roundw
    case rel => exact ⟨k + 1, by omega, by go_num, HJ'⟩
    case measure => simp [intOf]; omega
  ·obtain rfl : k = L.length := by omega
   gi_wp2_with fail
   go_end0
   exact ⟨⟨_, rfl⟩, .inl ⟨_, rfl, by have := HJ.out; rwa [List.take_length] at this⟩⟩
end Go.Proofs.YtpjooboohelffaaGreatDoor
/- Top: the tables of glyphs: ascii. -/
namespace Go.Proofs.YtpjooboohelffaaGreatDoor
open Go.RowKit
set_option linter.unusedVariables false
set_option linter.unusedSimpArgs false
set_option maxRecDepth 100000
/-- A table of glyphs in memory. -/
def TabG (W : World) (b : Nat) (T : Nat → Int) : Prop := BlkT W b 256 166 ∧ ∀ i, i < 256 → W.cell? ⟨b, i, none⟩ = some (.int .i32 (T i))
theorem TabG.to {W W' : World} {b : Nat} {T : Nat → Int} (h : TabG W b T) (hb : W'.heap[b]? = W.heap[b]?) : TabG W' b T :=
 ⟨h.1.to hb, fun i hi => (World.cell?_of_block (a := ⟨b, i, none⟩) hb).trans (h.2 i hi)⟩
theorem TabG.later {W W' : World} {b : Nat} {T : Nat → Int} (h : TabG W b T) (hb : Below W.heap.size W W') : TabG W' b T := h.to (hb.block b h.1.blk.lt)
theorem TabG.cong {W : World} {b : Nat} {T T' : Nat → Int} (h : TabG W b T) (hT : ∀ i, i < 256 → T i = T' i) : TabG W b T' := ⟨h.1, fun i hi => by rw [← hT i hi]; exact h.2 i hi⟩
def upd (T : Nat → Int) (i : Nat) (v : Int) : Nat → Int := fun j => if j = i then v else T j
theorem TabG.set {W : World} {b : Nat} {T : Nat → Int} (h : TabG W b T) {i : Nat} (hi : i < 256) (v : Int) : TabG (W.setCell ⟨b, i, none⟩ (.int .i32 v)) b (upd T i v) := by
 refine ⟨h.1.set _ _, fun j hj => ?_⟩
 unfold upd
 by_cases e : j = i
 ·subst e
  rw [if_pos rfl]
  exact World.cell?_setCell_same' _ _ _ (by rw [h.2 j hj]; rfl)
 ·rw [if_neg e, World.cell?_setCell_other _ _ _ _ (by simp <;> omega)]
  exact h.2 j hj
theorem zero166 : Tryz.zeroCells166 = Array.replicate 256 (.int .i32 0) := by kernel_rfl
theorem zero166_size : Tryz.zeroCells166.size = 256 := by rw [zero166]; exact Array.size_replicate
theorem zero166_get (i : Nat) (h : i < 256) : Tryz.zeroCells166[i]? = some (.int .i32 0) := by rw [zero166, Array.getElem?_replicate, if_pos h]
theorem TabG.zero (w : World) : TabG (w.alloc (.cells Tryz.zeroCells166 166)) w.heap.size (fun _ => 0) := by
 refine ⟨⟨_, heap_alloc_new w _, zero166_size⟩, fun i hi => ?_⟩
 have h1 := zero166_get i hi
 generalize Tryz.zeroCells166 = zz at *
 have hh := heap_alloc_new w (.cells zz 166)
 simp only [World.cell?, hh]
 simpa using h1
theorem ascii_any (w : World) : Calls Tryz.prog 93 #[] w fun e w' => ∃ b, e = .returned (.pointer (some ⟨b, 0, none⟩)) ∧ w.heap.size ≤ b ∧ TabG w' b asciiT ∧ Below w.heap.size w w' := by
 go_enter Tryz.func93, Tryz.ntmps93
 go_wp2_with fail
 have T0 := TabG.zero w
 have B0 : Below w.heap.size w (w.alloc (.cells Tryz.zeroCells166 166)) := bel_alloc (Below.refl _ _) _
 generalize w.alloc (.cells Tryz.zeroCells166 166) = u at *
 generalize Tryz.zeroCells166 = zz at *
 go_loopw [5] (fun i wr => ∃ k : Nat, k ≤ 256 ∧ i = .int .i64 (k : Int) ∧ (∃ T, TabG wr w.heap.size T ∧ ∀ j, j < k → T j = asciiT j) ∧ Below w.heap.size w wr) (fun i _ => 256 - (intOf i).toNat)
 case atStart => exact ⟨0, by decide, rfl, ⟨_, T0, fun j hj => absurd hj (by omega)⟩, B0⟩
 case round =>
  obtain ⟨k, hk, rfl, ⟨T, hT, hTk⟩, hb⟩ := hrel
  by_cases hlt : k < 256
  ·have q1 : (k : Int) < 256 := by omega
   have q2 : ¬ (k : Int) < 0 := by omega
   have c0 := hT.2 k hlt
   obtain ⟨_, _, z0⟩ := hT.1.blk.get k hlt
   have hl := hT.1.blk.lt
   by_cases h1 : 32 ≤ k
   ·have q3 : (32 : Int) ≤ (k : Int) := by omega
    by_cases h2 : k ≤ 126
    ·have q4 : (k : Int) ≤ 126 := by omega
     have d4 : decide ((k : Int) ≤ 126) = true := by simp; omega
     go_wp2_with fail
     refine ⟨⟨k + 1, by omega, by push_cast; rfl, ⟨_, (hT.set hlt _).set hlt _, fun j hj => ?_⟩, bel_set (bel_set hb (Nat.le_refl _) _) (Nat.le_refl _) _⟩, by simp [intOf]; omega⟩
     unfold upd
     by_cases e : j = k
     ·subst e; rw [if_pos rfl]; unfold asciiT; rw [if_pos ⟨h1, h2⟩]
     ·rw [if_neg e, if_neg e]; exact hTk j (by omega)
    ·have q4 : ¬ (k : Int) ≤ 126 := by omega
     have d4 : decide ((k : Int) ≤ 126) = false := by simp; omega
     go_wp2_with fail
     refine ⟨⟨k + 1, by omega, by push_cast; rfl, ⟨_, hT.set hlt _, fun j hj => ?_⟩, bel_set hb (Nat.le_refl _) _⟩, by simp [intOf]; omega⟩
     unfold upd
     by_cases e : j = k
     ·subst e; rw [if_pos rfl]; unfold asciiT; rw [if_neg (fun h => h2 h.2)]
     ·rw [if_neg e]; exact hTk j (by omega)
   ·have q3 : ¬ (32 : Int) ≤ (k : Int) := by omega
    have d3 : decide ((32 : Int) ≤ (k : Int)) = false := by simp; omega
    go_wp2_with fail
    refine ⟨⟨k + 1, by omega, by push_cast; rfl, ⟨_, hT.set hlt _, fun j hj => ?_⟩, bel_set hb (Nat.le_refl _) _⟩, by simp [intOf]; omega⟩
    unfold upd
    by_cases e : j = k
    ·subst e; rw [if_pos rfl]; unfold asciiT; rw [if_neg (fun h => h1 h.1)]
    ·rw [if_neg e]; exact hTk j (by omega)
  ·obtain rfl : k = 256 := by omega
   go_wp2_with fail
   go_ret
   exact ⟨_, rfl, Nat.le_refl _, hT.cong (fun j hj => hTk j hj), hb⟩
end Go.Proofs.YtpjooboohelffaaGreatDoor
