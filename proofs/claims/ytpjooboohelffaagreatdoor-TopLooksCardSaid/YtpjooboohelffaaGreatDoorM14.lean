/- TopLooks and TopSends, helper 15 of 27. It holds: the screen: Tab, Stop, Stops, Feed; the screen: Stop, Stops; the screen: Feed; the screen: Put. Each theorem states its own conditions. -/
import Derived.Test.YtpjooboohelffaaGreatDoorM13
import Derived.Defers
/- Top: the screen: Tab, Stop, Stops, Feed. -/
namespace Go.Proofs.YtpjooboohelffaaGreatDoor
open Go.RowKit Go.Shelf T05
set_option linter.unusedVariables false
set_option linter.unusedSimpArgs false
set_option maxRecDepth 100000
section
variable {K : Nat → Prop} {L : Lay} {rs : Nat → Nat} {cell : Nat → Nat → Cl} {r c : Int} {S : Int → Bool}
theorem t_go {w : World} {p b c : Nat} {S : Int → Bool} (h : TS w p b c S) (col n : Int) (hn0 : -9223372036854775808 ≤ n) (hn1 : n ≤ 9223372036854775807) :
  Calls Tryz.prog 140 #[.pointer (some ⟨p, 0, none⟩), .int .i64 col, .int .i64 n] w fun e w' => (∃ z, e = .returned (.int .i64 z)) ∧ Below w.heap.size w w' :=
 (go_some p w (nextIn (rise c S) c) (prevIn (rise c S)) c col n ⟨by omega, by have := h.hi; omega⟩ hn0 hn1 (fun W x hb => next_ts W p b c S (h.later hb) x) (fun W x hb => prev_ts W p b c S (h.later hb) x) (fun W hb => cols_ts W p b c S (h.later hb))).mono
  fun e w' ⟨h1, h2⟩ => ⟨⟨_, h1⟩, h2⟩
theorem Scr.back {w W W' : World} {rs' : Nat → Nat} {cell' : Nat → Nat → Cl} {r' c' : Int} {S' : Int → Bool} (h : Scr (Loc K w W) L W' rs' cell' r' c' S' ∧ Kept (Loc K w W) W W') (hK : KB K w) (hb : Below w.heap.size w W) (hg : GK K) : Scr K L W' rs' cell' r' c' S' ∧ Kept K w W' :=
 ⟨h.1.less (fun k hk => .inl hk) hg, (Kept.ofBelow hb hK).trans (h.2.less (fun k hk => .inl hk))⟩
set_option maxHeartbeats 1000000 in
theorem s_tab (w : World) (hK : KB K w) (h : Scr K L w rs cell r c S) (n : Int) (hn : n = 1 ∨ n = -1) :
  Calls Tryz.prog 107 #[.pointer (some ⟨L.sb, 0, none⟩), .int .i64 n] w fun e w' => e = .returned (.tuple #[]) ∧ (∃ r' c', Scr K L w' rs cell r' c' S) ∧ Kept K w w' := by
 have HG := Lib.hid (fun W (hb : Below w.heap.size w W) col => t_go (h.ts |> fun t => t.later hb) col n (by omega) (by omega))
 have HM := Lib.hid (fun W (hb : Below w.heap.size w W) a b => s_move (K := Loc K w W) W (hK.loc hb) (h.loc hb) a b)
 have HE := Lib.hid (fun W W2 a b (hb : Below w.heap.size w W) (hs : Scr (Loc K w W) L W2 rs cell (nearI a L.R) (nearI b L.C) S ∧ Kept (Loc K w W) W W2) => Scr.back hs hK hb h.gk)
 have P0 := Lib.hid (show w.cell? ⟨L.sb, 0, none⟩ = some (.int .i64 r) ∧ w.cell? ⟨L.sb, 1, none⟩ = some (.int .i64 c) ∧ w.cell? ⟨L.sb, 4, none⟩ = some (.pointer (some ⟨L.tb, 0, none⟩)) from ⟨h.s0, h.s1, h.s4⟩)
 have hl := blt h.s0
 have hn1 : (n != 0) = true := by rcases hn with rfl | rfl <;> rfl
 have hn2 : ¬ n = 0 := by omega
 clear h hK hn
 go_enter Tryz.func107, Tryz.ntmps107
 go_wp2_with fail
 refine gen_wp ?_
 intro u hu0
 have FB : Below w.heap.size w u := by rw [hu0]; exact Below.refl _ _
 have KFu : ∀ W, Below u.heap.size u W → True ∧ True ∧ True := by
  intro W hu
  refine ⟨trivial, trivial, ?_⟩
  ·trivial
 clear hu0
 refine wp_region_held_drew (S := fun W => True ∧ True ∧ True) (by kernel_rfl) (KFu _ (Below.refl _ _).drew) (fun hHeld => ?_)
 have FB := FB.drew
 refine sY 0 10 ?_
 refine sY 1 11 ?_
 refine sY 2 12 ?_
 refine sY 3 13 ?_
 refine sY 4 14 ?_
 refine sY 5 15 ?_
 refine sY 7 17 ?_
 refine sY 8 18 ?_
 refine sY 9 19 ?_
 refine sY 11 21 ?_
 refine sY 12 22 ?_
 refine sY 13 23 ?_
 refine sY 14 24 ?_
 refine sY 15 25 ?_
 refine sY 17 27 ?_
 refine wpAnyH_ready (rs := [6, 10, 16]) (by kernel_rfl) (by simp) ?_
 refine AllReadyH.cons rfl (fun K hK => ?_) (AllReadyH.cons rfl (fun K hK => ?_) (AllReadyH.cons rfl (fun K hK => ?_) (AllReadyH.nil)))
 ·have p0 := (FB.cell (p := ⟨L.sb, 0, none⟩) hl).trans P0.out.1
  go_simp
  (try go_wp2_with fail)
  refine hK.out _ _ ?_ (fun hHeld => ?_)
  ·exact hHeld
  clear hK K
  try simp only [Act.put, List.setIfInBounds_toArray, List.set_cons_zero, List.set_cons_succ]
  refine wpAnyH_ready (rs := [10, 16]) (by kernel_rfl) (by simp) ?_
  refine AllReadyH.cons rfl (fun K hK => ?_) (AllReadyH.cons rfl (fun K hK => ?_) (AllReadyH.nil))
  ·have p0 := (FB.cell (p := ⟨L.sb, 4, none⟩) hl).trans P0.out.2.2
   go_simp
   (try go_wp2_with fail)
   refine hK.out _ _ ?_ (fun hHeld => ?_)
   ·exact hHeld
   clear hK K
   try simp only [Act.put, List.setIfInBounds_toArray, List.set_cons_zero, List.set_cons_succ]
   refine sO 16 fun K hK => ?_
   have p0 := (FB.cell (p := ⟨L.sb, 1, none⟩) hl).trans P0.out.2.1
   go_simp
   (try go_wp2_with fail)
   refine hK.out _ _ ?_ (fun hHeld => ?_)
   ·exact hHeld
   clear hK K
   try simp only [Act.put, List.setIfInBounds_toArray, List.set_cons_zero, List.set_cons_succ]
   refine sO 18 fun K hK => ?_
   obtain ⟨_, _, fb⟩ := hHeld
   go_simp
   refine (HG.out _ FB _).mono ?_
   rintro e w1 ⟨⟨z, rfl⟩, b1⟩
   have FB := bel_call FB b1
   (try go_wp2_with fail)
   refine hK.out _ _ ?_ (fun hHeld => ?_)
   ·exact ⟨trivial, trivial, trivial⟩
   clear hK K
   try simp only [Act.put, List.setIfInBounds_toArray, List.set_cons_zero, List.set_cons_succ]
   refine sY 19 29 ?_
   refine sO 20 fun K hK => ?_
   go_simp
   refine (HM.out _ FB _ _).mono ?_
   rintro e w2 ⟨rfl, hs⟩
   (try go_wp2_with fail)
   refine hK.out _ _ ?_ (fun hHeld => ?_)
   ·exact ⟨trivial, trivial, trivial⟩
   clear hK K
   try simp only [Act.put, List.setIfInBounds_toArray, List.set_cons_zero, List.set_cons_succ]
   refine wpAnyH_done (by kernel_rfl) ?_ _
   go_wp2_with fail
   go_end0
   exact ⟨rfl, ⟨_, _, (HE.out _ _ _ _ FB hs).1⟩, (HE.out _ _ _ _ FB hs).2⟩
  ·have p0 := (FB.cell (p := ⟨L.sb, 1, none⟩) hl).trans P0.out.2.1
   go_simp
   (try go_wp2_with fail)
   refine hK.out _ _ ?_ (fun hHeld => ?_)
   ·exact hHeld
   clear hK K
   try simp only [Act.put, List.setIfInBounds_toArray, List.set_cons_zero, List.set_cons_succ]
   refine sO 10 fun K hK => ?_
   have p0 := (FB.cell (p := ⟨L.sb, 4, none⟩) hl).trans P0.out.2.2
   go_simp
   (try go_wp2_with fail)
   refine hK.out _ _ ?_ (fun hHeld => ?_)
   ·exact hHeld
   clear hK K
   try simp only [Act.put, List.setIfInBounds_toArray, List.set_cons_zero, List.set_cons_succ]
   refine sO 18 fun K hK => ?_
   obtain ⟨_, _, fb⟩ := hHeld
   go_simp
   refine (HG.out _ FB _).mono ?_
   rintro e w1 ⟨⟨z, rfl⟩, b1⟩
   have FB := bel_call FB b1
   (try go_wp2_with fail)
   refine hK.out _ _ ?_ (fun hHeld => ?_)
   ·exact ⟨trivial, trivial, trivial⟩
   clear hK K
   try simp only [Act.put, List.setIfInBounds_toArray, List.set_cons_zero, List.set_cons_succ]
   refine sY 19 29 ?_
   refine sO 20 fun K hK => ?_
   go_simp
   refine (HM.out _ FB _ _).mono ?_
   rintro e w2 ⟨rfl, hs⟩
   (try go_wp2_with fail)
   refine hK.out _ _ ?_ (fun hHeld => ?_)
   ·exact ⟨trivial, trivial, trivial⟩
   clear hK K
   try simp only [Act.put, List.setIfInBounds_toArray, List.set_cons_zero, List.set_cons_succ]
   refine wpAnyH_done (by kernel_rfl) ?_ _
   go_wp2_with fail
   go_end0
   exact ⟨rfl, ⟨_, _, (HE.out _ _ _ _ FB hs).1⟩, (HE.out _ _ _ _ FB hs).2⟩
 ·have p0 := (FB.cell (p := ⟨L.sb, 4, none⟩) hl).trans P0.out.2.2
  go_simp
  (try go_wp2_with fail)
  refine hK.out _ _ ?_ (fun hHeld => ?_)
  ·exact hHeld
  clear hK K
  try simp only [Act.put, List.setIfInBounds_toArray, List.set_cons_zero, List.set_cons_succ]
  refine wpAnyH_ready (rs := [6, 16]) (by kernel_rfl) (by simp) ?_
  refine AllReadyH.cons rfl (fun K hK => ?_) (AllReadyH.cons rfl (fun K hK => ?_) (AllReadyH.nil))
  ·have p0 := (FB.cell (p := ⟨L.sb, 0, none⟩) hl).trans P0.out.1
   go_simp
   (try go_wp2_with fail)
   refine hK.out _ _ ?_ (fun hHeld => ?_)
   ·exact hHeld
   clear hK K
   try simp only [Act.put, List.setIfInBounds_toArray, List.set_cons_zero, List.set_cons_succ]
   refine sO 16 fun K hK => ?_
   have p0 := (FB.cell (p := ⟨L.sb, 1, none⟩) hl).trans P0.out.2.1
   go_simp
   (try go_wp2_with fail)
   refine hK.out _ _ ?_ (fun hHeld => ?_)
   ·exact hHeld
   clear hK K
   try simp only [Act.put, List.setIfInBounds_toArray, List.set_cons_zero, List.set_cons_succ]
   refine sO 18 fun K hK => ?_
   obtain ⟨_, _, fb⟩ := hHeld
   go_simp
   refine (HG.out _ FB _).mono ?_
   rintro e w1 ⟨⟨z, rfl⟩, b1⟩
   have FB := bel_call FB b1
   (try go_wp2_with fail)
   refine hK.out _ _ ?_ (fun hHeld => ?_)
   ·exact ⟨trivial, trivial, trivial⟩
   clear hK K
   try simp only [Act.put, List.setIfInBounds_toArray, List.set_cons_zero, List.set_cons_succ]
   refine sY 19 29 ?_
   refine sO 20 fun K hK => ?_
   go_simp
   refine (HM.out _ FB _ _).mono ?_
   rintro e w2 ⟨rfl, hs⟩
   (try go_wp2_with fail)
   refine hK.out _ _ ?_ (fun hHeld => ?_)
   ·exact ⟨trivial, trivial, trivial⟩
   clear hK K
   try simp only [Act.put, List.setIfInBounds_toArray, List.set_cons_zero, List.set_cons_succ]
   refine wpAnyH_done (by kernel_rfl) ?_ _
   go_wp2_with fail
   go_end0
   exact ⟨rfl, ⟨_, _, (HE.out _ _ _ _ FB hs).1⟩, (HE.out _ _ _ _ FB hs).2⟩
  ·have p0 := (FB.cell (p := ⟨L.sb, 1, none⟩) hl).trans P0.out.2.1
   go_simp
   (try go_wp2_with fail)
   refine hK.out _ _ ?_ (fun hHeld => ?_)
   ·exact hHeld
   clear hK K
   try simp only [Act.put, List.setIfInBounds_toArray, List.set_cons_zero, List.set_cons_succ]
   refine wpAnyH_ready (rs := [6, 18]) (by kernel_rfl) (by simp) ?_
   refine AllReadyH.cons rfl (fun K hK => ?_) (AllReadyH.cons rfl (fun K hK => ?_) (AllReadyH.nil))
   ·have p0 := (FB.cell (p := ⟨L.sb, 0, none⟩) hl).trans P0.out.1
    go_simp
    (try go_wp2_with fail)
    refine hK.out _ _ ?_ (fun hHeld => ?_)
    ·exact hHeld
    clear hK K
    try simp only [Act.put, List.setIfInBounds_toArray, List.set_cons_zero, List.set_cons_succ]
    refine sO 18 fun K hK => ?_
    obtain ⟨_, _, fb⟩ := hHeld
    go_simp
    refine (HG.out _ FB _).mono ?_
    rintro e w1 ⟨⟨z, rfl⟩, b1⟩
    have FB := bel_call FB b1
    (try go_wp2_with fail)
    refine hK.out _ _ ?_ (fun hHeld => ?_)
    ·exact ⟨trivial, trivial, trivial⟩
    clear hK K
    try simp only [Act.put, List.setIfInBounds_toArray, List.set_cons_zero, List.set_cons_succ]
    refine sY 19 29 ?_
    refine sO 20 fun K hK => ?_
    go_simp
    refine (HM.out _ FB _ _).mono ?_
    rintro e w2 ⟨rfl, hs⟩
    (try go_wp2_with fail)
    refine hK.out _ _ ?_ (fun hHeld => ?_)
    ·exact ⟨trivial, trivial, trivial⟩
    clear hK K
    try simp only [Act.put, List.setIfInBounds_toArray, List.set_cons_zero, List.set_cons_succ]
    refine wpAnyH_done (by kernel_rfl) ?_ _
    go_wp2_with fail
    go_end0
    exact ⟨rfl, ⟨_, _, (HE.out _ _ _ _ FB hs).1⟩, (HE.out _ _ _ _ FB hs).2⟩
   ·obtain ⟨_, _, fb⟩ := hHeld
    go_simp
    refine (HG.out _ FB _).mono ?_
    rintro e w1 ⟨⟨z, rfl⟩, b1⟩
    have FB := bel_call FB b1
    (try go_wp2_with fail)
    refine hK.out _ _ ?_ (fun hHeld => ?_)
    ·exact ⟨trivial, trivial, trivial⟩
    clear hK K
    try simp only [Act.put, List.setIfInBounds_toArray, List.set_cons_zero, List.set_cons_succ]
    refine sO 6 fun K hK => ?_
    have p0 := (FB.cell (p := ⟨L.sb, 0, none⟩) hl).trans P0.out.1
    go_simp
    (try go_wp2_with fail)
    refine hK.out _ _ ?_ (fun hHeld => ?_)
    ·exact hHeld
    clear hK K
    try simp only [Act.put, List.setIfInBounds_toArray, List.set_cons_zero, List.set_cons_succ]
    refine sY 19 29 ?_
    refine sO 20 fun K hK => ?_
    go_simp
    refine (HM.out _ FB _ _).mono ?_
    rintro e w2 ⟨rfl, hs⟩
    (try go_wp2_with fail)
    refine hK.out _ _ ?_ (fun hHeld => ?_)
    ·exact ⟨trivial, trivial, trivial⟩
    clear hK K
    try simp only [Act.put, List.setIfInBounds_toArray, List.set_cons_zero, List.set_cons_succ]
    refine wpAnyH_done (by kernel_rfl) ?_ _
    go_wp2_with fail
    go_end0
    exact ⟨rfl, ⟨_, _, (HE.out _ _ _ _ FB hs).1⟩, (HE.out _ _ _ _ FB hs).2⟩
 ·have p0 := (FB.cell (p := ⟨L.sb, 1, none⟩) hl).trans P0.out.2.1
  go_simp
  (try go_wp2_with fail)
  refine hK.out _ _ ?_ (fun hHeld => ?_)
  ·exact hHeld
  clear hK K
  try simp only [Act.put, List.setIfInBounds_toArray, List.set_cons_zero, List.set_cons_succ]
  refine wpAnyH_ready (rs := [6, 10]) (by kernel_rfl) (by simp) ?_
  refine AllReadyH.cons rfl (fun K hK => ?_) (AllReadyH.cons rfl (fun K hK => ?_) (AllReadyH.nil))
  ·have p0 := (FB.cell (p := ⟨L.sb, 0, none⟩) hl).trans P0.out.1
   go_simp
   (try go_wp2_with fail)
   refine hK.out _ _ ?_ (fun hHeld => ?_)
   ·exact hHeld
   clear hK K
   try simp only [Act.put, List.setIfInBounds_toArray, List.set_cons_zero, List.set_cons_succ]
   refine sO 10 fun K hK => ?_
   have p0 := (FB.cell (p := ⟨L.sb, 4, none⟩) hl).trans P0.out.2.2
   go_simp
   (try go_wp2_with fail)
   refine hK.out _ _ ?_ (fun hHeld => ?_)
   ·exact hHeld
   clear hK K
   try simp only [Act.put, List.setIfInBounds_toArray, List.set_cons_zero, List.set_cons_succ]
   refine sO 18 fun K hK => ?_
   obtain ⟨_, _, fb⟩ := hHeld
   go_simp
   refine (HG.out _ FB _).mono ?_
   rintro e w1 ⟨⟨z, rfl⟩, b1⟩
   have FB := bel_call FB b1
   (try go_wp2_with fail)
   refine hK.out _ _ ?_ (fun hHeld => ?_)
   ·exact ⟨trivial, trivial, trivial⟩
   clear hK K
   try simp only [Act.put, List.setIfInBounds_toArray, List.set_cons_zero, List.set_cons_succ]
   refine sY 19 29 ?_
   refine sO 20 fun K hK => ?_
   go_simp
   refine (HM.out _ FB _ _).mono ?_
   rintro e w2 ⟨rfl, hs⟩
   (try go_wp2_with fail)
   refine hK.out _ _ ?_ (fun hHeld => ?_)
   ·exact ⟨trivial, trivial, trivial⟩
   clear hK K
   try simp only [Act.put, List.setIfInBounds_toArray, List.set_cons_zero, List.set_cons_succ]
   refine wpAnyH_done (by kernel_rfl) ?_ _
   go_wp2_with fail
   go_end0
   exact ⟨rfl, ⟨_, _, (HE.out _ _ _ _ FB hs).1⟩, (HE.out _ _ _ _ FB hs).2⟩
  ·have p0 := (FB.cell (p := ⟨L.sb, 4, none⟩) hl).trans P0.out.2.2
   go_simp
   (try go_wp2_with fail)
   refine hK.out _ _ ?_ (fun hHeld => ?_)
   ·exact hHeld
   clear hK K
   try simp only [Act.put, List.setIfInBounds_toArray, List.set_cons_zero, List.set_cons_succ]
   refine wpAnyH_ready (rs := [6, 18]) (by kernel_rfl) (by simp) ?_
   refine AllReadyH.cons rfl (fun K hK => ?_) (AllReadyH.cons rfl (fun K hK => ?_) (AllReadyH.nil))
   ·have p0 := (FB.cell (p := ⟨L.sb, 0, none⟩) hl).trans P0.out.1
    go_simp
    (try go_wp2_with fail)
    refine hK.out _ _ ?_ (fun hHeld => ?_)
    ·exact hHeld
    clear hK K
    try simp only [Act.put, List.setIfInBounds_toArray, List.set_cons_zero, List.set_cons_succ]
    refine sO 18 fun K hK => ?_
    obtain ⟨_, _, fb⟩ := hHeld
    go_simp
    refine (HG.out _ FB _).mono ?_
    rintro e w1 ⟨⟨z, rfl⟩, b1⟩
    have FB := bel_call FB b1
    (try go_wp2_with fail)
    refine hK.out _ _ ?_ (fun hHeld => ?_)
    ·exact ⟨trivial, trivial, trivial⟩
    clear hK K
    try simp only [Act.put, List.setIfInBounds_toArray, List.set_cons_zero, List.set_cons_succ]
    refine sY 19 29 ?_
    refine sO 20 fun K hK => ?_
    go_simp
    refine (HM.out _ FB _ _).mono ?_
    rintro e w2 ⟨rfl, hs⟩
    (try go_wp2_with fail)
    refine hK.out _ _ ?_ (fun hHeld => ?_)
    ·exact ⟨trivial, trivial, trivial⟩
    clear hK K
    try simp only [Act.put, List.setIfInBounds_toArray, List.set_cons_zero, List.set_cons_succ]
    refine wpAnyH_done (by kernel_rfl) ?_ _
    go_wp2_with fail
    go_end0
    exact ⟨rfl, ⟨_, _, (HE.out _ _ _ _ FB hs).1⟩, (HE.out _ _ _ _ FB hs).2⟩
   ·obtain ⟨_, _, fb⟩ := hHeld
    go_simp
    refine (HG.out _ FB _).mono ?_
    rintro e w1 ⟨⟨z, rfl⟩, b1⟩
    have FB := bel_call FB b1
    (try go_wp2_with fail)
    refine hK.out _ _ ?_ (fun hHeld => ?_)
    ·exact ⟨trivial, trivial, trivial⟩
    clear hK K
    try simp only [Act.put, List.setIfInBounds_toArray, List.set_cons_zero, List.set_cons_succ]
    refine sO 6 fun K hK => ?_
    have p0 := (FB.cell (p := ⟨L.sb, 0, none⟩) hl).trans P0.out.1
    go_simp
    (try go_wp2_with fail)
    refine hK.out _ _ ?_ (fun hHeld => ?_)
    ·exact hHeld
    clear hK K
    try simp only [Act.put, List.setIfInBounds_toArray, List.set_cons_zero, List.set_cons_succ]
    refine sY 19 29 ?_
    refine sO 20 fun K hK => ?_
    go_simp
    refine (HM.out _ FB _ _).mono ?_
    rintro e w2 ⟨rfl, hs⟩
    (try go_wp2_with fail)
    refine hK.out _ _ ?_ (fun hHeld => ?_)
    ·exact ⟨trivial, trivial, trivial⟩
    clear hK K
    try simp only [Act.put, List.setIfInBounds_toArray, List.set_cons_zero, List.set_cons_succ]
    refine wpAnyH_done (by kernel_rfl) ?_ _
    go_wp2_with fail
    go_end0
    exact ⟨rfl, ⟨_, _, (HE.out _ _ _ _ FB hs).1⟩, (HE.out _ _ _ _ FB hs).2⟩
end
end Go.Proofs.YtpjooboohelffaaGreatDoor
/- Top: the screen: Stop, Stops. -/
namespace Go.Proofs.YtpjooboohelffaaGreatDoor
open Go.RowKit Go.Shelf T05
set_option linter.unusedVariables false
set_option linter.unusedSimpArgs false
set_option maxRecDepth 100000
section
variable {K : Nat → Prop} {L : Lay} {rs : Nat → Nat} {cell : Nat → Nat → Cl} {r c : Int} {S : Int → Bool}
theorem Scr.tabsB {w W W' : World} (h : Scr K L w rs cell r c S) (hK : KB K w) (hb : Below w.heap.size w W) {S' : Int → Bool} (hg : W.grownBy W' (some L.mb)) (ht : TS W' L.tb L.mb L.C S') : Scr K L W' rs cell r c S' ∧ Kept K w W' := by
 obtain ⟨h1, h2⟩ := (h.later hb).tabs (hK.more hb.size) hg ht
 exact ⟨h1, (Kept.ofBelow hb hK).trans h2⟩
set_option maxHeartbeats 1000000 in
theorem s_stop (w : World) (hK : KB K w) (h : Scr K L w rs cell r c S) (col : Int) (on : Bool) :
  Calls Tryz.prog 120 #[.pointer (some ⟨L.sb, 0, none⟩), .int .i64 col, .bool on] w fun e w' => e = .returned (.tuple #[]) ∧ ∃ S', Scr K L w' rs cell r c S' ∧ Kept K w w' := by
 have HP := Lib.hid (fun W (hb : Below w.heap.size w W) v hL => put_any W _ _ _ S (h.ts |> fun t => t.later hb) on v [col] hL (by simp))
 have HE := Lib.hid (fun W W' S' (hb : Below w.heap.size w W) hg ht => h.tabsB (W' := W') (S' := S') hK hb hg ht)
 have k4 := h.s4
 have hl := blt k4
 clear h hK
 go_enter Tryz.func120, Tryz.ntmps120
 go_wp2_with fail
 have fb : Below w.heap.size w (w.alloc (.cells #[.int .i64 col] 3)) := bel_alloc (Below.refl _ _) _
 refine (HP.out _ fb _ ⟨_, _, rfl, fun _ => ⟨w.heap.size, 0, rfl, by simp, fun i hi => ?_⟩⟩).mono ?_
 ·obtain rfl : i = 0 := by simpa using hi
  simp [go_sem]
 rintro e w1 ⟨rfl, ht, hg⟩
 have E1 := Lib.hid (HE.out _ _ _ fb hg ht)
 clear ht hg
 go_wp2_with fail
 go_end0
 exact ⟨rfl, _, E1.out⟩
theorem s_stops (w : World) (hK : KB K w) (h : Scr K L w rs cell r c S) :
  Calls Tryz.prog 121 #[.pointer (some ⟨L.sb, 0, none⟩), .int .i64 0] w fun e w' => e = .returned (.tuple #[]) ∧ ∃ S', Scr K L w' rs cell r c S' ∧ Kept K w w' := by
 have HP := Lib.hid (every_ts w _ _ _ S h.ts 0 (by decide) (by decide))
 have HE := Lib.hid (fun W' S' hg ht => h.tabsB (W := w) (W' := W') (S' := S') hK (Below.refl _ _) hg ht)
 have k4 := h.s4
 have hl := blt k4
 clear h hK
 go_enter Tryz.func121, Tryz.ntmps121
 go_wp2_with fail
 refine HP.out.mono ?_
 rintro e w1 ⟨rfl, ht, hg⟩
 have E1 := Lib.hid (HE.out _ _ hg ht)
 clear ht hg
 go_wp2_with fail
 go_end0
 exact ⟨rfl, _, E1.out⟩
end
end Go.Proofs.YtpjooboohelffaaGreatDoor
/- Top: the screen: Feed. -/
namespace Go.Proofs.YtpjooboohelffaaGreatDoor
open Go.RowKit Go.Shelf T05
set_option linter.unusedVariables false
set_option linter.unusedSimpArgs false
set_option maxRecDepth 100000
section
variable {K : Nat → Prop} {L : Lay} {rs : Nat → Nat} {cell : Nat → Nat → Cl} {r c : Int} {S : Int → Bool}
set_option maxHeartbeats 1000000 in
theorem s_step_d (w : World) (hK : KB K w) (h : Scr K L w rs cell r c S) (n m : Int) (fm : FrameMode) :
  CallsD Tryz.prog 75 #[.pointer (some ⟨L.sb, 0, none⟩), .int .i64 n, .int .i64 m] fm w fun e u' w' => u' = fm ∧ (e = .returned (.tuple #[]) ∧ (∃ r' c', Scr K L w' rs cell r' c' S) ∧ Kept K w w') := by
 have HS := Lib.hid (fun W (hb : Below w.heap.size w W) => s_size W (h.later hb))
 have HN := Lib.hid (fun W => step_ok W L.R L.C r c false n m h.gr.sz)
 have HP := Lib.hid (fun W (hb : Below w.heap.size w W) => h.placeB hK hb (near_in h.gr.sz (nearI r L.R + cutI n) (nearI c L.C + cutI m)))
 have hsb := h.sB.blk
 have hl := hsb.lt
 have P0 := Lib.hid (show w.cell? ⟨L.sb, 0, none⟩ = some (.int .i64 r) ∧ w.cell? ⟨L.sb, 1, none⟩ = some (.int .i64 c) ∧ w.cell? ⟨L.sb, 2, none⟩ = some (.bool false) from ⟨h.s0, h.s1, h.s2⟩)
 clear h hK
 generalize nearI (nearI r L.R + cutI n) L.R = na at *
 generalize nearI (nearI c L.C + cutI m) L.C = nb at *
 go_enter_d Tryz.func75, Tryz.ntmps75
 go_wp2_with fail
 refine gen_wp ?_
 intro u hu0
 have FB : Below w.heap.size w u := by rw [hu0]; exact Below.refl _ _
 have KFu : ∀ W, Below u.heap.size u W → True ∧ (Blk W (L.sb) 5) ∧ True := by
  intro W hu
  refine ⟨trivial, ?_, ?_⟩
  ·exact Blk.later (hsb) (bel_call (by rw [hu0]; (repeat first | exact Below.refl _ _ | refine bel_alloc ?_ _)) hu)
  ·trivial
 clear hu0 hsb
 refine wp_region_held_drew (S := fun W => True ∧ (Blk W (L.sb) 5) ∧ True) (by kernel_rfl) (KFu _ (Below.refl _ _).drew) (fun hHeld => ?_)
 have FB := FB.drew
 refine sY 0 8 ?_
 refine sY 1 9 ?_
 refine sY 3 11 ?_
 refine sY 4 12 ?_
 refine sY 5 13 ?_
 refine sY 7 15 ?_
 refine sY 8 16 ?_
 refine wpAnyH_ready (rs := [2, 6]) (by kernel_rfl) (by simp) ?_
 refine AllReadyH.cons rfl (fun K hK => ?_) (AllReadyH.cons rfl (fun K hK => ?_) (AllReadyH.nil))
 ·obtain ⟨_, fr0, fb⟩ := hHeld
  go_simp
  refine (HS.out _ FB).mono ?_
  rintro e w1 ⟨rfl, b1⟩
  have FB := bel_call FB b1
  (try go_wp2_with fail)
  refine hK.out _ _ ?_ (fun hHeld => ?_)
  ·exact ⟨trivial, fr0.later b1, trivial⟩
  clear hK K
  try simp only [Act.put, List.setIfInBounds_toArray, List.set_cons_zero, List.set_cons_succ]
  refine sO 6 fun K hK => ?_
  have p0 := (FB.cell (p := ⟨L.sb, 0, none⟩) hl).trans P0.out.1
  have p1 := (FB.cell (p := ⟨L.sb, 1, none⟩) hl).trans P0.out.2.1
  have p2 := (FB.cell (p := ⟨L.sb, 2, none⟩) hl).trans P0.out.2.2
  go_simp
  (try go_wp2_with fail)
  refine hK.out _ _ ?_ (fun hHeld => ?_)
  ·exact hHeld
  clear hK K
  try simp only [Act.put, List.setIfInBounds_toArray, List.set_cons_zero, List.set_cons_succ]
  refine sO 9 fun K hK => ?_
  obtain ⟨_, fr0, fb⟩ := hHeld
  go_simp
  refine (HN.out _).mono ?_
  rintro e w2 ⟨rfl, b2⟩
  have FB := bel_call FB b2
  (try go_wp2_with fail)
  refine hK.out _ _ ?_ (fun hHeld => ?_)
  ·exact ⟨trivial, fr0.later b2, trivial⟩
  clear hK K
  try simp only [Act.put, List.setIfInBounds_toArray, List.set_cons_zero, List.set_cons_succ]
  refine sY 10 18 ?_
  refine sY 11 19 ?_
  refine sO 12 fun K hK => ?_
  obtain ⟨_, fr0, fb⟩ := hHeld
  obtain ⟨x0, e0, z0⟩ := fr0.get 0 (by decide)
  obtain ⟨x1, e1, z1⟩ := fr0.get 1 (by decide)
  obtain ⟨x2, e2, z2⟩ := fr0.get 2 (by decide)
  try simp only [World.cell?_drew, World.frozen?_drew] at e0 z0 e1 z1 e2 z2
  go_simp
  (try go_wp2_with fail)
  refine hK.out _ _ ?_ (fun hHeld => ?_)
  ·exact ⟨trivial, (((fr0).set _ _).set _ _).set _ _, trivial⟩
  clear hK K
  try simp only [Act.put, List.setIfInBounds_toArray, List.set_cons_zero, List.set_cons_succ]
  refine wpAnyH_done (by kernel_rfl) ?_ _
  go_wp2_with fail
  go_end0
  exact ⟨rfl, ⟨_, _, (HP.out _ FB).1⟩, (HP.out _ FB).2⟩
 ·have p0 := (FB.cell (p := ⟨L.sb, 0, none⟩) hl).trans P0.out.1
  have p1 := (FB.cell (p := ⟨L.sb, 1, none⟩) hl).trans P0.out.2.1
  have p2 := (FB.cell (p := ⟨L.sb, 2, none⟩) hl).trans P0.out.2.2
  go_simp
  (try go_wp2_with fail)
  refine hK.out _ _ ?_ (fun hHeld => ?_)
  ·exact hHeld
  clear hK K
  try simp only [Act.put, List.setIfInBounds_toArray, List.set_cons_zero, List.set_cons_succ]
  refine sO 2 fun K hK => ?_
  obtain ⟨_, fr0, fb⟩ := hHeld
  go_simp
  refine (HS.out _ FB).mono ?_
  rintro e w1 ⟨rfl, b1⟩
  have FB := bel_call FB b1
  (try go_wp2_with fail)
  refine hK.out _ _ ?_ (fun hHeld => ?_)
  ·exact ⟨trivial, fr0.later b1, trivial⟩
  clear hK K
  try simp only [Act.put, List.setIfInBounds_toArray, List.set_cons_zero, List.set_cons_succ]
  refine sO 9 fun K hK => ?_
  obtain ⟨_, fr0, fb⟩ := hHeld
  go_simp
  refine (HN.out _).mono ?_
  rintro e w2 ⟨rfl, b2⟩
  have FB := bel_call FB b2
  (try go_wp2_with fail)
  refine hK.out _ _ ?_ (fun hHeld => ?_)
  ·exact ⟨trivial, fr0.later b2, trivial⟩
  clear hK K
  try simp only [Act.put, List.setIfInBounds_toArray, List.set_cons_zero, List.set_cons_succ]
  refine sY 10 18 ?_
  refine sY 11 19 ?_
  refine sO 12 fun K hK => ?_
  obtain ⟨_, fr0, fb⟩ := hHeld
  obtain ⟨x0, e0, z0⟩ := fr0.get 0 (by decide)
  obtain ⟨x1, e1, z1⟩ := fr0.get 1 (by decide)
  obtain ⟨x2, e2, z2⟩ := fr0.get 2 (by decide)
  try simp only [World.cell?_drew, World.frozen?_drew] at e0 z0 e1 z1 e2 z2
  go_simp
  (try go_wp2_with fail)
  refine hK.out _ _ ?_ (fun hHeld => ?_)
  ·exact ⟨trivial, (((fr0).set _ _).set _ _).set _ _, trivial⟩
  clear hK K
  try simp only [Act.put, List.setIfInBounds_toArray, List.set_cons_zero, List.set_cons_succ]
  refine wpAnyH_done (by kernel_rfl) ?_ _
  go_wp2_with fail
  go_end0
  exact ⟨rfl, ⟨_, _, (HP.out _ FB).1⟩, (HP.out _ FB).2⟩
set_option maxHeartbeats 1000000 in
theorem s_feed (w : World) (hK : KB K w) (h : Scr K L w rs cell r c S) (n : Int) (hn : n = 1 ∨ n = -1) :
  Calls Tryz.prog 109 #[.pointer (some ⟨L.sb, 0, none⟩), .int .i64 n] w fun e w' => e = .returned (.tuple #[]) ∧ (∃ rs' cell' r' c', Scr K L w' rs' cell' r' c' S ∧ Frm L.R L.C blankC cell cell') ∧ Kept K w w' := by
 have HS := Lib.hid (s_size w h)
 have hrc := h.rc
 have hsz := h.gr.sz
 have hrr := hrc.2.1
 have hr0 := hrc.1
 have HU := Lib.hid (fun W (hb : Below w.heap.size w W) m (hm : -510 ≤ m ∧ m ≤ 510) => up_any (K := Loc (L.KS K) w W) W ((h.kb hK).loc hb) (h.gr.loc hb) m hm blankC)
 have HE := Lib.hid (fun W W2 (hb : Below w.heap.size w W) hs => (show SlidS K L w W2 cell r c S blankC from h.slid hK hb hs))
 have HD := Lib.hid (fun W W2 (hb : Below w.heap.size w W) (hs : SlidS K L w W2 cell r c S blankC) fm => (show CallsD Tryz.prog 75 #[.pointer (some ⟨L.sb, 0, none⟩), .int .i64 n, .int .i64 0] fm W2 fun e u' w' => u' = fm ∧ (e = .returned (.tuple #[]) ∧ (∃ rs' cell' r' c', Scr K L w' rs' cell' r' c' S ∧ Frm L.R L.C blankC cell cell') ∧ Kept K w w') from by
  obtain ⟨⟨rs', cell', h1, h2⟩, h3⟩ := hs
  refine (s_step_d W2 (hK.later h3) h1 n 0 fm).mono ?_
  rintro e u' w' ⟨rfl, rfl, ⟨r', c', h4⟩, h5⟩
  exact ⟨rfl, rfl, ⟨rs', cell', r', c', h4, h2⟩, h3.trans h5⟩))
 have hgk := h.gk
 have k0 := h.s0
 have k3 := h.s3
 obtain ⟨b0, b1', b2', b3'⟩ := h.gl.blank 0 (by decide)
 simp only [Nat.zero_mul, Nat.zero_add, blankC] at b0 b1' b2' b3'
 have hl := blt k0
 have m1 : max (-510) (min n 510) = n := by rcases hn with rfl | rfl <;> decide
 have m2 : IntKind.i64.wrap (r + n) = r + n := IntWalk.i64_in _ (by have := hsz.2.1; omega)
 have m3 : IntKind.i64.wrap ((L.R : Int) - 1) = (L.R : Int) - 1 := IntWalk.i64_in _ (by have := hsz.2.1; omega)
 obtain ⟨a1, ha1⟩ : ∃ a1, min (r + n) ((L.R : Int) - 1) = a1 := ⟨_, rfl⟩
 obtain ⟨a2, ha2⟩ : ∃ a2, max 0 a1 = a2 := ⟨_, rfl⟩
 have hbd : -510 ≤ r + n - a2 ∧ r + n - a2 ≤ 510 := by have := hsz.2.1; have := hsz.1; omega
 have m4 : IntKind.i64.wrap (r + n - a2) = r + n - a2 := IntWalk.i64_in _ (by omega)
 have HU' := Lib.hid (fun W hb => HU.out W hb _ hbd)
 have hfd := field23_0
 simp only [Cl.v, blankC] at HU'
 clear h hK HU hrc hsz hrr hr0 hn hbd
 go_enter_defers Tryz.func109, Tryz.ntmps109
 go_wp2_with fail
 refine HS.out.mono ?_
 rintro e w1 ⟨rfl, c1⟩
 have FB0 := Lib.hid c1
 have k0' := cellB c1 k0
 have k3' := cellB c1 k3
 have b0' := cellB c1 b0
 have b1'' := cellB c1 b1'
 have b2'' := cellB c1 b2'
 have b3'' := cellB c1 b3'
 clear k0 k3 b0 b1' b2' b3' c1
 go_wp2_with fail
 refine gen_wp ?_
 intro u hu0
 have FB : Below w.heap.size w u := by rw [hu0]; exact FB0.out
 have KFu : ∀ W, Below u.heap.size u W → (W.cell? ⟨L.sb, 3, none⟩ = some (.pointer (some ⟨L.g, 0, none⟩)) ∧ W.cell? ⟨0, 0, none⟩ = some (.int .i32 32) ∧ W.cell? ⟨0, 1, none⟩ = some (.int .i64 0) ∧ W.cell? ⟨0, 2, none⟩ = some (.bool false) ∧ W.cell? ⟨0, 3, none⟩ = some (.int .i64 0)) ∧ True ∧ True := by
  intro W hu
  refine ⟨⟨?_, ?_, ?_, ?_, ?_⟩, trivial, ?_⟩
  ·exact cellB (bel_call (by rw [hu0]; (repeat first | exact Below.refl _ _ | refine bel_alloc ?_ _)) hu) (k3')
  ·exact cellB (bel_call (by rw [hu0]; (repeat first | exact Below.refl _ _ | refine bel_alloc ?_ _)) hu) (b0')
  ·exact cellB (bel_call (by rw [hu0]; (repeat first | exact Below.refl _ _ | refine bel_alloc ?_ _)) hu) (b1'')
  ·exact cellB (bel_call (by rw [hu0]; (repeat first | exact Below.refl _ _ | refine bel_alloc ?_ _)) hu) (b2'')
  ·exact cellB (bel_call (by rw [hu0]; (repeat first | exact Below.refl _ _ | refine bel_alloc ?_ _)) hu) (b3'')
  ·trivial
 clear hu0 k3' b0' b1'' b2'' b3''
 refine wp_only ?_
 refine wp_region_held_drew (S := fun W => (W.cell? ⟨L.sb, 3, none⟩ = some (.pointer (some ⟨L.g, 0, none⟩)) ∧ W.cell? ⟨0, 0, none⟩ = some (.int .i32 32) ∧ W.cell? ⟨0, 1, none⟩ = some (.int .i64 0) ∧ W.cell? ⟨0, 2, none⟩ = some (.bool false) ∧ W.cell? ⟨0, 3, none⟩ = some (.int .i64 0)) ∧ True ∧ True) (by kernel_rfl) (KFu _ (Below.refl _ _).drew) (fun hHeld => ?_)
 have FB := FB.drew
 refine sY 0 25 ?_
 refine sY 1 26 ?_
 refine sY 2 27 ?_
 refine sY 3 28 ?_
 refine sY 4 29 ?_
 refine sY 5 30 ?_
 refine sY 6 31 ?_
 refine sY 7 32 ?_
 refine sY 8 33 ?_
 refine sY 9 34 ?_
 refine sY 10 35 ?_
 refine sO 11 fun K hK => ?_
 obtain ⟨⟨fc0, fc1, fc2, fc3, fc4⟩, _, fb⟩ := hHeld
 go_simp
 refine (HU'.out _ FB).mono ?_
 rintro e w2 ⟨⟨z, rfl⟩, hs⟩
 (try go_wp2_with fail)
 refine hK.out _ _ ?_ (fun hHeld => ?_)
 ·exact ⟨⟨((hs.2).cell (.inl (.inr (.inl rfl))) fc0), ((hs.2).cell (.inl (.inl hgk.1)) fc1), ((hs.2).cell (.inl (.inl hgk.1)) fc2), ((hs.2).cell (.inl (.inl hgk.1)) fc3), ((hs.2).cell (.inl (.inl hgk.1)) fc4)⟩, trivial, trivial⟩
 clear hK K
 try simp only [Act.put, List.setIfInBounds_toArray, List.set_cons_zero, List.set_cons_succ]
 refine wpAnyH_done (by kernel_rfl) ?_ _
 dsimp only [OnlyNormal]
 go_wp2_with fail
 refine leaves_cons (f := 75) (args := #[.pointer (some ⟨L.sb, 0, none⟩), .int .i64 n, .int .i64 0]) (by simp) (by simp [go_sem]) ?_
 refine (HD.out _ _ FB (HE.out _ _ FB hs) _).mono ?_
 rintro e u' w3 ⟨rfl, rfl, h1, h2⟩
 exact ⟨_, results_none rfl _ _ _, rfl, h1, h2⟩
end
end Go.Proofs.YtpjooboohelffaaGreatDoor
/- Top: the screen: Put. -/
namespace Go.Proofs.YtpjooboohelffaaGreatDoor
open Go.RowKit Go.Shelf T05
set_option linter.unusedVariables false
set_option linter.unusedSimpArgs false
set_option maxRecDepth 100000
/-- A grid of a Wyse 60's cells, behind a step. -/
def SlideQ (P : (Nat → Nat → Cl) → Prop) (K : Nat → Prop) (w w' : World) (g rb cp R C : Nat) : Prop := (∃ rs' cell', GridIs K w' g rb cp R C rs' cell' ∧ P cell') ∧ Kept K w w'
def SlideW (K : Nat → Prop) (w w' : World) (g rb cp R C : Nat) : Prop := SlideQ (AllW R C) K w w' g rb cp R C
theorem SlideP.toW {K : Nat → Prop} {w w' : World} {g rb cp R C : Nat} {x : Cl} {cell : Nat → Nat → Cl} (h : SlideP K w w' g rb cp R C x cell) (hx : WCell x) (hw : AllW R C cell) : SlideW K w w' g rb cp R C := by
 obtain ⟨⟨rs', cell', h1, h2⟩, h3⟩ := h
 exact ⟨⟨rs', cell', h1, hw.frm h2 hx⟩, h3⟩
theorem allW_set {R C i j : Nat} {rs : Nat → Nat} {cell : Nat → Nat → Cl} {x : Cl} (hw : AllW R C cell) (hx : WCell x) : AllW R C (setCl rs cell i j x) := by
 intro p q hp hq
 unfold setCl
 split
 ·exact hx
 ·exact hw p q hp hq
theorem put_all {K : Nat → Prop} {g rb cp R C : Nat} {rs : Nat → Nat} {cell : Nat → Nat → Cl} (w : World) (hK : KB K w) (h : GridIs K w g rb cp R C rs cell) (r c : Nat) (hr : r < R) (hc : c < C) (x : Cl) (hx : WCell x) (hw : AllW R C cell) :
  Calls Tryz.prog 152 #[.pointer (some ⟨g, 0, none⟩), plc r c false, x.v, .int .i64 2, blankC.v] w fun e w' => (∃ a b n, e = .returned (.tuple #[plc a b false, .int .i64 n, .int .i64 0]) ∧ inR R C a b) ∧ SlideW K w w' g rb cp R C := by
 by_cases he : c + 1 < C
 ·refine (put_in w hK h r c hr he x blankC).mono ?_
  rintro e w' ⟨rfl, h1, h2⟩
  exact ⟨⟨_, _, _, rfl, by unfold inR; omega⟩, ⟨_, _, h1, allW_set hw hx⟩, h2⟩
 ·refine (put_edge w hK h r c hr (by omega) x blankC).mono ?_
  rintro e w' ⟨⟨n, rfl⟩, h1⟩
  refine ⟨⟨_, _, _, rfl, ?_⟩, ?_⟩
  ·have := h.r1; have := h.c1; unfold inR nextR; omega
  ·exact (show SlideP K w w' g rb cp R C blankC (setCl rs cell r c x) from h1).toW wcell_blank (allW_set hw hx)
section
variable {K : Nat → Prop} {L : Lay} {rs : Nat → Nat} {cell : Nat → Nat → Cl} {r c : Int} {S : Int → Bool}
/-- Behind a step of the grid's, and stores into blocks of the call's own. -/
theorem Scr.slidW {P : (Nat → Nat → Cl) → Prop} {w W W2 W3 : World} (h : Scr K L w rs cell r c S) (hK : KB K w) (hb : Below w.heap.size w W) (hs : SlideQ P (Loc (L.KS K) w W) W W2 L.g L.rb L.cp L.R L.C) (hk : Kept (fun k => ¬ (w.heap.size ≤ k ∧ k < W.heap.size)) W2 W3) :
  (∃ rs' cell', Scr K L W3 rs' cell' r c S ∧ P cell') ∧ Kept K w W3 := by
 obtain ⟨⟨rs', cell', h1, h2⟩, h3⟩ := hs
 have hkk : Kept (L.KS K) w W2 := (Kept.ofBelow hb (h.kb hK)).trans (h3.less (fun k hk => .inl hk))
 have hk3 : Kept (L.KS K) w W3 := hkk.trans (hk.less (fun k hk hh => by have := h.kb hK k hk; omega))
 have k1 := fun {k} (hk : L.KS K k) => hk3.block k hk
 have e1 : W3.heap[L.sb]? = w.heap[L.sb]? := k1 (.inr (.inl rfl))
 have e3 : W3.heap[L.tb]? = w.heap[L.tb]? := k1 (.inr (.inr (.inr (.inl rfl))))
 have e4 : W3.heap[L.mb]? = w.heap[L.mb]? := k1 (.inr (.inr (.inr (.inr rfl))))
 have hg := h1.to (W' := W3) (hk.block _ (fun hh => by have := h.gr.glt; omega)) (hk.block _ (fun hh => h1.kr (.inr hh))) (fun i hi => hk.block _ (fun hh => h1.ks i hi (.inr hh)))
 exact ⟨⟨rs', cell', ⟨h.gk, h.gl.kept h.gk (hk3.less (fun k hk => .inl hk)), h.ks, h.km, h.sg, h.st, h.sm, h.mg, h.mt, (World.cell?_of_block (a := ⟨L.sb, 0, none⟩) e1).trans h.s0, (World.cell?_of_block (a := ⟨L.sb, 1, none⟩) e1).trans h.s1,
  (World.cell?_of_block (a := ⟨L.sb, 2, none⟩) e1).trans h.s2, (World.cell?_of_block (a := ⟨L.sb, 3, none⟩) e1).trans h.s3, (World.cell?_of_block (a := ⟨L.sb, 4, none⟩) e1).trans h.s4, h.sB.to e1, h.rc,
  hg.under (.inr (.inr (.inl rfl))) (fun hk => hg.kr (.inl hk)) (fun i hi hk => hg.ks i hi (.inl hk)), tsTo h.ts e3 e4⟩, h2⟩, hk3.less (fun k hk => .inl hk)⟩
/-- .. and the cursor is set. -/
theorem Scr.slidP {P : (Nat → Nat → Cl) → Prop} {w W W2 W3 : World} (h : Scr K L w rs cell r c S) (hK : KB K w) (hb : Below w.heap.size w W) (hs : SlideQ P (Loc (L.KS K) w W) W W2 L.g L.rb L.cp L.R L.C) (hk : Kept (fun k => ¬ (w.heap.size ≤ k ∧ k < W.heap.size)) W2 W3)
  {r' c' : Int} (hr : inR L.R L.C r' c') : (∃ rs' cell', Scr K L (plSet W3 L.sb r' c') rs' cell' r' c' S ∧ P cell') ∧ Kept K w (plSet W3 L.sb r' c') := by
 obtain ⟨⟨rs', cell', h1, h2⟩, h3⟩ := h.slidW hK hb hs hk
 obtain ⟨h4, h5⟩ := h1.place hr
 exact ⟨⟨rs', cell', h4, h2⟩, h3.trans h5⟩
set_option maxHeartbeats 4000000 in
/-- .. where nothing is guarded; P, PC: what the cells, and the cursor, are then. -/
theorem s_put0 (w : World) (hK : KB K w) (h : Scr K L w rs cell r c S) (x : Cl) (P : (Nat → Nat → Cl) → Prop) (PC : Int → Int → Prop) (hrc : ∀ a b, PC a b → inR L.R L.C a b)
  (hP : ∀ (K2 : Nat → Prop) W, KB K2 W → GridIs K2 W L.g L.rb L.cp L.R L.C rs cell → Calls Tryz.prog 152 #[.pointer (some ⟨L.g, 0, none⟩), plc r c false, x.v, .int .i64 2, blankC.v] W (fun e w' => (∃ a b n, e = .returned (.tuple #[plc a b false, .int .i64 n, .int .i64 0]) ∧ PC a b) ∧ SlideQ P K2 W w' L.g L.rb L.cp L.R L.C)) :
  Calls Tryz.prog 112 #[.pointer (some ⟨L.sb, 0, none⟩), x.v, .int .i64 2, .bool false] w fun e w' => e = .returned (.tuple #[]) ∧ (∃ rs' cell' r' c', Scr K L w' rs' cell' r' c' S ∧ P cell' ∧ PC r' c') ∧ Kept K w w' := by
 obtain ⟨i, j, rfl, rfl, hi, hj⟩ := inR_nat h.rc
 have HP := Lib.hid (fun W (hb : Below w.heap.size w W) => hP (Loc (L.KS K) w W) W ((h.kb hK).loc hb) (h.gr.loc hb))
 have HE2 := Lib.hid (fun W W2 W3 a b (hb : Below w.heap.size w W) hs hk hr => h.slidP (P := P) (W2 := W2) (W3 := W3) (r' := a) (c' := b) hK hb hs hk hr)
 have Hrc := Lib.hid hrc
 have hgk := h.gk
 have k0 := h.s0
 have k1 := h.s1
 have k2 := h.s2
 have k3 := h.s3
 have hsb := h.sB.blk
 obtain ⟨b0, b1', b2', b3'⟩ := h.gl.blank 0 (by decide)
 simp only [Nat.zero_mul, Nat.zero_add, blankC] at b0 b1' b2' b3'
 have hl := blt k0
 have hl0 := blt b0
 simp only [Cl.v, blankC] at HP ⊢
 clear h hK hP hrc
 go_enter Tryz.func112, Tryz.ntmps112
 go_wp2_with fail
 refine gen_wp ?_
 intro u hu0
 have FB : Below w.heap.size w u := by rw [hu0]; exact bel_alloc (bel_alloc (Below.refl _ _) _) _
 have KFu : ∀ W, Below u.heap.size u W → (W.cell? ⟨w.heap.size, 0, none⟩ = some (.int .i32 x.g) ∧ W.cell? ⟨w.heap.size, 1, none⟩ = some (.int .i64 x.a) ∧ W.cell? ⟨w.heap.size, 2, none⟩ = some (.bool x.d) ∧ W.cell? ⟨w.heap.size, 3, none⟩ = some (.int .i64 x.m) ∧ W.cell? ⟨L.sb, 0, none⟩ = some (.int .i64 (i : Int)) ∧ W.cell? ⟨L.sb, 1, none⟩ = some (.int .i64 (j : Int)) ∧ W.cell? ⟨L.sb, 2, none⟩ = some (.bool false) ∧ W.cell? ⟨L.sb, 3, none⟩ = some (.pointer (some ⟨L.g, 0, none⟩)) ∧ W.cell? ⟨0, 0, none⟩ = some (.int .i32 32) ∧ W.cell? ⟨0, 1, none⟩ = some (.int .i64 0) ∧ W.cell? ⟨0, 2, none⟩ = some (.bool false) ∧ W.cell? ⟨0, 3, none⟩ = some (.int .i64 0)) ∧ (Blk W (w.heap.size + 1) 3 ∧ Blk W (L.sb) 5) ∧ True := by
  intro W hu
  refine ⟨⟨?_, ?_, ?_, ?_, ?_, ?_, ?_, ?_, ?_, ?_, ?_, ?_⟩, ⟨?_, ?_⟩, ?_⟩
  ·exact (hu.cell (by rw [hu0]; simp <;> omega)).trans (by rw [hu0]; simp [go_sem])
  ·exact (hu.cell (by rw [hu0]; simp <;> omega)).trans (by rw [hu0]; simp [go_sem])
  ·exact (hu.cell (by rw [hu0]; simp <;> omega)).trans (by rw [hu0]; simp [go_sem])
  ·exact (hu.cell (by rw [hu0]; simp <;> omega)).trans (by rw [hu0]; simp [go_sem])
  ·exact cellB (bel_call (by rw [hu0]; (repeat first | exact Below.refl _ _ | refine bel_alloc ?_ _)) hu) (k0)
  ·exact cellB (bel_call (by rw [hu0]; (repeat first | exact Below.refl _ _ | refine bel_alloc ?_ _)) hu) (k1)
  ·exact cellB (bel_call (by rw [hu0]; (repeat first | exact Below.refl _ _ | refine bel_alloc ?_ _)) hu) (k2)
  ·exact cellB (bel_call (by rw [hu0]; (repeat first | exact Below.refl _ _ | refine bel_alloc ?_ _)) hu) (k3)
  ·exact cellB (bel_call (by rw [hu0]; (repeat first | exact Below.refl _ _ | refine bel_alloc ?_ _)) hu) (b0)
  ·exact cellB (bel_call (by rw [hu0]; (repeat first | exact Below.refl _ _ | refine bel_alloc ?_ _)) hu) (b1')
  ·exact cellB (bel_call (by rw [hu0]; (repeat first | exact Below.refl _ _ | refine bel_alloc ?_ _)) hu) (b2')
  ·exact cellB (bel_call (by rw [hu0]; (repeat first | exact Below.refl _ _ | refine bel_alloc ?_ _)) hu) (b3')
  ·exact Blk.later (by rw [hu0]; exact Blk.new (by simp) rfl) hu
  ·exact Blk.later (hsb) (bel_call (by rw [hu0]; (repeat first | exact Below.refl _ _ | refine bel_alloc ?_ _)) hu)
  ·trivial
 clear hu0 k0 k1 k2 k3 hsb b0 b1' b2' b3'
 have hlu := (KFu u (Below.refl _ _)).2.1.1.lt
 refine wp_region_held_drew (S := fun W => (W.cell? ⟨w.heap.size, 0, none⟩ = some (.int .i32 x.g) ∧ W.cell? ⟨w.heap.size, 1, none⟩ = some (.int .i64 x.a) ∧ W.cell? ⟨w.heap.size, 2, none⟩ = some (.bool x.d) ∧ W.cell? ⟨w.heap.size, 3, none⟩ = some (.int .i64 x.m) ∧ W.cell? ⟨L.sb, 0, none⟩ = some (.int .i64 (i : Int)) ∧ W.cell? ⟨L.sb, 1, none⟩ = some (.int .i64 (j : Int)) ∧ W.cell? ⟨L.sb, 2, none⟩ = some (.bool false) ∧ W.cell? ⟨L.sb, 3, none⟩ = some (.pointer (some ⟨L.g, 0, none⟩)) ∧ W.cell? ⟨0, 0, none⟩ = some (.int .i32 32) ∧ W.cell? ⟨0, 1, none⟩ = some (.int .i64 0) ∧ W.cell? ⟨0, 2, none⟩ = some (.bool false) ∧ W.cell? ⟨0, 3, none⟩ = some (.int .i64 0)) ∧ (Blk W (w.heap.size + 1) 3 ∧ Blk W (L.sb) 5) ∧ True) (by kernel_rfl) (KFu _ (Below.refl _ _).drew) (fun hHeld => ?_)
 have FB := FB.drew
 refine sY 0 31 ?_
 refine sY 1 32 ?_
 refine sY 2 33 ?_
 refine sY 3 34 ?_
 refine sY 4 35 ?_
 refine sY 5 36 ?_
 refine sY 6 37 ?_
 refine sY 7 38 ?_
 refine sY 8 39 ?_
 refine sY 9 40 ?_
 refine sY 10 41 ?_
 refine sO 11 fun K hK => ?_
 obtain ⟨⟨fc0, fc1, fc2, fc3, fc4, fc5, fc6, fc7, fc8, fc9, fc10, fc11⟩, ⟨fr0, fr1⟩, fb⟩ := hHeld
 go_simp
 refine (HP.out _ FB).mono ?_
 rintro e w2 ⟨⟨a, b, z, rfl, hpc⟩, hs⟩
 (try go_wp2_with fail)
 refine hK.out _ _ ?_ (fun hHeld => ?_)
 ·exact ⟨⟨((hs.2).cell (.inr ⟨by first | omega | (simp <;> omega), blt fc0⟩) fc0), ((hs.2).cell (.inr ⟨by first | omega | (simp <;> omega), blt fc1⟩) fc1), ((hs.2).cell (.inr ⟨by first | omega | (simp <;> omega), blt fc2⟩) fc2), ((hs.2).cell (.inr ⟨by first | omega | (simp <;> omega), blt fc3⟩) fc3), ((hs.2).cell (.inl (.inr (.inl rfl))) fc4), ((hs.2).cell (.inl (.inr (.inl rfl))) fc5), ((hs.2).cell (.inl (.inr (.inl rfl))) fc6), ((hs.2).cell (.inl (.inr (.inl rfl))) fc7), ((hs.2).cell (.inl (.inl hgk.1)) fc8), ((hs.2).cell (.inl (.inl hgk.1)) fc9), ((hs.2).cell (.inl (.inl hgk.1)) fc10), ((hs.2).cell (.inl (.inl hgk.1)) fc11)⟩, ⟨fr0.to ((hs.2).block _ (.inr ⟨by first | omega | (simp <;> omega), fr0.lt⟩)), fr1.to ((hs.2).block _ (.inl (.inr (.inl rfl))))⟩, trivial⟩
 clear hK K
 try simp only [Act.put, List.setIfInBounds_toArray, List.set_cons_zero, List.set_cons_succ]
 refine sY 12 30 ?_
 refine sY 13 43 ?_
 refine sY 14 44 ?_
 refine sY 15 45 ?_
 refine sO 16 fun K hK => ?_
 obtain ⟨⟨fc0, fc1, fc2, fc3, fc4, fc5, fc6, fc7, fc8, fc9, fc10, fc11⟩, ⟨fr0, fr1⟩, fb⟩ := hHeld
 obtain ⟨x0, e0, z0⟩ := fr0.get 0 (by decide)
 obtain ⟨x1, e1, z1⟩ := fr0.get 1 (by decide)
 obtain ⟨x2, e2, z2⟩ := fr0.get 2 (by decide)
 try simp only [World.cell?_drew, World.frozen?_drew] at e0 z0 e1 z1 e2 z2
 go_simp
 (try go_wp2_with fail)
 refine hK.out _ _ ?_ (fun hHeld => ?_)
 ·exact ⟨⟨(cs_other (cs_other (cs_other fc0 (by simp <;> omega)) (by simp <;> omega)) (by simp <;> omega)), (cs_other (cs_other (cs_other fc1 (by simp <;> omega)) (by simp <;> omega)) (by simp <;> omega)), (cs_other (cs_other (cs_other fc2 (by simp <;> omega)) (by simp <;> omega)) (by simp <;> omega)), (cs_other (cs_other (cs_other fc3 (by simp <;> omega)) (by simp <;> omega)) (by simp <;> omega)), (cs_other (cs_other (cs_other fc4 (by simp <;> omega)) (by simp <;> omega)) (by simp <;> omega)), (cs_other (cs_other (cs_other fc5 (by simp <;> omega)) (by simp <;> omega)) (by simp <;> omega)), (cs_other (cs_other (cs_other fc6 (by simp <;> omega)) (by simp <;> omega)) (by simp <;> omega)), (cs_other (cs_other (cs_other fc7 (by simp <;> omega)) (by simp <;> omega)) (by simp <;> omega)), (cs_other (cs_other (cs_other fc8 (by simp <;> omega)) (by simp <;> omega)) (by simp <;> omega)), (cs_other (cs_other (cs_other fc9 (by simp <;> omega)) (by simp <;> omega)) (by simp <;> omega)), (cs_other (cs_other (cs_other fc10 (by simp <;> omega)) (by simp <;> omega)) (by simp <;> omega)), (cs_other (cs_other (cs_other fc11 (by simp <;> omega)) (by simp <;> omega)) (by simp <;> omega))⟩, ⟨(((fr0).set _ _).set _ _).set _ _, (((fr1).set _ _).set _ _).set _ _⟩, trivial⟩
 clear hK K
 try simp only [Act.put, List.setIfInBounds_toArray, List.set_cons_zero, List.set_cons_succ]
 refine sY 17 9 ?_
 refine wpAnyH_done (by kernel_rfl) ?_ _
 have hk : Kept (fun k => ¬ (w.heap.size ≤ k ∧ k < u.drew.heap.size)) w2 (plSet w2 (w.heap.size + 1) a b) := plSet_kept (fun hh => hh ⟨Nat.le_succ _, hlu⟩) a b
 obtain ⟨y0, f0, v0⟩ := fr1.get 0 (by decide)
 obtain ⟨y1, f1, v1⟩ := fr1.get 1 (by decide)
 obtain ⟨y2, f2, v2⟩ := fr1.get 2 (by decide)
 have hnb : L.sb ≠ w.heap.size + 1 := by omega
 have hnb2 : w.heap.size + 1 ≠ L.sb := by omega
 have Hs := Lib.hid hs
 have Hk := Lib.hid hk
 have hab := Hrc.out a b hpc
 have Hpc := Lib.hid hpc
 clear hHeld hs hk hpc fc0 fc1 fc2 fc3 fc4 fc5 fc6 fc7 fc8 fc9 fc10 fc11 fr0 fr1 HP KFu
 go_wp2_with fail
 go_end0
 obtain ⟨⟨rs', cell', h1, h2⟩, h3⟩ := HE2.out _ _ _ a b FB Hs.out Hk.out hab
 exact ⟨rfl, ⟨rs', cell', a, b, h1, h2, Hpc.out⟩, h3⟩
set_option maxHeartbeats 4000000 in
theorem s_put (w : World) (hK : KB K w) (h : Scr K L w rs cell r c S) (hw : AllW L.R L.C cell) (x : Cl) (hx : WCell x) (gd : Bool) :
  Calls Tryz.prog 112 #[.pointer (some ⟨L.sb, 0, none⟩), x.v, .int .i64 2, .bool gd] w fun e w' => e = .returned (.tuple #[]) ∧ (∃ rs' cell' r' c', Scr K L w' rs' cell' r' c' S ∧ AllW L.R L.C cell') ∧ Kept K w w' := by
 obtain ⟨i, j, rfl, rfl, hi, hj⟩ := inR_nat h.rc
 cases gd with
 | false => exact (s_put0 w hK h x (AllW L.R L.C) (fun a b => inR L.R L.C a b) (fun a b h => h) (fun K2 W hk hg => put_all W hk hg i j hi hj x hx hw)).mono fun e w' ⟨h1, ⟨rs', cell', r', c', h2, h4, _⟩, h3⟩ => ⟨h1, ⟨rs', cell', r', c', h2, h4⟩, h3⟩
 | true =>
  have HG := Lib.hid (fun W (hb : Below w.heap.size w W) => (guard_any (K := Loc (L.KS K) w W) W ((h.kb hK).loc hb) (h.gr.loc hb) i j false x).mono (R' := fun e w' => (∃ a b z, e = .returned (.tuple #[plc a b false, .int .i64 z]) ∧ inR L.R L.C a b) ∧ SlideW (Loc (L.KS K) w W) W w' L.g L.rb L.cp L.R L.C) (fun e w' h => ⟨h.1, h.2.toW hx hw⟩))
  have HE := Lib.hid (fun W W2 W3 (hb : Below w.heap.size w W) hs hk => h.slidW (P := AllW L.R L.C) (W2 := W2) (W3 := W3) hK hb hs hk)
  have HE2 := Lib.hid (fun W W2 W3 a b (hb : Below w.heap.size w W) hs hk hr => h.slidP (P := AllW L.R L.C) (W2 := W2) (W3 := W3) (r' := a) (c' := b) hK hb hs hk hr)
  have hgk := h.gk
  have k0 := h.s0
  have k1 := h.s1
  have k2 := h.s2
  have k3 := h.s3
  have hsb := h.sB.blk
  obtain ⟨b0, b1', b2', b3'⟩ := h.gl.blank 0 (by decide)
  simp only [Nat.zero_mul, Nat.zero_add, blankC] at b0 b1' b2' b3'
  have hl := blt k0
  have hl0 := blt b0
  simp only [Cl.v, blankC] at HG ⊢
  clear h hK hw hx
  go_enter Tryz.func112, Tryz.ntmps112
  go_wp2_with fail
  refine gen_wp ?_
  intro u hu0
  have FB : Below w.heap.size w u := by rw [hu0]; exact bel_alloc (bel_alloc (Below.refl _ _) _) _
  have KFu : ∀ W, Below u.heap.size u W → (W.cell? ⟨w.heap.size, 0, none⟩ = some (.int .i32 x.g) ∧ W.cell? ⟨w.heap.size, 1, none⟩ = some (.int .i64 x.a) ∧ W.cell? ⟨w.heap.size, 2, none⟩ = some (.bool x.d) ∧ W.cell? ⟨w.heap.size, 3, none⟩ = some (.int .i64 x.m) ∧ W.cell? ⟨L.sb, 0, none⟩ = some (.int .i64 (i : Int)) ∧ W.cell? ⟨L.sb, 1, none⟩ = some (.int .i64 (j : Int)) ∧ W.cell? ⟨L.sb, 2, none⟩ = some (.bool false) ∧ W.cell? ⟨L.sb, 3, none⟩ = some (.pointer (some ⟨L.g, 0, none⟩))) ∧ (Blk W (w.heap.size + 1) 3 ∧ Blk W (L.sb) 5) ∧ True := by
   intro W hu
   refine ⟨⟨?_, ?_, ?_, ?_, ?_, ?_, ?_, ?_⟩, ⟨?_, ?_⟩, ?_⟩
   ·exact (hu.cell (by rw [hu0]; simp <;> omega)).trans (by rw [hu0]; simp [go_sem])
   ·exact (hu.cell (by rw [hu0]; simp <;> omega)).trans (by rw [hu0]; simp [go_sem])
   ·exact (hu.cell (by rw [hu0]; simp <;> omega)).trans (by rw [hu0]; simp [go_sem])
   ·exact (hu.cell (by rw [hu0]; simp <;> omega)).trans (by rw [hu0]; simp [go_sem])
   ·exact cellB (bel_call (by rw [hu0]; (repeat first | exact Below.refl _ _ | refine bel_alloc ?_ _)) hu) (k0)
   ·exact cellB (bel_call (by rw [hu0]; (repeat first | exact Below.refl _ _ | refine bel_alloc ?_ _)) hu) (k1)
   ·exact cellB (bel_call (by rw [hu0]; (repeat first | exact Below.refl _ _ | refine bel_alloc ?_ _)) hu) (k2)
   ·exact cellB (bel_call (by rw [hu0]; (repeat first | exact Below.refl _ _ | refine bel_alloc ?_ _)) hu) (k3)
   ·exact Blk.later (by rw [hu0]; exact Blk.new (by simp) rfl) hu
   ·exact Blk.later (hsb) (bel_call (by rw [hu0]; (repeat first | exact Below.refl _ _ | refine bel_alloc ?_ _)) hu)
   ·trivial
  clear hu0 k0 k1 k2 k3 hsb b0 b1' b2' b3'
  have hlu := (KFu u (Below.refl _ _)).2.1.1.lt
  refine wp_region_held_drew (S := fun W => (W.cell? ⟨w.heap.size, 0, none⟩ = some (.int .i32 x.g) ∧ W.cell? ⟨w.heap.size, 1, none⟩ = some (.int .i64 x.a) ∧ W.cell? ⟨w.heap.size, 2, none⟩ = some (.bool x.d) ∧ W.cell? ⟨w.heap.size, 3, none⟩ = some (.int .i64 x.m) ∧ W.cell? ⟨L.sb, 0, none⟩ = some (.int .i64 (i : Int)) ∧ W.cell? ⟨L.sb, 1, none⟩ = some (.int .i64 (j : Int)) ∧ W.cell? ⟨L.sb, 2, none⟩ = some (.bool false) ∧ W.cell? ⟨L.sb, 3, none⟩ = some (.pointer (some ⟨L.g, 0, none⟩))) ∧ (Blk W (w.heap.size + 1) 3 ∧ Blk W (L.sb) 5) ∧ True) (by kernel_rfl) (KFu _ (Below.refl _ _).drew) (fun hHeld => ?_)
  have FB := FB.drew
  refine sY 0 18 ?_
  refine sY 1 19 ?_
  refine sY 2 20 ?_
  refine sY 3 21 ?_
  refine sY 4 22 ?_
  refine sY 5 23 ?_
  refine sY 6 24 ?_
  refine sY 7 25 ?_
  refine sY 8 26 ?_
  refine sO 9 fun K hK => ?_
  obtain ⟨⟨fc0, fc1, fc2, fc3, fc4, fc5, fc6, fc7⟩, ⟨fr0, fr1⟩, fb⟩ := hHeld
  go_simp
  refine (HG.out _ FB).mono ?_
  rintro e w2 ⟨⟨a, b, z, rfl, hab⟩, hs⟩
  (try go_wp2_with fail)
  refine hK.out _ _ ?_ (fun hHeld => ?_)
  ·exact ⟨⟨((hs.2).cell (.inr ⟨by first | omega | (simp <;> omega), blt fc0⟩) fc0), ((hs.2).cell (.inr ⟨by first | omega | (simp <;> omega), blt fc1⟩) fc1), ((hs.2).cell (.inr ⟨by first | omega | (simp <;> omega), blt fc2⟩) fc2), ((hs.2).cell (.inr ⟨by first | omega | (simp <;> omega), blt fc3⟩) fc3), ((hs.2).cell (.inl (.inr (.inl rfl))) fc4), ((hs.2).cell (.inl (.inr (.inl rfl))) fc5), ((hs.2).cell (.inl (.inr (.inl rfl))) fc6), ((hs.2).cell (.inl (.inr (.inl rfl))) fc7)⟩, ⟨fr0.to ((hs.2).block _ (.inr ⟨by first | omega | (simp <;> omega), fr0.lt⟩)), fr1.to ((hs.2).block _ (.inl (.inr (.inl rfl))))⟩, trivial⟩
  clear hK K
  try simp only [Act.put, List.setIfInBounds_toArray, List.set_cons_zero, List.set_cons_succ]
  refine sY 10 17 ?_
  refine sY 11 28 ?_
  refine sY 12 29 ?_
  refine sO 13 fun K hK => ?_
  obtain ⟨⟨fc0, fc1, fc2, fc3, fc4, fc5, fc6, fc7⟩, ⟨fr0, fr1⟩, fb⟩ := hHeld
  obtain ⟨x0, e0, z0⟩ := fr0.get 0 (by decide)
  obtain ⟨x1, e1, z1⟩ := fr0.get 1 (by decide)
  obtain ⟨x2, e2, z2⟩ := fr0.get 2 (by decide)
  try simp only [World.cell?_drew, World.frozen?_drew] at e0 z0 e1 z1 e2 z2
  go_simp
  (try go_wp2_with fail)
  refine hK.out _ _ ?_ (fun hHeld => ?_)
  ·exact ⟨⟨(cs_other (cs_other (cs_other fc0 (by simp <;> omega)) (by simp <;> omega)) (by simp <;> omega)), (cs_other (cs_other (cs_other fc1 (by simp <;> omega)) (by simp <;> omega)) (by simp <;> omega)), (cs_other (cs_other (cs_other fc2 (by simp <;> omega)) (by simp <;> omega)) (by simp <;> omega)), (cs_other (cs_other (cs_other fc3 (by simp <;> omega)) (by simp <;> omega)) (by simp <;> omega)), (cs_other (cs_other (cs_other fc4 (by simp <;> omega)) (by simp <;> omega)) (by simp <;> omega)), (cs_other (cs_other (cs_other fc5 (by simp <;> omega)) (by simp <;> omega)) (by simp <;> omega)), (cs_other (cs_other (cs_other fc6 (by simp <;> omega)) (by simp <;> omega)) (by simp <;> omega)), (cs_other (cs_other (cs_other fc7 (by simp <;> omega)) (by simp <;> omega)) (by simp <;> omega))⟩, ⟨(((fr0).set _ _).set _ _).set _ _, (((fr1).set _ _).set _ _).set _ _⟩, trivial⟩
  clear hK K
  try simp only [Act.put, List.setIfInBounds_toArray, List.set_cons_zero, List.set_cons_succ]
  refine sY 14 9 ?_
  refine wpAnyH_done (by kernel_rfl) ?_ _
  have hk : Kept (fun k => ¬ (w.heap.size ≤ k ∧ k < u.drew.heap.size)) w2 (plSet w2 (w.heap.size + 1) a b) := plSet_kept (fun hh => hh ⟨Nat.le_succ _, hlu⟩) a b
  obtain ⟨y0, f0, v0⟩ := fr1.get 0 (by decide)
  obtain ⟨y1, f1, v1⟩ := fr1.get 1 (by decide)
  obtain ⟨y2, f2, v2⟩ := fr1.get 2 (by decide)
  have hnb : L.sb ≠ w.heap.size + 1 := by omega
  have hnb2 : w.heap.size + 1 ≠ L.sb := by omega
  have Hs := Lib.hid hs
  have Hk := Lib.hid hk
  clear hHeld hs hk fc0 fc1 fc2 fc3 fc4 fc5 fc6 fc7 fr0 fr1 HG KFu
  by_cases hz : z = 0
  ·subst hz
   go_wp2_with fail
   go_end0
   obtain ⟨⟨rs', cell', h1, h2⟩, h3⟩ := HE2.out _ _ _ a b FB Hs.out Hk.out hab
   exact ⟨rfl, ⟨rs', cell', a, b, h1, h2⟩, h3⟩
  ·go_wp2_with fail
   go_end0
   obtain ⟨⟨rs', cell', h1, h2⟩, h3⟩ := HE.out _ _ _ FB Hs.out Hk.out
   exact ⟨rfl, ⟨rs', cell', _, _, h1, h2⟩, h3⟩
end
end Go.Proofs.YtpjooboohelffaaGreatDoor
