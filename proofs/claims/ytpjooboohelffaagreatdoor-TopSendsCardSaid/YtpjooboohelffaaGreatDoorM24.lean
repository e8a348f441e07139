/- TopLooks and TopSends, helper 25 of 27. It holds: wyse: ground, all bytes; wyse: take; wyse: take whatever the byte, Feed; what is fed for a reply; wyse: Drop; wyse: On. Each theorem states its own conditions. -/
import Derived.Test.YtpjooboohelffaaGreatDoorM23
import Derived.Test.YtpjooboohelffaaGreatDoorM17
import Derived.Test.YtpjooboohelffaaGreatDoorM21
/- Top: wyse: ground, all bytes. -/
namespace Go.Proofs.YtpjooboohelffaaGreatDoor
open Go.RowKit Go.Shelf T05
set_option linter.unusedVariables false
set_option linter.unusedSimpArgs false
set_option maxRecDepth 100000
section
variable {K : Nat → Prop} {L : Lay} {tm qb lb : Nat} {t : Tm} {f : Nat} {Q : List Int} {ov : Bool}
set_option maxHeartbeats 400000 in
/-- A byte that is shown; P: what the put leaves. -/
theorem y_shown (w : World) (hK : KB K w) (h : WyA K L tm qb lb w t f Q ov) (b : Nat) (h1 : 32 ≤ b) (h2 : b ≤ 126) (P : World → Prop)
  (hP : ∀ W, Below w.heap.size w W → Calls Tryz.prog 80 #[.pointer (some ⟨tm, 0, none⟩), Cl.v ⟨tabT (if t.gr then 4 else 1) b, t.at_, false, 0⟩] W (fun e w' => e = .returned (.tuple #[]) ∧ P w')) :
  Calls Tryz.prog 50 #[.pointer (some ⟨tm, 0, none⟩), .int .u8 b] w fun e w' => e = .returned (.bool false) ∧ P w' := by
 obtain ⟨rs, cell, r, c, S, h, ha⟩ := h
 have k4 := h.ti.t4
 have k7 := h.ti.t7
 have hl0 := blt k4
 have q1 : ((b : Int) == 5) = false := by simp; omega
 have q2 : ((b : Int) == 8) = false := by simp; omega
 have q3 : ((b : Int) == 9) = false := by simp; omega
 have q4 : ((b : Int) == 10) = false := by simp; omega
 have q5 : ((b : Int) == 11) = false := by simp; omega
 have q6 : ((b : Int) == 12) = false := by simp; omega
 have q7 : ((b : Int) == 13) = false := by simp; omega
 have q8 : ((b : Int) == 26) = false := by simp; omega
 have q9 : ((b : Int) == 30) = false := by simp; omega
 have g1 : ¬ (b : Int) < 32 := by omega
 have g2 : ¬ (126 : Int) < (b : Int) := by omega
 have HO := Lib.hid (fun (s : Int) (hs : s = 1 ∨ s = 4) W => Of_any s hs b (by omega) W)
 have HP := Lib.hid hP
 have Hk7 := Lib.hid (fun W (hb : Below w.heap.size w W) => cellB hb k7)
 clear h ha hK h1 h2 hP
 cases hg : t.gr with
 | true =>
  rw [hg] at k4
  have HO := Lib.hid (HO.out 4 (.inr rfl))
  simp only [hg, if_true, Cl.v] at HP
  clear hg
  go_enter Tryz.func50, Tryz.ntmps50
  go_wp2_with fail
  refine gen_wp ?_
  intro u hu0
  have FB : Below w.heap.size w u := by rw [hu0]; exact Below.refl _ _
  have KFu : ∀ W, Below u.heap.size u W → True ∧ True ∧ True := by
   intro W hu
   refine ⟨trivial, trivial, ?_⟩
   ·trivial
  clear hu0 k4 k7
  refine wp_region_held_drew (S := fun W => True ∧ True ∧ True) (by kernel_rfl) (KFu _ (Below.refl _ _).drew) (fun hHeld => ?_)
  have FB := FB.drew
  refine sY 0 18 ?_
  refine sY 1 19 ?_
  refine sY 2 20 ?_
  refine sY 4 22 ?_
  refine sY 5 23 ?_
  refine sY 6 24 ?_
  refine wpAnyH_ready (rs := [3, 7]) (by kernel_rfl) (by simp) ?_
  refine AllReadyH.cons rfl (fun K hK => ?_) (AllReadyH.cons rfl (fun K hK => ?_) (AllReadyH.nil))
  ·obtain ⟨_, _, fb⟩ := hHeld
   go_simp
   refine (HO.out _).mono ?_
   rintro e w1 ⟨rfl, b1⟩
   have FB := bel_call FB b1
   (try go_wp2_with fail)
   refine hK.out _ _ ?_ (fun hHeld => ?_)
   ·exact ⟨trivial, trivial, trivial⟩
   clear hK K
   try simp only [Act.put, List.setIfInBounds_toArray, List.set_cons_zero, List.set_cons_succ]
   refine sO 7 fun K hK => ?_
   have p0 := Hk7.out _ FB
   go_simp
   (try go_wp2_with fail)
   refine hK.out _ _ ?_ (fun hHeld => ?_)
   ·exact hHeld
   clear hK K
   try simp only [Act.put, List.setIfInBounds_toArray, List.set_cons_zero, List.set_cons_succ]
   refine sY 8 26 ?_
   refine sO 9 fun K hK => ?_
   go_simp
   refine (HP.out _ FB).mono ?_
   rintro e w2 ⟨rfl, h1⟩
   (try go_wp2_with fail)
   refine hK.out _ _ ?_ (fun hHeld => ?_)
   ·exact ⟨trivial, trivial, trivial⟩
   clear hK K
   try simp only [Act.put, List.setIfInBounds_toArray, List.set_cons_zero, List.set_cons_succ]
   refine wpAnyH_done (by kernel_rfl) ?_ _
   go_wp2_with fail
   go_ret
   exact ⟨rfl, h1⟩
  ·have p0 := Hk7.out _ FB
   go_simp
   (try go_wp2_with fail)
   refine hK.out _ _ ?_ (fun hHeld => ?_)
   ·exact hHeld
   clear hK K
   try simp only [Act.put, List.setIfInBounds_toArray, List.set_cons_zero, List.set_cons_succ]
   refine sO 3 fun K hK => ?_
   obtain ⟨_, _, fb⟩ := hHeld
   go_simp
   refine (HO.out _).mono ?_
   rintro e w1 ⟨rfl, b1⟩
   have FB := bel_call FB b1
   (try go_wp2_with fail)
   refine hK.out _ _ ?_ (fun hHeld => ?_)
   ·exact ⟨trivial, trivial, trivial⟩
   clear hK K
   try simp only [Act.put, List.setIfInBounds_toArray, List.set_cons_zero, List.set_cons_succ]
   refine sY 8 26 ?_
   refine sO 9 fun K hK => ?_
   go_simp
   refine (HP.out _ FB).mono ?_
   rintro e w2 ⟨rfl, h1⟩
   (try go_wp2_with fail)
   refine hK.out _ _ ?_ (fun hHeld => ?_)
   ·exact ⟨trivial, trivial, trivial⟩
   clear hK K
   try simp only [Act.put, List.setIfInBounds_toArray, List.set_cons_zero, List.set_cons_succ]
   refine wpAnyH_done (by kernel_rfl) ?_ _
   go_wp2_with fail
   go_ret
   exact ⟨rfl, h1⟩
 | false =>
  rw [hg] at k4
  have HO := Lib.hid (HO.out 1 (.inl rfl))
  simp only [hg, Bool.false_eq_true, if_false, Cl.v] at HP
  clear hg
  go_enter Tryz.func50, Tryz.ntmps50
  go_wp2_with fail
  refine gen_wp ?_
  intro u hu0
  have FB : Below w.heap.size w u := by rw [hu0]; exact Below.refl _ _
  have KFu : ∀ W, Below u.heap.size u W → True ∧ True ∧ True := by
   intro W hu
   refine ⟨trivial, trivial, ?_⟩
   ·trivial
  clear hu0 k4 k7
  refine wp_region_held_drew (S := fun W => True ∧ True ∧ True) (by kernel_rfl) (KFu _ (Below.refl _ _).drew) (fun hHeld => ?_)
  have FB := FB.drew
  refine sY 0 18 ?_
  refine sY 1 19 ?_
  refine sY 2 20 ?_
  refine sY 4 22 ?_
  refine sY 5 23 ?_
  refine sY 6 24 ?_
  refine wpAnyH_ready (rs := [3, 7]) (by kernel_rfl) (by simp) ?_
  refine AllReadyH.cons rfl (fun K hK => ?_) (AllReadyH.cons rfl (fun K hK => ?_) (AllReadyH.nil))
  ·obtain ⟨_, _, fb⟩ := hHeld
   go_simp
   refine (HO.out _).mono ?_
   rintro e w1 ⟨rfl, b1⟩
   have FB := bel_call FB b1
   (try go_wp2_with fail)
   refine hK.out _ _ ?_ (fun hHeld => ?_)
   ·exact ⟨trivial, trivial, trivial⟩
   clear hK K
   try simp only [Act.put, List.setIfInBounds_toArray, List.set_cons_zero, List.set_cons_succ]
   refine sO 7 fun K hK => ?_
   have p0 := Hk7.out _ FB
   go_simp
   (try go_wp2_with fail)
   refine hK.out _ _ ?_ (fun hHeld => ?_)
   ·exact hHeld
   clear hK K
   try simp only [Act.put, List.setIfInBounds_toArray, List.set_cons_zero, List.set_cons_succ]
   refine sY 8 26 ?_
   refine sO 9 fun K hK => ?_
   go_simp
   refine (HP.out _ FB).mono ?_
   rintro e w2 ⟨rfl, h1⟩
   (try go_wp2_with fail)
   refine hK.out _ _ ?_ (fun hHeld => ?_)
   ·exact ⟨trivial, trivial, trivial⟩
   clear hK K
   try simp only [Act.put, List.setIfInBounds_toArray, List.set_cons_zero, List.set_cons_succ]
   refine wpAnyH_done (by kernel_rfl) ?_ _
   go_wp2_with fail
   go_ret
   exact ⟨rfl, h1⟩
  ·have p0 := Hk7.out _ FB
   go_simp
   (try go_wp2_with fail)
   refine hK.out _ _ ?_ (fun hHeld => ?_)
   ·exact hHeld
   clear hK K
   try simp only [Act.put, List.setIfInBounds_toArray, List.set_cons_zero, List.set_cons_succ]
   refine sO 3 fun K hK => ?_
   obtain ⟨_, _, fb⟩ := hHeld
   go_simp
   refine (HO.out _).mono ?_
   rintro e w1 ⟨rfl, b1⟩
   have FB := bel_call FB b1
   (try go_wp2_with fail)
   refine hK.out _ _ ?_ (fun hHeld => ?_)
   ·exact ⟨trivial, trivial, trivial⟩
   clear hK K
   try simp only [Act.put, List.setIfInBounds_toArray, List.set_cons_zero, List.set_cons_succ]
   refine sY 8 26 ?_
   refine sO 9 fun K hK => ?_
   go_simp
   refine (HP.out _ FB).mono ?_
   rintro e w2 ⟨rfl, h1⟩
   (try go_wp2_with fail)
   refine hK.out _ _ ?_ (fun hHeld => ?_)
   ·exact ⟨trivial, trivial, trivial⟩
   clear hK K
   try simp only [Act.put, List.setIfInBounds_toArray, List.set_cons_zero, List.set_cons_succ]
   refine wpAnyH_done (by kernel_rfl) ?_ _
   go_wp2_with fail
   go_ret
   exact ⟨rfl, h1⟩
end
section
variable {K : Nat → Prop} {L : Lay} {tm qb lb : Nat} {t : Tm} {f : Nat} {Q : List Int} {ov : Bool}
set_option maxHeartbeats 400000 in
theorem y_ground_no (w : World) (hK : KB K w) (h : WyA K L tm qb lb w t f Q ov) (b : Nat) (hb : b < 32 ∨ 126 < b)
  (q1 : ((b : Int) == 5) = false) (q2 : ((b : Int) == 8) = false) (q3 : ((b : Int) == 9) = false) (q4 : ((b : Int) == 10) = false) (q5 : ((b : Int) == 11) = false) (q6 : ((b : Int) == 12) = false) (q7 : ((b : Int) == 13) = false) (q8 : ((b : Int) == 26) = false) (q9 : ((b : Int) == 30) = false) :
  Calls Tryz.prog 50 #[.pointer (some ⟨tm, 0, none⟩), .int .u8 b] w fun e w' => GroundP K L tm qb lb t f w e w' := by
 have H := Lib.hid h
 clear h hK
 rcases hb with hb | hb
 ·have g1 : (b : Int) < 32 := by omega
  clear hb
  go_enter Tryz.func50, Tryz.ntmps50
  go_wp2_with fail
  go_ret
  exact GroundP.mk H.out (Kept.refl _ _)
 ·have g1 : ¬ (b : Int) < 32 := by omega
  have g2 : (126 : Int) < (b : Int) := by omega
  clear hb
  go_enter Tryz.func50, Tryz.ntmps50
  go_wp2_with fail
  go_ret
  exact GroundP.mk H.out (Kept.refl _ _)
theorem y_ground (w : World) (hK : KB K w) (h : WyA K L tm qb lb w t f Q ov) (hat : WAttr t.at_) (b : Nat) :
  Calls Tryz.prog 50 #[.pointer (some ⟨tm, 0, none⟩), .int .u8 b] w fun e w' => GroundP K L tm qb lb t f w e w' := by
 by_cases q1 : b = 5
 ·rw [q1]; exact y_ground_5 w hK h
 by_cases q2 : b = 8
 ·rw [q2]; exact y_ground_8 w hK h
 by_cases q3 : b = 9
 ·rw [q3]; exact y_ground_9 w hK h
 by_cases q4 : b = 10
 ·rw [q4]; exact y_ground_10 w hK h
 by_cases q5 : b = 11
 ·rw [q5]; exact y_ground_11 w hK h
 by_cases q6 : b = 12
 ·rw [q6]; exact y_ground_12 w hK h
 by_cases q7 : b = 13
 ·rw [q7]; exact y_ground_13 w hK h
 by_cases q8 : b = 26
 ·rw [q8]; exact y_ground_26 w hK h
 by_cases q9 : b = 30
 ·rw [q9]; exact y_ground_30 w hK h
 by_cases hb : 32 ≤ b ∧ b ≤ 126
 ·refine (y_shown w hK h b hb.1 hb.2 (fun w' => WyA K L tm qb lb w' t f Q ov ∧ Kept K w w') (fun W hb2 => ?_)).mono ?_
  ·obtain ⟨rs, cell, r, c, S, h1, ha⟩ := h
   refine (y_put W (hK.more hb2.size) ⟨rs, cell, r, c, S, h1.later hb2, ha⟩ _ ⟨?_, hat, .inl rfl⟩).mono fun e w' ⟨e1, e2, e3⟩ => ⟨e1, e2, (Kept.ofBelow hb2 hK).trans e3⟩
   exact wglyph_of (by split <;> simp) hb.1 hb.2
  ·rintro e w' ⟨rfl, h2, h3⟩
   exact GroundP.mk h2 h3
 ·exact y_ground_no w hK h b (by omega) (by simp; omega) (by simp; omega) (by simp; omega) (by simp; omega) (by simp; omega) (by simp; omega) (by simp; omega) (by simp; omega) (by simp; omega)
end
end Go.Proofs.YtpjooboohelffaaGreatDoor
/- Top: wyse: take. -/
namespace Go.Proofs.YtpjooboohelffaaGreatDoor
open Go.RowKit Go.Shelf T05
set_option linter.unusedVariables false
set_option linter.unusedSimpArgs false
set_option maxRecDepth 100000
/-- A terminal that is so. -/
abbrev TR := (Nat → Nat → Cl) → Int → Int → Tm → List Int × (Int → Bool) → Prop
def WyR (K : Nat → Prop) (L : Lay) (tm qb lb f : Nat) (W : World) (R : TR) : Prop := ∃ rs cell r c S t Q ov, Wy K L tm qb lb W rs cell r c S t f Q ov ∧ R cell r c t (Q, S)
/-- .. and the cursor has come to rest. -/
def RestP (L : Lay) (R : TR) : TR := fun cell r c t Q => ∃ r0 c0, R cell r0 c0 t Q ∧ (Rests L cell r0 c0 t → r = r0 ∧ c = c0)
/-- Just that terminal. -/
def Just (cell : Nat → Nat → Cl) (r c : Int) (t : Tm) (Q : List Int) : TR := fun cell' r' c' t' Q' => cell' = cell ∧ r' = r ∧ c' = c ∧ t' = t ∧ Q'.1 = Q
section
variable {K : Nat → Prop} {L : Lay} {tm qb lb : Nat} {t : Tm} {f : Nat} {Q : List Int} {ov : Bool} {rs : Nat → Nat} {cell : Nat → Nat → Cl} {r c : Int} {S : Int → Bool} {R : TR}
theorem WyR.later {w W : World} (h : WyR K L tm qb lb f w R) (hb : Below w.heap.size w W) : WyR K L tm qb lb f W R := by
 obtain ⟨rs, cell, r, c, S, t, Q, ov, h, hr⟩ := h
 exact ⟨rs, cell, r, c, S, t, Q, ov, h.later hb, hr⟩
/-- A block of the call's own, beside the terminal. -/
structure Apt (L : Lay) (b : Nat) : Prop where
 g : b ≠ L.g
 t : b ≠ L.tb
 z : b ≠ 0 ∧ b ≠ 3 ∧ b ≠ 4 ∧ b ≠ 5
theorem Wy.apt {w : World} (h : Wy K L tm qb lb w rs cell r c S t f Q ov) (hK : KB K w) : Apt L w.heap.size := by
 have h1 := h.scr.gr.glt
 have h2 := h.scr.ts.lt
 have h3 := hK _ h.gk.1
 have h4 := hK _ h.gk.2.1
 have h5 := hK _ h.gk.2.2.1
 have h6 := hK _ h.gk.2.2.2
 exact ⟨by omega, by omega, by omega, by omega, by omega, by omega⟩
theorem WyR.poke {w : World} {b : Nat} (h : WyR K L tm qb lb f w R) (ha : Apt L b) (hb : K b) (v : Value) : WyR K L tm qb lb f (w.setCell ⟨b, 0, none⟩ v) R := by
 obtain ⟨rs, cell, r, c, S, t, Q, ov, h, hr⟩ := h
 exact ⟨rs, cell, r, c, S, t, Q, ov, h.poke hb ⟨ha.g, ha.t⟩ ha.z (kept_set w b 0 v), hr⟩
/-- Before the rest: a terminal under K and the block b, which holds a bool. -/
structure Pre (K : Nat → Prop) (L : Lay) (tm qb lb f : Nat) (w u : World) (R : TR) (W : World) : Prop where
 gk : GK K
 wy : WyR (Loc K w u) L tm qb lb f W R
 kb : KB (Loc K w u) W
 bool : ∃ z, W.cell? ⟨w.heap.size, 0, none⟩ = some (.bool z)
 kept : Kept K w W
theorem rest_end {w u W : World} (h : Pre K L tm qb lb f w u R W) (fm : FrameMode) :
  CallsD Tryz.prog 48 #[.pointer (some ⟨tm, 0, none⟩), .pointer (some ⟨w.heap.size, 0, none⟩)] fm W fun e u' w' => u' = fm ∧ (e = .returned (.tuple #[]) ∧ WyR K L tm qb lb f w' (RestP L R) ∧ Kept K w w') := by
 obtain ⟨hg, ⟨rs, cell, r, c, S, t, Q, ov, h1, hr⟩, hk, ⟨z, hz⟩, hkp⟩ := h
 refine (y_rest_d W hk h1 _ z hz fm).mono ?_
 rintro e u' w' ⟨rfl, rfl, ⟨r', c', h2, h3⟩, h4⟩
 exact ⟨rfl, rfl, ⟨rs, cell, r', c', S, t, Q, ov, h2.less (fun k hk => .inl hk) hg, r, c, hr, h3⟩, hkp.trans (h4.less (fun k hk => .inl hk))⟩
theorem WyR.loc {w W : World} (h : WyR K L tm qb lb f w R) (hb : Below w.heap.size w W) : WyR (Loc K w W) L tm qb lb f W R := by
 obtain ⟨rs, cell, r, c, S, t, Q, ov, h, hr⟩ := h
 exact ⟨rs, cell, r, c, S, t, Q, ov, h.loc hb, hr⟩
theorem WyR.less {K' : Nat → Prop} {W : World} (h : WyR K' L tm qb lb f W R) (hs : ∀ k, K k → K' k) (hg : GK K) : WyR K L tm qb lb f W R := by
 obtain ⟨rs, cell, r, c, S, t, Q, ov, h, hr⟩ := h
 exact ⟨rs, cell, r, c, S, t, Q, ov, h.less hs hg, hr⟩
/-- The terminal turned ahead of the call's own block. -/
theorem pre_of {w W1 : World} (z : Bool) (hK : KB K w) (h1 : WyR K L tm qb lb f W1 R) (hk : Kept K w W1) (hs : W1.heap.size = w.heap.size) (hg : GK K) : Pre K L tm qb lb f w (w.alloc (.cells #[.bool z] 4)) R (W1.alloc (.cells #[.bool z] 4)) := by
 have hb : Below W1.heap.size W1 (W1.alloc (.cells #[.bool z] 4)) := bel_alloc (Below.refl _ _) _
 have hK1 : KB K W1 := hK.later hk
 have e : ∀ k, Loc K w (w.alloc (.cells #[.bool z] 4)) k → Loc K W1 (W1.alloc (.cells #[.bool z] 4)) k := by
  rintro k (hk | hk)
  ·exact .inl hk
  ·refine .inr ?_
   simp only [World.size_alloc] at hk ⊢
   omega
 have hg2 : GK (Loc K w (w.alloc (.cells #[.bool z] 4))) := ⟨.inl hg.1, .inl hg.2.1, .inl hg.2.2.1, .inl hg.2.2.2⟩
 refine ⟨hg, (h1.loc hb).less e hg2, fun k hk => hK1.loc hb k (e k hk), ⟨z, ?_⟩, hk.trans (Kept.ofBelow hb hK1)⟩
 rw [← hs, World.cell?_alloc_new]; rfl
set_option maxHeartbeats 1000000 in
/-- Escape. -/
theorem take_esc (w : World) (hK : KB K w) (h : Wy K L tm qb lb w rs cell r c S t f Q ov) (hst : Lib.hasPrefix t.sq.data.toList (⟨#[27, 70]⟩ : ByteArray).data.toList = false) :
  Calls Tryz.prog 24 #[.pointer (some ⟨tm, 0, none⟩), .int .u8 27] w fun e w' => e = .returned (.tuple #[]) ∧ WyR K L tm qb lb f w' (RestP L (Just cell r c { t with sq := ⟨#[27]⟩ } Q)) ∧ Kept K w w' := by
 have HT := Lib.hid (fun W => Tryz.strings_HasPrefix t.sq ⟨#[27, 70]⟩ W)
 rw [hst] at HT
 have HR := Lib.hid (fun W (h : Pre K L tm qb lb f w (w.alloc (.cells #[.bool false] 4)) (Just cell r c { t with sq := ⟨#[27]⟩ } Q) W) fm => rest_end h fm)
 have HP := Lib.hid (show Pre K L tm qb lb f w (w.alloc (.cells #[.bool false] 4)) (Just cell r c { t with sq := ⟨#[27]⟩ } Q) ((w.setCell ⟨tm, 9, none⟩ (.string ⟨#[27]⟩)).alloc (.cells #[.bool false] 4)) from by
  obtain ⟨h2, h3⟩ := h.own2 hK ((Kept.refl (fun k => k ≠ tm ∧ k < w.heap.size) w).set (p := ⟨tm, 9, none⟩) (fun h => h.1 rfl) (.string ⟨#[27]⟩)) (h.ti.set_sq ⟨#[27]⟩)
  exact pre_of false hK ⟨_, _, _, _, _, _, _, _, h2, rfl, rfl, rfl, rfl, rfl⟩ h3 (by simp [World.setCell]) h.gk)
 obtain ⟨_, -, v9⟩ := h.ti.tB.blk.get 9 (by decide)
 have k9' := h.ti.t9
 have hl := blt k9'
 clear h hK hst
 go_enter_defers Tryz.func24, Tryz.ntmps24
 go_wp2_with fail
 refine (HT.out _).mono ?_
 rintro e w1 ⟨rfl, rfl⟩
 go_wp2_with fail
 change Leaves _ _ _ _ _ _ _
 refine leaves_cons (f := 48) (args := #[.pointer (some ⟨tm, 0, none⟩), .pointer (some ⟨w.heap.size, 0, none⟩)]) (by simp) (by simp [go_sem]) ?_
 refine (HR.out _ HP.out _).mono ?_
 rintro e u' w3 ⟨rfl, rfl, h1, h2⟩
 exact ⟨_, results_none rfl _ _ _, rfl, h1, h2⟩
/-- Behind a call whose answer is stored. -/
theorem pre_call {w w2 : World} {z0 : Bool} (z : Bool) (hK : KB K w) (hg : GK K) (ha : Apt L w.heap.size) (h : WyR (Loc K w (w.alloc (.cells #[.bool z0] 4))) L tm qb lb f w2 R) (hk : Kept (Loc K w (w.alloc (.cells #[.bool z0] 4))) (w.alloc (.cells #[.bool z0] 4)) w2) :
  (∃ v, w2.cell? ⟨w.heap.size, 0, none⟩ = some v ∧ w2.frozen? ⟨w.heap.size, 0, none⟩ = false) ∧ Pre K L tm qb lb f w (w.alloc (.cells #[.bool z0] 4)) R (w2.setCell ⟨w.heap.size, 0, none⟩ (.bool z)) := by
 have hb : Below w.heap.size w (w.alloc (.cells #[.bool z0] 4)) := bel_alloc (Below.refl _ _) _
 have hin : Loc K w (w.alloc (.cells #[.bool z0] 4)) w.heap.size := .inr ⟨Nat.le_refl _, by simp⟩
 have hB : Blk w2 w.heap.size 1 := (Blk.new (W := w) (cs := #[.bool z0]) (t := 4) rfl rfl).to (hk.block _ hin)
 obtain ⟨v, hv, hf⟩ := hB.get 0 (by decide)
 refine ⟨⟨v, hv, hf⟩, hg, h.poke ha hin _, fun k hk2 => ?_, ⟨z, World.cell?_setCell_same' _ _ _ (by rw [hv]; rfl)⟩, ?_⟩
 ·have := (hK.loc hb).later hk k hk2
  simpa [World.setCell] using this
 ·exact ((Kept.ofBelow hb hK).trans (hk.less fun k hk => .inl hk)).set (p := ⟨w.heap.size, 0, none⟩) (fun h => by have := hK _ h; simp at this) _
set_option maxHeartbeats 1000000 in
/-- A byte that is in no sequence. -/
theorem take_ground (w : World) (hK : KB K w) (h : Wy K L tm qb lb w rs cell r c S t f Q ov) (hsq : t.sq = ⟨#[]⟩) (b : Nat) (q : ((b : Int) == 27) = false) (R : TR)
  (HG0 : ∀ (K2 : Nat → Prop) W, KB K2 W → Wy K2 L tm qb lb W rs cell r c S t f Q ov → Calls Tryz.prog 50 #[.pointer (some ⟨tm, 0, none⟩), .int .u8 b] W fun e w' => RBool e ∧ WyR K2 L tm qb lb f w' R ∧ Kept K2 W w') :
  Calls Tryz.prog 24 #[.pointer (some ⟨tm, 0, none⟩), .int .u8 b] w fun e w' => e = .returned (.tuple #[]) ∧ WyR K L tm qb lb f w' (RestP L R) ∧ Kept K w w' := by
 have HT := Lib.hid (fun W => Tryz.strings_HasPrefix ⟨#[]⟩ ⟨#[27, 70]⟩ W)
 rw [show Lib.hasPrefix (⟨#[]⟩ : ByteArray).data.toList (⟨#[27, 70]⟩ : ByteArray).data.toList = false by decide] at HT
 have HR := Lib.hid (fun W (h : Pre K L tm qb lb f w (w.alloc (.cells #[.bool false] 4)) R W) fm => rest_end h fm)
 have hb : Below w.heap.size w (w.alloc (.cells #[.bool false] 4)) := bel_alloc (Below.refl _ _) _
 have HG := Lib.hid (HG0 _ _ (hK.loc hb) (h.loc hb))
 have HP := Lib.hid (fun w2 z h1 h2 => pre_call (K := K) (L := L) (tm := tm) (qb := qb) (lb := lb) (f := f) (w := w) (w2 := w2) (z0 := false) (R := R) z hK h.gk (h.apt hK) h1 h2)
 have k9' := h.ti.t9
 rw [hsq] at k9'
 have hl := blt k9'
 clear h hK hsq HG0 hb
 go_enter_defers Tryz.func24, Tryz.ntmps24
 go_wp2_with fail
 refine (HT.out _).mono ?_
 rintro e w1 ⟨rfl, rfl⟩
 go_wp2_with fail
 refine HG.out.mono ?_
 rintro e w2 ⟨⟨z, rfl⟩, h1, h2⟩
 obtain ⟨⟨v, hv, hf⟩, hp⟩ := HP.out w2 z h1 h2
 have HPP := Lib.hid hp
 clear hp h1 h2
 go_wp2_with fail
 change Leaves _ _ _ _ _ _ _
 refine leaves_cons (f := 48) (args := #[.pointer (some ⟨tm, 0, none⟩), .pointer (some ⟨w.heap.size, 0, none⟩)]) (by simp) (by simp [go_sem]) ?_
 refine (HR.out _ HPP.out _).mono ?_
 rintro e u' w3 ⟨rfl, rfl, h1, h2⟩
 exact ⟨_, results_none rfl _ _ _, rfl, h1, h2⟩
/-- Behind stores into the terminal. -/
theorem pre_w {w W : World} {z0 : Bool} (hK : KB K w) (hg : GK K) (h : WyR (Loc K w (w.alloc (.cells #[.bool z0] 4))) L tm qb lb f W R) (hk : Kept (Loc K w (w.alloc (.cells #[.bool z0] 4))) (w.alloc (.cells #[.bool z0] 4)) W) :
  Pre K L tm qb lb f w (w.alloc (.cells #[.bool z0] 4)) R W := by
 have hb : Below w.heap.size w (w.alloc (.cells #[.bool z0] 4)) := bel_alloc (Below.refl _ _) _
 have hin : Loc K w (w.alloc (.cells #[.bool z0] 4)) w.heap.size := .inr ⟨Nat.le_refl _, by simp⟩
 refine ⟨hg, h, (hK.loc hb).later hk, ⟨z0, hk.cell hin (by rw [World.cell?_alloc_new]; rfl)⟩, (Kept.ofBelow hb hK).trans (hk.less fun k hk => .inl hk)⟩
theorem conv1 {W W' : World} {x : Int} (h : W' = W.alloc (.cells #[.int .u8 x] 5)) : Sem.run Tryz.prog (convert 84 9 (.slice (some ⟨W.heap.size, 0, none⟩) 1 1)) W' = .ok (.string (strOfNums [x])) W' := by
 subst h
 refine run_convert_bytes_arg _ 84 5 Tryz.underlying84 Tryz.underlying5 W.heap.size 0 1 1 [x] rfl (fun i hi => ?_) 9 Tryz.underlying9
 have hi1 : i < 1 := hi
 obtain rfl : i = 0 := by omega
 simp [go_sem]
theorem conv1' {W W' : World} {x : Int} (h : W' = (W.alloc (.cells #[.int .u8 x] 5)).drew) : Sem.run Tryz.prog (convert 84 9 (.slice (some ⟨W.heap.size, 0, none⟩) 1 1)) W' = .ok (.string (strOfNums [x])) W' := by
 subst h
 refine run_convert_bytes_arg _ 84 5 Tryz.underlying84 Tryz.underlying5 W.heap.size 0 1 1 [x] rfl (fun i hi => ?_) 9 Tryz.underlying9
 have hi1 : i < 1 := hi
 obtain rfl : i = 0 := by omega
 simp [go_sem]
set_option maxHeartbeats 2000000 in
/-- A byte of a sequence. -/
theorem take_seq (w : World) (hK : KB K w) (h : Wy K L tm qb lb w rs cell r c S t f Q ov) (b : Nat) (q : ((b : Int) == 27) = false) (hs0 : 1 ≤ t.sq.size) (hs : t.sq.size ≤ 64) (R : TR) (sqb : ByteArray) (hsq : t.sq ++ strOfNums [(b : Int)] = sqb) (h1 : 1 < sqb.size)
  (HT0 : ∀ sq' : ByteArray, sq'.size ≤ 64 → WaitsP sqb h1 true → R cell r c { t with sq := sq' } (Q, S))
  (HF0 : WaitsP sqb h1 false → ∀ (K2 : Nat → Prop) W, KB K2 W → Wy K2 L tm qb lb W rs cell r c S { t with sq := ⟨#[]⟩ } f Q ov → Calls Tryz.prog 52 #[.pointer (some ⟨tm, 0, none⟩), .int .u8 (sqb[1]'h1).toNat, .string (sqb.extract 2 sqb.size)] W fun e w' => RBool e ∧ WyR K2 L tm qb lb f w' R ∧ Kept K2 W w') :
  Calls Tryz.prog 24 #[.pointer (some ⟨tm, 0, none⟩), .int .u8 b] w fun e w' => e = .returned (.tuple #[]) ∧ WyR K L tm qb lb f w' (RestP L R) ∧ Kept K w w' := by
 have hsz : sqb.size = t.sq.size + 1 := by rw [← hsq, ByteArray.size_append, strOfNums_size]; rfl
 have HT := Lib.hid (fun W => Tryz.strings_HasPrefix t.sq ⟨#[27, 70]⟩ W)
 generalize Lib.hasPrefix t.sq.data.toList (⟨#[27, 70]⟩ : ByteArray).data.toList = st at HT
 have HR := Lib.hid (fun W (h : Pre K L tm qb lb f w (w.alloc (.cells #[.bool false] 4)) R W) fm => rest_end h fm)
 have hb : Below w.heap.size w (w.alloc (.cells #[.bool false] 4)) := bel_alloc (Below.refl _ _) _
 have h0 := h.loc hb
 have hK0 := hK.loc hb
 have HW := Lib.hid (fun W (hb2 : Below w.heap.size w W) => waits_any sqb h1 W (by omega) (h.scr.gl.later hb2))
 have HS := Lib.hid (fun W (hb2 : Below (w.alloc (.cells #[.bool false] 4)).heap.size (w.alloc (.cells #[.bool false] 4)) W) sq' => (h0.later hb2).own2 (hK0.more hb2.size) ((Kept.refl (fun k => k ≠ tm ∧ k < W.heap.size) W).set (p := ⟨tm, 9, none⟩) (fun h => h.1 rfl) (.string sq')) ((h0.later hb2).ti.set_sq sq'))
 have Hg := Lib.hid h.gk
 have Hap := Lib.hid (h.apt hK)
 have HKK := Lib.hid hK
 have HK0 := Lib.hid hK0
 have Hb := Lib.hid hb
 have HTT := Lib.hid HT0
 have HFF := Lib.hid HF0
 have H1 := Lib.hid h1
 have HSZ := Lib.hid hsz
 have hw1 : ∀ W sq', Below (w.alloc (.cells #[.bool false] 4)).heap.size (w.alloc (.cells #[.bool false] 4)) W → sq'.size ≤ 64 → WaitsP sqb h1 true → Pre K L tm qb lb f w (w.alloc (.cells #[.bool false] 4)) R (W.setCell ⟨tm, 9, none⟩ (.string sq')) := fun W sq' hb2 hl hz => by
  obtain ⟨a1, a2⟩ := HS.out W hb2 sq'
  exact pre_w hK h.gk ⟨_, _, _, _, _, _, _, _, a1, HT0 _ hl hz⟩ ((Kept.ofBelow hb2 hK0).trans a2)
 have HW1 := Lib.hid hw1
 have HW2 := Lib.hid (fun W sq1 (hb2 : Below (w.alloc (.cells #[.bool false] 4)).heap.size (w.alloc (.cells #[.bool false] 4)) W) (hz : WaitsP sqb h1 true) => (show Pre K L tm qb lb f w (w.alloc (.cells #[.bool false] 4)) R ((W.setCell ⟨tm, 9, none⟩ (.string sq1)).setCell ⟨tm, 9, none⟩ (.string ⟨#[]⟩)) from by
  obtain ⟨a1, a2⟩ := HS.out W hb2 sq1
  obtain ⟨a3, a4⟩ := a1.own2 ((hK0.more hb2.size).later a2) ((Kept.refl (fun k => k ≠ tm ∧ k < (W.setCell ⟨tm, 9, none⟩ (.string sq1)).heap.size) _).set (p := ⟨tm, 9, none⟩) (fun h => h.1 rfl) (.string ⟨#[]⟩)) (a1.ti.set_sq ⟨#[]⟩)
  exact pre_w hK h.gk ⟨_, _, _, _, _, _, _, _, a3, HT0 _ (by decide) hz⟩ (((Kept.ofBelow hb2 hK0).trans a2).trans a4)))
 have HV := Lib.hid (fun W (hb2 : Below (w.alloc (.cells #[.bool false] 4)).heap.size (w.alloc (.cells #[.bool false] 4)) W) (hz : WaitsP sqb h1 false) => (show (Blk (W.setCell ⟨tm, 9, none⟩ (.string ⟨#[]⟩)) w.heap.size 1) ∧ Calls Tryz.prog 52 #[.pointer (some ⟨tm, 0, none⟩), .int .u8 (sqb[1]'h1).toNat, .string (sqb.extract 2 sqb.size)] (W.setCell ⟨tm, 9, none⟩ (.string ⟨#[]⟩)).drew (fun e w' => RBool e ∧ (Blk w' w.heap.size 1) ∧ WyR (Loc K w (w.alloc (.cells #[.bool false] 4))) L tm qb lb f w' R ∧ Kept (Loc K w (w.alloc (.cells #[.bool false] 4))) (w.alloc (.cells #[.bool false] 4)) w') from by
  obtain ⟨a1, a2⟩ := HS.out W hb2 ⟨#[]⟩
  have a3 := (Kept.ofBelow hb2 hK0).trans a2
  have hin : Loc K w (w.alloc (.cells #[.bool false] 4)) w.heap.size := .inr ⟨Nat.le_refl _, by simp⟩
  have hB : Blk (w.alloc (.cells #[.bool false] 4)) w.heap.size 1 := Blk.new rfl rfl
  refine ⟨hB.to (a3.block _ hin), (HF0 hz _ (W.setCell ⟨tm, 9, none⟩ (.string ⟨#[]⟩)).drew (fun k hk => hK0.later a3 k hk) (a1.later (Below.refl _ (W.setCell ⟨tm, 9, none⟩ (.string ⟨#[]⟩))).drew)).mono ?_⟩
  rintro e w' ⟨e1, e2, e3⟩
  exact ⟨e1, hB.to ((a3.drew.trans e3).block _ hin), e2, a3.drew.trans e3⟩))
 have HP := Lib.hid (fun w2 z h1 h2 => pre_call (K := K) (L := L) (tm := tm) (qb := qb) (lb := lb) (f := f) (w := w) (w2 := w2) (z0 := false) (R := R) z hK h.gk (h.apt hK) h1 h2)
 have k9 := h.ti.t9
 have hlt := h.ti.tB.blk.lt
 have z2 : ¬ 9223372036854775807 < t.sq.size + (strOfNums [(b : Int)]).size := by rw [strOfNums_size]; simp; omega
 have z3 : ¬ 9223372036854775807 < t.sq.size + 1 := by omega
 have z4 : t.sq.toList ≠ [] := by
  intro hh
  have : t.sq.size = 0 := by rw [Lib.toList_data, ← List.length_eq_zero_iff, ← Lib.size_eq] at hh; exact hh
  omega
 have z5 : t.sq.toList.isEmpty = false := by simpa using z4
 obtain ⟨_, -, v9⟩ := h.ti.tB.blk.get 9 (by decide)
 clear hw1 h hK hb h0 hK0 HT0 HF0 hs hs0 hsz
 go_enter_defers Tryz.func24, Tryz.ntmps24
 go_wp2_with fail
 refine (HT.out _).mono ?_
 rintro e w1 ⟨rfl, rfl⟩
 go_wp2_with fail
 refine gen_wp ?_
 intro u hu0
 have FU : Below (w.alloc (.cells #[.bool false] 4)).heap.size (w.alloc (.cells #[.bool false] 4)) u := by rw [hu0]; exact Below.refl _ _
 have HFU := Lib.hid FU
 have KFu : ∀ W, Below u.heap.size u W → (W.cell? ⟨tm, 9, none⟩ = some (.string t.sq)) ∧ True ∧ Below u.heap.size u W := by
  intro W hu
  refine ⟨?_, trivial, ?_⟩
  ·exact cellB (bel_call (by rw [hu0]; (repeat first | exact Below.refl _ _ | refine bel_alloc ?_ _)) hu) (k9)
  ·exact bel_call (by rw [hu0]; (repeat first | exact Below.refl _ _ | refine bel_alloc ?_ _)) hu
 clear hu0 k9 FU
 refine wp_only ?_
 refine wp_region_held_drew (S := fun W => (W.cell? ⟨tm, 9, none⟩ = some (.string t.sq)) ∧ True ∧ Below u.heap.size u W) (by kernel_rfl) (KFu _ (Below.refl _ _).drew) (fun hHeld => ?_)
 refine sY 0 32 ?_
 refine sY 1 33 ?_
 refine sY 2 34 ?_
 refine sY 3 35 ?_
 refine sY 4 36 ?_
 refine sO 5 fun K hK => ?_
 obtain ⟨fc0, _, fb⟩ := hHeld
 go_simp
 (try go_wp2_with fail)
 refine hK.out _ _ ?_ (fun hHeld => ?_)
 ·exact ⟨cellB (bel_alloc (Below.refl _ _) _) fc0, trivial, bel_alloc fb _⟩
 clear hK K
 refine wpAnyH_name ?_
 intro W5 hW5
 rw [← hW5] at hHeld
 first | (have xb5 := blk_named hW5 (n := 1) rfl) | (have xb5 := blk_named' hW5 (n := 1) rfl)
 have hw5 := fb.size
 have hz5_0 := blt fc0
 first | (have cv := conv1 hW5) | (have cv := conv1' hW5)
 clear hW5
 try simp only [Act.put, List.setIfInBounds_toArray, List.set_cons_zero, List.set_cons_succ]
 refine sO 6 fun K hK => ?_
 go_simp
 (try go_wp2_with fail)
 refine hK.out _ _ ?_ (fun hHeld => ?_)
 ·exact hHeld
 clear hK K
 refine wpAnyH_name ?_
 intro W6 hW6
 rw [← hW6] at hHeld
 have xb5 := (show Blk W6 _ 1 from by rw [hW6]; exact xb5)
 clear hW6
 try simp only [Act.put, List.setIfInBounds_toArray, List.set_cons_zero, List.set_cons_succ]
 refine sY 7 39 ?_
 refine sY 8 6 ?_
 refine wpAnyH_done (by kernel_rfl) ?_ _
 dsimp only [OnlyNormal]
 obtain ⟨kq, -, fb⟩ := hHeld
 have FB := bel_call HFU.out fb
 have FBw := bel_call Hb.out FB
 have Fb := Lib.hid FB
 have hlw := blt kq
 clear fb xb5 KFu FB
 go_wp2_with fail
 refine (HW.out _ FBw).mono ?_
 rintro e w3 ⟨⟨z, rfl, hz⟩, b3⟩
 have F3 := Lib.hid (bel_call Fb.out b3)
 have k3 := cellB b3 kq
 have f3 : w3.frozen? ⟨tm, 9, none⟩ = false := ((F3.out.frozen (p := ⟨tm, 9, none⟩) (by simp; omega)).trans ((Hb.out.frozen (p := ⟨tm, 9, none⟩) hlt).trans v9))
 have hl3 := blt k3
 have HZ := Lib.hid hz
 clear hz b3 kq FBw Fb
 cases z with
 | true =>
  by_cases h65 : sqb.size ≤ 64
  ·have g1 : ¬ (64 : Int) < (sqb.size : Int) := by omega
   go_wp2_with fail
   change Leaves _ _ _ _ _ _ _
   refine leaves_cons (f := 48) (args := #[.pointer (some ⟨tm, 0, none⟩), .pointer (some ⟨w.heap.size, 0, none⟩)]) (by simp) (by simp [go_sem]) ?_
   refine (HR.out _ (HW1.out w3 _ F3.out h65 HZ.out) _).mono ?_
   rintro e u' w5 ⟨rfl, rfl, h1, h2⟩
   exact ⟨_, results_none rfl _ _ _, rfl, h1, h2⟩
  ·have g1 : (64 : Int) < (sqb.size : Int) := by omega
   go_wp2_with fail
   change Leaves _ _ _ _ _ _ _
   refine leaves_cons (f := 48) (args := #[.pointer (some ⟨tm, 0, none⟩), .pointer (some ⟨w.heap.size, 0, none⟩)]) (by simp) (by simp [go_sem]) ?_
   refine (HR.out _ (HW2.out w3 _ F3.out HZ.out) _).mono ?_
   rintro e u' w5 ⟨rfl, rfl, h1, h2⟩
   exact ⟨_, results_none rfl _ _ _, rfl, h1, h2⟩
 | false =>
  obtain ⟨vb, vc⟩ := HV.out w3 F3.out HZ.out
  have HVC := Lib.hid vc
  have j1 : (1 : Int) < (sqb.size : Int) := by omega
  have j2 : (2 : Int) ≤ (sqb.size : Int) := by omega
  have j3 : 2 ≤ sqb.size := by omega
  clear vc
  go_wp2_with fail
  refine gen_wp ?_
  intro v hv0
  rw [← hv0] at vb
  have HVD : Hid (Calls Tryz.prog 52 #[.pointer (some ⟨tm, 0, none⟩), .int .u8 (sqb[1]'h1).toNat, .string (sqb.extract 2 sqb.size)] v.drew (fun e w' => RBool e ∧ (Blk w' w.heap.size 1) ∧ WyR (Loc K w (w.alloc (.cells #[.bool false] 4))) L tm qb lb f w' R ∧ Kept (Loc K w (w.alloc (.cells #[.bool false] 4))) (w.alloc (.cells #[.bool false] 4)) w')) := Lib.hid (by rw [hv0]; exact HVC.out)
  clear hv0 HVC k3 f3
  refine wp_only ?_
  refine wp_region_held_drew (S := fun W' => Blk W' w.heap.size 1) (by kernel_rfl) ((show Blk v.drew w.heap.size 1 from vb)) (fun hHeld => ?_)
  refine sY 0 55 ?_
  refine sY 1 56 ?_
  refine sY 2 57 ?_
  refine sY 3 58 ?_
  refine sY 4 59 ?_
  refine sO 5 fun K hK => ?_
  go_simp
  refine HVD.out.mono ?_
  rintro e w4 ⟨⟨zz, rfl⟩, hB4, h41, h42⟩
  obtain ⟨_, hp⟩ := HP.out w4 zz h41 h42
  have HPP := Lib.hid hp
  clear hp h41 h42
  (try go_wp2_with fail)
  refine hK.out _ _ ?_ (fun hHeld => ?_)
  ·exact hB4
  clear hK K
  try simp only [Act.put, List.setIfInBounds_toArray, List.set_cons_zero, List.set_cons_succ]
  refine sO 6 fun K hK => ?_
  obtain ⟨x0, e0, f0⟩ := hHeld.get 0 (by decide)
  go_simp
  (try go_wp2_with fail)
  refine hK.out _ _ ?_ (fun hHeld => ?_)
  ·exact (hHeld.set _ _)
  clear hK K
  try simp only [Act.put, List.setIfInBounds_toArray, List.set_cons_zero, List.set_cons_succ]
  refine wpAnyH_done (by kernel_rfl) ?_ _
  dsimp only [OnlyNormal]
  go_wp2_with fail
  try change Leaves _ _ _ _ _ _ _
  refine leaves_cons (f := 48) (args := #[.pointer (some ⟨tm, 0, none⟩), .pointer (some ⟨w.heap.size, 0, none⟩)]) (by simp) (by simp [go_sem]) ?_
  refine (HR.out _ (HPP.out) _).mono ?_
  rintro e u' w5 ⟨rfl, rfl, h1, h2⟩
  exact ⟨_, results_none rfl _ _ _, rfl, h1, h2⟩
set_option maxHeartbeats 2000000 in
/-- .. an escape in a text of the status line. -/
theorem take_seq27 (w : World) (hK : KB K w) (h : Wy K L tm qb lb w rs cell r c S t f Q ov) (hst : Lib.hasPrefix t.sq.data.toList (⟨#[27, 70]⟩ : ByteArray).data.toList = true) (hs0 : 1 ≤ t.sq.size) (hs : t.sq.size ≤ 64) (R : TR) (sqb : ByteArray) (hsq : t.sq ++ strOfNums [27] = sqb) (h1 : 1 < sqb.size)
  (HT0 : ∀ sq' : ByteArray, sq'.size ≤ 64 → WaitsP sqb h1 true → R cell r c { t with sq := sq' } (Q, S))
  (HF0 : WaitsP sqb h1 false → ∀ (K2 : Nat → Prop) W, KB K2 W → Wy K2 L tm qb lb W rs cell r c S { t with sq := ⟨#[]⟩ } f Q ov → Calls Tryz.prog 52 #[.pointer (some ⟨tm, 0, none⟩), .int .u8 (sqb[1]'h1).toNat, .string (sqb.extract 2 sqb.size)] W fun e w' => RBool e ∧ WyR K2 L tm qb lb f w' R ∧ Kept K2 W w') :
  Calls Tryz.prog 24 #[.pointer (some ⟨tm, 0, none⟩), .int .u8 27] w fun e w' => e = .returned (.tuple #[]) ∧ WyR K L tm qb lb f w' (RestP L R) ∧ Kept K w w' := by
 have hsz : sqb.size = t.sq.size + 1 := by rw [← hsq, ByteArray.size_append, strOfNums_size]; rfl
 have HT := Lib.hid (fun W => Tryz.strings_HasPrefix t.sq ⟨#[27, 70]⟩ W)
 rw [hst] at HT
 have HR := Lib.hid (fun W (h : Pre K L tm qb lb f w (w.alloc (.cells #[.bool false] 4)) R W) fm => rest_end h fm)
 have hb : Below w.heap.size w (w.alloc (.cells #[.bool false] 4)) := bel_alloc (Below.refl _ _) _
 have h0 := h.loc hb
 have hK0 := hK.loc hb
 have HW := Lib.hid (fun W (hb2 : Below w.heap.size w W) => waits_any sqb h1 W (by omega) (h.scr.gl.later hb2))
 have HS := Lib.hid (fun W (hb2 : Below (w.alloc (.cells #[.bool false] 4)).heap.size (w.alloc (.cells #[.bool false] 4)) W) sq' => (h0.later hb2).own2 (hK0.more hb2.size) ((Kept.refl (fun k => k ≠ tm ∧ k < W.heap.size) W).set (p := ⟨tm, 9, none⟩) (fun h => h.1 rfl) (.string sq')) ((h0.later hb2).ti.set_sq sq'))
 have Hg := Lib.hid h.gk
 have Hap := Lib.hid (h.apt hK)
 have HKK := Lib.hid hK
 have HK0 := Lib.hid hK0
 have Hb := Lib.hid hb
 have HTT := Lib.hid HT0
 have HFF := Lib.hid HF0
 have H1 := Lib.hid h1
 have HSZ := Lib.hid hsz
 have hw1 : ∀ W sq', Below (w.alloc (.cells #[.bool false] 4)).heap.size (w.alloc (.cells #[.bool false] 4)) W → sq'.size ≤ 64 → WaitsP sqb h1 true → Pre K L tm qb lb f w (w.alloc (.cells #[.bool false] 4)) R (W.setCell ⟨tm, 9, none⟩ (.string sq')) := fun W sq' hb2 hl hz => by
  obtain ⟨a1, a2⟩ := HS.out W hb2 sq'
  exact pre_w hK h.gk ⟨_, _, _, _, _, _, _, _, a1, HT0 _ hl hz⟩ ((Kept.ofBelow hb2 hK0).trans a2)
 have HW1 := Lib.hid hw1
 have HW2 := Lib.hid (fun W sq1 (hb2 : Below (w.alloc (.cells #[.bool false] 4)).heap.size (w.alloc (.cells #[.bool false] 4)) W) (hz : WaitsP sqb h1 true) => (show Pre K L tm qb lb f w (w.alloc (.cells #[.bool false] 4)) R ((W.setCell ⟨tm, 9, none⟩ (.string sq1)).setCell ⟨tm, 9, none⟩ (.string ⟨#[]⟩)) from by
  obtain ⟨a1, a2⟩ := HS.out W hb2 sq1
  obtain ⟨a3, a4⟩ := a1.own2 ((hK0.more hb2.size).later a2) ((Kept.refl (fun k => k ≠ tm ∧ k < (W.setCell ⟨tm, 9, none⟩ (.string sq1)).heap.size) _).set (p := ⟨tm, 9, none⟩) (fun h => h.1 rfl) (.string ⟨#[]⟩)) (a1.ti.set_sq ⟨#[]⟩)
  exact pre_w hK h.gk ⟨_, _, _, _, _, _, _, _, a3, HT0 _ (by decide) hz⟩ (((Kept.ofBelow hb2 hK0).trans a2).trans a4)))
 have HV := Lib.hid (fun W (hb2 : Below (w.alloc (.cells #[.bool false] 4)).heap.size (w.alloc (.cells #[.bool false] 4)) W) (hz : WaitsP sqb h1 false) => (show (Blk (W.setCell ⟨tm, 9, none⟩ (.string ⟨#[]⟩)) w.heap.size 1) ∧ Calls Tryz.prog 52 #[.pointer (some ⟨tm, 0, none⟩), .int .u8 (sqb[1]'h1).toNat, .string (sqb.extract 2 sqb.size)] (W.setCell ⟨tm, 9, none⟩ (.string ⟨#[]⟩)).drew (fun e w' => RBool e ∧ (Blk w' w.heap.size 1) ∧ WyR (Loc K w (w.alloc (.cells #[.bool false] 4))) L tm qb lb f w' R ∧ Kept (Loc K w (w.alloc (.cells #[.bool false] 4))) (w.alloc (.cells #[.bool false] 4)) w') from by
  obtain ⟨a1, a2⟩ := HS.out W hb2 ⟨#[]⟩
  have a3 := (Kept.ofBelow hb2 hK0).trans a2
  have hin : Loc K w (w.alloc (.cells #[.bool false] 4)) w.heap.size := .inr ⟨Nat.le_refl _, by simp⟩
  have hB : Blk (w.alloc (.cells #[.bool false] 4)) w.heap.size 1 := Blk.new rfl rfl
  refine ⟨hB.to (a3.block _ hin), (HF0 hz _ (W.setCell ⟨tm, 9, none⟩ (.string ⟨#[]⟩)).drew (fun k hk => hK0.later a3 k hk) (a1.later (Below.refl _ (W.setCell ⟨tm, 9, none⟩ (.string ⟨#[]⟩))).drew)).mono ?_⟩
  rintro e w' ⟨e1, e2, e3⟩
  exact ⟨e1, hB.to ((a3.drew.trans e3).block _ hin), e2, a3.drew.trans e3⟩))
 have HP := Lib.hid (fun w2 z h1 h2 => pre_call (K := K) (L := L) (tm := tm) (qb := qb) (lb := lb) (f := f) (w := w) (w2 := w2) (z0 := false) (R := R) z hK h.gk (h.apt hK) h1 h2)
 have k9 := h.ti.t9
 have hlt := h.ti.tB.blk.lt
 have z2 : ¬ 9223372036854775807 < t.sq.size + (strOfNums [27]).size := by rw [strOfNums_size]; simp; omega
 have z3 : ¬ 9223372036854775807 < t.sq.size + 1 := by omega
 have z4 : t.sq.toList ≠ [] := by
  intro hh
  have : t.sq.size = 0 := by rw [Lib.toList_data, ← List.length_eq_zero_iff, ← Lib.size_eq] at hh; exact hh
  omega
 have z5 : t.sq.toList.isEmpty = false := by simpa using z4
 obtain ⟨_, -, v9⟩ := h.ti.tB.blk.get 9 (by decide)
 clear hw1 hst h hK hb h0 hK0 HT0 HF0 hs hs0 hsz
 go_enter_defers Tryz.func24, Tryz.ntmps24
 go_wp2_with fail
 refine (HT.out _).mono ?_
 rintro e w1 ⟨rfl, rfl⟩
 go_wp2_with fail
 refine gen_wp ?_
 intro u hu0
 have FU : Below (w.alloc (.cells #[.bool false] 4)).heap.size (w.alloc (.cells #[.bool false] 4)) u := by rw [hu0]; exact Below.refl _ _
 have HFU := Lib.hid FU
 have KFu : ∀ W, Below u.heap.size u W → (W.cell? ⟨tm, 9, none⟩ = some (.string t.sq)) ∧ True ∧ Below u.heap.size u W := by
  intro W hu
  refine ⟨?_, trivial, ?_⟩
  ·exact cellB (bel_call (by rw [hu0]; (repeat first | exact Below.refl _ _ | refine bel_alloc ?_ _)) hu) (k9)
  ·exact bel_call (by rw [hu0]; (repeat first | exact Below.refl _ _ | refine bel_alloc ?_ _)) hu
 clear hu0 k9 FU
 refine wp_only ?_
 refine wp_region_held_drew (S := fun W => (W.cell? ⟨tm, 9, none⟩ = some (.string t.sq)) ∧ True ∧ Below u.heap.size u W) (by kernel_rfl) (KFu _ (Below.refl _ _).drew) (fun hHeld => ?_)
 refine sY 0 32 ?_
 refine sY 1 33 ?_
 refine sY 2 34 ?_
 refine sY 3 35 ?_
 refine sY 4 36 ?_
 refine sO 5 fun K hK => ?_
 obtain ⟨fc0, _, fb⟩ := hHeld
 go_simp
 (try go_wp2_with fail)
 refine hK.out _ _ ?_ (fun hHeld => ?_)
 ·exact ⟨cellB (bel_alloc (Below.refl _ _) _) fc0, trivial, bel_alloc fb _⟩
 clear hK K
 refine wpAnyH_name ?_
 intro W5 hW5
 rw [← hW5] at hHeld
 first | (have xb5 := blk_named hW5 (n := 1) rfl) | (have xb5 := blk_named' hW5 (n := 1) rfl)
 have hw5 := fb.size
 have hz5_0 := blt fc0
 first | (have cv := conv1 hW5) | (have cv := conv1' hW5)
 clear hW5
 try simp only [Act.put, List.setIfInBounds_toArray, List.set_cons_zero, List.set_cons_succ]
 refine sO 6 fun K hK => ?_
 go_simp
 (try go_wp2_with fail)
 refine hK.out _ _ ?_ (fun hHeld => ?_)
 ·exact hHeld
 clear hK K
 refine wpAnyH_name ?_
 intro W6 hW6
 rw [← hW6] at hHeld
 have xb5 := (show Blk W6 _ 1 from by rw [hW6]; exact xb5)
 clear hW6
 try simp only [Act.put, List.setIfInBounds_toArray, List.set_cons_zero, List.set_cons_succ]
 refine sY 7 39 ?_
 refine sY 8 6 ?_
 refine wpAnyH_done (by kernel_rfl) ?_ _
 dsimp only [OnlyNormal]
 obtain ⟨kq, -, fb⟩ := hHeld
 have FB := bel_call HFU.out fb
 have FBw := bel_call Hb.out FB
 have Fb := Lib.hid FB
 have hlw := blt kq
 clear fb xb5 KFu FB
 go_wp2_with fail
 refine (HW.out _ FBw).mono ?_
 rintro e w3 ⟨⟨z, rfl, hz⟩, b3⟩
 have F3 := Lib.hid (bel_call Fb.out b3)
 have k3 := cellB b3 kq
 have f3 : w3.frozen? ⟨tm, 9, none⟩ = false := ((F3.out.frozen (p := ⟨tm, 9, none⟩) (by simp; omega)).trans ((Hb.out.frozen (p := ⟨tm, 9, none⟩) hlt).trans v9))
 have hl3 := blt k3
 have HZ := Lib.hid hz
 clear hz b3 kq FBw Fb
 cases z with
 | true =>
  by_cases h65 : sqb.size ≤ 64
  ·have g1 : ¬ (64 : Int) < (sqb.size : Int) := by omega
   go_wp2_with fail
   change Leaves _ _ _ _ _ _ _
   refine leaves_cons (f := 48) (args := #[.pointer (some ⟨tm, 0, none⟩), .pointer (some ⟨w.heap.size, 0, none⟩)]) (by simp) (by simp [go_sem]) ?_
   refine (HR.out _ (HW1.out w3 _ F3.out h65 HZ.out) _).mono ?_
   rintro e u' w5 ⟨rfl, rfl, h1, h2⟩
   exact ⟨_, results_none rfl _ _ _, rfl, h1, h2⟩
  ·have g1 : (64 : Int) < (sqb.size : Int) := by omega
   go_wp2_with fail
   change Leaves _ _ _ _ _ _ _
   refine leaves_cons (f := 48) (args := #[.pointer (some ⟨tm, 0, none⟩), .pointer (some ⟨w.heap.size, 0, none⟩)]) (by simp) (by simp [go_sem]) ?_
   refine (HR.out _ (HW2.out w3 _ F3.out HZ.out) _).mono ?_
   rintro e u' w5 ⟨rfl, rfl, h1, h2⟩
   exact ⟨_, results_none rfl _ _ _, rfl, h1, h2⟩
 | false =>
  obtain ⟨vb, vc⟩ := HV.out w3 F3.out HZ.out
  have HVC := Lib.hid vc
  have j1 : (1 : Int) < (sqb.size : Int) := by omega
  have j2 : (2 : Int) ≤ (sqb.size : Int) := by omega
  have j3 : 2 ≤ sqb.size := by omega
  clear vc
  go_wp2_with fail
  refine gen_wp ?_
  intro v hv0
  rw [← hv0] at vb
  have HVD : Hid (Calls Tryz.prog 52 #[.pointer (some ⟨tm, 0, none⟩), .int .u8 (sqb[1]'h1).toNat, .string (sqb.extract 2 sqb.size)] v.drew (fun e w' => RBool e ∧ (Blk w' w.heap.size 1) ∧ WyR (Loc K w (w.alloc (.cells #[.bool false] 4))) L tm qb lb f w' R ∧ Kept (Loc K w (w.alloc (.cells #[.bool false] 4))) (w.alloc (.cells #[.bool false] 4)) w')) := Lib.hid (by rw [hv0]; exact HVC.out)
  clear hv0 HVC k3 f3
  refine wp_only ?_
  refine wp_region_held_drew (S := fun W' => Blk W' w.heap.size 1) (by kernel_rfl) ((show Blk v.drew w.heap.size 1 from vb)) (fun hHeld => ?_)
  refine sY 0 55 ?_
  refine sY 1 56 ?_
  refine sY 2 57 ?_
  refine sY 3 58 ?_
  refine sY 4 59 ?_
  refine sO 5 fun K hK => ?_
  go_simp
  refine HVD.out.mono ?_
  rintro e w4 ⟨⟨zz, rfl⟩, hB4, h41, h42⟩
  obtain ⟨_, hp⟩ := HP.out w4 zz h41 h42
  have HPP := Lib.hid hp
  clear hp h41 h42
  (try go_wp2_with fail)
  refine hK.out _ _ ?_ (fun hHeld => ?_)
  ·exact hB4
  clear hK K
  try simp only [Act.put, List.setIfInBounds_toArray, List.set_cons_zero, List.set_cons_succ]
  refine sO 6 fun K hK => ?_
  obtain ⟨x0, e0, f0⟩ := hHeld.get 0 (by decide)
  go_simp
  (try go_wp2_with fail)
  refine hK.out _ _ ?_ (fun hHeld => ?_)
  ·exact (hHeld.set _ _)
  clear hK K
  try simp only [Act.put, List.setIfInBounds_toArray, List.set_cons_zero, List.set_cons_succ]
  refine wpAnyH_done (by kernel_rfl) ?_ _
  dsimp only [OnlyNormal]
  go_wp2_with fail
  try change Leaves _ _ _ _ _ _ _
  refine leaves_cons (f := 48) (args := #[.pointer (some ⟨tm, 0, none⟩), .pointer (some ⟨w.heap.size, 0, none⟩)]) (by simp) (by simp [go_sem]) ?_
  refine (HR.out _ (HPP.out) _).mono ?_
  rintro e u' w5 ⟨rfl, rfl, h1, h2⟩
  exact ⟨_, results_none rfl _ _ _, rfl, h1, h2⟩
end
end Go.Proofs.YtpjooboohelffaaGreatDoor
/- Top: wyse: take whatever the byte, Feed; what is fed for a reply. -/
namespace Go.Proofs.YtpjooboohelffaaGreatDoor
open Go.RowKit Go.Shelf T05
set_option linter.unusedVariables false
set_option linter.unusedSimpArgs false
set_option maxRecDepth 100000
set_option maxHeartbeats 1000000 in
theorem feed_gen (tm : Nat) (text : ByteArray) (hs : text.size ≤ 100000) (I : Nat → World → Prop) (w : World) (h0 : I 0 w)
  (hst : ∀ k (hk : k < text.size) W, I k W → Calls Tryz.prog 24 #[.pointer (some ⟨tm, 0, none⟩), .int .u8 (text[k]'hk).toNat] W fun e w' => e = .returned (.tuple #[]) ∧ I (k + 1) w') :
  Calls Tryz.prog 9 #[.pointer (some ⟨tm, 0, none⟩), .string text] w fun e w' => e = .returned (.tuple #[]) ∧ I text.size w' := by
 have HS := Lib.hid hst
 have H0 := Lib.hid h0
 clear hst h0
 go_enter Tryz.func9, Tryz.ntmps9
 go_wp2_with fail
 go_loopw [9] (fun s9 wr => ∃ k : Nat, k ≤ text.size ∧ s9 = .int .i64 (k : Int) ∧ Hid (I k wr)) (fun i _ => text.size - (intOf i).toNat)
 case atStart => exact ⟨0, Nat.zero_le _, rfl, H0⟩
 case round =>
  clear H0
  obtain ⟨k, hk, rfl, HI⟩ := hrel
  by_cases hlt : k < text.size
  ·have q1 : (k : Int) < (text.size : Int) := by omega
   have HC := Lib.hid (HS.out k hlt wr HI.out)
   go_wp2_with fail
   refine HC.out.mono ?_
   rintro e w1 ⟨rfl, h1⟩
   have HI2 := Lib.hid h1
   clear h1
   go_wp2_with fail
   go_roundw
   case rel => exact ⟨k + 1, by omega, by go_num, HI2⟩
   case measure => simp [intOf]; omega
  ·have q1 : ¬ (k : Int) < (text.size : Int) := by omega
   go_wp2_with fail
   go_end0
   obtain rfl : k = text.size := by omega
   exact ⟨rfl, HI.out⟩
section
variable {K : Nat → Prop} {L : Lay} {tm qb lb : Nat} {t : Tm} {f : Nat} {Q : List Int} {ov : Bool} {rs : Nat → Nat} {cell : Nat → Nat → Cl} {r c : Int} {S : Int → Bool} {R : TR}
theorem WyR.mono {R R' : TR} {W : World} (h : WyR K L tm qb lb f W R) (hr : ∀ cell r c t Q, R cell r c t Q → R' cell r c t Q) : WyR K L tm qb lb f W R' := by
 obtain ⟨rs, cell, r, c, S, t, Q, ov, h, h1⟩ := h
 exact ⟨rs, cell, r, c, S, t, Q, ov, h, hr _ _ _ _ _ h1⟩
/-- What holds of a Wyse 60 whatever it is fed. -/
def JW (L : Lay) : TR := fun cell r c t Q => AllW L.R L.C cell ∧ WAttr t.at_ ∧ t.sq.size ≤ 64
theorem JW.rest {cell : Nat → Nat → Cl} {r c : Int} {t : Tm} {Q : List Int × (Int → Bool)} (h : RestP L (JW L) cell r c t Q) : JW L cell r c t Q := by
 obtain ⟨_, _, h1, _⟩ := h
 exact h1
theorem app1 (s : ByteArray) (b : Nat) (hb : b < 256) (h1 : 1 ≤ s.size) : ∃ h : 1 < (s ++ strOfNums [(b : Int)]).size, ((s ++ strOfNums [(b : Int)])[1]'h).toNat < 256 :=
 ⟨by rw [ByteArray.size_append, strOfNums_size]; simp; omega, UInt8.toNat_lt _⟩
theorem y_take (w : World) (hK : KB K w) (h0 : WyR K L tm qb lb f w (JW L)) (hR : L.R ≤ 6) (hC : L.C ≤ 12) (b : Nat) (hb : b < 256) :
  Calls Tryz.prog 24 #[.pointer (some ⟨tm, 0, none⟩), .int .u8 b] w fun e w' => e = .returned (.tuple #[]) ∧ WyR K L tm qb lb f w' (JW L) ∧ Kept K w w' := by
 obtain ⟨rs, cell, r, c, S, t, Q, ov, h, ha, hat, hsz⟩ := h0
 have fin : ∀ (e : Ending) (w' : World), (e = .returned (.tuple #[]) ∧ WyR K L tm qb lb f w' (RestP L (JW L)) ∧ Kept K w w') → e = .returned (.tuple #[]) ∧ WyR K L tm qb lb f w' (JW L) ∧ Kept K w w' := fun e w' ⟨h1, h2, h3⟩ => ⟨h1, h2.mono (fun _ _ _ _ _ h => JW.rest h), h3⟩
 have hend : ∀ (sqb : ByteArray) (h1 : 1 < sqb.size), sqb.size ≤ 65 → WaitsP sqb h1 false → ∀ (K2 : Nat → Prop) W, KB K2 W → Wy K2 L tm qb lb W rs cell r c S { t with sq := ⟨#[]⟩ } f Q ov → Calls Tryz.prog 52 #[.pointer (some ⟨tm, 0, none⟩), .int .u8 (sqb[1]'h1).toNat, .string (sqb.extract 2 sqb.size)] W fun e w' => RBool e ∧ WyR K2 L tm qb lb f w' (JW L) ∧ Kept K2 W w' := by
  intro sqb h1 hl hz K2 W hk hw
  refine (y_end W hk ⟨_, _, _, _, _, hw, ha⟩ hat hR hC (sqb[1]'h1).toNat (UInt8.toNat_lt _) (sqb.extract 2 sqb.size) (by simp; omega) (fun h => ?_) (fun h => ?_)).mono ?_
  ·have := hz.eq h rfl; simp; omega
  ·have := hz.g h rfl; simp; omega
  ·rintro e w' ⟨e1, ⟨t', Q', ov', ⟨rs', cell', r', c', S', h2, h3⟩, h4, h5⟩, h6⟩
   exact ⟨e1, ⟨_, _, _, _, _, _, _, _, h2, h3, h4, by rw [h5]; exact (show (⟨#[]⟩ : ByteArray).size ≤ 64 from by decide)⟩, h6⟩
 by_cases h27 : b = 27
 ·subst h27
  cases hst : Lib.hasPrefix t.sq.data.toList (⟨#[27, 70]⟩ : ByteArray).data.toList with
  | false =>
   refine (take_esc w hK h hst).mono ?_
   rintro e w' ⟨e1, e2, e3⟩
   refine ⟨e1, e2.mono ?_, e3⟩
   rintro cell' r' c' t' Q' ⟨_, _, ⟨rfl, _, _, rfl, _⟩, _⟩
   exact ⟨ha, hat, (show (⟨#[27]⟩ : ByteArray).size ≤ 64 from by decide)⟩
  | true =>
   have h1 : 1 ≤ t.sq.size := by
    refine Classical.byContradiction fun hh => ?_
    have h0 : t.sq.data.toList = [] := by rw [← List.length_eq_zero_iff, ← Lib.size_eq]; omega
    rw [h0] at hst
    exact absurd hst (by decide)
   obtain ⟨hx, -⟩ := app1 t.sq 27 (by decide) h1
   exact (take_seq27 w hK h hst h1 hsz (JW L) _ rfl hx (fun sq' h2 _ => ⟨ha, hat, h2⟩) (hend _ hx (by rw [ByteArray.size_append, strOfNums_size]; simp; omega))).mono fin
 ·have q : ((b : Int) == 27) = false := by simp; omega
  by_cases hs0 : t.sq = ⟨#[]⟩
  ·refine (take_ground w hK h hs0 b q (JW L) (fun K2 W hk hw => ?_)).mono fin
   refine (y_ground W hk ⟨_, _, _, _, _, hw, ha⟩ hat b).mono ?_
   rintro e w' ⟨e1, ⟨Q', ov', ⟨rs', cell', r', c', S', h2, h3⟩⟩, h6⟩
   exact ⟨e1, ⟨_, _, _, _, _, _, _, _, h2, h3, hat, hsz⟩, h6⟩
  ·have h1 : 1 ≤ t.sq.size := by
    refine Classical.byContradiction fun hh => hs0 ?_
    have h0 : t.sq.data.toList = [] := by rw [← List.length_eq_zero_iff, ← Lib.size_eq]; omega
    have h3 : t.sq.data = #[] := Array.toList_eq_nil_iff.1 h0
    cases hq : t.sq with
    | mk d => rw [hq] at h3; exact congrArg ByteArray.mk h3
   obtain ⟨hx, -⟩ := app1 t.sq b hb h1
   exact (take_seq w hK h b q h1 hsz (JW L) _ rfl hx (fun sq' h2 _ => ⟨ha, hat, h2⟩) (hend _ hx (by rw [ByteArray.size_append, strOfNums_size]; simp; omega))).mono fin
/-- Feed, whatever the text. -/
theorem y_feed_any (w : World) (hK : KB K w) (h0 : WyR K L tm qb lb f w (JW L)) (hR : L.R ≤ 6) (hC : L.C ≤ 12) (text : ByteArray) (hs : text.size ≤ 100000) :
  Calls Tryz.prog 9 #[.pointer (some ⟨tm, 0, none⟩), .string text] w fun e w' => e = .returned (.tuple #[]) ∧ WyR K L tm qb lb f w' (JW L) ∧ Kept K w w' :=
 feed_gen tm text hs (fun _ W => WyR K L tm qb lb f W (JW L) ∧ Kept K w W) w ⟨h0, Kept.refl _ _⟩ fun k hk W ⟨h1, h2⟩ =>
  (y_take W (hK.later h2) h1 hR hC _ (UInt8.toNat_lt _)).mono fun e w' ⟨e1, e2, e3⟩ => ⟨e1, e2, h2.trans e3⟩
/-- The request for all that is open. -/
theorem y_feed_send (w : World) (hK : KB K w) (i j : Nat) (h : Wy K L tm qb lb w rs cell i j S t f [] ov) (ha : AllW L.R L.C cell) (hsq : t.sq = ⟨#[]⟩) (hr : Rests L cell i j t) (hR : L.R ≤ 6) (hC : L.C ≤ 12) :
  Calls Tryz.prog 9 #[.pointer (some ⟨tm, 0, none⟩), .string ⟨#[27, 53]⟩] w fun e w' => e = .returned (.tuple #[]) ∧ WyR K L tm qb lb f w' (fun cell' r' c' t' Q' => SentP L cell 0 0 i j Q'.1) ∧ Kept K w w' := by
 refine (feed_gen tm ⟨#[27, 53]⟩ (by decide) (fun k W => WyR K L tm qb lb f W (if k = 0 then Just cell i j t [] else if k = 1 then Just cell i j { t with sq := ⟨#[27]⟩ } [] else fun cell' r' c' t' Q' => SentP L cell 0 0 i j Q'.1) ∧ Kept K w W) w ⟨⟨_, _, _, _, _, _, _, _, h, rfl, rfl, rfl, rfl, rfl⟩, Kept.refl _ _⟩ fun k hk W ⟨h1, h2⟩ => ?_).mono fun e w' ⟨e1, e2, e3⟩ => ⟨e1, by rw [show (⟨#[27, 53]⟩ : ByteArray).size = 2 from rfl] at e2; simpa using e2, e3⟩
 have hk2 : k < 2 := hk
 rcases (by omega : k = 0 ∨ k = 1) with rfl | rfl
 ·simp only [if_true] at h1
  obtain ⟨rs1, cell1, r1, c1, S1, t1, Q1, ov1, g1, rfl, rfl, rfl, rfl, hq1⟩ := h1
  have hq2 : Q1 = [] := hq1
  subst hq2
  refine (take_esc W (hK.later h2) g1 (by rw [hsq]; decide)).mono ?_
  rintro e w' ⟨e1, e2, e3⟩
  refine ⟨e1, ?_, h2.trans e3⟩
  simp only [show ¬ (0 + 1 = 0) by decide, if_false, Nat.zero_add, if_true]
  refine e2.mono ?_
  rintro cell' r' c' t' Q' ⟨r0, c0, ⟨rfl, rfl, rfl, rfl, hq3⟩, hre⟩
  obtain ⟨rfl, rfl⟩ := hre hr
  exact ⟨rfl, rfl, rfl, rfl, hq3⟩
 ·simp only [show ¬ (1 = 0) by decide, if_false, if_true] at h1
  obtain ⟨rs1, cell1, r1, c1, S1, t1, Q1, ov1, g1, rfl, rfl, rfl, rfl, hq1⟩ := h1
  have hq2 : Q1 = [] := hq1
  subst hq2
  simp only [show ¬ (1 + 1 = 0) by decide, show ¬ (1 + 1 = 1) by decide, if_false]
  have hx : 1 < ((⟨#[27]⟩ : ByteArray) ++ strOfNums [((53 : Nat) : Int)]).size := by decide +kernel
  have h5 : (((⟨#[27]⟩ : ByteArray) ++ strOfNums [((53 : Nat) : Int)])[1]'hx).toNat = 53 := by kernel_rfl
  refine (take_seq W (hK.later h2) g1 53 (by decide) (show 1 ≤ (⟨#[27]⟩ : ByteArray).size from by decide) (show (⟨#[27]⟩ : ByteArray).size ≤ 64 from by decide) (fun cell' r' c' t' Q' => SentP L cell1 0 0 i j Q'.1) _ rfl hx (fun sq' _ hz => absurd (hz.five h5) (by decide)) (fun hz K2 W2 hk2 hw2 => ?_)).mono ?_
  ·rw [h5]
   refine (y_end53 W2 hk2 i j hw2 ha hR hC _).mono ?_
   rintro e w' ⟨e1, ⟨Q', ov', e2, e3⟩, e4⟩
   exact ⟨e1, ⟨_, _, _, _, _, _, _, _, e2, e3 rfl⟩, e4⟩
  ·rintro e w' ⟨e1, e2, e3⟩
   refine ⟨e1, e2.mono ?_, h2.trans e3⟩
   rintro cell' r' c' t' Q' ⟨_, _, hh, _⟩
   exact hh
end
end Go.Proofs.YtpjooboohelffaaGreatDoor
/- Top: wyse: Drop. -/
namespace Go.Proofs.YtpjooboohelffaaGreatDoor
open Go.RowKit Go.Shelf T05
set_option linter.unusedVariables false
set_option linter.unusedSimpArgs false
set_option maxRecDepth 100000
section
variable {K : Nat → Prop} {L : Lay} {tm qb lb : Nat} {rs : Nat → Nat} {cell : Nat → Nat → Cl} {r c : Int} {S : Int → Bool} {t : Tm} {f : Nat} {Q : List Int} {ov : Bool}
set_option maxHeartbeats 400000 in
theorem y_drop (w : World) (hK : KB K w) (h : Wy K L tm qb lb w rs cell r c S t f Q ov) :
  Calls Tryz.prog 13 #[.pointer (some ⟨tm, 0, none⟩)] w fun e w' => e = .returned (.tuple #[]) ∧ Wy K L tm qb lb w' rs cell r c S { t with sq := ⟨#[]⟩ } f Q ov ∧ Kept K w w' := by
 have HE := Lib.hid (h.own2 hK ((Kept.refl (fun k => k ≠ tm ∧ k < w.heap.size) w).set (p := ⟨tm, 9, none⟩) (fun h => h.1 rfl) (.string ⟨#[]⟩)) (h.ti.set_sq ⟨#[]⟩))
 obtain ⟨_, k9, v9⟩ := h.ti.tB.blk.get 9 (by decide)
 have hl := blt k9
 clear h hK
 go_enter Tryz.func13, Tryz.ntmps13
 go_wp2_with fail
 go_end0
 exact ⟨rfl, HE.out⟩
end
end Go.Proofs.YtpjooboohelffaaGreatDoor
/- Top: wyse: On. -/
namespace Go.Proofs.YtpjooboohelffaaGreatDoor
open Go.RowKit Go.Shelf T05
set_option linter.unusedVariables false
set_option linter.unusedSimpArgs false
set_option maxRecDepth 100000
def tm0 : Tm := ⟨false, false, false, false, false, 0, ⟨#[]⟩, ⟨#[]⟩⟩
section
variable {K : Nat → Prop} {L : Lay} {qb lb : Nat} {rs : Nat → Nat} {cell : Nat → Nat → Cl} {r c : Int} {S : Int → Bool} {f : Nat} {Q : List Int} {ov : Bool}
theorem wy_new {w W : World} (hK : KB K w) (hs : Scr (fun k => K k ∨ k = qb ∨ k = lb) L w rs cell r c S) (hq : QIs w qb lb f Q ov) (hg : GK K) (kq : ¬ K qb) (kl : ¬ K lb) (nq : qb ≠ L.g ∧ qb ≠ L.tb) (nl : lb ≠ L.g ∧ lb ≠ L.tb)
  (hb : Below w.heap.size w W) (ht : TIs W w.heap.size L.sb qb tm0) : Wy K L w.heap.size qb lb W rs cell r c S tm0 f Q ov := by
 have h' := hs.later hb
 have e : ∀ k, k < w.heap.size → ¬ (K k ∨ k = qb ∨ k = lb) → ¬ KW K w.heap.size qb lb k := by
  rintro k hk hn (hh | rfl | hh)
  ·exact hn (.inl hh)
  ·omega
  ·exact hn (.inr hh)
 have eK : ∀ k, k < w.heap.size → ¬ L.KS (fun k => K k ∨ k = qb ∨ k = lb) k → ¬ L.KS (KW K w.heap.size qb lb) k := by
  rintro k hk hn (hh | hh)
  ·exact e k hk (fun h => hn (.inl h)) hh
  ·exact hn (.inr hh)
 refine ⟨⟨⟨.inl hg.1, .inl hg.2.1, .inl hg.2.2.1, .inl hg.2.2.2⟩, h'.gl, e _ (blt hs.s0) hs.ks, e _ hs.mlt hs.km, hs.sg, hs.st, hs.sm, hs.mg, hs.mt, h'.s0, h'.s1, h'.s2, h'.s3, h'.s4, h'.sB, hs.rc,
  h'.gr.under (.inr (.inr (.inl rfl))) (eK _ hs.gr.rowB.blk.lt hs.gr.kr) (fun i hi => eK _ (hs.gr.celB i hi).blk.lt (hs.gr.ks i hi)), h'.ts⟩, ht, hq.later hb, hg, fun hk => ?_, kq, kl, ?_, ?_, ?_⟩
 ·have := hK _ hk; omega
 ·have := hq.qB.blk.lt; omega
 ·have := hq.lB.blk.lt; omega
 ·have := hs.gr.glt
  have := hs.ts.lt
  rintro k (rfl | rfl | rfl)
  ·omega
  ·exact nq
  ·exact nl
set_option maxHeartbeats 400000 in
theorem y_on (w : World) (hK : KB K w) (hs : Scr (fun k => K k ∨ k = qb ∨ k = lb) L w rs cell r c S) (hq : QIs w qb lb f Q ov) (hg : GK K) (kq : ¬ K qb) (kl : ¬ K lb) (nq : qb ≠ L.g ∧ qb ≠ L.tb) (nl : lb ≠ L.g ∧ lb ≠ L.tb) :
  Calls Tryz.prog 8 #[.pointer (some ⟨L.sb, 0, none⟩), .pointer (some ⟨qb, 0, none⟩)] w fun e w' => e = .returned (.tuple #[.pointer (some ⟨w.heap.size, 0, none⟩), .int .i64 0]) ∧ Wy K L w.heap.size qb lb w' rs cell r c S tm0 f Q ov ∧ Below w.heap.size w w' := by
 have HE := Lib.hid (fun W hb ht => wy_new (W := W) hK hs hq hg kq kl nq nl hb ht)
 clear hK hs hq hg kq kl nq nl
 go_enter Tryz.func8, Tryz.ntmps8
 go_wp2_with fail
 go_ret2
 have hb := bel_alloc (Below.refl w.heap.size w) (.cells #[.pointer (some ⟨L.sb, 0, none⟩), .pointer (some ⟨qb, 0, none⟩), .bool false, .bool false, .bool false, .bool false, .bool false, .int .i64 0, .string ⟨#[]⟩, .string ⟨#[]⟩] 65)
 have hB : BlkT (w.alloc (.cells #[.pointer (some ⟨L.sb, 0, none⟩), .pointer (some ⟨qb, 0, none⟩), .bool false, .bool false, .bool false, .bool false, .bool false, .int .i64 0, .string ⟨#[]⟩, .string ⟨#[]⟩] 65)) w.heap.size 10 65 := ⟨#[.pointer (some ⟨L.sb, 0, none⟩), .pointer (some ⟨qb, 0, none⟩), .bool false, .bool false, .bool false, .bool false, .bool false, .int .i64 0, .string ⟨#[]⟩, .string ⟨#[]⟩], by first | simp [World.alloc] | exact Array.getElem?_push_size, rfl⟩
 exact ⟨rfl, HE.out _ hb ⟨by simp [go_sem], by simp [go_sem], by simp [go_sem, tm0], by simp [go_sem, tm0], by simp [go_sem, tm0], by simp [go_sem, tm0], by simp [go_sem, tm0], by simp [go_sem, tm0], by simp [go_sem, tm0], by simp [go_sem, tm0], hB⟩, hb⟩
end
end Go.Proofs.YtpjooboohelffaaGreatDoor
