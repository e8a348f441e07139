/- TopLooks and TopSends, helper 5 of 27. It holds: moved, at rows; the grid's Roll; the grid's Roll: the walk; shift's minus and Up; shift's Guarded; shift's Lines. Each theorem states its own conditions. -/
import Derived.Test.YtpjooboohelffaaGreatDoorM03
import Derived.Laws.EntriesVeiled
/- Top: moved, at rows. -/
namespace Go.Proofs.YtpjooboohelffaaGreatDoor
open Go.RowKit Go.Shelf
set_option linter.unusedVariables false
set_option linter.unusedSimpArgs false
set_option maxRecDepth 100000
set_option maxHeartbeats 1000000 in
theorem fresh_row {K : Nat → Prop} {g rb cp R C : Nat} {rs : Nat → Nat} {cell : Nat → Nat → Cl} (w : World) (h : GridIs K w g rb cp R C rs cell) (bx bg : Nat) (x : Cl) (hx : CellsAt w bx 1 (fun _ => x)) (hg : w.cell? ⟨bg, 0, none⟩ = some (.pointer (some ⟨g, 0, none⟩))) :
  Calls Tryz.prog 221 #[.pointer (some ⟨bx, 0, none⟩), .pointer (some ⟨bg, 0, none⟩)] w fun e w' => ∃ r, e = .returned (rowV C r) ∧ w.heap.size ≤ r ∧ BlkT w' r (C * 4) 48 ∧ CellsAt w' r C (fun _ => x) ∧ Below w.heap.size w w' := by
 obtain ⟨k0, k1, k2, k3⟩ := hx 0 (by decide)
 simp only [Nat.zero_mul, Nat.zero_add] at k0 k1 k2 k3
 have g0 := h.g0
 have g1 := h.rowC 0 h.r1
 have hl0 := blt k0
 have hl1 := blt hg
 have hl2 := blt g0
 have hl3 := blt g1
 have i1 : (0 : Int) < (R : Int) := by have := h.r1; omega
 have i2 : 0 < R := h.r1
 have HRp := Lib.hid (fun W b (hx : CellsAt W b 1 (fun _ => x)) => rep_any W b C x h.c1 h.c2 hx)
 clear h hx
 unfold rowV
 go_enter Tryz.func221, Tryz.ntmps221
 go_wp2_with fail
 refine wp_region_held_drew (S := fun W => Below w.heap.size w W) (by kernel_rfl) ((Below.refl _ _).drew) (fun hHeld => ?_)
 refine wpAnyH_step (i := 0) (d := some 3) (v := ?_) rfl rfl (by kernel_rfl) (by kernel_rfl) (by kernel_rfl) (fun _ _ _ h => h) (Or.inl ⟨by rfl, ?_⟩) (by assumption) ?_
 rotate_left
 ·intro w hSw; (try dsimp only at hSw); have c0 := cellB hSw k0; have c1 := cellB hSw k1; have c2 := cellB hSw k2; have c3 := cellB hSw k3; have c4 := cellB hSw hg; have c5 := cellB hSw g0; have c6 := cellB hSw g1; go_simp; (try with_reducible rfl)
 try simp only [Act.put, List.setIfInBounds_toArray, List.set_cons_zero, List.set_cons_succ]
 refine wpAnyH_step (i := 2) (d := some 5) (v := ?_) rfl rfl (by kernel_rfl) (by kernel_rfl) (by kernel_rfl) (fun _ _ _ h => h) (Or.inl ⟨by rfl, ?_⟩) (by assumption) ?_
 rotate_left
 ·intro w hSw; (try dsimp only at hSw); have c0 := cellB hSw k0; have c1 := cellB hSw k1; have c2 := cellB hSw k2; have c3 := cellB hSw k3; have c4 := cellB hSw hg; have c5 := cellB hSw g0; have c6 := cellB hSw g1; go_simp; (try with_reducible rfl)
 try simp only [Act.put, List.setIfInBounds_toArray, List.set_cons_zero, List.set_cons_succ]
 refine wpAnyH_step (i := 3) (d := some 6) (v := ?_) rfl rfl (by kernel_rfl) (by kernel_rfl) (by kernel_rfl) (fun _ _ _ h => h) (Or.inl ⟨by rfl, ?_⟩) (by assumption) ?_
 rotate_left
 ·intro w hSw; (try dsimp only at hSw); have c0 := cellB hSw k0; have c1 := cellB hSw k1; have c2 := cellB hSw k2; have c3 := cellB hSw k3; have c4 := cellB hSw hg; have c5 := cellB hSw g0; have c6 := cellB hSw g1; go_simp; (try with_reducible rfl)
 try simp only [Act.put, List.setIfInBounds_toArray, List.set_cons_zero, List.set_cons_succ]
 refine wpAnyH_step (i := 4) (d := some 7) (v := ?_) rfl rfl (by kernel_rfl) (by kernel_rfl) (by kernel_rfl) (fun _ _ _ h => h) (Or.inl ⟨by rfl, ?_⟩) (by assumption) ?_
 rotate_left
 ·intro w hSw; (try dsimp only at hSw); have c0 := cellB hSw k0; have c1 := cellB hSw k1; have c2 := cellB hSw k2; have c3 := cellB hSw k3; have c4 := cellB hSw hg; have c5 := cellB hSw g0; have c6 := cellB hSw g1; go_simp; (try with_reducible rfl)
 try simp only [Act.put, List.setIfInBounds_toArray, List.set_cons_zero, List.set_cons_succ]
 refine wpAnyH_step (i := 5) (d := some 8) (v := ?_) rfl rfl (by kernel_rfl) (by kernel_rfl) (by kernel_rfl) (fun _ _ _ h => h) (Or.inl ⟨by rfl, ?_⟩) (by assumption) ?_
 rotate_left
 ·intro w hSw; (try dsimp only at hSw); have c0 := cellB hSw k0; have c1 := cellB hSw k1; have c2 := cellB hSw k2; have c3 := cellB hSw k3; have c4 := cellB hSw hg; have c5 := cellB hSw g0; have c6 := cellB hSw g1; go_simp; (try with_reducible rfl)
 try simp only [Act.put, List.setIfInBounds_toArray, List.set_cons_zero, List.set_cons_succ]
 refine wpAnyH_step (i := 6) (d := some 9) (v := ?_) rfl rfl (by kernel_rfl) (by kernel_rfl) (by kernel_rfl) (fun _ _ _ h => h) (Or.inl ⟨by rfl, ?_⟩) (by assumption) ?_
 rotate_left
 ·intro w hSw; (try dsimp only at hSw); have c0 := cellB hSw k0; have c1 := cellB hSw k1; have c2 := cellB hSw k2; have c3 := cellB hSw k3; have c4 := cellB hSw hg; have c5 := cellB hSw g0; have c6 := cellB hSw g1; go_simp; (try with_reducible rfl)
 try simp only [Act.put, List.setIfInBounds_toArray, List.set_cons_zero, List.set_cons_succ]
 refine wpAnyH_step (i := 7) (d := some 10) (v := ?_) rfl rfl (by kernel_rfl) (by kernel_rfl) (by kernel_rfl) (fun _ _ _ h => h) (Or.inl ⟨by rfl, ?_⟩) (by assumption) ?_
 rotate_left
 ·intro w hSw; (try dsimp only at hSw); have c0 := cellB hSw k0; have c1 := cellB hSw k1; have c2 := cellB hSw k2; have c3 := cellB hSw k3; have c4 := cellB hSw hg; have c5 := cellB hSw g0; have c6 := cellB hSw g1; go_simp; (try with_reducible rfl)
 try simp only [Act.put, List.setIfInBounds_toArray, List.set_cons_zero, List.set_cons_succ]
 refine wpAnyH_step (i := 8) (d := some 11) (v := ?_) rfl rfl (by kernel_rfl) (by kernel_rfl) (by kernel_rfl) (fun _ _ _ h => h) (Or.inl ⟨by rfl, ?_⟩) (by assumption) ?_
 rotate_left
 ·intro w hSw; (try dsimp only at hSw); have c0 := cellB hSw k0; have c1 := cellB hSw k1; have c2 := cellB hSw k2; have c3 := cellB hSw k3; have c4 := cellB hSw hg; have c5 := cellB hSw g0; have c6 := cellB hSw g1; go_simp; (try with_reducible rfl)
 try simp only [Act.put, List.setIfInBounds_toArray, List.set_cons_zero, List.set_cons_succ]
 refine sO 1 fun K hK => ?_
 go_simp
 (try go_wp2_with fail)
 refine hK.out _ _ ?_ (fun hHeld => ?_)
 ·exact (by repeat first | exact Below.refl _ _ | refine bel_alloc ?_ _ | refine Below.drew ?_)
 clear hK K
 try simp only [Act.put, List.setIfInBounds_toArray, List.set_cons_zero, List.set_cons_succ]
 refine sO 9 fun K hK => ?_
 go_simp
 refine (HRp.out _ w.heap.size ?_).mono ?_
 ·intro j hj; obtain rfl : j = 0 := (by omega); refine ⟨?_, ?_, ?_, ?_⟩ <;> simp [go_sem]
 rintro e w3 ⟨r, rfl, hr1, hr2, hr3, b3⟩
 have B3 : Below w.heap.size w w3 := bel_call (by repeat first | exact Below.refl _ _ | refine bel_alloc ?_ _ | refine Below.drew ?_) b3
 have hr4 : w.heap.size ≤ r := (by simp at hr1; omega)
 have HE := Lib.hid (show w.heap.size ≤ r ∧ BlkT w3 r (C * 4) 48 ∧ CellsAt w3 r C (fun _ => x) ∧ Below w.heap.size w w3 from ⟨hr4, hr2, hr3, B3⟩)
 clear hr1 hr2 hr3 b3 hr4 B3
 (try go_wp2_with fail)
 refine hK.out _ _ ?_ (fun hHeld => ?_)
 ·exact HE.out.2.2.2
 clear hK K
 try simp only [Act.put, List.setIfInBounds_toArray, List.set_cons_zero, List.set_cons_succ]
 refine wpAnyH_step (i := 10) (d := some 2) (v := ?_) rfl rfl (by kernel_rfl) (by kernel_rfl) (by kernel_rfl) (fun _ _ _ h => h) (Or.inl ⟨by rfl, ?_⟩) (by assumption) ?_
 rotate_left
 ·intro w hSw; (try dsimp only at hSw); have c0 := cellB hSw k0; have c1 := cellB hSw k1; have c2 := cellB hSw k2; have c3 := cellB hSw k3; have c4 := cellB hSw hg; have c5 := cellB hSw g0; have c6 := cellB hSw g1; go_simp; (try with_reducible rfl)
 try simp only [Act.put, List.setIfInBounds_toArray, List.set_cons_zero, List.set_cons_succ]
 refine wpAnyH_done (by kernel_rfl) ?_ _
 go_wp2_with fail
 go_ret
 exact ⟨r, rfl, HE.out⟩
theorem wp_appR {ops : Array Oper} {rest : List Oper} {o : Oper} {a : Act} {Q : Exit → Act → World → Prop} (hgd : o.guard = none) (s x : Operand)
  (ho : o.op = .call { callee := .builtin .append, args := #[s, x], argTypes := #[37, 37] }) (base : Nat) (v : Value) (L : List Value) (W : World) (y : Value) (B : Nat)
  (hs : a.eval s = v) (hx : a.eval x = .slice (some ⟨B, 0, none⟩) 1 1) (hB : W.cell? ⟨B, 0, none⟩ = some y) (hy1 : y.oneCell' = true) (hown : OwnR W base v L) (hbase : base ≤ W.heap.size) (hn : L.length ≤ 1000000)
  (h : ∀ ad cap w', OwnR w' base (.slice ad (L.length + 1) cap) (L ++ [y]) → W.grownBy w' v.ownBlock → wpList Tryz.prog ops Q rest (a.put o.dst (.slice ad (L.length + 1) cap)) w') :
  wpList Tryz.prog ops Q (o :: rest) a W := by
 obtain ⟨i0, hi, hz0, hz1, hz2⟩ := info_parts info44
 refine wpList_append_own _ hgd s x 37 ho base 44 i0 _ 1 24 Tryz.underlying37 hi hz0 hz1 hz2 rfl (by decide) v L.length _ hs hown ⟨B, 0, none⟩ 1 1 [y] hx rfl ?_ (by simpa using hy1) (by unfold maxLen; omega) (by omega) hbase ?_
 ·intro j u hj
  have : j = 0 := by
   have := (List.getElem?_eq_some_iff.1 hj).1
   simpa using this
  subst this
  simp at hj
  subst hj
  simpa [Addr.add] using hB
 ·intro v' w' h1 h2 _
  have o2 : OwnR w' base v' (L ++ [y]) := by unfold OwnR; simpa using h1
  obtain ⟨ad, cap, hv⟩ := o2.shape
  rw [List.length_append] at hv
  simp only [List.length_cons, List.length_nil, Nat.zero_add] at hv
  subst hv
  exact h ad cap w' o2 h2
/-- A row that was there, or a fresh one. -/
def RowOk (W : World) (base R C : Nat) (rs : Nat → Nat) (x : Cl) (r : Nat) : Prop := (∃ i, i < R ∧ r = rs i) ∨ (base ≤ r ∧ BlkT W r (C * 4) 48 ∧ CellsAt W r C (fun _ => x))
theorem RowOk.later {W W' : World} {base R C : Nat} {rs : Nat → Nat} {x : Cl} {r : Nat} (h : RowOk W base R C rs x r) (hb : ∀ r n, BlkT W r n 48 → W'.heap[r]? = W.heap[r]?) : RowOk W' base R C rs x r := by
 rcases h with h | ⟨h1, h2, h3⟩
 ·exact .inl h
 ·exact .inr ⟨h1, h2.to (hb _ _ h2), h3.to (hb _ _ h2)⟩
/-- Behind an append to the rows all rows of cells are as they were. -/
theorem app_rows {W w4 : World} {base : Nat} {v : Value} {L : List Value} (own : OwnR W base v L) (gr : W.grownBy w4 v.ownBlock) {r n : Nat} (hr : BlkT W r n 48) : w4.heap[r]? = W.heap[r]? :=
 gr.block r hr.blk.lt (fun e => by
  obtain ⟨_, m, hm⟩ := own.own e.symm
  exact hm.ne hr (by decide) rfl)
def MovedP (w w' : World) (v : Value) (L R C : Nat) (rs : Nat → Nat) (x : Cl) : Prop :=
 ∃ rsL : List Nat, OwnR w' w.heap.size v (rsL.map (rowV C)) ∧ rsL.length = L ∧ (∀ r ∈ rsL, RowOk w' w.heap.size R C rs x r) ∧ Below w.heap.size w w'
set_option maxHeartbeats 2000000 in
theorem moved_rows {K : Nat → Prop} {g rb cp R C : Nat} {rs : Nat → Nat} {cell : Nat → Nat → Cl} (w : World) (h : GridIs K w g rb cp R C rs cell) (p L cp2 bx bg : Nat) (n : Int) (x : Cl) (hL : p + L ≤ R) (hn : -510 ≤ n ∧ n ≤ 510) (hx : CellsAt w bx 1 (fun _ => x)) (hg : w.cell? ⟨bg, 0, none⟩ = some (.pointer (some ⟨g, 0, none⟩))) :
  Calls Tryz.prog 222 #[.slice (some ⟨rb, p, none⟩) L cp2, .int .i64 n, .func (.func 221) #[] #[.pointer (some ⟨bx, 0, none⟩), .pointer (some ⟨bg, 0, none⟩)]] w fun e w' =>
   ∃ v, e = .returned v ∧ MovedP w w' v L R C rs x := by
 obtain ⟨i0, hi, hz0, hz1, hz2⟩ := info_parts info44
 have hL255 : L ≤ 255 := by have := h.r2; omega
 obtain ⟨w1, hmk, own1, gr1⟩ := run_make_own (P := Tryz.prog) w w.heap.size 37 44 i0 _ 1 Tryz.underlying37 hi hz0 hz1 .i64 .i64 L (by rw [hz2]; omega) (by unfold maxLen; omega) (Nat.le_refl _)
 have hb1 : Below w.heap.size w w1 := (Below.refl _ _).grown gr1 (Nat.le_refl _) (fun k e => by cases e)
 have HO1 := Lib.hid (show OwnR w1 w.heap.size (.slice (some ⟨w.heap.size, 0, none⟩) 0 L) (([] : List Nat).map (rowV C)) from own1)
 have HB1 := Lib.hid hb1
 have HG := Lib.hid h
 have HX := Lib.hid hx
 have Hg := Lib.hid hg
 clear own1 gr1 hb1 h hx hg hi hz0 hz1 hz2
 go_enter Tryz.func222, Tryz.ntmps222
 go_wp2_with fail
 go_loopw [14, 7] (fun i v wr => ∃ (k : Nat) (rsL : List Nat), k ≤ L ∧ i = .int .i64 (k : Int) ∧ OwnR wr w.heap.size v (rsL.map (rowV C)) ∧ rsL.length = k ∧ (∀ r ∈ rsL, RowOk wr w.heap.size R C rs x r) ∧ Below w.heap.size w wr) (fun i _ _ => L - (intOf i).toNat)
 case atStart => exact ⟨0, [], Nat.zero_le _, rfl, HO1.out, rfl, by simp, HB1.out⟩
 case round =>
  obtain ⟨k, rsL, hk, rfl, own, hlen, hrs, hb⟩ := hrel
  obtain ⟨ad, cap, hv⟩ := own.shape
  rw [List.length_map, hlen] at hv
  subst hv
  have HO := Lib.hid own
  have HB := Lib.hid hb
  have HL := Lib.hid hlen
  have HR := Lib.hid hrs
  have hsz := hb.size
  clear own hb hlen hrs
  have s1 : IntKind.i64.wrap ((L : Int) - 1) = (L : Int) - 1 := IntWalk.i64_in _ (by omega)
  by_cases hlt : k < L
  ·have q1 : (k : Int) < (L : Int) := by omega
   have s2 : IntKind.i64.wrap ((L : Int) - 1 - (k : Int)) = (L : Int) - 1 - (k : Int) := IntWalk.i64_in _ (by omega)
   have s3 : IntKind.i64.wrap (-(k : Int)) = -(k : Int) := IntWalk.i64_in _ (by omega)
   have s4 : IntKind.i64.wrap ((k : Int) + n) = (k : Int) + n := IntWalk.i64_in _ (by omega)
   have HEnd : ∀ W (hW : Below wr.heap.size wr W) r, RowOk W w.heap.size R C rs x r → ∀ ad4 cap4 w4, OwnR w4 w.heap.size (.slice ad4 (k + 1) cap4) (rsL.map (rowV C) ++ [rowV C r]) → W.grownBy w4 (Value.slice ad k cap).ownBlock →
     OwnR w4 w.heap.size (.slice ad4 (k + 1) cap4) ((rsL ++ [r]).map (rowV C)) ∧ (rsL ++ [r]).length = k + 1 ∧ (∀ r' ∈ rsL ++ [r], RowOk w4 w.heap.size R C rs x r') ∧ Below w.heap.size w w4 := by
    intro W hW r hr ad4 cap4 w4 own4 gr4
    have ownW := HO.out.call hW
    refine ⟨by rw [List.map_append]; exact own4, by simp [HL.out], fun r' hr' => ?_, (bel_call HB.out hW).grown gr4 (by have := hW.size; omega) (fun q e => (ownW.own e).1)⟩
    rcases List.mem_append.1 hr' with h | h
    ·exact ((HR.out r' h).later (fun r n hn => hW.block r hn.blk.lt)).later (fun r n hn => app_rows ownW gr4 hn)
    ·simp at h
     subst h
     exact hr.later (fun r n hn => app_rows ownW gr4 hn)
   have HE := Lib.hid HEnd
   clear HEnd
   by_cases hf : freshB L n k = true
   ·have HF := Lib.hid (show Calls Tryz.prog 221 #[.pointer (some ⟨bx, 0, none⟩), .pointer (some ⟨bg, 0, none⟩)] wr fun e w' => ∃ r, e = .returned (.slice (some ⟨r, 0, none⟩) C C) ∧ wr.heap.size ≤ r ∧ BlkT w' r (C * 4) 48 ∧ CellsAt w' r C (fun _ => x) ∧ Below wr.heap.size wr w' from
     fresh_row wr (HG.out.later HB.out) bx bg x (fun j hj => ⟨cellB HB.out (HX.out j hj).1, cellB HB.out (HX.out j hj).2.1, cellB HB.out (HX.out j hj).2.2.1, cellB HB.out (HX.out j hj).2.2.2⟩) (cellB HB.out Hg.out))
    by_cases hA : (L : Int) - 1 - (k : Int) < n
    ·have d1 : decide ((L : Int) - 1 - (k : Int) < n) = true := by simp [hA]
     go_wp2_with fail
     refine HF.out.mono ?_
     rintro e w3 ⟨r, rfl, hr1, hr2, hr3, b3⟩
     have hs3 := b3.size
     have B3 := Lib.hid b3
     have HRo := Lib.hid (show RowOk w3 w.heap.size R C rs x r from .inr ⟨by omega, hr2, hr3⟩)
     clear b3 hr1 hr2 hr3
     go_wp2_with (at_builtin; refine wp_appR rfl (.tmp 30) (.tmp 33) rfl w.heap.size _ (rsL.map (rowV C)) _ (rowV C r) w3.heap.size rfl rfl (by simp [go_sem, rowV]) rfl ((HO.out.call B3.out).call (bel_alloc (Below.refl _ _) _)) (by simp; omega) (by rw [List.length_map, HL.out]; omega) ?_; intro ad4 cap4 w4 own4 gr4; simp only [List.length_map, HL.out] at own4 ⊢; have HEE := Lib.hid (HE.out _ (bel_call B3.out (bel_alloc (Below.refl _ _) _)) r (HRo.out.later (fun r n hn => Below.heap_alloc _ _ _ hn.blk.lt)) ad4 cap4 w4 own4 gr4); clear own4 gr4)
     exact ⟨⟨k + 1, rsL ++ [r], by omega, by push_cast; rfl, HEE.out⟩, by simp [intOf]; omega⟩
    ·have d1 : decide ((L : Int) - 1 - (k : Int) < n) = false := by simp; omega
     have hA2 : n < -(k : Int) := by
      unfold freshB at hf
      simp [d1] at hf
      exact hf
     have d2 : decide (n < -(k : Int)) = true := by simp [hA2]
     go_wp2_with fail
     refine HF.out.mono ?_
     rintro e w3 ⟨r, rfl, hr1, hr2, hr3, b3⟩
     have hs3 := b3.size
     have B3 := Lib.hid b3
     have HRo := Lib.hid (show RowOk w3 w.heap.size R C rs x r from .inr ⟨by omega, hr2, hr3⟩)
     clear b3 hr1 hr2 hr3
     go_wp2_with (at_builtin; refine wp_appR rfl (.tmp 30) (.tmp 33) rfl w.heap.size _ (rsL.map (rowV C)) _ (rowV C r) w3.heap.size rfl rfl (by simp [go_sem, rowV]) rfl ((HO.out.call B3.out).call (bel_alloc (Below.refl _ _) _)) (by simp; omega) (by rw [List.length_map, HL.out]; omega) ?_; intro ad4 cap4 w4 own4 gr4; simp only [List.length_map, HL.out] at own4 ⊢; have HEE := Lib.hid (HE.out _ (bel_call B3.out (bel_alloc (Below.refl _ _) _)) r (HRo.out.later (fun r n hn => Below.heap_alloc _ _ _ hn.blk.lt)) ad4 cap4 w4 own4 gr4); clear own4 gr4)
     exact ⟨⟨k + 1, rsL ++ [r], by omega, by push_cast; rfl, HEE.out⟩, by simp [intOf]; omega⟩
   ·have hf' : freshB L n k = false := by simpa using hf
    obtain ⟨m, hm⟩ := Int.eq_ofNat_of_zero_le (freshB_not hf').1
    have hm2 := (freshB_not hf').2
    rw [hm] at hm2 s4
    have d1 : decide ((L : Int) - 1 - (k : Int) < n) = false := by unfold freshB at hf'; simp at hf' ⊢; omega
    have d2 : decide (n < -(k : Int)) = false := by unfold freshB at hf'; simp at hf' ⊢; omega
    have q3 : (m : Int) < (L : Int) := hm2
    have c0 : wr.cell? ⟨rb, p + m, none⟩ = some (.slice (some ⟨rs (p + m), 0, none⟩) C C) := cellB HB.out (HG.out.rowC (p + m) (by omega))
    have HRo := Lib.hid (show ∃ i, i < R ∧ rs (p + m) = rs i from ⟨p + m, by omega, rfl⟩)
    have hpn : (k : Int) + n = (m : Int) := hm
    clear hm hf hf'
    generalize rs (p + m) = r at *
    go_wp2_with (at_builtin; refine wp_appR rfl (.tmp 35) (.tmp 42) rfl w.heap.size _ (rsL.map (rowV C)) _ (rowV C r) wr.heap.size rfl rfl (by simp [go_sem, rowV]) rfl (HO.out.call (bel_alloc (Below.refl _ _) _)) (by simp; omega) (by rw [List.length_map, HL.out]; omega) ?_; intro ad4 cap4 w4 own4 gr4; simp only [List.length_map, HL.out] at own4 ⊢; have HEE := Lib.hid (HE.out _ (bel_alloc (Below.refl _ _) _) r (.inl HRo.out) ad4 cap4 w4 own4 gr4); clear own4 gr4)
    exact ⟨⟨k + 1, rsL ++ [r], by omega, by push_cast; rfl, HEE.out⟩, by simp [intOf]; omega⟩
  ·obtain rfl : k = L := by omega
   have q1 : ¬ (k : Int) < (k : Int) := by omega
   go_wp2_with fail
   go_ret
   exact ⟨_, rfl, rsL, HO.out, HL.out, HR.out, HB.out⟩
end Go.Proofs.YtpjooboohelffaaGreatDoor
/- Top: the grid's Roll. -/
namespace Go.Proofs.YtpjooboohelffaaGreatDoor
open Go.RowKit Go.Shelf
set_option linter.unusedVariables false
set_option linter.unusedSimpArgs false
set_option maxRecDepth 100000
/-- Rows copied into the rows' block. -/
theorem copy_rows {W : World} {rb cp p L dl dc sc o : Nat} {rsL : List Nat} {C : Nat} (hB : BlkT W rb cp 44) (hlen : rsL.length = L) (hL : p + L ≤ cp) (hdl : Nat.min L dl = L)
  (hS : ∀ i (hi : i < (rsL.map (rowV C)).length), W.cell? ⟨o, i, none⟩ = some (rsL.map (rowV C))[i]) :
  ∃ w2, Sem.run Tryz.prog (Builtin.copy_ #[37, 37] 3 #[.slice (some ⟨rb, p, none⟩) dl dc, .slice (some ⟨o, 0, none⟩) L sc]) W = .ok (.int .i64 (L : Int)) w2 ∧
   BlkT w2 rb cp 44 ∧ (∀ i, w2.cell? ⟨rb, i, none⟩ = if p ≤ i ∧ i < p + L then some (rowV C (rsL.getD (i - p) 0)) else W.cell? ⟨rb, i, none⟩) ∧ Kept (fun i => i ≠ rb) W w2 := by
 have hsz : (Tryz.prog.info? 44).map (·.size) = some 1 := by kernel_rfl
 have hcl : (rsL.map (rowV C)).length = L := by rw [List.length_map, hlen]
 refine ⟨W.setCells rb p (rsL.map (rowV C)), ?_, setCells_blkT _ _ _ _ _ _ _ hB, fun i => ?_, ?_⟩
 ·have := run_copy_cells (P := Tryz.prog) W 37 37 3 44 rb p dl dc ⟨o, 0, none⟩ L sc (rsL.map (rowV C)) Tryz.underlying37 hsz (by rw [hcl, hdl])
   (fun j v hj => by
    obtain ⟨hlt, rfl⟩ := List.getElem?_eq_some_iff.1 hj
    have hadd : (⟨o, 0, none⟩ : Addr).add j = ⟨o, j, none⟩ := by unfold Addr.add; split <;> simp_all
    rw [hadd]
    exact hS j hlt)
   (fun j hj => by
    obtain ⟨u, hu, _⟩ := hB.blk.get (p + j) (by omega)
    rw [hu]; rfl) (fun j hj => by
    obtain ⟨u, _, hz⟩ := hB.blk.get (p + j) (by omega)
    exact hz) (by
    intro v hv
    obtain ⟨r, _, rfl⟩ := List.mem_map.1 hv
    rfl)
  rw [hcl] at this
  exact this
 ·by_cases hi : p ≤ i ∧ i < p + L
  ·rw [if_pos hi]
   have hj : i - p < (rsL.map (rowV C)).length := by omega
   have := World.cell?_setCells_in rb (rsL.map (rowV C)) p W (fun j hj => by
    obtain ⟨u, hu, _⟩ := hB.blk.get (p + j) (by omega)
    rw [hu]; rfl) (i - p) hj
   rw [show p + (i - p) = i by omega] at this
   rw [this, List.getElem_map]
   have e : rsL.getD (i - p) 0 = rsL[i - p]'(by rw [hlen]; omega) := by simp [List.getD, show i - p < rsL.length by omega]
   rw [e]
  ·rw [if_neg hi]
   exact World.cell?_setCells_out rb _ _ _ _ (fun _ _ => by rw [hcl]; simp; omega)
 ·have h1 := setCells_misc rb (rsL.map (rowV C)) p W
  exact ⟨h1.1, h1.2.1, h1.2.2, by rw [setCells_size]; exact Nat.le_refl _, fun i hi => setCells_heap _ hi _ _ _⟩
/-- The grid behind a Roll. -/
theorem GridIs.rolled {K : Nat → Prop} {W W' : World} {g rb cp R C p L base : Nat} {rs : Nat → Nat} {cell : Nat → Nat → Cl} {rsL : List Nat} {x : Cl} (h : GridIs K W g rb cp R C rs cell) (hlen : rsL.length = L) (hL : p + L ≤ R)
  (hok : ∀ r ∈ rsL, RowOk W base R C rs x r) (hbK : ∀ k, base ≤ k → ¬ K k) (hB : BlkT W' rb cp 44) (hc : ∀ i, W'.cell? ⟨rb, i, none⟩ = if p ≤ i ∧ i < p + L then some (rowV C (rsL.getD (i - p) 0)) else W.cell? ⟨rb, i, none⟩)
  (hk : Kept (fun i => i ≠ rb) W W') : GridF K W' g rb cp R C x cell := by
 have hone : ∀ i, ∃ c : Nat → Cl, i < R → ∀ r, r = (if p ≤ i ∧ i < p + L then rsL.getD (i - p) 0 else rs i) → ¬ K r ∧ r ≠ rb ∧ BlkT W' r (C * 4) 48 ∧ CellsAt W' r C c ∧
   ∀ P : Cl → Prop, P x → (∀ i j, i < R → j < C → P (cell i j)) → ∀ j, j < C → P (c j) := by
  intro i
  by_cases hi : i < R
  ·have hold : ∀ i2, i2 < R → ¬ K (rs i2) ∧ rs i2 ≠ rb ∧ BlkT W' (rs i2) (C * 4) 48 ∧ CellsAt W' (rs i2) C (cell i2) := fun i2 h2 =>
    ⟨h.ks i2 h2, h.ne i2 h2, (h.celB i2 h2).to (hk.block _ (h.ne i2 h2)), (h.cellsAt h2).to (hk.block _ (h.ne i2 h2))⟩
   by_cases hin : p ≤ i ∧ i < p + L
   ·have hmem : rsL.getD (i - p) 0 ∈ rsL := by
     have hl : i - p < rsL.length := by omega
     have e : rsL.getD (i - p) 0 = rsL[i - p] := by simp [List.getD, hl]
     rw [e]; exact List.getElem_mem hl
    rcases hok _ hmem with ⟨i2, h2, e2⟩ | ⟨a1, a2, a3⟩
    ·refine ⟨cell i2, fun _ r hr => ?_⟩
     rw [if_pos hin, e2] at hr
     subst hr
     obtain ⟨b1, b2, b3, b4⟩ := hold i2 h2
     exact ⟨b1, b2, b3, b4, fun P _ hP j hj => hP _ _ h2 hj⟩
    ·refine ⟨fun _ => x, fun _ r hr => ?_⟩
     rw [if_pos hin] at hr
     subst hr
     have hne : rsL.getD (i - p) 0 ≠ rb := a2.ne h.rowB (by decide)
     exact ⟨hbK _ a1, hne, a2.to (hk.block _ hne), a3.to (hk.block _ hne), fun P hx _ j _ => hx⟩
   ·refine ⟨cell i, fun _ r hr => ?_⟩
    rw [if_neg hin] at hr
    subst hr
    obtain ⟨b1, b2, b3, b4⟩ := hold i hi
    exact ⟨b1, b2, b3, b4, fun P _ hP j hj => hP _ _ hi hj⟩
  ·exact ⟨fun _ => x, fun h => absurd h hi⟩
 obtain ⟨c, hcc⟩ := Classical.skolem.1 hone
 have hgne : g ≠ rb := fun e => h.kr (e ▸ h.kg)
 refine ⟨fun i => if p ≤ i ∧ i < p + L then rsL.getD (i - p) 0 else rs i, c, ⟨h.r1, h.r2, h.c1, h.c2, h.kg, h.kr, fun i hi => (hcc i hi _ rfl).1, fun i hi => (hcc i hi _ rfl).2.1, h.cap, hk.cell hgne h.g0, hB, fun i hi => ?_,
  fun i hi => (hcc i hi _ rfl).2.2.1, fun i j hi hj => (hcc i hi _ rfl).2.2.2.1 j hj⟩, fun P hx hP i j hi hj => (hcc i hi _ rfl).2.2.2.2 P hx hP j hj⟩
 rw [hc i]
 by_cases hin : p ≤ i ∧ i < p + L
 ·rw [if_pos hin, if_pos hin]; rfl
 ·rw [if_neg hin, if_neg hin]; exact h.rowC i hi
end Go.Proofs.YtpjooboohelffaaGreatDoor
/- Top: the grid's Roll: the walk. -/
namespace Go.Proofs.YtpjooboohelffaaGreatDoor
open Go.RowKit Go.Shelf
set_option linter.unusedVariables false
set_option linter.unusedSimpArgs false
set_option maxRecDepth 100000
set_option maxHeartbeats 4000000 in
theorem roll_any {K : Nat → Prop} {g rb cp R C : Nat} {rs : Nat → Nat} {cell : Nat → Nat → Cl} (w : World) (hK : KB K w) (h : GridIs K w g rb cp R C rs cell) (a b n : Int) (hn : -510 ≤ n ∧ n ≤ 510) (x : Cl) :
  Calls Tryz.prog 185 #[.pointer (some ⟨g, 0, none⟩), .int .i64 a, .int .i64 b, .int .i64 n, x.v] w fun e w' => (∃ z, e = .returned (.int .i64 z)) ∧ SlideP K w w' g rb cp R C x cell := by
 have HT := Lib.hid (fun W (hW : Below w.heap.size w W) bb (hp : PosAt W bb 2 (two a b) (two 0 0)) => there_any W (h.later hW) bb 2 (by omega) _ _ hp)
 have HG := Lib.hid h
 have HKb := Lib.hid hK
 have Hsame := Lib.hid (fun W (hb : Below w.heap.size w W) => (show SlideP K w W g rb cp R C x cell from ⟨(h.later hb).toF x, Kept.ofBelow hb hK⟩))
 clear h hK
 unfold Cl.v
 by_cases hin : ∀ j, j < 2 → inR R C (two a b j) (two 0 0 j)
 ·have he := thereE_ok hin
  rw [he] at HT
  have i0 := hin 0 (by decide)
  have i1 := hin 1 (by decide)
  have ha : 0 ≤ a ∧ a < R := ⟨i0.1, i0.2.1⟩
  have hb : 0 ≤ b ∧ b < R := ⟨i1.1, i1.2.1⟩
  clear hin he i0 i1
  obtain ⟨p, rfl⟩ := Int.eq_ofNat_of_zero_le ha.1
  obtain ⟨q, rfl⟩ := Int.eq_ofNat_of_zero_le hb.1
  have hp : p < R := by omega
  have hq : q < R := by omega
  have hR2 := HG.out.r2
  have hcp := HG.out.cap
  go_enter Tryz.func185, Tryz.ntmps185
  go_wp2_with fail
  refine gen_calls ?_
  intro u hu0
  have KFu : ∀ W, Below u.heap.size u W → (W.cell? ⟨w.heap.size, 0, none⟩ = some (.pointer (some ⟨g, 0, none⟩)) ∧ W.cell? ⟨w.heap.size + 1, 0, none⟩ = some (.int .i32 x.g) ∧ W.cell? ⟨w.heap.size + 1, 1, none⟩ = some (.int .i64 x.a) ∧ W.cell? ⟨w.heap.size + 1, 2, none⟩ = some (.bool x.d) ∧ W.cell? ⟨w.heap.size + 1, 3, none⟩ = some (.int .i64 x.m)) ∧ True ∧ Below w.heap.size w W := by
   intro W hu
   refine ⟨⟨?_, ?_, ?_, ?_, ?_⟩, trivial, ?_⟩
   ·exact (hu.cell (by rw [hu0]; simp <;> omega)).trans (by rw [hu0]; simp [go_sem])
   ·exact (hu.cell (by rw [hu0]; simp <;> omega)).trans (by rw [hu0]; simp [go_sem])
   ·exact (hu.cell (by rw [hu0]; simp <;> omega)).trans (by rw [hu0]; simp [go_sem])
   ·exact (hu.cell (by rw [hu0]; simp <;> omega)).trans (by rw [hu0]; simp [go_sem])
   ·exact (hu.cell (by rw [hu0]; simp <;> omega)).trans (by rw [hu0]; simp [go_sem])
   ·exact bel_call (by rw [hu0]; (repeat first | exact Below.refl _ _ | refine bel_alloc ?_ _)) hu
  have hpos : PosAt u (w.heap.size + 1 + 1) 2 (two (p : Int) (q : Int)) (two 0 0) := posAt_two (by rw [hu0]; simp [go_sem]) (by rw [hu0]; simp [go_sem]) (by rw [hu0]; simp [go_sem]) (by rw [hu0]; simp [go_sem])
  clear hu0
  refine (HT.out u (KFu _ (Below.refl _ _)).2.2 _ hpos).mono ?_
  rintro e w1 ⟨rfl, b1⟩
  obtain ⟨⟨k0, k1, k2, k3, k4⟩, _, kb⟩ := KFu _ b1
  have Hkb := Lib.hid kb
  clear kb
  by_cases hlt : q < p
  ·have q1 : (q : Int) < (p : Int) := by omega
   go_wp2_with fail
   go_ret
   exact ⟨⟨_, rfl⟩, Hsame.out _ Hkb.out⟩
  ·have q1 : ¬ (q : Int) < (p : Int) := by omega
   obtain ⟨L, hL⟩ : ∃ L, q + 1 - p = L := ⟨_, rfl⟩
   have hLe : q + 1 = p + L ∧ 1 ≤ L ∧ p + L ≤ R := by omega
   have s1 : IntKind.i64.wrap ((q : Int) + 1) = (q : Int) + 1 := IntWalk.i64_in _ (by omega)
   have G1 := HG.out.later Hkb.out
   have g0 := G1.g0
   have HG1 := Lib.hid G1
   have Hk0 := Lib.hid k0
   have HX1 := Lib.hid (show CellsAt w1 (w.heap.size + 1) 1 (fun _ => x) from fun j hj => by (obtain rfl : j = 0 := by omega); exact ⟨k1, k2, k3, k4⟩)
   clear G1 k1 k2 k3 k4 KFu hpos HT b1
   have hne1 : g ≠ rb := fun e => HG.out.kr (e ▸ HG.out.kg)
   have hne0 : w.heap.size ≠ rb := by have := HG.out.rowB.blk.lt; omega
   have p1 : p ≤ R := by omega
   have p2 : ¬ cp = p := by omega
   have p3 : q + 1 ≤ R := by omega
   have p4 : p ≤ q + 1 := by omega
   have p5 : (0 : Int) ≤ (q : Int) + 1 := by omega
   have p6 : (q : Int) + 1 ≤ (cp : Int) := by omega
   have p7 : q + 1 ≤ cp := by omega
   clear hp hq ha hb hlt hL
   go_wp2_with fail
   refine wp_region_held_drew (S := fun W => W.cell? ⟨w.heap.size, 0, none⟩ = some (.pointer (some ⟨g, 0, none⟩)) ∧ W.cell? ⟨g, 0, none⟩ = some (.slice (some ⟨rb, 0, none⟩) R cp)) (by kernel_rfl) (⟨k0, g0⟩) (fun hHeld => ?_)
   refine sY 0 27 ?_
   refine sY 1 28 ?_
   refine sY 2 29 ?_
   refine sY 3 30 ?_
   refine sY 4 31 ?_
   refine sY 5 32 ?_
   refine sY 6 33 ?_
   refine sY 7 34 ?_
   refine sY 8 35 ?_
   refine sY 9 36 ?_
   refine sY 10 37 ?_
   refine sY 11 38 ?_
   refine sY 12 39 ?_
   refine sY 13 40 ?_
   refine sY 14 41 ?_
   refine sY 15 42 ?_
   refine sO 16 fun K hK => ?_
   go_simp
   refine (moved_rows w1.drew (HG1.out.to rfl rfl (fun _ _ => rfl)) p L (cp - p) (w.heap.size + 1) w.heap.size n x hLe.2.2 hn HX1.out Hk0.out).mono ?_
   rintro e w3 ⟨v, rfl, rsL, own, hlen, hrs, b3⟩
   obtain ⟨o, cap, hv, ho1, ho2, hbt, hS⟩ := own.rows (by rw [List.length_map, hlen]; omega)
   rw [List.length_map, hlen] at hv
   subst hv
   have B3 : Below w1.heap.size w1 w3 := (Below.refl w1.heap.size w1).drew.trans b3
   have G3 := HG1.out.later B3
   obtain ⟨w4, hcq, hB4, hc4, hK4⟩ := copy_rows (p := p) (L := L) (dl := R - p) (dc := cp - p) (sc := cap) G3.rowB hlen (by have := hLe.2.2; omega) (Nat.min_eq_left (by have := hLe.2.2; omega)) hS
   have HGF := Lib.hid (G3.rolled hlen hLe.2.2 hrs (fun k hk hKk => by have h1 := HKb.out k hKk; have h2 := Hkb.out.size; have h3 : w1.heap.size ≤ k := hk; omega) hB4 hc4 hK4)
   have j0 := cellB B3 Hk0.out
   have j1 := G3.g0
   have HB3 := Lib.hid B3
   have HK4 := Lib.hid hK4
   clear G3 hB4 hc4 hK4 B3 own hrs hbt hS b3 ho1 ho2
   (try go_wp2_with fail)
   refine hK.out _ _ ?_ (fun hHeld => ?_)
   ·exact ⟨j0, j1⟩
   clear hK K
   try simp only [Act.put, List.setIfInBounds_toArray, List.set_cons_zero, List.set_cons_succ]
   refine sO 17 fun K hK => ?_
   go_simp
   (try go_wp2_with fail)
   refine hK.out _ _ ?_ (fun hHeld => ?_)
   ·exact ⟨HK4.out.cell hne0 j0, HK4.out.cell hne1 j1⟩
   clear hK K
   try simp only [Act.put, List.setIfInBounds_toArray, List.set_cons_zero, List.set_cons_succ]
   refine wpAnyH_done (by kernel_rfl) ?_ _
   go_wp2_with fail
   go_ret
   exact ⟨⟨_, rfl⟩, HGF.out, (Kept.ofBelow (bel_call Hkb.out HB3.out) HKb.out).trans (HK4.out.less (fun k hk e => HG.out.kr (e ▸ hk)))⟩
 ·have he : thereE R C 2 (two a b) (two 0 0) = 11 := by unfold thereE; rw [if_neg hin]
  rw [he] at HT
  clear hin he
  go_enter Tryz.func185, Tryz.ntmps185
  go_wp2_with fail
  refine gen_calls ?_
  intro u hu0
  have KFu : ∀ W, Below u.heap.size u W → (W.cell? ⟨w.heap.size, 0, none⟩ = some (.pointer (some ⟨g, 0, none⟩))) ∧ True ∧ Below w.heap.size w W := by
   intro W hu
   refine ⟨?_, trivial, ?_⟩
   ·exact (hu.cell (by rw [hu0]; simp <;> omega)).trans (by rw [hu0]; simp [go_sem])
   ·exact bel_call (by rw [hu0]; (repeat first | exact Below.refl _ _ | refine bel_alloc ?_ _)) hu
  have hpos : PosAt u (w.heap.size + 1 + 1) 2 (two a b) (two 0 0) := posAt_two (by rw [hu0]; simp [go_sem]) (by rw [hu0]; simp [go_sem]) (by rw [hu0]; simp [go_sem]) (by rw [hu0]; simp [go_sem])
  clear hu0
  refine (HT.out u (KFu _ (Below.refl _ _)).2.2 _ hpos).mono ?_
  rintro e w1 ⟨rfl, b1⟩
  obtain ⟨_, _, kb⟩ := KFu _ b1
  have Hkb := Lib.hid kb
  clear kb
  go_wp2_with fail
  go_ret
  exact ⟨⟨_, rfl⟩, Hsame.out _ Hkb.out⟩
end Go.Proofs.YtpjooboohelffaaGreatDoor
/- Top: shift's minus and Up. -/
namespace Go.Proofs.YtpjooboohelffaaGreatDoor
open Go.RowKit Go.Shelf
set_option linter.unusedVariables false
set_option linter.unusedSimpArgs false
set_option maxRecDepth 100000
/-- K, and the blocks made from w to w1. -/
def Loc (K : Nat → Prop) (w w1 : World) : Nat → Prop := fun k => K k ∨ (w.heap.size ≤ k ∧ k < w1.heap.size)
section
variable {K : Nat → Prop} {w w1 w2 : World} {g rb cp R C : Nat} {rs : Nat → Nat} {cell : Nat → Nat → Cl} {x : Cl}
theorem KB.loc (hK : KB K w) (hb : Below w.heap.size w w1) : KB (Loc K w w1) w1 := fun k hk => by
 rcases hk with hk | hk
 ·exact Nat.lt_of_lt_of_le (hK k hk) hb.size
 ·exact hk.2
theorem GridIs.loc (h : GridIs K w g rb cp R C rs cell) (hb : Below w.heap.size w w1) : GridIs (Loc K w w1) w1 g rb cp R C rs cell :=
 (h.later hb).under (.inl h.kg) (fun hk => by
  rcases hk with hk | hk
  ·exact h.kr hk
  ·have := h.rowB.blk.lt; omega) (fun i hi hk => by
  rcases hk with hk | hk
  ·exact h.ks i hi hk
  ·have := (h.celB i hi).blk.lt; omega)
theorem GridF.under {K' : Nat → Prop} (h : GridF K w g rb cp R C x cell) (hg : K' g) (hs : ∀ k, K' k → K k) : GridF K' w g rb cp R C x cell := by
 obtain ⟨rs', cell', h1, h2⟩ := h
 exact ⟨rs', cell', h1.under hg (fun hk => h1.kr (hs _ hk)) (fun i hi hk => h1.ks i hi (hs _ hk)), h2⟩
theorem SlideP.back (h : SlideP (Loc K w w1) w1 w2 g rb cp R C x cell) (hK : KB K w) (hg : K g) (hb : Below w.heap.size w w1) : SlideP K w w2 g rb cp R C x cell :=
 ⟨h.1.under hg (fun k hk => .inl hk), (Kept.ofBelow hb hK).trans (h.2.less (fun k hk => .inl hk))⟩
theorem SlideP.same (h : GridIs K w g rb cp R C rs cell) (hK : KB K w) (hb : Below w.heap.size w w1) (x : Cl) : SlideP K w w1 g rb cp R C x cell := ⟨(h.later hb).toF x, Kept.ofBelow hb hK⟩
end
def minusI (n : Int) : Int := -(max (-510) (min n 510))
theorem minusI_bd (n : Int) : -510 ≤ minusI n ∧ minusI n ≤ 510 := by unfold minusI; omega
theorem minus_any (w : World) (n : Int) : Fs w 189 #[.int .i64 n] (.int .i64 (minusI n)) := by
 have h := minusI_bd n
 have m1 : IntKind.i64.wrap (-(max (-510) (min n 510))) = minusI n := by
  rw [show -(max (-510) (min n 510)) = minusI n from rfl]; exact IntWalk.i64_in _ (by omega)
 obtain ⟨m, hm⟩ : ∃ m, max (-510) (min n 510) = m := ⟨_, rfl⟩
 have hm2 : minusI n = -m := by unfold minusI; rw [hm]
 have m3 : IntKind.i64.wrap (-m) = -m := IntWalk.i64_in _ (by omega)
 have m4 : IntKind.i64.wrap (-n) = -n ∨ ¬ (-510 ≤ n ∧ n ≤ 510) := by
  by_cases hn : -510 ≤ n ∧ n ≤ 510
  ·exact .inl (IntWalk.i64_in _ (by omega))
  ·exact .inr hn
 rw [hm2]
 clear m1
 go_enter Tryz.func189, Tryz.ntmps189
 go_wp2_with fail
 all_goals (go_ret; exact ⟨rfl, rfl⟩)
theorem field23_0 (a b : Int) (w : World) : Sem.run Tryz.prog (Instr.field 23 (.agg #[.int .i64 a, .int .i64 b]) 0) w = .ok (.int .i64 a) w := by kernel_rfl
theorem field23_1 (a b : Int) (w : World) : Sem.run Tryz.prog (Instr.field 23 (.agg #[.int .i64 a, .int .i64 b]) 1) w = .ok (.int .i64 b) w := by kernel_rfl
set_option maxHeartbeats 1000000 in
theorem up_any {K : Nat → Prop} {g rb cp R C : Nat} {rs : Nat → Nat} {cell : Nat → Nat → Cl} (w : World) (hK : KB K w) (h : GridIs K w g rb cp R C rs cell) (n : Int) (hn : -510 ≤ n ∧ n ≤ 510) (x : Cl) :
  Calls Tryz.prog 147 #[.pointer (some ⟨g, 0, none⟩), .int .i64 n, x.v] w fun e w' => (∃ z, e = .returned (.int .i64 z)) ∧ SlideP K w w' g rb cp R C x cell := by
 have HS := Lib.hid (fun W (hb : Below w.heap.size w W) => (show Fn W 53 #[.pointer (some ⟨g, 0, none⟩)] (.agg #[.int .i64 (R : Int), .int .i64 (C : Int)]) from size_any W (h.later hb)))
 have HR := Lib.hid (fun W (hb : Below w.heap.size w W) a b => roll_any (K := Loc K w W) W (hK.loc hb) (h.loc hb) a b n hn x)
 have HB := Lib.hid (fun W W2 (hb : Below w.heap.size w W) (hs : SlideP (Loc K w W) W W2 g rb cp R C x cell) => hs.back hK h.kg hb)
 have hr := h.sz
 have s1 : IntKind.i64.wrap ((R : Int) - 1) = (R : Int) - 1 := IntWalk.i64_in _ (by have := hr.2.1; omega)
 have hfd := field23_0
 have hm0 : ¬ ((R : Int) - 1 < 0) := by have := hr.1; omega
 have hmx : max ((R : Int) - 1) 0 = (R : Int) - 1 := by omega
 clear h hK hr
 unfold Cl.v at *
 go_enter Tryz.func147, Tryz.ntmps147
 go_wp2_with fail
 refine gen_wp ?_
 intro u hu0
 have KFu : ∀ W, Below u.heap.size u W → (W.cell? ⟨w.heap.size, 0, none⟩ = some (.int .i32 x.g) ∧ W.cell? ⟨w.heap.size, 1, none⟩ = some (.int .i64 x.a) ∧ W.cell? ⟨w.heap.size, 2, none⟩ = some (.bool x.d) ∧ W.cell? ⟨w.heap.size, 3, none⟩ = some (.int .i64 x.m)) ∧ True ∧ Below w.heap.size w W := by
  intro W hu
  refine ⟨⟨?_, ?_, ?_, ?_⟩, trivial, ?_⟩
  ·exact (hu.cell (by rw [hu0]; simp <;> omega)).trans (by rw [hu0]; simp [go_sem])
  ·exact (hu.cell (by rw [hu0]; simp <;> omega)).trans (by rw [hu0]; simp [go_sem])
  ·exact (hu.cell (by rw [hu0]; simp <;> omega)).trans (by rw [hu0]; simp [go_sem])
  ·exact (hu.cell (by rw [hu0]; simp <;> omega)).trans (by rw [hu0]; simp [go_sem])
  ·exact bel_call (by rw [hu0]; (repeat first | exact Below.refl _ _ | refine bel_alloc ?_ _)) hu
 clear hu0
 have kb0 := (KFu _ (Below.refl _ _)).2.2
 refine wp_region_held_drew (S := fun W => W.cell? ⟨w.heap.size, 0, none⟩ = some (.int .i32 x.g) ∧ W.cell? ⟨w.heap.size, 1, none⟩ = some (.int .i64 x.a) ∧ W.cell? ⟨w.heap.size, 2, none⟩ = some (.bool x.d) ∧ W.cell? ⟨w.heap.size, 3, none⟩ = some (.int .i64 x.m)) (by kernel_rfl) ((KFu _ (Below.refl _ _).drew).1) (fun hHeld => ?_)
 refine sY 0 7 ?_
 refine sY 1 8 ?_
 refine sY 6 13 ?_
 refine sY 7 14 ?_
 refine sO 2 fun K hK => ?_
 go_simp
 refine (HS.out _ ((kb0).drew)).mono ?_
 rintro e w1 ⟨rfl, b1⟩
 have B1 : Below u.heap.size u w1 := (Below.refl u.heap.size u).drew.trans b1
 have kb1 := (KFu _ B1).2.2
 (try go_wp2_with fail)
 refine hK.out _ _ ?_ (fun hHeld => ?_)
 ·exact (KFu _ B1).1
 clear hK K
 try simp only [Act.put, List.setIfInBounds_toArray, List.set_cons_zero, List.set_cons_succ]
 refine sY 3 10 ?_
 refine sY 4 11 ?_
 refine sY 5 12 ?_
 refine sO 8 fun K hK => ?_
 go_simp
 have hl := blt hHeld.1
 refine (HR.out _ kb1 _ _).mono ?_
 rintro e w4 ⟨⟨z, rfl⟩, hs⟩
 (try go_wp2_with fail)
 refine hK.out _ _ ?_ (fun hHeld => ?_)
 ·exact ⟨hs.2.cell (.inr ⟨Nat.le_refl _, hl⟩) hHeld.1, hs.2.cell (.inr ⟨Nat.le_refl _, hl⟩) hHeld.2.1, hs.2.cell (.inr ⟨Nat.le_refl _, hl⟩) hHeld.2.2.1, hs.2.cell (.inr ⟨Nat.le_refl _, hl⟩) hHeld.2.2.2⟩
 clear hK K
 try simp only [Act.put, List.setIfInBounds_toArray, List.set_cons_zero, List.set_cons_succ]
 refine sY 9 6 ?_
 refine wpAnyH_done (by kernel_rfl) ?_ _
 go_wp2_with fail
 go_ret
 exact ⟨⟨_, rfl⟩, HB.out _ _ kb1 hs⟩
end Go.Proofs.YtpjooboohelffaaGreatDoor
/- Top: shift's Guarded. -/
namespace Go.Proofs.YtpjooboohelffaaGreatDoor
open Go.RowKit Go.Shelf
set_option linter.unusedVariables false
set_option linter.unusedSimpArgs false
set_option maxRecDepth 100000
attribute [local go_sem] Oper.semAt_some
theorem gen_tmps {c : Code} {F : Fence} {n : Nat} {P : Program} {Q : Exit → Act → World → Prop} {a : Act} {w : World} (h : ∀ T, T = a.tmps → c.wpIn F n P Q { tmps := T, defers := a.defers } w) : c.wpIn F n P Q a w := h a.tmps rfl
theorem blk_kept {W W' : World} {row : Option Nat} {b : Nat} {cs : Array Value} {t : TypeId} (h : W.heap[b]? = some (.cells cs t (0, 0))) (hg : W.grownBy W' row) (hr : ∀ r, row = some r → ∃ o : Obj, W.heap[r]? = some o ∧ o.isCells = false) : W'.heap[b]? = some (.cells cs t (0, 0)) :=
 (hg.block b (Array.getElem?_eq_some_iff.1 h).1 (fun e => by
  obtain ⟨o, ho, hc⟩ := hr b e.symm
  rw [h] at ho; cases ho; cases hc)).trans h
set_option maxHeartbeats 4000000 in
theorem guarded_in {K : Nat → Prop} {g rb cp R C : Nat} {rs : Nat → Nat} {cell : Nat → Nat → Cl} (w : World) (h : GridIs K w g rb cp R C rs cell) (i : Nat) (hi : i < R) :
  Calls Tryz.prog 205 #[.pointer (some ⟨g, 0, none⟩), .int .i64 (i : Int)] w fun e w' => (∃ k, e = .returned (.tuple #[.int .i64 k, .int .i64 0])) ∧ Below w.heap.size w w' := by
 refine (callsIn_wide (n := 3)).1 (callsIn_of_wp_marks Tryz.func205 rfl trivial ?_ rfl)
 simp only [Tryz.ntmps205, List.size_toArray, List.length_cons, List.length_nil, Nat.reduceAdd, Nat.reduceSub, Array.replicate_succ, Array.replicate_zero, List.push_toArray, List.append_toArray, List.nil_append, List.cons_append]
 have HT := Lib.hid (fun W (hb : Below w.heap.size w W) => at_ok W (h.later hb) i 0 hi h.c1)
 have HA := Lib.hid (fun W => all_any W (some ⟨g, 0, none⟩))
 have HG := Lib.hid h
 clear h
 gi_wp2_with (first
  | (refine ⟨trivial, ?_⟩; gi_at_call 96; refine (callsIn_wide.2 (HT.out _ (bel_alloc (Below.refl _ _) _))).mono ?_; rintro e w1 ⟨rfl, b1⟩; unfold Cl.v)
  | (refine ⟨trivial, ?_⟩; gi_at_call 63; refine (callsIn_wide.2 (HA.out _)).mono ?_; rintro e w2 ⟨rfl, rfl⟩))
 refine gen_tmps ?_
 intro T hT
 simp only at hT
 generalize cell i 0 = c0 at *
 obtain ⟨w2, hw2⟩ : ∃ w2, (((w1.alloc (Obj.cells #[Value.int IntKind.i32 c0.g, Value.int IntKind.i64 c0.a, Value.bool c0.d, Value.int IntKind.i64 c0.m] 48)).alloc
     (Obj.cells #[Value.int IntKind.i64 0] 3)).alloc (Obj.cells #[Value.pointer (some { block := g, off := 0 })] 79)) = w2 := ⟨_, rfl⟩
 have hw1 : Below w.heap.size w w1 := bel_call (bel_alloc (Below.refl _ _) _) b1
 have hB : Below w.heap.size w w2 := bel_call hw1 (by rw [← hw2]; exact bel_alloc (bel_alloc (bel_alloc (Below.refl _ _) _) _) _)
 have hB1 : Below w1.heap.size w1 w2 := by rw [← hw2]; exact bel_alloc (bel_alloc (bel_alloc (Below.refl _ _) _) _) _
 have hsz : w2.heap.size = w1.heap.size + 1 + 1 + 1 := by rw [← hw2]; simp
 have cn : w2.heap[w1.heap.size + 1]? = some (.cells #[.int .i64 0] 3 (0, 0)) := by
  rw [← hw2]
  refine (Below.heap_alloc _ _ _ (by simp)).trans ?_
  have := heap_alloc_new (w1.alloc (Obj.cells #[Value.int IntKind.i32 c0.g, Value.int IntKind.i64 c0.a, Value.bool c0.d, Value.int IntKind.i64 c0.m] 48)) (Obj.cells #[Value.int IntKind.i64 0] 3)
  simpa using this
 have cx : w2.cell? ⟨w1.heap.size + 1 + 1, 0, none⟩ = some (.pointer (some ⟨g, 0, none⟩)) := by rw [← hw2]; simp [go_sem]
 have cr : w2.cell? ⟨w.heap.size, 0, none⟩ = some (.int .i64 (i : Int)) := cellB hB1 (cellB b1 (by simp [go_sem]))
 rw [hw2]
 clear hw2 HA HT b1
 have HCn := Lib.hid cn
 have Hcx := Lib.hid cx
 have Hcr := Lib.hid cr
 have HSz := Lib.hid hsz
 have HB := Lib.hid hB
 have Hw1 := Lib.hid hw1.size
 clear cn cx cr hsz hB hB1 hw1
 refine range_law (n := 2) (m := 1) (gf := 99) (lb := #[.pointer (some ⟨w1.heap.size + 1 + 1, 0, none⟩)]) (by rw [hT]; rfl) (enters_of Tryz.func99 (by kernel_rfl) rfl) (encs := encPC) (fun _ => rfl)
  (S := fun ys => ys.length = R * C) (Sp := fun _ => True) (V := fun _ _ => True) (N := R * C) (Kp := KeepsT 23) KeepsT.trans (fun W l o o' _ hl ho _ => KeepsT.putObj W l o o' hl ho)
  (fun pre W => (∃ v, W.heap[w1.heap.size + 1]? = some (.cells #[.int .i64 v] 3 (0, 0))) ∧ W.cell? ⟨w1.heap.size + 1 + 1, 0, none⟩ = some (.pointer (some ⟨g, 0, none⟩)) ∧ W.cell? ⟨w.heap.size, 0, none⟩ = some (.int .i64 (i : Int)) ∧ Below w.heap.size w W ∧ w2.heap.size ≤ W.heap.size)
  (fun c pre W => False)
  ?hI ?hIx ⟨⟨_, HCn.out⟩, Hcx.out, Hcr.out, HB.out, Nat.le_refl _⟩
  (fun x a' W => ∃ b c, w2.heap.size ≤ b ∧ w2.heap.size ≤ c ∧ W.heap[b]? = some (.cells #[.int .i64 (x.i : Int), .int .i64 (x.j : Int)] 36 (0, 0)) ∧ CellsAt W c 1 (fun _ => x.c) ∧
   a' = { tmps := (((T.setIfInBounds 23 (pr x.i x.j)).setIfInBounds 24 x.c.v).setIfInBounds 9 (.pointer (some ⟨b, 0, none⟩))).setIfInBounds 10 (.pointer (some ⟨c, 0, none⟩)), defers := [] })
  ?hAx ?hit ?assign ?body ?done ?stop
 case hI =>
  rintro s W W' row ⟨⟨v, h1⟩, h2, h3, h4, h5⟩ hg hr
  exact ⟨⟨v, blk_kept h1 hg (fun r e => (hr r e).2)⟩, cell_kept h2 hg (fun r e => (hr r e).2), cell_kept h3 hg (fun r e => (hr r e).2), ownFrom_below (β := Unit) (B := w2.heap.size) (w₀ := w) (Nat.le_refl _) HB.out.size () W W' row h4 hg hr, Nat.le_trans h5 hg.size⟩
 case hIx => exact fun c pre W W' row h _ _ => h
 case hAx =>
  rintro x a' _ W W' row ⟨b, c, hb, hc, k0, k2, e⟩ hg hr
  have kk := fun {b o v} (k : W.cell? ⟨b, o, none⟩ = some v) => cell_kept k hg (fun r e => (hr r e).2)
  exact ⟨b, c, hb, hc, blk_kept k0 hg (fun r e => (hr r e).2), fun j hj => ⟨kk (k2 j hj).1, kk (k2 j hj).2.1, kk (k2 j hj).2.2.1, kk (k2 j hj).2.2.2⟩, e⟩
 case hit =>
  rintro W0 ⟨o, o', _, _, rfl⟩ hI0
  refine all_iter 2 (by decide) (w1.heap.size + 1 + 1) w2.heap.size g rb cp R C K _ _ _ _ (by simp; omega) ?_ ?_ (fun _ _ h => h)
  ·rintro pre X X' ⟨⟨v, h1⟩, h2, h3, h4, h5⟩ hb
   exact ⟨⟨v, (hb.block _ (Array.getElem?_eq_some_iff.1 h1).1).trans h1⟩, cellB hb h2, cellB hb h3, bel_call h4 hb, Nat.le_trans h5 hb.size⟩
  ·rintro pre X ⟨h1, h2, h3, h4, h5⟩
   exact ⟨h2, rs, cell, HG.out.later h4, fun _ => trivial⟩
 case assign =>
  rintro l pre x W Kk ⟨⟨v, h1⟩, h2, h3, h4, h5⟩ hK
  have hbW : Below W.heap.size W ((W.alloc (Obj.cells #[Value.int IntKind.i64 ↑x.i, Value.int IntKind.i64 ↑x.j] 36)).alloc
   (Obj.cells #[Value.int IntKind.i32 x.c.g, Value.int IntKind.i64 x.c.a, Value.bool x.c.d, Value.int IntKind.i64 x.c.m] 48)) := bel_alloc (bel_alloc (Below.refl _ _) _) _
  have HKk := Lib.hid (fun (a : Act) h => hK a _ (keepsB hbW) (KeepsT.ofBelow hbW) ⟨⟨v, (hbW.block _ (Array.getElem?_eq_some_iff.1 h1).1).trans h1⟩, cellB hbW h2, cellB hbW h3, bel_call h4 hbW, Nat.le_trans h5 hbW.size⟩
   ⟨W.heap.size, W.heap.size + 1, by omega, by omega, (Below.heap_alloc _ _ _ (by simp)).trans (heap_alloc_new W _), fun j hj => by (obtain rfl : j = 0 := by omega); (refine ⟨?_, ?_, ?_, ?_⟩ <;> simp [go_sem]), h⟩)
  clear hK h1 h2 h3 h4 h5 hbW
  subst hT
  simp only [encPC, Cl.v]
  gi_wp2
  exact HKk.out _ rfl
 case body =>
  rintro l pre x a' W ⟨⟨v, h1⟩, h2, h3, h4, h5⟩ ⟨b, c, hb, hc, kb0, kc0, rfl⟩ hlen _
  subst hT
  obtain ⟨c0', c1'⟩ := cells2 kb0
  obtain ⟨d0, d1, d2, d3⟩ := kc0 0 (by decide)
  simp only [Nat.zero_mul, Nat.zero_add] at d0 d1 d2 d3
  obtain ⟨n0, n1⟩ := cell1 h1
  have hz := HSz.out
  have hw := Hw1.out
  have HE : ∀ u : Int, KeepsFrom w2.heap.size W (W.setCell ⟨w1.heap.size + 1, 0, none⟩ (.int .i64 u)) ∧ KeepsT 23 W (W.setCell ⟨w1.heap.size + 1, 0, none⟩ (.int .i64 u)) ∧
    ((∃ v, (W.setCell ⟨w1.heap.size + 1, 0, none⟩ (.int .i64 u)).heap[w1.heap.size + 1]? = some (.cells #[.int .i64 v] 3 (0, 0))) ∧ (W.setCell ⟨w1.heap.size + 1, 0, none⟩ (.int .i64 u)).cell? ⟨w1.heap.size + 1 + 1, 0, none⟩ = some (.pointer (some ⟨g, 0, none⟩)) ∧
     (W.setCell ⟨w1.heap.size + 1, 0, none⟩ (.int .i64 u)).cell? ⟨w.heap.size, 0, none⟩ = some (.int .i64 (i : Int)) ∧ Below w.heap.size w (W.setCell ⟨w1.heap.size + 1, 0, none⟩ (.int .i64 u)) ∧ w2.heap.size ≤ (W.setCell ⟨w1.heap.size + 1, 0, none⟩ (.int .i64 u)).heap.size) := fun u => by
   have hset : ∀ q, q ≠ w1.heap.size + 1 → (W.setCell ⟨w1.heap.size + 1, 0, none⟩ (.int .i64 u)).heap[q]? = W.heap[q]? := fun q hq => Below.heap_setCell _ _ _ _ hq
   have hsz : (W.setCell ⟨w1.heap.size + 1, 0, none⟩ (.int .i64 u)).heap.size = W.heap.size := by simp [World.setCell]
   refine ⟨⟨by omega, fun q o hB hq _ => (hset q (by omega)).trans hq⟩, ⟨by omega, fun q cs hq => (hset q (fun e => by subst e; rw [h1] at hq; cases hq)).trans hq⟩, ⟨u, ?_⟩, cs_other h2 (by simp <;> omega), cs_other h3 (by simp <;> omega), h4.setCell (by simp; omega) _, by omega⟩
   have := heap_setCell_same W (w1.heap.size + 1) 0 _ _ (.int .i64 u) h1
   simpa using this
  have HEE := Lib.hid HE
  have HI := Lib.hid (show KeepsFrom w2.heap.size W W ∧ KeepsT 23 W W ∧ ((∃ v, W.heap[w1.heap.size + 1]? = some (.cells #[.int .i64 v] 3 (0, 0))) ∧ W.cell? ⟨w1.heap.size + 1 + 1, 0, none⟩ = some (.pointer (some ⟨g, 0, none⟩)) ∧ W.cell? ⟨w.heap.size, 0, none⟩ = some (.int .i64 (i : Int)) ∧ Below w.heap.size w W ∧ w2.heap.size ≤ W.heap.size) from
   ⟨KeepsFrom.refl _ _, KeepsT.refl _ _, ⟨v, h1⟩, h2, h3, h4, h5⟩)
  clear h1 h2 h4 h5 HE kb0 kc0 hb hc hlen hz hw
  by_cases hge : (i : Int) ≤ (x.i : Int)
  ·have dd : decide ((i : Int) ≤ (x.i : Int)) = true := by simp [hge]
   cases hcd : x.c.d with
   | true =>
    rw [hcd] at d2
    gi_wp2_with fail
    exact HEE.out _
   | false =>
    rw [hcd] at d2
    gi_wp2_with fail
    exact HI.out
  ·have dd : decide ((i : Int) ≤ (x.i : Int)) = false := by simp; omega
   gi_wp2_with fail
   exact HI.out
 case done =>
  rintro D ys W hD hlen ⟨⟨v, h1⟩, h2, h3, h4, h5⟩ hK
  subst hT
  obtain ⟨n0, n1⟩ := cell1 h1
  have H4 := Lib.hid h4
  have HK := Lib.hid hK
  clear h4 hK h1 h2 h3
  gi_wp2
  refine ⟨by simp, .inl ⟨_, _, rfl, run_takeDeferred HK.out, ?_⟩⟩
  exact ⟨.tuple #[.int .i64 v, .int .i64 0], by simp [results, Tryz.results205, go_sem], ⟨v, rfl⟩, H4.out.grown (grownBy_putObj' W D (.deferred none)) H4.out.size (fun k e => by cases e; have := HB.out.size; omega)⟩
 case stop => exact fun D c pre W _ _ h _ => h.elim
end Go.Proofs.YtpjooboohelffaaGreatDoor
/- Top: shift's Lines. -/
namespace Go.Proofs.YtpjooboohelffaaGreatDoor
open Go.RowKit Go.Shelf
set_option linter.unusedVariables false
set_option linter.unusedSimpArgs false
set_option maxRecDepth 100000
set_option maxHeartbeats 2000000 in
theorem lines_any {K : Nat → Prop} {g rb cp R C : Nat} {rs : Nat → Nat} {cell : Nat → Nat → Cl} (w : World) (hK : KB K w) (h : GridIs K w g rb cp R C rs cell) (i : Nat) (hi : i < R) (n : Int) (x : Cl) (gd : Bool) :
  Calls Tryz.prog 166 #[.pointer (some ⟨g, 0, none⟩), .int .i64 (i : Int), .int .i64 n, x.v, .bool gd] w fun e w' => (∃ z, e = .returned (.int .i64 z)) ∧ SlideP K w w' g rb cp R C x cell := by
 have HS := Lib.hid (fun W (hb : Below w.heap.size w W) => (show Fn W 53 #[.pointer (some ⟨g, 0, none⟩)] (.agg #[.int .i64 (R : Int), .int .i64 (C : Int)]) from size_any W (h.later hb)))
 have HR := Lib.hid (fun W (hb : Below w.heap.size w W) a b => roll_any (K := Loc K w W) W (hK.loc hb) (h.loc hb) a b (minusI n) (minusI_bd n) x)
 have HB := Lib.hid (fun W W2 (hb : Below w.heap.size w W) (hs : SlideP (Loc K w W) W W2 g rb cp R C x cell) => hs.back hK h.kg hb)
 have HGd := Lib.hid (fun W (hb : Below w.heap.size w W) => guarded_in W (h.later hb) i hi)
 have Hsame := Lib.hid (fun W (hb : Below w.heap.size w W) => SlideP.same h hK hb x)
 have hr := h.sz
 have s1 : IntKind.i64.wrap ((R : Int) - 1) = (R : Int) - 1 := IntWalk.i64_in _ (by have := hr.2.1; omega)
 have hfd := field23_0
 clear h hK hr
 unfold Cl.v at *
 go_enter Tryz.func166, Tryz.ntmps166
 go_wp2_with fail
 refine gen_calls ?_
 intro u hu0
 have KFu : ∀ W, Below u.heap.size u W → (W.cell? ⟨w.heap.size, 0, none⟩ = some (.int .i32 x.g) ∧ W.cell? ⟨w.heap.size, 1, none⟩ = some (.int .i64 x.a) ∧ W.cell? ⟨w.heap.size, 2, none⟩ = some (.bool x.d) ∧ W.cell? ⟨w.heap.size, 3, none⟩ = some (.int .i64 x.m)) ∧ True ∧ Below w.heap.size w W := by
  intro W hu
  refine ⟨⟨?_, ?_, ?_, ?_⟩, trivial, ?_⟩
  ·exact (hu.cell (by rw [hu0]; simp <;> omega)).trans (by rw [hu0]; simp [go_sem])
  ·exact (hu.cell (by rw [hu0]; simp <;> omega)).trans (by rw [hu0]; simp [go_sem])
  ·exact (hu.cell (by rw [hu0]; simp <;> omega)).trans (by rw [hu0]; simp [go_sem])
  ·exact (hu.cell (by rw [hu0]; simp <;> omega)).trans (by rw [hu0]; simp [go_sem])
  ·exact bel_call (by rw [hu0]; (repeat first | exact Below.refl _ _ | refine bel_alloc ?_ _)) hu
 clear hu0
 refine (HGd.out _ (KFu _ (Below.refl _ _)).2.2).mono ?_
 rintro e w1 ⟨⟨k, rfl⟩, b1⟩
 obtain ⟨⟨k0, k1, k2, k3⟩, _, kb0⟩ := KFu _ b1
 have Hkb := Lib.hid kb0
 clear kb0
 have hl := blt k0
 by_cases hg : gd = true ∧ 0 < k
 ·obtain ⟨rfl, hk⟩ := hg
  have dk : decide (0 < k) = true := by simp [hk]
  go_wp2_with fail
  go_ret
  exact ⟨⟨_, rfl⟩, Hsame.out _ Hkb.out⟩
 ·have HN : (gd = false) ∨ (gd = true ∧ decide (0 < k) = false) := by
   cases gd
   ·exact .inl rfl
   ·right; simp at hg ⊢; omega
  clear hg
  have HM := fun W => minus_any W n
  rcases HN with rfl | ⟨rfl, dk⟩
  ·go_wp2_with fail
   refine wp_region_held_drew (S := fun W => W.cell? ⟨w.heap.size, 0, none⟩ = some (.int .i32 x.g) ∧ W.cell? ⟨w.heap.size, 1, none⟩ = some (.int .i64 x.a) ∧ W.cell? ⟨w.heap.size, 2, none⟩ = some (.bool x.d) ∧ W.cell? ⟨w.heap.size, 3, none⟩ = some (.int .i64 x.m)) (by kernel_rfl) (⟨k0, k1, k2, k3⟩) (fun hHeld => ?_)
   refine sY 0 29 ?_
   refine sY 1 30 ?_
   refine sY 2 31 ?_
   refine sY 6 35 ?_
   refine sY 8 37 ?_
   refine sO 3 fun K hK => ?_
   go_simp
   refine (HS.out _ (Hkb.out.drew)).mono ?_
   rintro e w2 ⟨rfl, b2⟩
   have B2 : Below w1.heap.size w1 w2 := (Below.refl w1.heap.size w1).drew.trans b2
   have kb1 := bel_call Hkb.out B2
   have Hkb1 := Lib.hid kb1
   (try go_wp2_with fail)
   refine hK.out _ _ ?_ (fun hHeld => ?_)
   ·exact ⟨cellB B2 k0, cellB B2 k1, cellB B2 k2, cellB B2 k3⟩
   clear hK K
   try simp only [Act.put, List.setIfInBounds_toArray, List.set_cons_zero, List.set_cons_succ]
   refine sY 4 33 ?_
   refine sY 5 34 ?_
   refine sO 7 fun K hK => ?_
   go_simp
   refine (HM _).mono ?_
   rintro e w3 ⟨rfl, rfl⟩
   (try go_wp2_with fail)
   refine hK.out _ _ ?_ (fun hHeld => ?_)
   ·exact hHeld
   clear hK K
   try simp only [Act.put, List.setIfInBounds_toArray, List.set_cons_zero, List.set_cons_succ]
   refine sO 9 fun K hK => ?_
   go_simp
   have hl2 := blt hHeld.1
   refine (HR.out _ kb1 _ _).mono ?_
   rintro e w4 ⟨⟨z, rfl⟩, hs⟩
   (try go_wp2_with fail)
   refine hK.out _ _ ?_ (fun hHeld => ?_)
   ·exact ⟨hs.2.cell (.inr ⟨Nat.le_refl _, hl2⟩) hHeld.1, hs.2.cell (.inr ⟨Nat.le_refl _, hl2⟩) hHeld.2.1, hs.2.cell (.inr ⟨Nat.le_refl _, hl2⟩) hHeld.2.2.1, hs.2.cell (.inr ⟨Nat.le_refl _, hl2⟩) hHeld.2.2.2⟩
   clear hK K
   try simp only [Act.put, List.setIfInBounds_toArray, List.set_cons_zero, List.set_cons_succ]
   refine sY 10 10 ?_
   refine wpAnyH_done (by kernel_rfl) ?_ _
   go_wp2_with fail
   go_ret
   exact ⟨⟨_, rfl⟩, HB.out _ _ kb1 hs⟩
  ·go_wp2_with fail
   refine wp_region_held_drew (S := fun W => W.cell? ⟨w.heap.size, 0, none⟩ = some (.int .i32 x.g) ∧ W.cell? ⟨w.heap.size, 1, none⟩ = some (.int .i64 x.a) ∧ W.cell? ⟨w.heap.size, 2, none⟩ = some (.bool x.d) ∧ W.cell? ⟨w.heap.size, 3, none⟩ = some (.int .i64 x.m)) (by kernel_rfl) (⟨k0, k1, k2, k3⟩) (fun hHeld => ?_)
   refine sY 0 29 ?_
   refine sY 1 30 ?_
   refine sY 2 31 ?_
   refine sY 6 35 ?_
   refine sY 8 37 ?_
   refine sO 3 fun K hK => ?_
   go_simp
   refine (HS.out _ (Hkb.out.drew)).mono ?_
   rintro e w2 ⟨rfl, b2⟩
   have B2 : Below w1.heap.size w1 w2 := (Below.refl w1.heap.size w1).drew.trans b2
   have kb1 := bel_call Hkb.out B2
   have Hkb1 := Lib.hid kb1
   (try go_wp2_with fail)
   refine hK.out _ _ ?_ (fun hHeld => ?_)
   ·exact ⟨cellB B2 k0, cellB B2 k1, cellB B2 k2, cellB B2 k3⟩
   clear hK K
   try simp only [Act.put, List.setIfInBounds_toArray, List.set_cons_zero, List.set_cons_succ]
   refine sY 4 33 ?_
   refine sY 5 34 ?_
   refine sO 7 fun K hK => ?_
   go_simp
   refine (HM _).mono ?_
   rintro e w3 ⟨rfl, rfl⟩
   (try go_wp2_with fail)
   refine hK.out _ _ ?_ (fun hHeld => ?_)
   ·exact hHeld
   clear hK K
   try simp only [Act.put, List.setIfInBounds_toArray, List.set_cons_zero, List.set_cons_succ]
   refine sO 9 fun K hK => ?_
   go_simp
   have hl2 := blt hHeld.1
   refine (HR.out _ kb1 _ _).mono ?_
   rintro e w4 ⟨⟨z, rfl⟩, hs⟩
   (try go_wp2_with fail)
   refine hK.out _ _ ?_ (fun hHeld => ?_)
   ·exact ⟨hs.2.cell (.inr ⟨Nat.le_refl _, hl2⟩) hHeld.1, hs.2.cell (.inr ⟨Nat.le_refl _, hl2⟩) hHeld.2.1, hs.2.cell (.inr ⟨Nat.le_refl _, hl2⟩) hHeld.2.2.1, hs.2.cell (.inr ⟨Nat.le_refl _, hl2⟩) hHeld.2.2.2⟩
   clear hK K
   try simp only [Act.put, List.setIfInBounds_toArray, List.set_cons_zero, List.set_cons_succ]
   refine sY 10 10 ?_
   refine wpAnyH_done (by kernel_rfl) ?_ _
   go_wp2_with fail
   go_ret
   exact ⟨⟨_, rfl⟩, HB.out _ _ kb1 hs⟩
end Go.Proofs.YtpjooboohelffaaGreatDoor
