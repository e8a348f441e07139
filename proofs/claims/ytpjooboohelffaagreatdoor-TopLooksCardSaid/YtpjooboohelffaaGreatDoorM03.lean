/- TopLooks and TopSends, helper 4 of 27. It holds: grid.New; moved, at cells; the grid's Slide; the grid's Slide: the walk. Each theorem states its own conditions. -/
import Derived.Test.YtpjooboohelffaaGreatDoorM01
import Derived.Test.YtpjooboohelffaaGreatDoorM02
import Derived.OwnWalk
/- Top: grid.New. -/
namespace Go.Proofs.YtpjooboohelffaaGreatDoor
open Go.RowKit Go.Shelf
set_option linter.unusedVariables false
set_option linter.unusedSimpArgs false
set_option maxRecDepth 100000
theorem mul_one (n : Nat) (hn : n ≤ 255) (W : World) : Calls Tryz.prog 104 #[.int .u64 1, .int .u64 (n : Int)] W fun e w' => e = .returned (.tuple #[.int .u64 0, .int .u64 (n : Int)]) ∧ w' = W := by
 have := Tryz.bits_Mul 1 n (by omega) (by omega) W
 rw [show 1 * n / 18446744073709551616 = 0 by omega, show 1 * n % 18446744073709551616 = n by omega] at this
 exact this
theorem rep_any (w : World) (b n : Nat) (x : Cl) (hn1 : 1 ≤ n) (hn : n ≤ 255) (hx : CellsAt w b 1 (fun _ => x)) :
  Calls Tryz.prog 71 #[.slice (some ⟨b, 0, none⟩) 1 1, .int .i64 (n : Int)] w fun e w' => ∃ r, e = .returned (.slice (some ⟨r, 0, none⟩) n n) ∧ w.heap.size ≤ r ∧ BlkT w' r (n * 4) 48 ∧ CellsAt w' r n (fun _ => x) ∧ Below w.heap.size w w' :=
 repeat_any w b n x hn1 hn hx (mul_one n hn)
/-- Rows (slices) of the call's own. -/
def OwnR (w : World) (base : Nat) (v : Value) (L : List Value) : Prop := w.ownsRow base 44 1 v L.length L
theorem OwnR.nil (w : World) (base : Nat) : OwnR w base (.slice none 0 0) [] := World.ownsRow_nil _ _ _ _
theorem OwnR.call {w w' : World} {base : Nat} {v : Value} {L : List Value} (h : OwnR w base v L) (hb : Below w.heap.size w w') : OwnR w' base v L := ownsRow_call h hb
theorem OwnR.shape {w : World} {base : Nat} {v : Value} {L : List Value} (h : OwnR w base v L) : ∃ ad cap, v = .slice ad L.length cap := by
 rcases h.2 with ⟨rfl, h0⟩ | ⟨g, cap, cur, hv, _⟩
 ·exact ⟨none, 0, by rw [h0]⟩
 ·exact ⟨_, _, hv⟩
theorem OwnR.own {w : World} {base : Nat} {v : Value} {L : List Value} (h : OwnR w base v L) {k : Nat} (hk : v.ownBlock = some k) : base ≤ k ∧ ∃ n, BlkT w k n 44 := by
 rcases h.2 with ⟨rfl, _⟩ | ⟨g, cap, cur, rfl, hg, hgb, _⟩
 ·simp [Value.ownBlock] at hk
 ·simp [Value.ownBlock] at hk
  subst hk
  exact ⟨hg, _, cur, hgb, rfl⟩
theorem OwnR.rows {w : World} {base : Nat} {v : Value} {L : List Value} (h : OwnR w base v L) (h0 : 0 < L.length) : ∃ g cap, v = .slice (some ⟨g, 0, none⟩) L.length cap ∧ base ≤ g ∧ L.length ≤ cap ∧ BlkT w g cap 44 ∧ ∀ i (hi : i < L.length), w.cell? ⟨g, i, none⟩ = some L[i] := by
 rcases h.2 with ⟨rfl, hn⟩ | ⟨g, cap, cur, hv, hg, hh, ht, hsz, hl⟩
 ·omega
 ·refine ⟨g, cap, hv, hg, ht, ⟨cur, hh, by omega⟩, fun i hi => ?_⟩
  have e : (List.take (L.length * 1) cur.toList)[i]? = some L[i] := by rw [hl.2]; exact List.getElem?_eq_getElem hi
  rw [List.getElem?_take, if_pos (by omega)] at e
  simp only [World.cell?, hh]
  simpa using e
theorem step_appR {ops : Array Oper} {o : Oper} {a : Act} {K : Act → World → Prop} {Q : Exit → Act → World → Prop} {E : Prop} (hgd : o.guard = none) (s x : Operand)
  (ho : o.op = .call { callee := .builtin .append, args := #[s, x], argTypes := #[37, 37] }) (base : Nat) (v : Value) (L : List Value) (W : World) (y : Value) (B : Nat)
  (hs : a.eval s = v) (hx : a.eval x = .slice (some ⟨B, 0, none⟩) 1 1) (hB : W.cell? ⟨B, 0, none⟩ = some y) (hy1 : y.oneCell' = true) (hown : OwnR W base v L) (hbase : base ≤ W.heap.size) (hn : L.length ≤ 1000000)
  (h : ∀ ad cap w', OwnR w' base (.slice ad (L.length + 1) cap) (L ++ [y]) → W.heap.size ≤ w'.heap.size → W.grownBy w' v.ownBlock → K (a.put o.dst (.slice ad (L.length + 1) cap)) w') :
  if Region.wanted o (yielded ops a.tmps) = true then Oper.wp Tryz.prog o a W K Q else E := by
 obtain ⟨i0, hi, hz0, hz1, hz2⟩ := info_parts info44
 refine step_append_lies _ hgd s x 37 ho base 44 i0 _ 1 24 Tryz.underlying37 hi hz0 hz1 hz2 rfl (by decide) v L.length _ hs hown ⟨B, 0, none⟩ 1 1 [y] hx rfl ?_ (by simpa using hy1) (by decide) (by unfold maxLen; omega) (by omega) hbase _ rfl ?_
 ·intro j u hj
  have : j = 0 := by
   have := (List.getElem?_eq_some_iff.1 hj).1
   simpa using this
  subst this
  simp at hj
  subst hj
  simpa [Addr.add] using hB
 ·intro g cap w' h1 h2 _ _
  exact h _ cap w' (by unfold OwnR; simpa using h1) h2.size h2
theorem blt {W : World} {b o : Nat} {v : Value} (h : W.cell? ⟨b, o, none⟩ = some v) : b < W.heap.size := World.block_lt_of_cell? W ⟨b, o, none⟩ h
theorem cell1 {W : World} {b : Nat} {v : Value} {t : TypeId} (h : W.heap[b]? = some (.cells #[v] t (0, 0))) : W.cell? ⟨b, 0, none⟩ = some v ∧ W.frozen? ⟨b, 0, none⟩ = false := by
 constructor <;> simp [World.cell?, World.frozen?, h]
/-- A row value. -/
def rowV (C b : Nat) : Value := .slice (some ⟨b, 0, none⟩) C C
/-- A new grid, the same everywhere. -/
def NewGrid (w w' : World) (g R C : Nat) (x : Cl) : Prop := ∃ rb cp rs, GridIs (fun k => k < w.heap.size ∨ k = g) w' g rb cp R C rs (fun _ _ => x) ∧ w.heap.size ≤ g ∧ w.heap.size ≤ rb ∧ (∀ i, i < R → w.heap.size ≤ rs i ∧ rs i ≠ g) ∧ (∀ i j, i < R → j < R → rs i = rs j → i = j) ∧ rb ≠ g ∧ Below w.heap.size w w'
set_option maxHeartbeats 4000000 in
theorem new_ok (w : World) (R C : Nat) (x : Cl) (h : SzOk R C) : Calls Tryz.prog 46 #[pr R C, x.v] w fun e w' => ∃ g, e = .returned (.tuple #[.pointer (some ⟨g, 0, none⟩), .int .i64 0]) ∧ NewGrid w w' g R C x := by
 have H0 := Lib.hid (fun W => may_ok W R C h)
 have hC1 : 1 ≤ C := by have := h.2.2.1; omega
 have hC2 : C ≤ 255 := by have := h.2.2.2; omega
 have hR1 : 1 ≤ R := by have := h.1; omega
 have hR2 : R ≤ 255 := by have := h.2.1; omega
 have HRp := Lib.hid (fun W b (hx : CellsAt W b 1 (fun _ => x)) => rep_any W b C x hC1 hC2 hx)
 clear h
 unfold Cl.v
 go_enter Tryz.func46, Tryz.ntmps46
 go_wp2_with fail
 refine gen_calls ?_
 intro u hu0
 have KFu : ∀ W, Below u.heap.size u W → (W.cell? ⟨w.heap.size, 0, none⟩ = some (.int .i64 (R : Int)) ∧ W.cell? ⟨w.heap.size, 1, none⟩ = some (.int .i64 (C : Int)) ∧ W.cell? ⟨w.heap.size + 1, 0, none⟩ = some (.int .i32 x.g) ∧ W.cell? ⟨w.heap.size + 1, 1, none⟩ = some (.int .i64 x.a) ∧ W.cell? ⟨w.heap.size + 1, 2, none⟩ = some (.bool x.d) ∧ W.cell? ⟨w.heap.size + 1, 3, none⟩ = some (.int .i64 x.m)) ∧ True ∧ Below w.heap.size w W := by
  intro W hu
  refine ⟨⟨?_, ?_, ?_, ?_, ?_, ?_⟩, trivial, ?_⟩
  ·exact (hu.cell (by rw [hu0]; simp <;> omega)).trans (by rw [hu0]; simp [go_sem])
  ·exact (hu.cell (by rw [hu0]; simp <;> omega)).trans (by rw [hu0]; simp [go_sem])
  ·exact (hu.cell (by rw [hu0]; simp <;> omega)).trans (by rw [hu0]; simp [go_sem])
  ·exact (hu.cell (by rw [hu0]; simp <;> omega)).trans (by rw [hu0]; simp [go_sem])
  ·exact (hu.cell (by rw [hu0]; simp <;> omega)).trans (by rw [hu0]; simp [go_sem])
  ·exact (hu.cell (by rw [hu0]; simp <;> omega)).trans (by rw [hu0]; simp [go_sem])
  ·exact bel_call (by rw [hu0]; (repeat first | exact Below.refl _ _ | refine bel_alloc ?_ _)) hu
 clear hu0
 refine (H0.out _).mono ?_
 rintro e w1 ⟨rfl, b1⟩
 obtain ⟨⟨k0, k1, k2, k3, k4, k5⟩, _, kb⟩ := KFu _ b1
 have hs0 := blt k0
 have hs1 := blt k2
 go_wp2_with fail
 have HK1 := Lib.hid (fun W (hb : Below w1.heap.size w1 W) => KFu _ (bel_call b1 hb))
 have Hkb := Lib.hid kb
 clear k0 k1 k2 k3 k4 k5 kb hs0 hs1 KFu b1 H0
 go_loopw [17] (fun i wr => ∃ (k : Nat) (v : Value) (rsL : List Nat), k ≤ R ∧ i = .int .i64 (k : Int) ∧ rsL.length = k ∧ rsL.Nodup ∧ wr.heap[w1.heap.size]? = some (.cells #[v] 138 (0, 0)) ∧
  OwnR wr (w1.heap.size + 1) v (rsL.map (rowV C)) ∧ (∀ r ∈ rsL, w1.heap.size + 1 ≤ r ∧ BlkT wr r (C * 4) 48 ∧ CellsAt wr r C (fun _ => x)) ∧ Below w1.heap.size w1 wr) (fun i _ => R - (intOf i).toNat)
 case atStart => exact ⟨0, .slice none 0 0, [], Nat.zero_le _, rfl, rfl, List.nodup_nil, heap_alloc_new w1 _, OwnR.nil _ _, by simp, bel_alloc (Below.refl _ _) _⟩
 case round =>
  obtain ⟨k, v, rsL, hk, rfl, hlen, hnd, hv0, own, hrs, hb⟩ := hrel
  obtain ⟨⟨k0, k1, k2, k3, k4, k5⟩, _, kb⟩ := HK1.out _ hb
  obtain ⟨hv, hvz⟩ := cell1 hv0
  have hl0 := blt k0
  have hl1 := blt k2
  have hlg := blt hv
  have HO := Lib.hid own
  have HR := Lib.hid hrs
  have HB := Lib.hid hb
  have HV := Lib.hid hv0
  have HN := Lib.hid hnd
  have HL := Lib.hid hlen
  clear own hrs hb hnd hlen kb hv0
  by_cases hlt : k < R
  ·have q1 : (k : Int) < (R : Int) := by omega
   obtain ⟨ad, cap, hvs⟩ := HO.out.shape
   rw [List.length_map, HL.out] at hvs
   subst hvs
   have HE : ∀ w3 r, Below wr.heap.size wr w3 → wr.heap.size ≤ r → BlkT w3 r (C * 4) 48 → CellsAt w3 r C (fun _ => x) → ∀ o ad4 cap4 w4, OwnR w4 (w1.heap.size + 1) (.slice ad4 (k + 1) cap4) (rsL.map (rowV C) ++ [rowV C r]) → (w3.alloc o).grownBy w4 (Value.slice ad k cap).ownBlock →
     (w4.cell? ⟨w1.heap.size, 0, none⟩ = some (.slice ad k cap) ∧ w4.frozen? ⟨w1.heap.size, 0, none⟩ = false) ∧ Below w1.heap.size w1 w4 ∧
     ((rsL ++ [r]).length = k + 1 ∧ (rsL ++ [r]).Nodup ∧ (w4.setCell ⟨w1.heap.size, 0, none⟩ (.slice ad4 (k + 1) cap4)).heap[w1.heap.size]? = some (.cells #[.slice ad4 (k + 1) cap4] 138 (0, 0)) ∧
      OwnR (w4.setCell ⟨w1.heap.size, 0, none⟩ (.slice ad4 (k + 1) cap4)) (w1.heap.size + 1) (.slice ad4 (k + 1) cap4) ((rsL ++ [r]).map (rowV C)) ∧
      (∀ r' ∈ rsL ++ [r], w1.heap.size + 1 ≤ r' ∧ BlkT (w4.setCell ⟨w1.heap.size, 0, none⟩ (.slice ad4 (k + 1) cap4)) r' (C * 4) 48 ∧ CellsAt (w4.setCell ⟨w1.heap.size, 0, none⟩ (.slice ad4 (k + 1) cap4)) r' C (fun _ => x)) ∧
      Below w1.heap.size w1 (w4.setCell ⟨w1.heap.size, 0, none⟩ (.slice ad4 (k + 1) cap4))) := by
    intro w3 r bw3 hr1 hr2 hr3 o ad4 cap4 w4 own4 gr4
    have ownX := (HO.out.call bw3).call (bel_alloc (Below.refl _ _) o)
    have hb3 := bw3.size
    have hXsz : (w3.alloc o).heap.size = w3.heap.size + 1 := by simp
    have hnum : ∀ q, q < w1.heap.size + 1 → w4.heap[q]? = wr.heap[q]? := fun q hq => by
     refine (gr4.block q (by omega) (fun e => by have := (ownX.own e.symm).1; omega)).trans ((Below.heap_alloc _ _ _ (by omega)).trans (bw3.block q (by omega)))
    have hty : ∀ r', BlkT w3 r' (C * 4) 48 → w4.heap[r']? = w3.heap[r']? := fun r' hr' => by
     have hlt := hr'.blk.lt
     refine (gr4.block r' (by omega) (fun e => ?_)).trans (Below.heap_alloc _ _ _ hlt)
     obtain ⟨_, n, hn⟩ := ownX.own e.symm
     exact hn.ne (hr'.to (Below.heap_alloc _ _ _ hlt)) (by decide) rfl
    have hg := hnum w1.heap.size (by omega)
    have hg4 : w4.heap[w1.heap.size]? = some (.cells #[.slice ad k cap] 138 (0, 0)) := hg.trans HV.out
    have hS : Below w1.heap.size w1 w4 := by
     refine (bel_alloc (bel_call HB.out bw3) o).grown gr4 (by omega) (fun q e => ?_)
     have := (ownX.own e).1
     omega
    have hset : ∀ q, q ≠ w1.heap.size → (w4.setCell ⟨w1.heap.size, 0, none⟩ (.slice ad4 (k + 1) cap4)).heap[q]? = w4.heap[q]? := fun q hq => Below.heap_setCell _ _ _ _ hq
    refine ⟨cell1 hg4, hS, by simp [HL.out], ?_, ?_, ?_, ?_, hS.setCell (by simp) _⟩
    ·refine List.nodup_append.2 ⟨HN.out, by simp, fun a ha b hb e => ?_⟩
     simp at hb
     have := (HR.out a ha).2.1.blk.lt
     omega
    ·have := heap_setCell_same w4 w1.heap.size 0 _ _ (.slice ad4 (k + 1) cap4) hg4
     simpa using this
    ·rw [List.map_append]
     exact ownsRow_setCell_below own4 (by simp) _
    ·intro r' hr'
     rcases List.mem_append.1 hr' with h | h
     ·obtain ⟨a1, a2, a3⟩ := HR.out r' h
      have hb := bw3.block r' a2.blk.lt
      have e := (hset r' (by omega)).trans (hty r' (a2.to hb))
      exact ⟨a1, (a2.to hb).to e, (a3.to hb).to e⟩
     ·simp at h
      subst h
      have e := (hset r' (by omega)).trans (hty r' hr2)
      exact ⟨by omega, hr2.to e, hr3.to e⟩
   have HEE := Lib.hid HE
   clear HE
   go_wp2_with fail
   refine wp_region_held_drew (S := fun W => Below w1.heap.size w1 W) (by kernel_rfl) (HB.out.drew) (fun hHeld => ?_)
   refine wpAnyH_step (i := 0) (d := some 19) (v := ?_) rfl rfl (by kernel_rfl) (by kernel_rfl) (by kernel_rfl) (fun _ _ _ h => h) (Or.inl ⟨by rfl, ?_⟩) (by assumption) ?_
   rotate_left
   ·intro w hSw; (try dsimp only at hSw); obtain ⟨⟨j0, j1, j2, j3, j4, j5⟩, _, _⟩ := HK1.out _ hSw; go_simp; (try with_reducible rfl)
   try simp only [Act.put, List.setIfInBounds_toArray, List.set_cons_zero, List.set_cons_succ]
   refine wpAnyH_step (i := 1) (d := some 20) (v := ?_) rfl rfl (by kernel_rfl) (by kernel_rfl) (by kernel_rfl) (fun _ _ _ h => h) (Or.inl ⟨by rfl, ?_⟩) (by assumption) ?_
   rotate_left
   ·intro w hSw; (try dsimp only at hSw); obtain ⟨⟨j0, j1, j2, j3, j4, j5⟩, _, _⟩ := HK1.out _ hSw; go_simp; (try with_reducible rfl)
   try simp only [Act.put, List.setIfInBounds_toArray, List.set_cons_zero, List.set_cons_succ]
   refine wpAnyH_step (i := 2) (d := some 21) (v := ?_) rfl rfl (by kernel_rfl) (by kernel_rfl) (by kernel_rfl) (fun _ _ _ h => h) (Or.inl ⟨by rfl, ?_⟩) (by assumption) ?_
   rotate_left
   ·intro w hSw; (try dsimp only at hSw); obtain ⟨⟨j0, j1, j2, j3, j4, j5⟩, _, _⟩ := HK1.out _ hSw; go_simp; (try with_reducible rfl)
   try simp only [Act.put, List.setIfInBounds_toArray, List.set_cons_zero, List.set_cons_succ]
   refine wpAnyH_step (i := 3) (d := some 22) (v := ?_) rfl rfl (by kernel_rfl) (by kernel_rfl) (by kernel_rfl) (fun _ _ _ h => h) (Or.inl ⟨by rfl, ?_⟩) (by assumption) ?_
   rotate_left
   ·intro w hSw; (try dsimp only at hSw); obtain ⟨⟨j0, j1, j2, j3, j4, j5⟩, _, _⟩ := HK1.out _ hSw; go_simp; (try with_reducible rfl)
   try simp only [Act.put, List.setIfInBounds_toArray, List.set_cons_zero, List.set_cons_succ]
   refine wpAnyH_step (i := 5) (d := some 24) (v := ?_) rfl rfl (by kernel_rfl) (by kernel_rfl) (by kernel_rfl) (fun _ _ _ h => h) (Or.inl ⟨by rfl, ?_⟩) (by assumption) ?_
   rotate_left
   ·intro w hSw; (try dsimp only at hSw); obtain ⟨⟨j0, j1, j2, j3, j4, j5⟩, _, _⟩ := HK1.out _ hSw; go_simp; (try with_reducible rfl)
   try simp only [Act.put, List.setIfInBounds_toArray, List.set_cons_zero, List.set_cons_succ]
   refine wpAnyH_step (i := 7) (d := some 26) (v := ?_) rfl rfl (by kernel_rfl) (by kernel_rfl) (by kernel_rfl) (fun _ _ _ h => h) (Or.inl ⟨by rfl, ?_⟩) (by assumption) ?_
   rotate_left
   ·intro w hSw; (try dsimp only at hSw); obtain ⟨⟨j0, j1, j2, j3, j4, j5⟩, _, _⟩ := HK1.out _ hSw; go_simp; (try with_reducible rfl)
   try simp only [Act.put, List.setIfInBounds_toArray, List.set_cons_zero, List.set_cons_succ]
   refine wpAnyH_step (i := 8) (d := some 27) (v := ?_) rfl rfl (by kernel_rfl) (by kernel_rfl) (by kernel_rfl) (fun _ _ _ h => h) (Or.inl ⟨by rfl, ?_⟩) (by assumption) ?_
   rotate_left
   ·intro w hSw; (try dsimp only at hSw); obtain ⟨⟨j0, j1, j2, j3, j4, j5⟩, _, _⟩ := HK1.out _ hSw; go_simp; (try with_reducible rfl)
   try simp only [Act.put, List.setIfInBounds_toArray, List.set_cons_zero, List.set_cons_succ]
   refine wpAnyH_ready (rs := [4, 6]) (by kernel_rfl) (by simp) ?_
   refine AllReadyH.cons rfl (fun K hK => ?_) (AllReadyH.cons rfl (fun K hK => ?_) (AllReadyH.nil))
   ·go_simp
    (try go_wp2_with fail)
    refine hK.out _ _ ?_ (fun hHeld => ?_)
    ·exact hHeld
    clear hK K
    try simp only [Act.put, List.setIfInBounds_toArray, List.set_cons_zero, List.set_cons_succ]
    refine sO 6 fun K hK => ?_
    go_simp
    (try go_wp2_with fail)
    refine hK.out _ _ ?_ (fun hHeld => ?_)
    ·exact (by repeat first | exact HB.out | refine bel_alloc ?_ _ | refine Below.drew ?_)
    clear hK K
    try simp only [Act.put, List.setIfInBounds_toArray, List.set_cons_zero, List.set_cons_succ]
    refine sO 9 fun K hK => ?_
    go_simp
    refine (HRp.out _ wr.heap.size ?_).mono ?_
    ·intro j hj; obtain rfl : j = 0 := (by omega); refine ⟨?_, ?_, ?_, ?_⟩ <;> simp [go_sem]
    rintro e w3 ⟨r, rfl, hr1, hr2, hr3, b3⟩
    have bw3 : Below wr.heap.size wr w3 := bel_call (by repeat first | exact Below.refl _ _ | refine bel_alloc ?_ _ | refine Below.drew ?_) b3
    have hv3 := cellB bw3 hv
    have hl3 := blt hv3
    have hr4 : wr.heap.size ≤ r := (by simp at hr1; omega)
    have Hr2 := Lib.hid hr2
    have Hr3 := Lib.hid hr3
    have Bw3 := Lib.hid bw3
    have HB3 := Lib.hid (bel_call HB.out bw3)
    clear hr1 hr2 hr3 b3 bw3
    (try go_wp2_with fail)
    refine hK.out _ _ ?_ (fun hHeld => ?_)
    ·exact HB3.out
    clear hK K
    try simp only [Act.put, List.setIfInBounds_toArray, List.set_cons_zero, List.set_cons_succ]
    refine sO 10 fun K hK => ?_
    go_simp
    (try go_wp2_with fail)
    refine hK.out _ _ ?_ (fun hHeld => ?_)
    ·exact (by repeat first | exact HB3.out | refine bel_alloc ?_ _ | refine Below.drew ?_)
    clear hK K
    try simp only [Act.put, List.setIfInBounds_toArray, List.set_cons_zero, List.set_cons_succ]
    refine sO 11 fun K hK => ?_
    refine step_appR rfl (.tmp 23) (.tmp 29) rfl (w1.heap.size + 1) _ (rsL.map (rowV C)) _ (rowV C r) w3.heap.size rfl rfl (by simp [go_sem, rowV]) rfl ((HO.out.call Bw3.out).call (bel_alloc (Below.refl _ _) _)) (by simp; omega) (by rw [List.length_map, HL.out]; omega) ?_
    intro ad4 cap4 w4 own4 hs4 gr4
    simp only [List.length_map, HL.out] at own4 ⊢
    obtain ⟨⟨hv4, hz4⟩, hS4, hend⟩ := HEE.out w3 r Bw3.out hr4 Hr2.out Hr3.out _ ad4 cap4 w4 own4 gr4
    have Hend := Lib.hid hend
    clear hend own4 gr4
    refine hK.out _ _ ?_ (fun hHeld => ?_)
    ·exact hS4
    clear hK K
    try simp only [Act.put, List.setIfInBounds_toArray, List.set_cons_zero, List.set_cons_succ]
    refine wpAnyH_step (i := 12) (d := some 31) (v := ?_) rfl rfl (by kernel_rfl) (by kernel_rfl) (by kernel_rfl) (fun _ _ _ h => h) (Or.inl ⟨by rfl, ?_⟩) (by assumption) ?_
    rotate_left
    ·intro w hSw; (try dsimp only at hSw); obtain ⟨⟨j0, j1, j2, j3, j4, j5⟩, _, _⟩ := HK1.out _ hSw; go_simp; (try with_reducible rfl)
    try simp only [Act.put, List.setIfInBounds_toArray, List.set_cons_zero, List.set_cons_succ]
    refine wpAnyH_step (i := 13) (d := some 32) (v := ?_) rfl rfl (by kernel_rfl) (by kernel_rfl) (by kernel_rfl) (fun _ _ _ h => h) (Or.inl ⟨by rfl, ?_⟩) (by assumption) ?_
    rotate_left
    ·intro w hSw; (try dsimp only at hSw); obtain ⟨⟨j0, j1, j2, j3, j4, j5⟩, _, _⟩ := HK1.out _ hSw; go_simp; (try with_reducible rfl)
    try simp only [Act.put, List.setIfInBounds_toArray, List.set_cons_zero, List.set_cons_succ]
    refine sO 14 fun K hK => ?_
    go_simp
    (try go_wp2_with fail)
    refine hK.out _ _ ?_ (fun hHeld => ?_)
    ·exact (hS4.setCell (by simp) _)
    clear hK K
    try simp only [Act.put, List.setIfInBounds_toArray, List.set_cons_zero, List.set_cons_succ]
    refine wpAnyH_done (by kernel_rfl) ?_ _
    go_wp2_with fail
    go_roundw
    case rel => exact ⟨k + 1, _, rsL ++ [r], by omega, by go_num, Hend.out⟩
    case measure => simp [intOf]; omega
   ·go_simp
    (try go_wp2_with fail)
    refine hK.out _ _ ?_ (fun hHeld => ?_)
    ·exact (by repeat first | exact HB.out | refine bel_alloc ?_ _ | refine Below.drew ?_)
    clear hK K
    try simp only [Act.put, List.setIfInBounds_toArray, List.set_cons_zero, List.set_cons_succ]
    refine wpAnyH_ready (rs := [4, 9]) (by kernel_rfl) (by simp) ?_
    refine AllReadyH.cons rfl (fun K hK => ?_) (AllReadyH.cons rfl (fun K hK => ?_) (AllReadyH.nil))
    ·go_simp
     (try go_wp2_with fail)
     refine hK.out _ _ ?_ (fun hHeld => ?_)
     ·exact hHeld
     clear hK K
     try simp only [Act.put, List.setIfInBounds_toArray, List.set_cons_zero, List.set_cons_succ]
     refine sO 9 fun K hK => ?_
     go_simp
     refine (HRp.out _ wr.heap.size ?_).mono ?_
     ·intro j hj; obtain rfl : j = 0 := (by omega); refine ⟨?_, ?_, ?_, ?_⟩ <;> simp [go_sem]
     rintro e w3 ⟨r, rfl, hr1, hr2, hr3, b3⟩
     have bw3 : Below wr.heap.size wr w3 := bel_call (by repeat first | exact Below.refl _ _ | refine bel_alloc ?_ _ | refine Below.drew ?_) b3
     have hv3 := cellB bw3 hv
     have hl3 := blt hv3
     have hr4 : wr.heap.size ≤ r := (by simp at hr1; omega)
     have Hr2 := Lib.hid hr2
     have Hr3 := Lib.hid hr3
     have Bw3 := Lib.hid bw3
     have HB3 := Lib.hid (bel_call HB.out bw3)
     clear hr1 hr2 hr3 b3 bw3
     (try go_wp2_with fail)
     refine hK.out _ _ ?_ (fun hHeld => ?_)
     ·exact HB3.out
     clear hK K
     try simp only [Act.put, List.setIfInBounds_toArray, List.set_cons_zero, List.set_cons_succ]
     refine sO 10 fun K hK => ?_
     go_simp
     (try go_wp2_with fail)
     refine hK.out _ _ ?_ (fun hHeld => ?_)
     ·exact (by repeat first | exact HB3.out | refine bel_alloc ?_ _ | refine Below.drew ?_)
     clear hK K
     try simp only [Act.put, List.setIfInBounds_toArray, List.set_cons_zero, List.set_cons_succ]
     refine sO 11 fun K hK => ?_
     refine step_appR rfl (.tmp 23) (.tmp 29) rfl (w1.heap.size + 1) _ (rsL.map (rowV C)) _ (rowV C r) w3.heap.size rfl rfl (by simp [go_sem, rowV]) rfl ((HO.out.call Bw3.out).call (bel_alloc (Below.refl _ _) _)) (by simp; omega) (by rw [List.length_map, HL.out]; omega) ?_
     intro ad4 cap4 w4 own4 hs4 gr4
     simp only [List.length_map, HL.out] at own4 ⊢
     obtain ⟨⟨hv4, hz4⟩, hS4, hend⟩ := HEE.out w3 r Bw3.out hr4 Hr2.out Hr3.out _ ad4 cap4 w4 own4 gr4
     have Hend := Lib.hid hend
     clear hend own4 gr4
     refine hK.out _ _ ?_ (fun hHeld => ?_)
     ·exact hS4
     clear hK K
     try simp only [Act.put, List.setIfInBounds_toArray, List.set_cons_zero, List.set_cons_succ]
     refine wpAnyH_step (i := 12) (d := some 31) (v := ?_) rfl rfl (by kernel_rfl) (by kernel_rfl) (by kernel_rfl) (fun _ _ _ h => h) (Or.inl ⟨by rfl, ?_⟩) (by assumption) ?_
     rotate_left
     ·intro w hSw; (try dsimp only at hSw); obtain ⟨⟨j0, j1, j2, j3, j4, j5⟩, _, _⟩ := HK1.out _ hSw; go_simp; (try with_reducible rfl)
     try simp only [Act.put, List.setIfInBounds_toArray, List.set_cons_zero, List.set_cons_succ]
     refine wpAnyH_step (i := 13) (d := some 32) (v := ?_) rfl rfl (by kernel_rfl) (by kernel_rfl) (by kernel_rfl) (fun _ _ _ h => h) (Or.inl ⟨by rfl, ?_⟩) (by assumption) ?_
     rotate_left
     ·intro w hSw; (try dsimp only at hSw); obtain ⟨⟨j0, j1, j2, j3, j4, j5⟩, _, _⟩ := HK1.out _ hSw; go_simp; (try with_reducible rfl)
     try simp only [Act.put, List.setIfInBounds_toArray, List.set_cons_zero, List.set_cons_succ]
     refine sO 14 fun K hK => ?_
     go_simp
     (try go_wp2_with fail)
     refine hK.out _ _ ?_ (fun hHeld => ?_)
     ·exact (hS4.setCell (by simp) _)
     clear hK K
     try simp only [Act.put, List.setIfInBounds_toArray, List.set_cons_zero, List.set_cons_succ]
     refine wpAnyH_done (by kernel_rfl) ?_ _
     go_wp2_with fail
     go_roundw
     case rel => exact ⟨k + 1, _, rsL ++ [r], by omega, by go_num, Hend.out⟩
     case measure => simp [intOf]; omega
    ·go_simp
     refine (HRp.out _ wr.heap.size ?_).mono ?_
     ·intro j hj; obtain rfl : j = 0 := (by omega); refine ⟨?_, ?_, ?_, ?_⟩ <;> simp [go_sem]
     rintro e w3 ⟨r, rfl, hr1, hr2, hr3, b3⟩
     have bw3 : Below wr.heap.size wr w3 := bel_call (by repeat first | exact Below.refl _ _ | refine bel_alloc ?_ _ | refine Below.drew ?_) b3
     have hv3 := cellB bw3 hv
     have hl3 := blt hv3
     have hr4 : wr.heap.size ≤ r := (by simp at hr1; omega)
     have Hr2 := Lib.hid hr2
     have Hr3 := Lib.hid hr3
     have Bw3 := Lib.hid bw3
     have HB3 := Lib.hid (bel_call HB.out bw3)
     clear hr1 hr2 hr3 b3 bw3
     (try go_wp2_with fail)
     refine hK.out _ _ ?_ (fun hHeld => ?_)
     ·exact HB3.out
     clear hK K
     try simp only [Act.put, List.setIfInBounds_toArray, List.set_cons_zero, List.set_cons_succ]
     refine wpAnyH_ready (rs := [4, 10]) (by kernel_rfl) (by simp) ?_
     refine AllReadyH.cons rfl (fun K hK => ?_) (AllReadyH.cons rfl (fun K hK => ?_) (AllReadyH.nil))
     ·go_simp
      (try go_wp2_with fail)
      refine hK.out _ _ ?_ (fun hHeld => ?_)
      ·exact hHeld
      clear hK K
      try simp only [Act.put, List.setIfInBounds_toArray, List.set_cons_zero, List.set_cons_succ]
      refine sO 10 fun K hK => ?_
      go_simp
      (try go_wp2_with fail)
      refine hK.out _ _ ?_ (fun hHeld => ?_)
      ·exact (by repeat first | exact HB3.out | refine bel_alloc ?_ _ | refine Below.drew ?_)
      clear hK K
      try simp only [Act.put, List.setIfInBounds_toArray, List.set_cons_zero, List.set_cons_succ]
      refine sO 11 fun K hK => ?_
      refine step_appR rfl (.tmp 23) (.tmp 29) rfl (w1.heap.size + 1) _ (rsL.map (rowV C)) _ (rowV C r) w3.heap.size rfl rfl (by simp [go_sem, rowV]) rfl ((HO.out.call Bw3.out).call (bel_alloc (Below.refl _ _) _)) (by simp; omega) (by rw [List.length_map, HL.out]; omega) ?_
      intro ad4 cap4 w4 own4 hs4 gr4
      simp only [List.length_map, HL.out] at own4 ⊢
      obtain ⟨⟨hv4, hz4⟩, hS4, hend⟩ := HEE.out w3 r Bw3.out hr4 Hr2.out Hr3.out _ ad4 cap4 w4 own4 gr4
      have Hend := Lib.hid hend
      clear hend own4 gr4
      refine hK.out _ _ ?_ (fun hHeld => ?_)
      ·exact hS4
      clear hK K
      try simp only [Act.put, List.setIfInBounds_toArray, List.set_cons_zero, List.set_cons_succ]
      refine wpAnyH_step (i := 12) (d := some 31) (v := ?_) rfl rfl (by kernel_rfl) (by kernel_rfl) (by kernel_rfl) (fun _ _ _ h => h) (Or.inl ⟨by rfl, ?_⟩) (by assumption) ?_
      rotate_left
      ·intro w hSw; (try dsimp only at hSw); obtain ⟨⟨j0, j1, j2, j3, j4, j5⟩, _, _⟩ := HK1.out _ hSw; go_simp; (try with_reducible rfl)
      try simp only [Act.put, List.setIfInBounds_toArray, List.set_cons_zero, List.set_cons_succ]
      refine wpAnyH_step (i := 13) (d := some 32) (v := ?_) rfl rfl (by kernel_rfl) (by kernel_rfl) (by kernel_rfl) (fun _ _ _ h => h) (Or.inl ⟨by rfl, ?_⟩) (by assumption) ?_
      rotate_left
      ·intro w hSw; (try dsimp only at hSw); obtain ⟨⟨j0, j1, j2, j3, j4, j5⟩, _, _⟩ := HK1.out _ hSw; go_simp; (try with_reducible rfl)
      try simp only [Act.put, List.setIfInBounds_toArray, List.set_cons_zero, List.set_cons_succ]
      refine sO 14 fun K hK => ?_
      go_simp
      (try go_wp2_with fail)
      refine hK.out _ _ ?_ (fun hHeld => ?_)
      ·exact (hS4.setCell (by simp) _)
      clear hK K
      try simp only [Act.put, List.setIfInBounds_toArray, List.set_cons_zero, List.set_cons_succ]
      refine wpAnyH_done (by kernel_rfl) ?_ _
      go_wp2_with fail
      go_roundw
      case rel => exact ⟨k + 1, _, rsL ++ [r], by omega, by go_num, Hend.out⟩
      case measure => simp [intOf]; omega
     ·go_simp
      (try go_wp2_with fail)
      refine hK.out _ _ ?_ (fun hHeld => ?_)
      ·exact (by repeat first | exact HB3.out | refine bel_alloc ?_ _ | refine Below.drew ?_)
      clear hK K
      try simp only [Act.put, List.setIfInBounds_toArray, List.set_cons_zero, List.set_cons_succ]
      refine sO 4 fun K hK => ?_
      go_simp
      (try go_wp2_with fail)
      refine hK.out _ _ ?_ (fun hHeld => ?_)
      ·exact hHeld
      clear hK K
      try simp only [Act.put, List.setIfInBounds_toArray, List.set_cons_zero, List.set_cons_succ]
      refine sO 11 fun K hK => ?_
      refine step_appR rfl (.tmp 23) (.tmp 29) rfl (w1.heap.size + 1) _ (rsL.map (rowV C)) _ (rowV C r) w3.heap.size rfl rfl (by simp [go_sem, rowV]) rfl ((HO.out.call Bw3.out).call (bel_alloc (Below.refl _ _) _)) (by simp; omega) (by rw [List.length_map, HL.out]; omega) ?_
      intro ad4 cap4 w4 own4 hs4 gr4
      simp only [List.length_map, HL.out] at own4 ⊢
      obtain ⟨⟨hv4, hz4⟩, hS4, hend⟩ := HEE.out w3 r Bw3.out hr4 Hr2.out Hr3.out _ ad4 cap4 w4 own4 gr4
      have Hend := Lib.hid hend
      clear hend own4 gr4
      refine hK.out _ _ ?_ (fun hHeld => ?_)
      ·exact hS4
      clear hK K
      try simp only [Act.put, List.setIfInBounds_toArray, List.set_cons_zero, List.set_cons_succ]
      refine wpAnyH_step (i := 12) (d := some 31) (v := ?_) rfl rfl (by kernel_rfl) (by kernel_rfl) (by kernel_rfl) (fun _ _ _ h => h) (Or.inl ⟨by rfl, ?_⟩) (by assumption) ?_
      rotate_left
      ·intro w hSw; (try dsimp only at hSw); obtain ⟨⟨j0, j1, j2, j3, j4, j5⟩, _, _⟩ := HK1.out _ hSw; go_simp; (try with_reducible rfl)
      try simp only [Act.put, List.setIfInBounds_toArray, List.set_cons_zero, List.set_cons_succ]
      refine wpAnyH_step (i := 13) (d := some 32) (v := ?_) rfl rfl (by kernel_rfl) (by kernel_rfl) (by kernel_rfl) (fun _ _ _ h => h) (Or.inl ⟨by rfl, ?_⟩) (by assumption) ?_
      rotate_left
      ·intro w hSw; (try dsimp only at hSw); obtain ⟨⟨j0, j1, j2, j3, j4, j5⟩, _, _⟩ := HK1.out _ hSw; go_simp; (try with_reducible rfl)
      try simp only [Act.put, List.setIfInBounds_toArray, List.set_cons_zero, List.set_cons_succ]
      refine sO 14 fun K hK => ?_
      go_simp
      (try go_wp2_with fail)
      refine hK.out _ _ ?_ (fun hHeld => ?_)
      ·exact (hS4.setCell (by simp) _)
      clear hK K
      try simp only [Act.put, List.setIfInBounds_toArray, List.set_cons_zero, List.set_cons_succ]
      refine wpAnyH_done (by kernel_rfl) ?_ _
      go_wp2_with fail
      go_roundw
      case rel => exact ⟨k + 1, _, rsL ++ [r], by omega, by go_num, Hend.out⟩
      case measure => simp [intOf]; omega
  ·obtain rfl : k = R := by omega
   have q1 : ¬ (k : Int) < (k : Int) := by omega
   go_wp2_with fail
   go_ret2
   have own := HO.out
   obtain ⟨rb, cp, hv, hb1, hcp, hbt, hcell⟩ := own.rows (by rw [List.length_map, HL.out]; omega)
   rw [List.length_map, HL.out] at hv hcp
   subst hv
   have hget : ∀ i, i < k → rsL.getD i 0 ∈ rsL ∧ rsL[i]? = some (rsL.getD i 0) := fun i hi => by
    have hi' : i < rsL.length := by rw [HL.out]; exact hi
    rw [List.getD_eq_getElem?_getD, List.getElem?_eq_getElem hi']
    exact ⟨List.getElem_mem hi', rfl⟩
   have hwr := (HK1.out _ HB.out).2.2
   have hs1 := Hkb.out.size
   refine ⟨w1.heap.size, rfl, rb, cp, fun i => rsL.getD i 0, ?_, hs1, by omega, fun i hi => ?_, fun i j hi hj e => ?_, by omega, hwr⟩
   ·refine ⟨hR1, hR2, hC1, hC2, .inr rfl, by simp; omega, fun i hi => ?_, fun i hi => ?_, hcp, (cell1 HV.out).1, hbt, fun i hi => ?_, fun i hi => ?_, fun i j hi hj => ?_⟩
    ·have := (HR.out _ (hget i hi).1).1
     show ¬ (rsL.getD i 0 < w.heap.size ∨ rsL.getD i 0 = w1.heap.size)
     omega
    ·exact (HR.out _ (hget i hi).1).2.1.ne hbt (by decide)
    ·have h1 := hcell i (by rw [List.length_map, HL.out]; exact hi)
     rw [List.getElem_map] at h1
     have h2 := (hget i hi).2
     rw [List.getElem?_eq_getElem (by rw [HL.out]; exact hi)] at h2
     simp only [Option.some.injEq] at h2
     rw [h2] at h1
     exact h1
    ·exact (HR.out _ (hget i hi).1).2.1
    ·exact (HR.out _ (hget i hi).1).2.2 j hj
   ·have := (HR.out _ (hget i hi).1).1
    exact ⟨show w.heap.size ≤ rsL.getD i 0 from by omega, show rsL.getD i 0 ≠ w1.heap.size from by omega⟩
   ·have h1 := (hget i hi).2
    have h2 := (hget j hj).2
    rw [show rsL.getD i 0 = rsL.getD j 0 from e, ← h2] at h1
    exact (List.getElem?_inj (by rw [HL.out]; exact hi) HN.out).1 h1
end Go.Proofs.YtpjooboohelffaaGreatDoor
/- Top: moved, at cells. -/
namespace Go.Proofs.YtpjooboohelffaaGreatDoor
open Go.RowKit Go.Shelf
set_option linter.unusedVariables false
set_option linter.unusedSimpArgs false
set_option maxRecDepth 100000
/-- Is the j-th of L things, that go to the front by n, a fresh one? -/
def freshB (L : Nat) (n : Int) (j : Nat) : Bool := decide ((L : Int) - 1 - j < n) || decide (n < -(j : Int))
def dmov (L : Nat) (n : Int) (x : Cl) (c : Nat → Cl) (j : Nat) : Cl := if freshB L n j = true then x else c ((j : Int) + n).toNat
theorem freshB_not {L : Nat} {n : Int} {j : Nat} (h : freshB L n j = false) : 0 ≤ (j : Int) + n ∧ (j : Int) + n < L := by
 unfold freshB at h
 simp at h
 omega
theorem fresh_cell (w : World) (b : Nat) (x : Cl) (h : CellsAt w b 1 (fun _ => x)) : Fn w 227 #[.pointer (some ⟨b, 0, none⟩)] x.v := by
 obtain ⟨k0, k1, k2, k3⟩ := h 0 (by decide)
 simp only [Nat.zero_mul, Nat.zero_add] at k0 k1 k2 k3
 have hlt := blt k0
 clear h
 have kb := Below.refl w.heap.size w
 unfold Cl.v
 go_enter Tryz.func227, Tryz.ntmps227
 go_wp2_with fail
 exact bodyPost_ret (v := .agg #[.int .i32 x.g, .int .i64 x.a, .bool x.d, .int .i64 x.m]) (by simp [results, Tryz.results227, go_sem, World.cell?_alloc_lt]) rfl ⟨rfl, by (repeat first | exact kb | exact Below.refl _ _ | refine bel_alloc ?_ _ | refine Below.drew ?_ | refine bel_set ?_ (by simp <;> omega) _)⟩
theorem wp_appC {ops : Array Oper} {rest : List Oper} {o : Oper} {a : Act} {Q : Exit → Act → World → Prop} (hgd : o.guard = none) (s x : Operand)
  (ho : o.op = .call { callee := .builtin .append, args := #[s, x], argTypes := #[44, 44] }) (base : Nat) (v : Value) (L : List Cl) (W : World) (y : Cl) (B : Nat)
  (hs : a.eval s = v) (hx : a.eval x = .slice (some ⟨B, 0, none⟩) 1 1) (hB : CellsAt W B 1 (fun _ => y)) (hown : OwnC W base v L) (hbase : base ≤ W.heap.size) (hn : L.length ≤ 1000000)
  (h : ∀ ad cap w', OwnC w' base (.slice ad (L.length + 1) cap) (L ++ [y]) → Below base W w' → wpList Tryz.prog ops Q rest (a.put o.dst (.slice ad (L.length + 1) cap)) w') :
  wpList Tryz.prog ops Q (o :: rest) a W := by
 obtain ⟨i0, hi, hz0, hz1, hz2⟩ := info_parts info48
 refine wpList_append_own _ hgd s x 44 ho base 48 i0 _ 4 32 Tryz.underlying44 hi hz0 hz1 hz2 rfl (by decide) v L.length _ hs hown ⟨B, 0, none⟩ 1 1 y.cs hx rfl ?_ (by simp [Cl.cs, Value.oneCell']) (by unfold maxLen; omega) (by omega) hbase ?_
 ·intro j u hj
  obtain ⟨c0, c1, c2, c3⟩ := hB 0 (by decide)
  have hj3 : j < 4 := by
   have := (List.getElem?_eq_some_iff.1 hj).1
   simpa [Cl.cs] using this
  have h3 : j = 0 ∨ j = 1 ∨ j = 2 ∨ j = 3 := by omega
  rcases h3 with rfl | rfl | rfl | rfl <;> (simp [Cl.cs] at hj; subst hj; simpa [Addr.add] using by assumption)
 ·intro v' w' h1 h2 _
  have o2 : OwnC w' base v' (L ++ [y]) := by unfold OwnC; simpa using h1
  obtain ⟨ad, cap, hv⟩ := o2.shape
  rw [List.length_append] at hv
  simp only [List.length_cons, List.length_nil, Nat.zero_add] at hv
  subst hv
  exact h ad cap w' o2 ((Below.refl _ _).grown h2 hbase (fun k hk => by have := World.ownsRow.lt hown k hk; omega))
set_option maxHeartbeats 1000000 in
theorem moved_cells (w : World) (b q L cp bx : Nat) (n : Int) (x : Cl) (c : Nat → Cl) (hL : L ≤ 255) (hn : -510 ≤ n ∧ n ≤ 510) (hc : CellsO w b (q * 4) L c) (hx : CellsAt w bx 1 (fun _ => x)) :
  Calls Tryz.prog 226 #[.slice (some ⟨b, q * 4, none⟩) L cp, .int .i64 n, .func (.func 227) #[] #[.pointer (some ⟨bx, 0, none⟩)]] w fun e w' => ∃ v, e = .returned v ∧ OwnC w' w.heap.size v (rowL (dmov L n x c) L) ∧ Below w.heap.size w w' := by
 obtain ⟨i0, hi, hz0, hz1, hz2⟩ := info_parts info48
 obtain ⟨w1, hmk, own1, gr1⟩ := run_make_own (P := Tryz.prog) w w.heap.size 44 48 i0 _ 4 Tryz.underlying44 hi hz0 hz1 .i64 .i64 L (by rw [hz2]; omega) (by unfold maxLen; omega) (Nat.le_refl _)
 have hb1 : Below w.heap.size w w1 := (Below.refl _ _).grown gr1 (Nat.le_refl _) (fun k e => by cases e)
 have HO := Lib.hid (show OwnC w1 w.heap.size (.slice (some ⟨w.heap.size, 0, none⟩) 0 L) (rowL (dmov L n x c) 0) from own1)
 have HB := Lib.hid hb1
 have HC := Lib.hid hc
 have HX := Lib.hid hx
 clear own1 gr1 hb1 hc hx hi hz0 hz1 hz2
 go_enter Tryz.func226, Tryz.ntmps226
 go_wp2_with fail
 go_loopw [14, 7] (fun i v wr => ∃ k : Nat, k ≤ L ∧ i = .int .i64 (k : Int) ∧ OwnC wr w.heap.size v (rowL (dmov L n x c) k) ∧ Below w.heap.size w wr) (fun i _ _ => L - (intOf i).toNat)
 case atStart => exact ⟨0, Nat.zero_le _, rfl, HO.out, HB.out⟩
 case round =>
  obtain ⟨k, hk, rfl, own, hb⟩ := hrel
  obtain ⟨ad, cap, hv⟩ := own.shape
  rw [rowL_len] at hv
  subst hv
  have HO := Lib.hid own
  have HB := Lib.hid hb
  have hsz := hb.size
  clear own hb
  have s1 : IntKind.i64.wrap ((L : Int) - 1) = (L : Int) - 1 := IntWalk.i64_in _ (by omega)
  by_cases hlt : k < L
  ·have q1 : (k : Int) < (L : Int) := by omega
   have s2 : IntKind.i64.wrap ((L : Int) - 1 - (k : Int)) = (L : Int) - 1 - (k : Int) := IntWalk.i64_in _ (by omega)
   have s3 : IntKind.i64.wrap (-(k : Int)) = -(k : Int) := IntWalk.i64_in _ (by omega)
   have s4 : IntKind.i64.wrap ((k : Int) + n) = (k : Int) + n := IntWalk.i64_in _ (by omega)
   by_cases hf : freshB L n k = true
   ·have hd : dmov L n x c k = x := by unfold dmov; rw [if_pos hf]
    have Hend := Lib.hid (rowL_succ (dmov L n x c) k)
    rw [hd] at Hend
    have HF := Lib.hid (show Fn wr 227 #[.pointer (some ⟨bx, 0, none⟩)] (.agg #[.int .i32 x.g, .int .i64 x.a, .bool x.d, .int .i64 x.m]) from fresh_cell wr bx x (fun j hj => ⟨cellB HB.out (HX.out j hj).1, cellB HB.out (HX.out j hj).2.1, cellB HB.out (HX.out j hj).2.2.1, cellB HB.out (HX.out j hj).2.2.2⟩))
    by_cases hA : (L : Int) - 1 - (k : Int) < n
    ·have d1 : decide ((L : Int) - 1 - (k : Int) < n) = true := by simp [hA]
     go_wp2_with fail
     refine HF.out.mono ?_
     rintro e w3 ⟨rfl, b3⟩
     have hs3 := b3.size
     have B3 := Lib.hid b3
     clear b3
     go_wp2_with (at_builtin; refine wp_appC rfl (.tmp 30) (.tmp 33) rfl w.heap.size _ (rowL (dmov L n x c) k) _ x w3.heap.size rfl rfl (by intro j hj; obtain rfl : j = 0 := (by omega); refine ⟨?_, ?_, ?_, ?_⟩ <;> simp [go_sem]) ((HO.out.call B3.out).call (bel_alloc (Below.refl _ _) _)) (by simp; omega) (by rw [rowL_len]; omega) ?_; intro ad4 cap4 w4 own4 b4; simp only [rowL_len] at own4 ⊢; have O4 := Lib.hid own4; have B4 := Lib.hid (show Below w.heap.size w w4 from (bel_alloc (bel_call HB.out B3.out) _).trans b4); clear own4 b4)
     go_roundw
     case rel => exact ⟨k + 1, by omega, by go_num, by rw [Hend.out]; exact O4.out, B4.out⟩
     case measure => simp [intOf]; omega
    ·have d1 : decide ((L : Int) - 1 - (k : Int) < n) = false := by simp; omega
     have hA2 : n < -(k : Int) := by
      unfold freshB at hf
      simp [d1] at hf
      exact hf
     have d2 : decide (n < -(k : Int)) = true := by simp [hA2]
     go_wp2_with fail
     refine HF.out.mono ?_
     rintro e w3 ⟨rfl, b3⟩
     have hs3 := b3.size
     have B3 := Lib.hid b3
     clear b3
     go_wp2_with (at_builtin; refine wp_appC rfl (.tmp 30) (.tmp 33) rfl w.heap.size _ (rowL (dmov L n x c) k) _ x w3.heap.size rfl rfl (by intro j hj; obtain rfl : j = 0 := (by omega); refine ⟨?_, ?_, ?_, ?_⟩ <;> simp [go_sem]) ((HO.out.call B3.out).call (bel_alloc (Below.refl _ _) _)) (by simp; omega) (by rw [rowL_len]; omega) ?_; intro ad4 cap4 w4 own4 b4; simp only [rowL_len] at own4 ⊢; have O4 := Lib.hid own4; have B4 := Lib.hid (show Below w.heap.size w w4 from (bel_alloc (bel_call HB.out B3.out) _).trans b4); clear own4 b4)
     go_roundw
     case rel => exact ⟨k + 1, by omega, by go_num, by rw [Hend.out]; exact O4.out, B4.out⟩
     case measure => simp [intOf]; omega
   ·have hf' : freshB L n k = false := by simpa using hf
    have hd : dmov L n x c k = c ((k : Int) + n).toNat := by unfold dmov; rw [if_neg hf]
    have Hend := Lib.hid (rowL_succ (dmov L n x c) k)
    obtain ⟨p, hp⟩ := Int.eq_ofNat_of_zero_le (freshB_not hf').1
    have hp2 := (freshB_not hf').2
    rw [hp] at hp2 hd s4
    rw [show ((p : Int)).toNat = p by omega] at hd
    rw [hd] at Hend
    have d1 : decide ((L : Int) - 1 - (k : Int) < n) = false := by unfold freshB at hf'; simp at hf' ⊢; omega
    have d2 : decide (n < -(k : Int)) = false := by unfold freshB at hf'; simp at hf' ⊢; omega
    have q3 : (p : Int) < (L : Int) := hp2
    obtain ⟨c0, c1, c2, c3⟩ := HC.out p (by omega)
    have c0' := cellB HB.out c0
    have c1' := cellB HB.out c1
    have c2' := cellB HB.out c2
    have c3' := cellB HB.out c3
    simp only [← Nat.add_assoc] at c1' c2' c3'
    have hpn : (k : Int) + n = (p : Int) := hp
    clear c0 c1 c2 c3 hp hf hf' hd
    generalize c p = y at *
    go_wp2_with (at_builtin; refine wp_appC rfl (.tmp 35) (.tmp 42) rfl w.heap.size _ (rowL (dmov L n x c) k) _ y wr.heap.size rfl rfl (by intro j hj; obtain rfl : j = 0 := (by omega); refine ⟨?_, ?_, ?_, ?_⟩ <;> simp [go_sem]) (HO.out.call (bel_alloc (Below.refl _ _) _)) (by simp; omega) (by rw [rowL_len]; omega) ?_; intro ad4 cap4 w4 own4 b4; simp only [rowL_len] at own4 ⊢; have O4 := Lib.hid own4; have B4 := Lib.hid (show Below w.heap.size w w4 from (bel_alloc HB.out _).trans b4); clear own4 b4)
    exact ⟨⟨k + 1, by omega, by push_cast; rfl, by rw [Hend.out]; exact O4.out, B4.out⟩, by simp [intOf]; omega⟩
  ·obtain rfl : k = L := by omega
   have q1 : ¬ (k : Int) < (k : Int) := by omega
   go_wp2_with fail
   go_ret
   exact ⟨_, rfl, HO.out, HB.out⟩
end Go.Proofs.YtpjooboohelffaaGreatDoor
/- Top: the grid's Slide. -/
namespace Go.Proofs.YtpjooboohelffaaGreatDoor
open Go.RowKit Go.Shelf
set_option linter.unusedVariables false
set_option linter.unusedSimpArgs false
set_option maxRecDepth 100000
/-- A copy to the place q of a row of n cells. -/
theorem copy_row {W : World} {b n q k N dl dc sl sc b' m : Nat} {t : TypeId} {c d : Nat → Cl} (hB : BlkT W b N t) (hA : CellsAt W b n c) (hq : q + k ≤ n) (hS : CellsAt W b' m d) (hk : Nat.min sl dl = k) (hkm : k ≤ m) (hN : n * 4 ≤ N) :
  ∃ w2, Sem.run Tryz.prog (Builtin.copy_ #[44, 44] 3 #[.slice (some ⟨b, q * 4, none⟩) dl dc, .slice (some ⟨b', 0, none⟩) sl sc]) W = .ok (.int .i64 (k : Int)) w2 ∧
   BlkT w2 b N t ∧ CellsAt w2 b n (fun j => if q ≤ j ∧ j < q + k then d (j - q) else c j) ∧ Kept (fun i => i ≠ b) W w2 := by
 have hsz48 : (Tryz.prog.info? 48).map (·.size) = some 4 := by kernel_rfl
 refine ⟨W.setCells b (q * 4) ((rowL d k).flatMap Cl.cs), ?_, setCells_blkT _ _ _ _ _ _ _ hB, ?_, ?_⟩
 ·have hsrc := (hS.at 0 k (by omega)).src
  simp only [Nat.zero_mul, Nat.zero_add] at hsrc
  have := run_copy_wide (P := Tryz.prog) W 44 44 3 48 4 b (q * 4) dl dc ⟨b', 0, none⟩ sl sc ((rowL d k).flatMap Cl.cs) Tryz.underlying44 hsz48
   (by rw [flat_len, hk]) hsrc (fun j hj => by
    rw [flat_len] at hj
    obtain ⟨u, hu, _⟩ := hB.blk.get (q * 4 + j) (by omega)
    rw [hu]; rfl) (fun j hj => by
    rw [flat_len] at hj
    obtain ⟨u, _, hz⟩ := hB.blk.get (q * 4 + j) (by omega)
    exact hz) (flat_one _ _)
  rw [hk] at this
  exact this
 ·rcases CellsAt.copied (k := k) (d := d) (q := q) hB.blk hA (by omega) with h | h
  ·rwa [show max n (q + k) = n by omega] at h
  ·omega
 ·have h1 := setCells_misc b ((rowL d k).flatMap Cl.cs) (q * 4) W
  exact ⟨h1.1, h1.2.1, h1.2.2, by rw [setCells_size]; exact Nat.le_refl _, fun i hi => setCells_heap _ hi _ _ _⟩
/-- The cells behind a step: each is x or one of those that were. -/
def Frm (R C : Nat) (x : Cl) (cell cell' : Nat → Nat → Cl) : Prop := ∀ P : Cl → Prop, P x → (∀ i j, i < R → j < C → P (cell i j)) → ∀ i j, i < R → j < C → P (cell' i j)
theorem Frm.refl (R C : Nat) (x : Cl) (cell : Nat → Nat → Cl) : Frm R C x cell cell := fun _ _ h => h
/-- A grid whose cells come from others, or are x. -/
def GridF (K : Nat → Prop) (W : World) (g rb cp R C : Nat) (x : Cl) (cell : Nat → Nat → Cl) : Prop := ∃ rs' cell', GridIs K W g rb cp R C rs' cell' ∧ Frm R C x cell cell'
section
variable {K : Nat → Prop} {W W' : World} {g rb cp R C : Nat} {rs : Nat → Nat} {cell : Nat → Nat → Cl}
theorem GridIs.toF (h : GridIs K W g rb cp R C rs cell) (x : Cl) : GridF K W g rb cp R C x cell := ⟨rs, cell, h, Frm.refl _ _ _ _⟩
theorem GridIs.row (h : GridIs K W g rb cp R C rs cell) {i : Nat} (hi : i < R) (hk : Kept (fun k => k ≠ rs i) W W') {c : Nat → Cl} (hB : BlkT W' (rs i) (C * 4) 48) (hc : CellsAt W' (rs i) C c) :
  GridIs K W' g rb cp R C rs (fun i' j' => if rs i' = rs i then c j' else cell i' j') := by
 have hgne : g ≠ rs i := fun e => h.ks i hi (e ▸ h.kg)
 have hrne : rb ≠ rs i := fun e => h.ne i hi e.symm
 refine ⟨h.r1, h.r2, h.c1, h.c2, h.kg, h.kr, h.ks, h.ne, h.cap, hk.cell hgne h.g0, h.rowB.to (hk.block _ hrne), fun k hk' => hk.cell hrne (h.rowC k hk'), fun k hk' => ?_, fun k l hk' hl => ?_⟩
 ·by_cases e : rs k = rs i
  ·rw [e]; exact hB
  ·exact (h.celB k hk').to (hk.block _ e)
 ·by_cases e : rs k = rs i
  ·rw [if_pos e, e]; exact hc l hl
  ·rw [if_neg e]
   obtain ⟨h0, h1, h2, h3⟩ := h.celC k l hk' hl
   exact ⟨hk.cell e h0, hk.cell e h1, hk.cell e h2, hk.cell e h3⟩
theorem GridIs.cellsAt (h : GridIs K W g rb cp R C rs cell) {i : Nat} (hi : i < R) : CellsAt W (rs i) C (cell i) := fun j hj => h.celC i j hi hj
end
end Go.Proofs.YtpjooboohelffaaGreatDoor
/- Top: the grid's Slide: the walk. -/
namespace Go.Proofs.YtpjooboohelffaaGreatDoor
open Go.RowKit Go.Shelf
set_option linter.unusedVariables false
set_option linter.unusedSimpArgs false
set_option maxRecDepth 100000
def two (a b : Int) (k : Nat) : Int := if k = 0 then a else b
theorem posAt_two {W : World} {b : Nat} {r0 c0 r1 c1 : Int} (h0 : W.cell? ⟨b, 0, none⟩ = some (.int .i64 r0)) (h1 : W.cell? ⟨b, 1, none⟩ = some (.int .i64 c0)) (h2 : W.cell? ⟨b, 2, none⟩ = some (.int .i64 r1)) (h3 : W.cell? ⟨b, 3, none⟩ = some (.int .i64 c1)) :
  PosAt W b 2 (two r0 r1) (two c0 c1) := by
 intro j hj
 have : j = 0 ∨ j = 1 := by omega
 rcases this with rfl | rfl
 ·exact ⟨h0, h1⟩
 ·exact ⟨h2, h3⟩
theorem slide_frm {R C i p L : Nat} {n : Int} {x : Cl} {rs : Nat → Nat} {cell : Nat → Nat → Cl} (hi : i < R) (hp : p + L ≤ C) :
  Frm R C x cell (fun i' j' => if rs i' = rs i then (if p ≤ j' ∧ j' < p + L then dmov L n x (fun j => cell i (p + j)) (j' - p) else cell i j') else cell i' j') := by
 intro P hx hc i' j' hi' hj'
 show P (if rs i' = rs i then (if p ≤ j' ∧ j' < p + L then dmov L n x (fun j => cell i (p + j)) (j' - p) else cell i j') else cell i' j')
 split
 ·split
  ·unfold dmov
   split
   ·exact hx
   ·rename_i h1 h2 h3
    have := freshB_not (by simpa using h3)
    exact hc _ _ hi (by omega)
  ·exact hc _ _ hi hj'
 ·exact hc _ _ hi' hj'
/-- What Slide leaves. -/
def SlideP (K : Nat → Prop) (w w' : World) (g rb cp R C : Nat) (x : Cl) (cell : Nat → Nat → Cl) : Prop := GridF K w' g rb cp R C x cell ∧ Kept K w w'
set_option maxHeartbeats 4000000 in
theorem slide_any {K : Nat → Prop} {g rb cp R C : Nat} {rs : Nat → Nat} {cell : Nat → Nat → Cl} (w : World) (hK : KB K w) (h : GridIs K w g rb cp R C rs cell) (row a b n : Int) (hn : -510 ≤ n ∧ n ≤ 510) (x : Cl) :
  Calls Tryz.prog 188 #[.pointer (some ⟨g, 0, none⟩), .int .i64 row, .int .i64 a, .int .i64 b, .int .i64 n, x.v] w fun e w' => (∃ z, e = .returned (.int .i64 z)) ∧ SlideP K w w' g rb cp R C x cell := by
 have HT := Lib.hid (fun W (hW : Below w.heap.size w W) bb (hp : PosAt W bb 2 (two row row) (two a b)) => there_any W (h.later hW) bb 2 (by omega) _ _ hp)
 have HG := Lib.hid h
 have HKb := Lib.hid hK
 have Hsame := Lib.hid (fun W (hb : Below w.heap.size w W) => (show SlideP K w W g rb cp R C x cell from ⟨(h.later hb).toF x, Kept.ofBelow hb hK⟩))
 clear h hK
 unfold Cl.v
 by_cases hin : ∀ j, j < 2 → inR R C (two row row j) (two a b j)
 ·have he := thereE_ok hin
  rw [he] at HT
  have i0 := hin 0 (by decide)
  have i1 := hin 1 (by decide)
  have hr : 0 ≤ row ∧ row < R := ⟨i0.1, i0.2.1⟩
  have ha : 0 ≤ a ∧ a < C := i0.2.2
  have hb : 0 ≤ b ∧ b < C := i1.2.2
  clear hin he i0 i1
  obtain ⟨i, rfl⟩ := Int.eq_ofNat_of_zero_le hr.1
  obtain ⟨p, rfl⟩ := Int.eq_ofNat_of_zero_le ha.1
  obtain ⟨q, rfl⟩ := Int.eq_ofNat_of_zero_le hb.1
  have hi : i < R := by omega
  have hp : p < C := by omega
  have hq : q < C := by omega
  have hC2 := HG.out.c2
  go_enter Tryz.func188, Tryz.ntmps188
  go_wp2_with fail
  refine gen_calls ?_
  intro u hu0
  have KFu : ∀ W, Below u.heap.size u W → (W.cell? ⟨w.heap.size, 0, none⟩ = some (.int .i32 x.g) ∧ W.cell? ⟨w.heap.size, 1, none⟩ = some (.int .i64 x.a) ∧ W.cell? ⟨w.heap.size, 2, none⟩ = some (.bool x.d) ∧ W.cell? ⟨w.heap.size, 3, none⟩ = some (.int .i64 x.m)) ∧ True ∧ Below w.heap.size w W := by
   intro W hu
   refine ⟨⟨?_, ?_, ?_, ?_⟩, trivial, ?_⟩
   ·exact (hu.cell (by rw [hu0]; simp <;> omega)).trans (by rw [hu0]; simp [go_sem])
   ·exact (hu.cell (by rw [hu0]; simp <;> omega)).trans (by rw [hu0]; simp [go_sem])
   ·exact (hu.cell (by rw [hu0]; simp <;> omega)).trans (by rw [hu0]; simp [go_sem])
   ·exact (hu.cell (by rw [hu0]; simp <;> omega)).trans (by rw [hu0]; simp [go_sem])
   ·exact bel_call (by rw [hu0]; (repeat first | exact Below.refl _ _ | refine bel_alloc ?_ _)) hu
  have hpos : PosAt u (w.heap.size + 1) 2 (two (i : Int) (i : Int)) (two (p : Int) (q : Int)) := posAt_two (by rw [hu0]; simp [go_sem]) (by rw [hu0]; simp [go_sem]) (by rw [hu0]; simp [go_sem]) (by rw [hu0]; simp [go_sem])
  clear hu0
  refine (HT.out u (KFu _ (Below.refl _ _)).2.2 _ hpos).mono ?_
  rintro e w1 ⟨rfl, b1⟩
  obtain ⟨⟨k0, k1, k2, k3⟩, _, kb⟩ := KFu _ b1
  have Hkb := Lib.hid kb
  clear kb
  by_cases hlt : q < p
  ·have q1 : (q : Int) < (p : Int) := by omega
   go_wp2_with fail
   go_ret
   exact ⟨⟨_, rfl⟩, Hsame.out _ Hkb.out⟩
  ·have q1 : ¬ (q : Int) < (p : Int) := by omega
   obtain ⟨L, hL⟩ : ∃ L, q + 1 - p = L := ⟨_, rfl⟩
   have hLe : q + 1 = p + L ∧ 1 ≤ L ∧ p + L ≤ C := by omega
   have s1 : IntKind.i64.wrap ((q : Int) + 1) = (q : Int) + 1 := IntWalk.i64_in _ (by omega)
   have G1 := HG.out.later Hkb.out
   have g0 := G1.g0
   have g1 := G1.rowC i hi
   have HG1 := Lib.hid G1
   have HX1 := Lib.hid (show CellsAt w1 w.heap.size 1 (fun _ => x) from fun j hj => by (obtain rfl : j = 0 := by omega); exact ⟨k0, k1, k2, k3⟩)
   clear G1 k0 k1 k2 k3 KFu hpos HT b1
   have i1 : (i : Int) < (R : Int) := by omega
   have p1 : p ≤ C := by omega
   have p2 : ¬ C = p := by omega
   have p3 : q + 1 ≤ C := by omega
   have p4 : p ≤ q + 1 := by omega
   have p5 : (0 : Int) ≤ (q : Int) + 1 := by omega
   have p6 : (q : Int) + 1 ≤ (C : Int) := by omega
   clear hp hq hr ha hb hlt hL
   go_wp2_with fail
   refine wp_region_held_drew (S := fun W => W.cell? ⟨g, 0, none⟩ = some (.slice (some ⟨rb, 0, none⟩) R cp) ∧ W.cell? ⟨rb, i, none⟩ = some (.slice (some ⟨rs i, 0, none⟩) C C)) (by kernel_rfl) (⟨g0, g1⟩) (fun hHeld => ?_)
   refine sY 0 29 ?_
   refine sY 1 30 ?_
   refine sY 2 31 ?_
   refine sY 3 32 ?_
   refine sY 4 33 ?_
   refine sY 5 34 ?_
   refine sY 6 35 ?_
   refine sY 7 36 ?_
   refine sY 8 37 ?_
   refine sY 9 38 ?_
   refine sY 10 39 ?_
   refine sY 11 40 ?_
   refine sY 12 41 ?_
   refine sY 13 42 ?_
   refine sY 14 43 ?_
   refine sY 15 44 ?_
   refine sY 16 45 ?_
   refine sY 17 46 ?_
   refine sY 18 47 ?_
   refine sY 19 48 ?_
   refine sY 20 49 ?_
   refine sY 21 50 ?_
   refine sO 22 fun K hK => ?_
   go_simp
   refine (moved_cells w1.drew (rs i) p L (C - p) w.heap.size n x (fun j => cell i (p + j)) (by omega) hn ?_ ?_).mono ?_
   ·exact (((HG1.out.cellsAt hi).at p L (by omega)) : CellsO w1 (rs i) (p * 4) L (fun j => cell i (p + j)))
   ·exact HX1.out
   rintro e w3 ⟨v, rfl, own, b3⟩
   obtain ⟨o, cap, rfl, ho1, ho2, hcs⟩ := own.cellsF (by omega)
   have B3 : Below w1.heap.size w1 w3 := (Below.refl w1.heap.size w1).drew.trans b3
   have G3 := HG1.out.later B3
   obtain ⟨w4, hcp, hB4, hA4, hK4⟩ := copy_row (dl := C - p) (dc := C - p) (sl := L) (sc := cap) (q := p) (k := L) (G3.celB i hi) (G3.cellsAt hi) (by omega) hcs (Nat.min_eq_left (by omega)) (Nat.le_refl _) (Nat.le_refl _)
   have G4 := G3.row hi hK4 hB4 hA4
   have j0 := G3.g0
   have j1 := G3.rowC i hi
   have HG4 := Lib.hid G4
   have HK4 := Lib.hid hK4
   have HB3 := Lib.hid B3
   have HF := Lib.hid (show Frm R C x cell (fun i' j' => if rs i' = rs i then (if p ≤ j' ∧ j' < p + L then dmov L n x (fun j => cell i (p + j)) (j' - p) else cell i j') else cell i' j') from slide_frm hi hLe.2.2)
   clear G3 G4 hK4 B3 hB4 hA4 own hcs b3
   (try go_wp2_with fail)
   refine hK.out _ _ ?_ (fun hHeld => ?_)
   ·exact ⟨j0, j1⟩
   clear hK K
   try simp only [Act.put, List.setIfInBounds_toArray, List.set_cons_zero, List.set_cons_succ]
   refine sO 23 fun K hK => ?_
   go_simp
   (try go_wp2_with fail)
   refine hK.out _ _ ?_ (fun hHeld => ?_)
   ·exact ⟨HG4.out.g0, HG4.out.rowC i hi⟩
   clear hK K
   try simp only [Act.put, List.setIfInBounds_toArray, List.set_cons_zero, List.set_cons_succ]
   refine wpAnyH_done (by kernel_rfl) ?_ _
   go_wp2_with fail
   go_ret
   exact ⟨⟨_, rfl⟩, ⟨rs, _, HG4.out, HF.out⟩, (Kept.ofBelow (bel_call Hkb.out HB3.out) HKb.out).trans (HK4.out.less (fun k hk e => (HG.out.ks i hi) (e ▸ hk)))⟩
 ·have he : thereE R C 2 (two row row) (two a b) = 11 := by unfold thereE; rw [if_neg hin]
  rw [he] at HT
  clear hin he
  go_enter Tryz.func188, Tryz.ntmps188
  go_wp2_with fail
  refine gen_calls ?_
  intro u hu0
  have KFu : ∀ W, Below u.heap.size u W → (W.cell? ⟨w.heap.size, 0, none⟩ = some (.int .i32 x.g)) ∧ True ∧ Below w.heap.size w W := by
   intro W hu
   refine ⟨?_, trivial, ?_⟩
   ·exact (hu.cell (by rw [hu0]; simp <;> omega)).trans (by rw [hu0]; simp [go_sem])
   ·exact bel_call (by rw [hu0]; (repeat first | exact Below.refl _ _ | refine bel_alloc ?_ _)) hu
  have hpos : PosAt u (w.heap.size + 1) 2 (two row row) (two a b) := posAt_two (by rw [hu0]; simp [go_sem]) (by rw [hu0]; simp [go_sem]) (by rw [hu0]; simp [go_sem]) (by rw [hu0]; simp [go_sem])
  clear hu0
  refine (HT.out u (KFu _ (Below.refl _ _)).2.2 _ hpos).mono ?_
  rintro e w1 ⟨rfl, b1⟩
  obtain ⟨_, _, kb⟩ := KFu _ b1
  have Hkb := Lib.hid kb
  clear kb
  go_wp2_with fail
  go_ret
  exact ⟨⟨_, rfl⟩, Hsame.out _ Hkb.out⟩
end Go.Proofs.YtpjooboohelffaaGreatDoor
