/- The contract of first, at places: the first open place of an orbit. -/
import Derived.Test.YtooikmialpfdkaaF6
namespace Go.Proofs.Ytooikmialpfdkaa
open Go.RowKit Go.Shelf
set_option linter.unusedVariables false
attribute [local go_sem] Oper.semAt_some

/-- Is the place of number p open? -/
def openN (G : Grid) (p : Int) : Bool := !G.gd (p / (G.len 0 : Int)).toNat (p % (G.len 0 : Int)).toNat

/-- As w was below N, but for block By, which holds one number. -/
structure But (By N : Nat) (w W : World) : Prop where
  os : W.os = w.os
  tape : W.tape = w.tape
  output : W.output = w.output
  size : w.heap.size ≤ W.heap.size
  block : ∀ k, k < N → k ≠ By → W.heap[k]? = w.heap[k]?
  own : ∃ v, Boxed W By 3 v
theorem But.below {By N n₁ : Nat} {w W : World} (h : But By N w W) (h1 : n₁ ≤ By) (h2 : n₁ ≤ N) : Below n₁ w W :=
  ⟨h.os, h.tape, h.output, h.size, fun k hk => h.block k (by omega) (by omega)⟩
theorem But.cell {By N : Nat} {w W : World} (h : But By N w W) {b o : Nat} (h1 : b < N) (h2 : b ≠ By) : W.cell? ⟨b, o, none⟩ = w.cell? ⟨b, o, none⟩ :=
  World.cell?_of_block (h.block b h1 h2)
theorem But.frozen {By N : Nat} {w W : World} (h : But By N w W) {b o : Nat} (h1 : b < N) (h2 : b ≠ By) : W.frozen? ⟨b, o, none⟩ = w.frozen? ⟨b, o, none⟩ :=
  World.frozen?_of_block (h.block b h1 h2)
theorem But.set {By N : Nat} {w W : World} (h : But By N w W) (u : Int) : But By N w (W.setCell ⟨By, 0, none⟩ (.int .i64 u)) := by
  obtain ⟨v, hv⟩ := h.own
  exact ⟨h.os, h.tape, h.output, by simpa [World.setCell] using h.size, fun k h1 h2 => (Below.heap_setCell _ _ _ _ h2).trans (h.block k h1 h2), _, hv.set _⟩
theorem But.step {By N : Nat} {w W W' : World} (h : But By N w W) (hN : N ≤ W.heap.size) (hBy : By < W.heap.size) (hb : Below W.heap.size W W') : But By N w W' := by
  obtain ⟨v, hv⟩ := h.own
  exact ⟨hb.os.trans h.os, hb.tape.trans h.tape, hb.output.trans h.output, Nat.le_trans h.size hb.size, fun k h1 h2 => (hb.block k (by omega)).trans (h.block k h1 h2), v, (hb.block By hBy).trans hv⟩
theorem But.ownFrom {β : Type} {By N B : Nat} {w : World} (hN : N ≤ B) (hBy : By < B) (hw : N ≤ w.heap.size) : OwnFrom B (fun (_ : β) W => But By N w W) := fun _ W W' row h hg hr => by
  obtain ⟨v, hv⟩ := h.own
  have hne : ∀ k, k < B → some k ≠ row := fun k hk e => by have := (hr k e.symm).1; omega
  exact ⟨hg.os.trans h.os, hg.tape.trans h.tape, hg.output.trans h.output, Nat.le_trans h.size hg.size,
    fun k h1 h2 => (hg.block k (by have := h.size; omega) (hne k (by omega))).trans (h.block k h1 h2), v, hv.kept hg (hne By hBy)⟩
theorem keepsFrom_below {B : Nat} {W W' : World} (h : Below W.heap.size W W') : KeepsFrom B W W' :=
  ⟨h.size, fun k o _ hk _ => (h.block k (Array.getElem?_eq_some_iff.1 hk).1).trans hk⟩

theorem isopen_num (G : Grid) (x : Int) (Bx : Nat) (w : World) (h : G.In w.heap.size w) (hok : G.Ok) (A : Nat) (hA : G.n * G.len 0 = A) (hx0 : 0 ≤ x) (hx1 : x < A) (hx : w.cell? ⟨Bx, 0, none⟩ = some G.v) (hBx : Bx < w.heap.size) :
    Fn w 38 #[.agg #[.int .i64 (x / (G.len 0 : Int)), .int .i64 (x % (G.len 0 : Int))], .pointer (some ⟨Bx, 0, none⟩)] (.bool (openN G x)) := by
  have hm := (hok.2.2 0 hok.1).1
  have h1 : 0 ≤ x / (G.len 0 : Int) := Int.ediv_nonneg hx0 (by omega)
  have h2 : 0 ≤ x % (G.len 0 : Int) := Int.emod_nonneg _ (by omega)
  have h3 : x % (G.len 0 : Int) < G.len 0 := Int.emod_lt_of_pos _ (by omega)
  have h4 : x / (G.len 0 : Int) < G.n := by
    apply Int.ediv_lt_of_lt_mul (by omega)
    rw [← Int.natCast_mul, hA]; exact hx1
  unfold openN
  obtain ⟨r, hr⟩ := Int.eq_ofNat_of_zero_le h1
  obtain ⟨c, hc⟩ := Int.eq_ofNat_of_zero_le h2
  have h3' : (c : Int) < G.len 0 := by rw [← hc]; exact h3
  have h4' : (r : Int) < G.n := by rw [← hr]; exact h4
  rw [hr, hc]
  exact isopen_any G r c Bx w h hok ⟨by omega, h4', by omega, h3'⟩ hx hBx

/-- Three cells of two blocks, stored one behind the other. -/
theorem res3 {W : World} {b c : Nat} (hne : b ≠ c) {u0 u1 u2 : Value} (v0 v1 v2 : Value) (e0 : W.cell? ⟨b, 0, none⟩ = some u0) (e1 : W.cell? ⟨b, 1, none⟩ = some u1) (e2 : W.cell? ⟨c, 0, none⟩ = some u2) :
    (((W.setCell ⟨b, 0, none⟩ v0).setCell ⟨b, 1, none⟩ v1).setCell ⟨c, 0, none⟩ v2).cell? ⟨b, 0, none⟩ = some v0 ∧
    (((W.setCell ⟨b, 0, none⟩ v0).setCell ⟨b, 1, none⟩ v1).setCell ⟨c, 0, none⟩ v2).cell? ⟨b, 1, none⟩ = some v1 ∧
    (((W.setCell ⟨b, 0, none⟩ v0).setCell ⟨b, 1, none⟩ v1).setCell ⟨c, 0, none⟩ v2).cell? ⟨c, 0, none⟩ = some v2 := by
  have o1 : ∀ (X : World) (a a' : Addr) (v : Value), a ≠ a' → (X.setCell a v).cell? a' = X.cell? a' := fun X a a' v h => World.cell?_setCell_other X a a' v h
  have n1 : (⟨b, 0, none⟩ : Addr) ≠ ⟨b, 1, none⟩ := by simp
  have n2 : (⟨b, 0, none⟩ : Addr) ≠ ⟨c, 0, none⟩ := by simp <;> exact hne
  have n3 : (⟨b, 1, none⟩ : Addr) ≠ ⟨c, 0, none⟩ := by simp
  have x0 : (W.setCell ⟨b, 0, none⟩ v0).cell? ⟨b, 0, none⟩ = some v0 := World.cell?_setCell_same' _ _ _ (by rw [e0]; rfl)
  have x1 : (W.setCell ⟨b, 0, none⟩ v0).cell? ⟨b, 1, none⟩ = some u1 := (o1 _ _ _ _ n1).trans e1
  have x2 : (W.setCell ⟨b, 0, none⟩ v0).cell? ⟨c, 0, none⟩ = some u2 := (o1 _ _ _ _ n2).trans e2
  have y0 : ((W.setCell ⟨b, 0, none⟩ v0).setCell ⟨b, 1, none⟩ v1).cell? ⟨b, 0, none⟩ = some v0 := (o1 _ _ _ _ n1.symm).trans x0
  have y1 : ((W.setCell ⟨b, 0, none⟩ v0).setCell ⟨b, 1, none⟩ v1).cell? ⟨b, 1, none⟩ = some v1 := World.cell?_setCell_same' _ _ _ (by rw [x1]; rfl)
  have y2 : ((W.setCell ⟨b, 0, none⟩ v0).setCell ⟨b, 1, none⟩ v1).cell? ⟨c, 0, none⟩ = some u2 := (o1 _ _ _ _ n3).trans x2
  exact ⟨(o1 _ _ _ _ n2.symm).trans y0, (o1 _ _ _ _ n3.symm).trans y1, World.cell?_setCell_same' _ _ _ (by rw [y2]; rfl)⟩

def foundPos (G : Grid) (o : Option Int) : Value := match o with
  | some p => .tuple #[.agg #[.int .i64 (p / (G.len 0 : Int)), .int .i64 (p % (G.len 0 : Int))], .bool true]
  | none => .tuple #[.agg #[.int .i64 0, .int .i64 0], .bool false]

theorem find_none {G : Grid} {l : List Int} (h : ∀ p ∈ l, openN G p = false) : l.find? (openN G) = none := by
  rw [List.find?_eq_none]; intro p hp; simp [h p hp]
theorem find_some {G : Grid} {l t : List Int} {x : Int} (h : ∀ p ∈ l, openN G p = false) (hx : openN G x = true) : (l ++ [x] ++ t).find? (openN G) = some x := by
  rw [List.append_assoc, List.find?_append, find_none h]
  simp [hx]
theorem orbit_prefix {A st s : Int} {k m : Nat} (h : k ≤ m) : ∃ t, orbit A st s m = orbit A st s k ++ t := by
  obtain ⟨d, rfl⟩ : ∃ d, m = k + d := ⟨m - k, by omega⟩
  exact ⟨_, by simp [orbit, List.range_add]; rfl⟩

set_option maxHeartbeats 4000000 in
theorem first_pos (G : Grid) (hok : G.Ok) (A : Nat) (hA : G.n * G.len 0 = A) (st s : Int) (hst : st = 1 ∨ st = -1) (h0 : 0 ≤ s) (h1 : s < A) (w : World) (n₁ Bx By Bz Bq : Nat)
    (cx : w.cell? ⟨Bx, 0, none⟩ = some G.v) (cz : w.cell? ⟨Bz, 0, none⟩ = some (.int .i64 st)) (cq : w.cell? ⟨Bq, 0, none⟩ = some G.v) (cy : Boxed w By 3 (.int .i64 s)) (hG : G.In n₁ w)
    (lx : Bx < w.heap.size) (lz : Bz < w.heap.size) (lq : Bq < w.heap.size) (ly : n₁ ≤ By) (nx : Bx ≠ By) (nz : Bz ≠ By) (nq : Bq ≠ By) :
    Calls Try.prog 36 #[.func (.func 39) #[] #[.pointer (some ⟨Bx, 0, none⟩), .pointer (some ⟨By, 0, none⟩), .pointer (some ⟨Bz, 0, none⟩)], .func (.func 38) #[] #[.pointer (some ⟨Bq, 0, none⟩)]] w fun e w' =>
      e = .returned (foundPos G ((orbit A st s A).find? (openN G))) ∧ Below n₁ w w' := by
  have lby := cy.lt
  refine (callsIn_wide (n := 3)).1 (callsIn_of_wp_marks Try.func36 rfl trivial ?_ rfl)
  simp only [Try.ntmps36, List.size_toArray, List.length_cons, List.length_nil, Nat.reduceAdd, Nat.reduceSub, Array.replicate_succ, Array.replicate_zero, List.push_toArray, List.append_toArray, List.nil_append, List.cons_append]
  have Hcx := Lib.hid cx
  have Hcz := Lib.hid cz
  have Hcq := Lib.hid cq
  have Hcy := Lib.hid cy
  have Hst := Lib.hid hst
  clear cx cz cq cy hst
  gi_wp2
  obtain ⟨w2, hw2⟩ : ∃ w2, (((w.alloc (.cells #[.func (.func 38) #[] #[.pointer (some ⟨Bq, 0, none⟩)]] 64)).alloc (.cells #[.int .i64 0, .int .i64 0] 24)).alloc (.cells #[.bool false] 4)) = w2 := ⟨_, rfl⟩
  have hB : Below w.heap.size w w2 := by rw [← hw2]; exact bel_alloc (bel_alloc (bel_alloc (Below.refl _ _) _) _) _
  have hsz : w2.heap.size = w.heap.size + 3 := by rw [← hw2]; simp
  have r3 : w2.cell? ⟨w.heap.size, 0, none⟩ = some (.func (.func 38) #[] #[.pointer (some ⟨Bq, 0, none⟩)]) := by rw [← hw2]; simp [go_sem]
  have r4 : w2.cell? ⟨w.heap.size + 1, 0, none⟩ = some (.int .i64 0) ∧ w2.cell? ⟨w.heap.size + 1, 1, none⟩ = some (.int .i64 0) ∧ w2.frozen? ⟨w.heap.size + 1, 0, none⟩ = false ∧ w2.frozen? ⟨w.heap.size + 1, 1, none⟩ = false := by rw [← hw2]; simp [go_sem]
  have r5 : w2.cell? ⟨w.heap.size + 1 + 1, 0, none⟩ = some (.bool false) ∧ w2.frozen? ⟨w.heap.size + 1 + 1, 0, none⟩ = false := by rw [← hw2]; simp [go_sem]
  rw [hw2]
  have B0 : But By w2.heap.size w2 w2 := ⟨rfl, rfl, rfl, Nat.le_refl _, fun _ _ _ => rfl, _, (show Boxed w2 By 3 _ from (hB.block By lby).trans Hcy.out)⟩
  have c2x := (hB.cell (p := ⟨Bx, 0, none⟩) lx).trans Hcx.out
  have c2z := (hB.cell (p := ⟨Bz, 0, none⟩) lz).trans Hcz.out
  have c2q := (hB.cell (p := ⟨Bq, 0, none⟩) lq).trans Hcq.out
  have c2y : w2.cell? ⟨By, 0, none⟩ = some (.int .i64 s) := (hB.cell (p := ⟨By, 0, none⟩) lby).trans Hcy.out.cell
  have G2 : G.In n₁ w2 := hG.later (hB.mono (by omega)) (Nat.le_refl _)
  clear hw2
  have HcX := Lib.hid c2x
  have HcZ := Lib.hid c2z
  have HcQ := Lib.hid c2q
  have HcY := Lib.hid c2y
  have HR3 := Lib.hid r3
  have HR4 := Lib.hid r4
  have HR5 := Lib.hid r5
  clear c2x c2z c2q c2y r3 r4 r5
  have hN : w2.heap.size ≤ w2.heap.size := Nat.le_refl _
  refine range_law (n := 2) (m := 1) (gf := 39) (lb := #[.pointer (some ⟨Bx, 0, none⟩), .pointer (some ⟨By, 0, none⟩), .pointer (some ⟨Bz, 0, none⟩)]) rfl (enters_of Try.func39 (by kernel_rfl) rfl) (encs := encPos (G.len 0)) (fun _ => rfl)
    (S := fun ys => ys = orbit A st s A) (Sp := fun pre => ∃ k, k ≤ A ∧ pre = orbit A st s k) (V := fun p => 0 ≤ p ∧ p < (A : Int)) (N := A) (Kp := Below w2.heap.size) belowK_t (belowK_b hN)
    (fun pre W => (∀ p ∈ pre, openN G p = false) ∧ But By w2.heap.size w2 W)
    (fun c pre W => (c = .ret ∧ ∃ pre' x, pre = pre' ++ [x] ∧ (∀ p ∈ pre', openN G p = false) ∧ openN G x = true ∧
      W.cell? ⟨w.heap.size + 1, 0, none⟩ = some (.int .i64 (x / (G.len 0 : Int))) ∧ W.cell? ⟨w.heap.size + 1, 1, none⟩ = some (.int .i64 (x % (G.len 0 : Int))) ∧ W.cell? ⟨w.heap.size + 1 + 1, 0, none⟩ = some (.bool true)) ∧ Below n₁ w2 W)
    ?hI ?hIx ⟨by simp, B0⟩
    (fun x a' W => ∃ b, w2.heap.size ≤ b ∧ W.cell? ⟨b, 0, none⟩ = some (.int .i64 (x / (G.len 0 : Int))) ∧ W.cell? ⟨b, 1, none⟩ = some (.int .i64 (x % (G.len 0 : Int))) ∧
      a' = { tmps := #[.func (.func 39) #[] #[.pointer (some ⟨Bx, 0, none⟩), .pointer (some ⟨By, 0, none⟩), .pointer (some ⟨Bz, 0, none⟩)], .func (.func 38) #[] #[.pointer (some ⟨Bq, 0, none⟩)], undef,
        .pointer (some ⟨w.heap.size, 0, none⟩), .pointer (some ⟨w.heap.size + 1, 0, none⟩), .pointer (some ⟨w.heap.size + 1 + 1, 0, none⟩), .pointer (some ⟨b, 0, none⟩), undef,
        .func (.func 39) #[] #[.pointer (some ⟨Bx, 0, none⟩), .pointer (some ⟨By, 0, none⟩), .pointer (some ⟨Bz, 0, none⟩)], .agg #[.int .i64 (x / (G.len 0 : Int)), .int .i64 (x % (G.len 0 : Int))], undef, undef, undef, undef, undef], defers := [] })
    ?hAx ?hit ?assign ?body ?done ?stop
  case hI => exact fun s W W' row h hg hr => ⟨h.1, But.ownFrom (β := Unit) hN (by omega) hN () W W' row h.2 hg hr⟩
  case hIx =>
    rintro c pre W W' row ⟨⟨rfl, pre', x, hp, ho, hx, k0, k1, k2⟩, hb⟩ hg hr
    exact ⟨⟨rfl, pre', x, hp, ho, hx, cell_kept k0 hg (fun r e => (hr r e).2), cell_kept k1 hg (fun r e => (hr r e).2), cell_kept k2 hg (fun r e => (hr r e).2)⟩, ownFrom_below (β := Unit) (B := w2.heap.size) (w₀ := w2) (by omega) (by omega) () W W' row hb hg hr⟩
  case hAx =>
    rintro x a' _ W W' row ⟨b, hb, k0, k1, e⟩ hg hr
    exact ⟨b, hb, cell_kept k0 hg (fun r e => (hr r e).2), cell_kept k1 hg (fun r e => (hr r e).2), e⟩
  case hit =>
    rintro W0 ⟨o, o', _, _, rfl⟩ hI0
    refine places_iter G hok A hA 2 (by decide) Bx By Bz st s Hst.out h0 h1 w2.heap.size w2.heap.size (by omega) _ ?_ ?_ ?_ _ ?_
    · rintro pre W ⟨_, hW⟩
      obtain ⟨v, hv⟩ := hW.own
      exact ⟨(hW.cell (by omega) nx).trans HcX.out, (hW.cell (by omega) nz).trans HcZ.out, hv.frozen, _, G2.later (hW.below ly (by omega)) (Nat.le_refl _)⟩
    · rintro pre W u ⟨h, hW⟩
      exact ⟨h, hW.set u⟩
    · rintro pre W ⟨h, hW⟩
      exact ⟨h, hW.os, hW.tape, hW.output, hW.size, hW.block, hW.own⟩
    · exact (World.cell?_alloc_past _ _ _ (by simp; omega)).trans ((World.cell?_alloc_past _ _ _ (by omega)).trans HcY.out)
  case assign =>
    rintro l pre x W K ⟨hp, hW⟩ hK
    simp only [encPos]
    gi_wp2
    have hBW : Below W.heap.size W (W.alloc (.cells #[.int .i64 (x / (G.len 0 : Int)), .int .i64 (x % (G.len 0 : Int))] 24)) := bel_alloc (Below.refl _ _) _
    have hs := hW.size
    refine hK _ _ ((KeepsOthers.alloc _ _).from _) (hBW.mono hs) ⟨hp, hW.step hs (by omega) hBW⟩ ⟨W.heap.size, hs, by simp [go_sem], by simp [go_sem], rfl⟩
  case body =>
    rintro l pre x a' W ⟨hp, hW⟩ ⟨b, hb, k0, k1, rfl⟩ hlen ⟨hx0, hx1⟩
    have hs := hW.size
    have hf : w.heap.size < w2.heap.size := by omega
    have c3 := (hW.cell (o := 0) hf (by omega)).trans HR3.out
    have cq := (hW.cell (o := 0) (show Bq < w2.heap.size by omega) nq).trans HcQ.out
    have HC := isopen_num G x Bq W (G2.later (hW.below ly (by omega)) (by omega)) hok A hA hx0 hx1 cq (by omega)
    have d0 := (hW.frozen (o := 0) (show w.heap.size + 1 < w2.heap.size by omega) (by omega)).trans HR4.out.2.2.1
    have d1 := (hW.frozen (o := 1) (show w.heap.size + 1 < w2.heap.size by omega) (by omega)).trans HR4.out.2.2.2
    have d2 := (hW.frozen (o := 0) (show w.heap.size + 1 + 1 < w2.heap.size by omega) (by omega)).trans HR5.out.2
    have e0 := (hW.cell (o := 0) (show w.heap.size + 1 < w2.heap.size by omega) (by omega)).trans HR4.out.1
    have e1 := (hW.cell (o := 1) (show w.heap.size + 1 < w2.heap.size by omega) (by omega)).trans HR4.out.2.1
    have e2 := (hW.cell (o := 0) (show w.heap.size + 1 + 1 < w2.heap.size by omega) (by omega)).trans HR5.out.1
    have hW' := Lib.hid hW
    have Hp := Lib.hid hp
    clear hW hp cq
    unfold Fn at HC
    generalize hr : openN G x = r at *
    have Hr := Lib.hid hr
    clear hr
    have hbW : b < W.heap.size := by
      obtain ⟨o, ho, _⟩ := cells_of_cell k0
      exact (Array.getElem?_eq_some_iff.1 ho).1
    have hB2 : w2.heap.size ≤ W.heap.size := hs
    have hf1 : w.heap.size + 1 < W.heap.size := by omega
    have hf2 : w.heap.size + 1 + 1 < W.heap.size := by omega
    cases r
    · gi_wp2_with (refine ⟨trivial, ?_⟩; gi_at_call 38; refine (CallsIn.inRound l (callsIn_wide.2 HC)).mono ?_; rintro e W' ⟨rfl, hb'⟩)
      exact ⟨keepsFrom_below hb', hb'.mono hs, fun p hp => (List.mem_append.1 hp).elim (Hp.out p) (fun e => by simp at e; rw [e]; exact Hr.out), hW'.out.step hs (by omega) hb'⟩
    · gi_wp2_with (refine ⟨trivial, ?_⟩; gi_at_call 38; refine (CallsIn.inRound l (callsIn_wide.2 HC)).mono ?_; rintro e W' ⟨rfl, hb'⟩; have k0' := (hb'.cell (p := ⟨b, 0, none⟩) hbW).trans k0; have k1' := (hb'.cell (p := ⟨b, 1, none⟩) hbW).trans k1; have d0' := (hb'.frozen (p := ⟨w.heap.size + 1, 0, none⟩) hf1).trans d0; have d1' := (hb'.frozen (p := ⟨w.heap.size + 1, 1, none⟩) hf1).trans d1; have d2' := (hb'.frozen (p := ⟨w.heap.size + 1 + 1, 0, none⟩) hf2).trans d2; have e0' := (hb'.cell (p := ⟨w.heap.size + 1, 0, none⟩) hf1).trans e0; have e1' := (hb'.cell (p := ⟨w.heap.size + 1, 1, none⟩) hf1).trans e1; have e2' := (hb'.cell (p := ⟨w.heap.size + 1 + 1, 0, none⟩) hf2).trans e2)
      obtain ⟨z0, z1, z2⟩ := res3 (W := W') (b := w.heap.size + 1) (c := w.heap.size + 1 + 1) (by omega) (.int .i64 (x / (G.len 0 : Int))) (.int .i64 (x % (G.len 0 : Int))) (.bool true) e0' e1' e2'
      refine ⟨(keepsFrom_below hb').trans ((((KeepsOthers.setCell _ _ _).trans (KeepsOthers.setCell _ _ _)).trans (KeepsOthers.setCell _ _ _)).from _), ⟨rfl, pre, x, rfl, Hp.out, Hr.out, z0, z1, z2⟩, ?_⟩
      have b1 : Below n₁ w2 W' := (hW'.out.below ly (by omega)).trans (hb'.mono (by omega))
      exact ((b1.setCell (p := ⟨w.heap.size + 1, 0, none⟩) (by simp; omega) _).setCell (p := ⟨w.heap.size + 1, 1, none⟩) (by simp; omega) _).setCell (p := ⟨w.heap.size + 1 + 1, 0, none⟩) (by simp; omega) _
  case done =>
    rintro D ys W hD rfl ⟨hp, hW⟩ hK
    have hs := hW.size
    have hf1 : w.heap.size + 1 < W.heap.size := by omega
    have hf2 : w.heap.size + 1 + 1 < W.heap.size := by omega
    have d0 := (hW.frozen (o := 0) (show w.heap.size + 1 < w2.heap.size by omega) (by omega)).trans HR4.out.2.2.1
    have d1 := (hW.frozen (o := 1) (show w.heap.size + 1 < w2.heap.size by omega) (by omega)).trans HR4.out.2.2.2
    have d2 := (hW.frozen (o := 0) (show w.heap.size + 1 + 1 < w2.heap.size by omega) (by omega)).trans HR5.out.2
    have e0 := (hW.cell (o := 0) (show w.heap.size + 1 < w2.heap.size by omega) (by omega)).trans HR4.out.1
    have e1 := (hW.cell (o := 1) (show w.heap.size + 1 < w2.heap.size by omega) (by omega)).trans HR4.out.2.1
    have e2 := (hW.cell (o := 0) (show w.heap.size + 1 + 1 < w2.heap.size by omega) (by omega)).trans HR5.out.1
    have hW' := Lib.hid hW
    have Hp := Lib.hid hp
    have HK := Lib.hid hK
    clear hW hp hK
    gi_wp2
    obtain ⟨z0, z1, z2⟩ := res3 (W := W) (b := w.heap.size + 1) (c := w.heap.size + 1 + 1) (by omega) (.int .i64 0) (.int .i64 0) (.bool false) e0 e1 e2
    have hKO : KeepsOthers W ((((W.setCell ⟨w.heap.size + 1, 0, none⟩ (.int .i64 0)).setCell ⟨w.heap.size + 1, 1, none⟩ (.int .i64 0)).setCell ⟨w.heap.size + 1 + 1, 0, none⟩ (.bool false))) := ((KeepsOthers.setCell _ _ _).trans (KeepsOthers.setCell _ _ _)).trans (KeepsOthers.setCell _ _ _)
    have hBe : Below n₁ w ((((W.setCell ⟨w.heap.size + 1, 0, none⟩ (.int .i64 0)).setCell ⟨w.heap.size + 1, 1, none⟩ (.int .i64 0)).setCell ⟨w.heap.size + 1 + 1, 0, none⟩ (.bool false))) :=
      ((((hB.mono (by omega)).trans (hW'.out.below ly (by omega))).setCell (p := ⟨w.heap.size + 1, 0, none⟩) (by simp; omega) _).setCell (p := ⟨w.heap.size + 1, 1, none⟩) (by simp; omega) _).setCell (p := ⟨w.heap.size + 1 + 1, 0, none⟩) (by simp; omega) _
    have hsz3 : (((W.setCell ⟨w.heap.size + 1, 0, none⟩ (.int .i64 0)).setCell ⟨w.heap.size + 1, 1, none⟩ (.int .i64 0)).setCell ⟨w.heap.size + 1 + 1, 0, none⟩ (.bool false)).heap.size = W.heap.size := by simp [World.setCell]
    generalize ((W.setCell ⟨w.heap.size + 1, 0, none⟩ (.int .i64 0)).setCell ⟨w.heap.size + 1, 1, none⟩ (.int .i64 0)).setCell ⟨w.heap.size + 1 + 1, 0, none⟩ (.bool false) = W3 at z0 z1 z2 hKO hBe hsz3
    have hK4 : (W3.alloc (.cells #[.int .i64 0, .int .i64 0] 24)).heap[D]? = some (.deferred (some [])) := (hKO.trans (KeepsOthers.alloc _ _)).same D _ HK.out rfl
    have y0 := cell_kept ((World.cell?_alloc_past (w := W3) (.cells #[.int .i64 0, .int .i64 0] 24) _ _ (by omega)).trans z0) (grownBy_putObj' _ D (.deferred none)) (fun r e => by cases e; exact ⟨_, hK4, rfl⟩)
    have y1 := cell_kept ((World.cell?_alloc_past (w := W3) (.cells #[.int .i64 0, .int .i64 0] 24) _ _ (by omega)).trans z1) (grownBy_putObj' _ D (.deferred none)) (fun r e => by cases e; exact ⟨_, hK4, rfl⟩)
    have y2 := cell_kept ((World.cell?_alloc_past (w := W3) (.cells #[.int .i64 0, .int .i64 0] 24) _ _ (by omega)).trans z2) (grownBy_putObj' _ D (.deferred none)) (fun r e => by cases e; exact ⟨_, hK4, rfl⟩)
    refine ⟨by simp, .inl ⟨_, _, rfl, run_takeDeferred hK4, ?_⟩⟩
    refine ⟨.tuple #[.agg #[.int .i64 0, .int .i64 0], .bool false], ?_, ?_, ?_⟩
    · simp [results, Try.results36, go_sem, y0, y1, y2]
    · rw [find_none Hp.out]; rfl
    · exact (hBe.alloc (by omega) _).trans (belowK_b (w := w2) (by omega) _ D _ _ (by omega) hK4 rfl rfl)
  case stop =>
    rintro D c pre W hD ⟨k, hk, hpre⟩ ⟨⟨rfl, pre', x, he, ho, hx, k0, k1, k2⟩, hb⟩ hK
    gi_wp2
    refine ⟨by simp, .inl ⟨_, _, rfl, run_takeDeferred hK, ?_⟩⟩
    have z0 := cell_kept k0 (grownBy_putObj' _ D (.deferred none)) (fun r e => by cases e; exact ⟨_, hK, rfl⟩)
    have z1 := cell_kept k1 (grownBy_putObj' _ D (.deferred none)) (fun r e => by cases e; exact ⟨_, hK, rfl⟩)
    have z2 := cell_kept k2 (grownBy_putObj' _ D (.deferred none)) (fun r e => by cases e; exact ⟨_, hK, rfl⟩)
    obtain ⟨t, ht⟩ := orbit_prefix (A := A) (st := st) (s := s) hk
    refine ⟨.tuple #[.agg #[.int .i64 (x / (G.len 0 : Int)), .int .i64 (x % (G.len 0 : Int))], .bool true], ?_, ?_, ?_⟩
    · simp [results, Try.results36, go_sem, z0, z1, z2]
    · rw [ht, ← hpre, he, find_some ho hx]; rfl
    · exact ((hB.mono (by omega)).trans hb).trans (belowK_b (w := w2) (by omega) W D _ _ (by omega) hK rfl rfl)
end Go.Proofs.Ytooikmialpfdkaa
