/- The walk of the field's Tab. -/
import Derived.Test.YtooikmialpfdkaaFN
import Derived.Test.YtooikmialpfdkaaF8
namespace Go.Proofs.Ytooikmialpfdkaa
open Go.RowKit Go.Shelf
set_option linter.unusedVariables false
set_option linter.unusedSimpArgs false
set_option maxRecDepth 100000
theorem foundF_form (o : Option Fd) : ∃ (x y z : Int) (f : Bool), foundF o = .tuple #[.agg #[.int .i64 x, .int .i64 y, .int .i64 z], .bool f] ∧ (∀ p, o = some p → x = p.1 ∧ y = p.2.1 ∧ f = true) ∧ (o = none → x = 0 ∧ y = 0 ∧ f = false) := by
  cases o with
  | none => exact ⟨0, 0, 0, false, rfl, fun p h => (by cases h), fun _ => ⟨rfl, rfl, rfl⟩⟩
  | some p => exact ⟨_, _, _, _, rfl, fun q h => (by cases h; exact ⟨rfl, rfl, rfl⟩), fun h => (by cases h)⟩
/-- Whether a field begins behind a place. -/
def behind (G : Grid) (a : Int) (f : Fd) : Bool := decide (a < G.num f.1 f.2.1 0)
/-- What Tab answers. -/
noncomputable def tabOf (G : Grid) (r c : Int) : Option Fd := ((fieldsOf G).find? (behind G (G.num r c (-1)))).or ((fieldsOf G).find? (fun _ => true))
def tabV (o : Option Fd) : Value := match o with
  | some f => .tuple #[posV f.1 f.2.1, .bool true]
  | none => .tuple #[posV 0 0, .bool false]
set_option maxHeartbeats 4000000 in
theorem tab_ok (G : Grid) (r c : Int) (w : World) (h : G.In w.heap.size w) (hok : G.Ok) : Fn w 21 #[G.v, posV r c] (tabV (tabOf G r c)) := by
  have HC : ∀ W, Below w.heap.size w W → Fn W 24 #[G.v] (.int .i64 0) := fun W hW => by
    have := check_any G W (h.later hW hW.size)
    rwa [okB_yes hok] at this
  have HN : ∀ W, Below w.heap.size w W → Fn W 27 #[G.v, posV r c, .int .i64 (-1)] (.int .i64 (G.num r c (-1))) := fun W hW => number_any G r c (-1) W (h.later hW hW.size) hok
  have HL := fun W => all_any G W
  have HB := fun x y z W => begin_fd x y z W
  obtain ⟨o1, ho1⟩ : ∃ o1, (fieldsOf G).find? (behind G (G.num r c (-1))) = o1 := ⟨_, rfl⟩
  obtain ⟨o2, ho2⟩ : ∃ o2, (fieldsOf G).find? (fun _ => true) = o2 := ⟨_, rfl⟩
  have hres : tabOf G r c = o1.or o2 := by unfold tabOf; rw [ho1, ho2]
  rw [hres]
  have H1 : ∀ W b6 b7 Bx, Below w.heap.size w W → Bx < W.heap.size → b6 < W.heap.size → b7 < W.heap.size → w.heap.size < W.heap.size → W.cell? ⟨w.heap.size, 0, none⟩ = some G.v → W.cell? ⟨b6, 0, none⟩ = some (.int .i64 (G.num r c (-1))) → W.cell? ⟨b7, 0, none⟩ = some (.func (.func 30) #[] #[]) → W.cell? ⟨Bx, 0, none⟩ = some G.v →
      Calls Try.prog 31 #[.func (.func 34) #[] #[.pointer (some ⟨Bx, 0, none⟩)], .func (.func 32) #[] #[.pointer (some ⟨w.heap.size, 0, none⟩), .pointer (some ⟨b7, 0, none⟩), .pointer (some ⟨b6, 0, none⟩)]] W fun e w' => e = .returned (foundF o1) ∧ Below W.heap.size W w' := by
    intro W b6 b7 Bx hW l1 l2 l3 l4 c2 c6 c7 cx
    rw [← ho1]
    refine first_fd32 G W (behind G (G.num r c (-1))) Bx w.heap.size b7 b6 cx (h.later hW hW.size) l1 (fun X hX f => ?_)
    exact behind_fd G f.1 f.2.1 f.2.2 (G.num r c (-1)) w.heap.size b7 b6 X (h.later (hW.trans (hX.mono hW.size)) (Nat.le_trans hW.size hX.size)) hok ((hX.cell (p := ⟨w.heap.size, 0, none⟩) l4).trans c2) ((hX.cell (p := ⟨b7, 0, none⟩) l3).trans c7) ((hX.cell (p := ⟨b6, 0, none⟩) l2).trans c6)
  have H2 : ∀ W Bx, Below w.heap.size w W → Bx < W.heap.size → W.cell? ⟨Bx, 0, none⟩ = some G.v →
      Calls Try.prog 31 #[.func (.func 34) #[] #[.pointer (some ⟨Bx, 0, none⟩)], .func (.func 33) #[] #[]] W fun e w' => e = .returned (foundF o2) ∧ Below W.heap.size W w' := by
    intro W Bx hW l1 cx
    rw [← ho2]
    exact first_fd33 G W (fun _ => true) Bx cx (h.later hW hW.size) l1 (fun X hX f => true_fd _ f.1 f.2.1 f.2.2 rfl X)
  obtain ⟨x1, y1, z1, f1, hf1, g1, g1'⟩ := foundF_form o1
  obtain ⟨x2, y2, z2, f2, hf2, g2, g2'⟩ := foundF_form o2
  have hfin : tabV (o1.or o2) = if f1 then .tuple #[posV x1 y1, .bool true] else .tuple #[posV x2 y2, .bool f2] := by
    cases o1 with
    | some p =>
      obtain ⟨rfl, rfl, rfl⟩ := g1 p rfl
      rfl
    | none =>
      obtain ⟨rfl, rfl, rfl⟩ := g1' rfl
      cases o2 with
      | some p =>
        obtain ⟨rfl, rfl, rfl⟩ := g2 p rfl
        rfl
      | none =>
        obtain ⟨rfl, rfl, rfl⟩ := g2' rfl
        rfl
  rw [hfin]
  rw [hf1] at H1
  rw [hf2] at H2
  clear hfin hf1 hf2 g1 g1' g2 g2' hres ho1 ho2
  unfold Fn posV at *
  unfold Grid.v at *
  generalize G.num r c (-1) = nn at *
  have HC' := Lib.hid HC
  have HN' := Lib.hid HN
  have HL' := Lib.hid HL
  have HB' := Lib.hid HB
  have H1' := Lib.hid H1
  have H2' := Lib.hid H2
  clear HC HN HL HB H1 H2 h hok
  go_enter Try.func21, Try.ntmps21
  go_wp2_with fail
  obtain ⟨w0, hw0⟩ : ∃ w0, ((w.alloc (.cells #[.slice G.a G.n G.cap] 22)).alloc (.cells #[.int .i64 r, .int .i64 c] 24)).alloc (.cells #[.int .i64 0, .int .i64 0] 24) = w0 := ⟨_, rfl⟩
  have B0 : Below w.heap.size w w0 := by rw [← hw0]; exact bel_alloc (bel_alloc (bel_alloc (Below.refl _ _) _) _) _
  have hs0 : w0.heap.size = w.heap.size + 3 := by rw [← hw0]; simp
  have k0 : w0.cell? ⟨w.heap.size, 0, none⟩ = some (.slice G.a G.n G.cap) := by rw [← hw0]; simp [go_sem]
  have k1 : w0.cell? ⟨w.heap.size + 1, 0, none⟩ = some (.int .i64 r) := by rw [← hw0]; simp [go_sem]
  have k2 : w0.cell? ⟨w.heap.size + 1, 1, none⟩ = some (.int .i64 c) := by rw [← hw0]; simp [go_sem]
  have k3 : w0.cell? ⟨w.heap.size + 1 + 1, 0, none⟩ = some (.int .i64 0) := by rw [← hw0]; simp [go_sem]
  have k4 : w0.cell? ⟨w.heap.size + 1 + 1, 1, none⟩ = some (.int .i64 0) := by rw [← hw0]; simp [go_sem]
  have k5 : w0.frozen? ⟨w.heap.size + 1 + 1, 0, none⟩ = false := by rw [← hw0]; simp [go_sem]
  have k6 : w0.frozen? ⟨w.heap.size + 1 + 1, 1, none⟩ = false := by rw [← hw0]; simp [go_sem]
  rw [hw0]
  have KB := Lib.hid (show ∀ W, Below w0.heap.size w0 W → W.cell? ⟨w.heap.size, 0, none⟩ = some (.slice G.a G.n G.cap) ∧ W.cell? ⟨w.heap.size + 1, 0, none⟩ = some (.int .i64 r) ∧ W.cell? ⟨w.heap.size + 1, 1, none⟩ = some (.int .i64 c) ∧ W.cell? ⟨w.heap.size + 1 + 1, 0, none⟩ = some (.int .i64 0) ∧ W.cell? ⟨w.heap.size + 1 + 1, 1, none⟩ = some (.int .i64 0) ∧ W.frozen? ⟨w.heap.size + 1 + 1, 0, none⟩ = false ∧ W.frozen? ⟨w.heap.size + 1 + 1, 1, none⟩ = false from fun W hW =>
    ⟨(hW.cell (p := ⟨w.heap.size, 0, none⟩) (by simp; omega)).trans k0, (hW.cell (p := ⟨w.heap.size + 1, 0, none⟩) (by simp; omega)).trans k1, (hW.cell (p := ⟨w.heap.size + 1, 1, none⟩) (by simp; omega)).trans k2, (hW.cell (p := ⟨w.heap.size + 1 + 1, 0, none⟩) (by simp; omega)).trans k3, (hW.cell (p := ⟨w.heap.size + 1 + 1, 1, none⟩) (by simp; omega)).trans k4, (hW.frozen (p := ⟨w.heap.size + 1 + 1, 0, none⟩) (by simp; omega)).trans k5, (hW.frozen (p := ⟨w.heap.size + 1 + 1, 1, none⟩) (by simp; omega)).trans k6⟩)
  clear k0 k1 k2 k3 k4 k5 k6 hw0
  refine (HC'.out _ B0).mono ?_
  rintro e w1 ⟨rfl, hb1⟩
  have B1 := bel_call B0 hb1
  obtain ⟨k0, k1, k2, -⟩ := KB.out _ hb1
  go_wp2_with fail
  refine (HN'.out _ B1).mono ?_
  rintro e w2 ⟨rfl, hb2⟩
  have B2 := bel_call B1 hb2
  have b2 := bel_call hb1 hb2
  clear k0 k1 k2 hb1 hb2
  obtain ⟨k0, -⟩ := KB.out _ b2
  have hsz := b2.size
  have l0 : w.heap.size < w2.heap.size := by omega
  have L0 := Lib.hid l0
  clear l0 hsz
  have k0' := (World.cell?_alloc_lt (w2.alloc (.cells #[.int .i64 nn] 3)) (.cells #[.func (.func 30) #[] #[]] 55) ⟨w.heap.size, 0, none⟩ (by simp; exact Nat.lt_succ_of_lt L0.out)).trans ((World.cell?_alloc_lt w2 (.cells #[.int .i64 nn] 3) ⟨w.heap.size, 0, none⟩ L0.out).trans k0)
  go_wp2_with fail
  refine (HL'.out _).mono ?_
  rintro e w3 ⟨rfl, rfl⟩
  obtain ⟨w3, hw3⟩ : ∃ w3, ((w2.alloc (.cells #[.int .i64 nn] 3)).alloc (.cells #[.func (.func 30) #[] #[]] 55)).alloc (.cells #[.slice G.a G.n G.cap] 22) = w3 := ⟨_, rfl⟩
  have B23 : Below w2.heap.size w2 w3 := by rw [← hw3]; exact bel_alloc (bel_alloc (bel_alloc (Below.refl _ _) _) _) _
  have B3 := bel_call B2 B23
  have b3 := bel_call b2 B23
  have hs3 : w3.heap.size = w2.heap.size + 3 := by rw [← hw3]; simp
  have c6 : w3.cell? ⟨w2.heap.size, 0, none⟩ = some (.int .i64 nn) := by rw [← hw3]; simp [go_sem]
  have c7 : w3.cell? ⟨w2.heap.size + 1, 0, none⟩ = some (.func (.func 30) #[] #[]) := by rw [← hw3]; simp [go_sem]
  have cx : w3.cell? ⟨w2.heap.size + 1 + 1, 0, none⟩ = some (.slice G.a G.n G.cap) := by rw [← hw3]; simp [go_sem]
  have ez : ((w2.alloc (.cells #[.int .i64 nn] 3)).alloc (.cells #[.func (.func 30) #[] #[]] 55)).heap.size = w2.heap.size + 1 + 1 := by simp
  rw [hw3, ez]
  clear hw3 ez k0 k0' b2 B2 B23
  obtain ⟨k0, -⟩ := KB.out _ b3
  have H1c := Lib.hid (H1'.out w3 w2.heap.size (w2.heap.size + 1) (w2.heap.size + 1 + 1) B3 (by omega) (by omega) (by omega) (by have := L0.out; omega) k0 c6 c7 cx)
  have C7 := Lib.hid c7
  have S3 := Lib.hid hs3
  have T0 := Lib.hid k0
  clear c6 c7 cx hs3 k0
  go_wp2_with fail
  refine H1c.out.mono ?_
  rintro e w4 ⟨rfl, hb4⟩
  have B4 := bel_call B3 hb4
  have b4 := bel_call b3 hb4
  have l7 : w2.heap.size + 1 < w4.heap.size := by have := hb4.size; have := S3.out; omega
  have c7 := (hb4.cell (p := ⟨w2.heap.size + 1, 0, none⟩) (by have := S3.out; simp; omega)).trans C7.out
  have c7' := (World.cell?_alloc_lt w4 (.cells #[.int .i64 x1, .int .i64 y1, .int .i64 z1] 39) ⟨w2.heap.size + 1, 0, none⟩ l7).trans c7
  obtain ⟨k0, -⟩ := KB.out _ (b4.alloc b4.size (.cells #[.int .i64 x1, .int .i64 y1, .int .i64 z1] 39))
  have L7 := Lib.hid l7
  have c7c := Lib.hid c7
  clear l7 c7
  have hb4' := Lib.hid hb4
  clear hb4
  cases f1
  · go_wp2_with fail
    refine (HL'.out _).mono ?_
    rintro e w5 ⟨rfl, rfl⟩
    obtain ⟨w5, hw5⟩ : ∃ w5, (w4.alloc (.cells #[.int .i64 x1, .int .i64 y1, .int .i64 z1] 39)).alloc (.cells #[.slice G.a G.n G.cap] 22) = w5 := ⟨_, rfl⟩
    have B45 : Below w4.heap.size w4 w5 := by rw [← hw5]; exact bel_alloc (bel_alloc (Below.refl _ _) _) _
    have B5 := bel_call B4 B45
    have b5 := bel_call b4 B45
    have hs5 : w5.heap.size = w4.heap.size + 2 := by rw [← hw5]; simp
    have cx : w5.cell? ⟨w4.heap.size + 1, 0, none⟩ = some (.slice G.a G.n G.cap) := by rw [← hw5]; simp [go_sem]
    have d0 : w5.cell? ⟨w4.heap.size, 0, none⟩ = some (.int .i64 x1) := by rw [← hw5]; simp [go_sem]
    have d1 : w5.cell? ⟨w4.heap.size, 1, none⟩ = some (.int .i64 y1) := by rw [← hw5]; simp [go_sem]
    have d2 : w5.cell? ⟨w4.heap.size, 2, none⟩ = some (.int .i64 z1) := by rw [← hw5]; simp [go_sem]
    have f0 : w5.frozen? ⟨w4.heap.size, 0, none⟩ = false := by rw [← hw5]; simp [go_sem]
    have f1 : w5.frozen? ⟨w4.heap.size, 1, none⟩ = false := by rw [← hw5]; simp [go_sem]
    have f2' : w5.frozen? ⟨w4.heap.size, 2, none⟩ = false := by rw [← hw5]; simp [go_sem]
    have ez : (w4.alloc (.cells #[.int .i64 x1, .int .i64 y1, .int .i64 z1] 39)).heap.size = w4.heap.size + 1 := by simp
    rw [hw5, ez]
    clear hw5 ez c7' k0
    have H2c := Lib.hid (H2'.out w5 (w4.heap.size + 1) B5 (by omega) cx)
    have hlt4 : w4.heap.size < w5.heap.size := by omega
    have hs5' := Lib.hid hs5
    clear cx hs5
    have D := Lib.hid (show _ ∧ _ ∧ _ ∧ _ ∧ _ ∧ _ from ⟨d0, d1, d2, f0, f1, f2'⟩)
    clear d0 d1 d2 f0 f1 f2'
    go_wp2_with fail
    refine H2c.out.mono ?_
    rintro e w6 ⟨rfl, hb6⟩
    obtain ⟨d0, d1, d2, f0, f1, f2'⟩ := D.out
    have d0 := (hb6.cell (p := ⟨w4.heap.size, 0, none⟩) hlt4).trans d0
    have d1 := (hb6.cell (p := ⟨w4.heap.size, 1, none⟩) hlt4).trans d1
    have d2 := (hb6.cell (p := ⟨w4.heap.size, 2, none⟩) hlt4).trans d2
    have f0 := (hb6.frozen (p := ⟨w4.heap.size, 0, none⟩) hlt4).trans f0
    have f1 := (hb6.frozen (p := ⟨w4.heap.size, 1, none⟩) hlt4).trans f1
    have f2' := (hb6.frozen (p := ⟨w4.heap.size, 2, none⟩) hlt4).trans f2'
    have B46 : Below w4.heap.size w4 w6 := B45.trans (hb6.mono (by omega))
    obtain ⟨w7, hw7⟩ : ∃ w7, ((w6.setCell ⟨w4.heap.size, 0, none⟩ (.int .i64 x2)).setCell ⟨w4.heap.size, 1, none⟩ (.int .i64 y2)).setCell ⟨w4.heap.size, 2, none⟩ (.int .i64 z2) = w7 := ⟨_, rfl⟩
    have B47 : Below w4.heap.size w4 w7 := by
      rw [← hw7]
      exact ((B46.setCell (p := ⟨w4.heap.size, 0, none⟩) (Nat.le_refl _) _).setCell (p := ⟨w4.heap.size, 1, none⟩) (Nat.le_refl _) _).setCell (p := ⟨w4.heap.size, 2, none⟩) (Nat.le_refl _) _
    have B7 := bel_call B4 B47
    have b7 := bel_call b4 B47
    have c7 := (B47.cell (p := ⟨w2.heap.size + 1, 0, none⟩) L7.out).trans c7c.out
    have n : ∀ i j : Nat, i ≠ j → (⟨w4.heap.size, i, none⟩ : Addr) ≠ ⟨w4.heap.size, j, none⟩ := fun i j h e => h (by cases e; rfl)
    have q0 : w7.cell? ⟨w4.heap.size, 0, none⟩ = some (.int .i64 x2) := by
      rw [← hw7, World.cell?_setCell_other _ _ _ _ (n 2 0 (by decide)), World.cell?_setCell_other _ _ _ _ (n 1 0 (by decide))]
      exact World.cell?_setCell_same' _ _ _ (by rw [d0]; rfl)
    have q1 : w7.cell? ⟨w4.heap.size, 1, none⟩ = some (.int .i64 y2) := by
      rw [← hw7, World.cell?_setCell_other _ _ _ _ (n 2 1 (by decide))]
      exact World.cell?_setCell_same' _ _ _ (by rw [World.cell?_setCell_other _ _ _ _ (n 0 1 (by decide)), d1]; rfl)
    have q2 : w7.cell? ⟨w4.heap.size, 2, none⟩ = some (.int .i64 z2) := by
      rw [← hw7]
      exact World.cell?_setCell_same' _ _ _ (by rw [World.cell?_setCell_other _ _ _ _ (n 1 2 (by decide)), World.cell?_setCell_other _ _ _ _ (n 0 2 (by decide)), d2]; rfl)
    clear n hb6 B46 B47 D hlt4
    go_wp2_with fail
    refine (HB'.out _ _ _ _).mono ?_
    rintro e w8 ⟨rfl, hb8⟩
    obtain ⟨-, -, -, k3, k4, k5, k6⟩ := KB.out _ (bel_call b7 hb8)
    obtain ⟨z0, z1⟩ := res2 (W := w8) (b := w.heap.size + 1 + 1) (.int .i64 x2) (.int .i64 y2) k3 k4
    go_wp2
    refine bodyPost_ret (v := .tuple #[.agg #[.int .i64 x2, .int .i64 y2], .bool f2]) (by simp [results, Try.results21, go_sem, z0, z1]) rfl ⟨rfl, ?_⟩
    exact ((bel_call B7 hb8).setCell (p := ⟨w.heap.size + 1 + 1, 0, none⟩) (by simp; omega) _).setCell (p := ⟨w.heap.size + 1 + 1, 1, none⟩) (by simp; omega) _
  · go_wp2_with fail
    refine (HB'.out _ _ _ _).mono ?_
    rintro e w6 ⟨rfl, hb6⟩
    obtain ⟨-, -, -, k3, k4, k5, k6⟩ := KB.out _ (bel_call (b4.alloc b4.size _) hb6)
    obtain ⟨z0, z1⟩ := res2 (W := w6) (b := w.heap.size + 1 + 1) (.int .i64 x1) (.int .i64 y1) k3 k4
    go_wp2
    refine bodyPost_ret (v := .tuple #[.agg #[.int .i64 x1, .int .i64 y1], .bool true]) (by simp [results, Try.results21, go_sem, z0, z1]) rfl ⟨rfl, ?_⟩
    exact ((bel_call (bel_alloc B4 _) hb6).setCell (p := ⟨w.heap.size + 1 + 1, 0, none⟩) (by simp; omega) _).setCell (p := ⟨w.heap.size + 1 + 1, 1, none⟩) (by simp; omega) _
theorem tab_not (G : Grid) (r c : Int) (w : World) (h : G.In w.heap.size w) (hok : ¬ G.Ok) : Fn w 21 #[G.v, posV r c] (.tuple #[posV 0 0, .bool false]) := by
  have HC : ∀ W, Below w.heap.size w W → Fn W 24 #[G.v] (.int .i64 10) := fun W hW => by
    have := check_any G W (h.later hW hW.size)
    rwa [not_okB hok] at this
  unfold Fn posV at *
  unfold Grid.v at *
  have HC' := Lib.hid HC
  clear HC h hok
  go_enter Try.func21, Try.ntmps21
  go_wp2_with fail
  refine (HC'.out _ (bel_alloc (bel_alloc (bel_alloc (Below.refl _ _) _) _) _)).mono ?_
  rintro e w1 ⟨rfl, hb1⟩
  have k3 := hb1.cell (p := ⟨w.heap.size + 1 + 1, 0, none⟩) (by simp)
  have k4 := hb1.cell (p := ⟨w.heap.size + 1 + 1, 1, none⟩) (by simp)
  have k5 := hb1.frozen (p := ⟨w.heap.size + 1 + 1, 0, none⟩) (by simp)
  have k6 := hb1.frozen (p := ⟨w.heap.size + 1 + 1, 1, none⟩) (by simp)
  simp [go_sem] at k3 k4 k5 k6
  have BW := bel_call (bel_alloc (bel_alloc (bel_alloc (Below.refl _ _) _) _) _) hb1
  obtain ⟨z0, z1⟩ := res2 (W := w1) (b := w.heap.size + 1 + 1) (.int .i64 0) (.int .i64 0) k3 k4
  go_wp2
  refine bodyPost_ret (v := .tuple #[.agg #[.int .i64 0, .int .i64 0], .bool false]) (by simp [results, Try.results21, go_sem, z0, z1]) rfl ⟨rfl, ?_⟩
  exact (BW.setCell (p := ⟨w.heap.size + 1 + 1, 0, none⟩) (by simp; omega) _).setCell (p := ⟨w.heap.size + 1 + 1, 1, none⟩) (by simp; omega) _
theorem tab_any (G : Grid) (r c : Int) (w : World) (h : G.In w.heap.size w) : Fn w 21 #[G.v, posV r c] (tabV (tabOf G r c)) := by
  by_cases hok : G.Ok
  · exact tab_ok G r c w h hok
  · have e : tabOf G r c = none := by unfold tabOf fieldsOf; rw [not_okB hok]; simp
    rw [e]
    exact tab_not G r c w h hok
end Go.Proofs.Ytooikmialpfdkaa
