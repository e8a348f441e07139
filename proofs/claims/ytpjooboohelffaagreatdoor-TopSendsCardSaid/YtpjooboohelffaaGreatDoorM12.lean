/- TopLooks and TopSends, helper 13 of 27. It holds: all rows of a grid, copied (Rows): the walk; the screen: Size, Cursor, At, Rows; the screen: Move, Step; the screen: Chars, Lines, Wipe. Each theorem states its own conditions. -/
import Derived.Test.YtpjooboohelffaaGreatDoorM11
import Derived.Test.YtpjooboohelffaaGreatDoorM10
/- Top: all rows of a grid, copied (Rows): the walk. -/
namespace Go.Proofs.YtpjooboohelffaaGreatDoor
open Go.RowKit Go.Shelf
set_option linter.unusedVariables false
set_option linter.unusedSimpArgs false
set_option maxRecDepth 100000
attribute [local go_sem] Oper.semAt_some
/-- Rows of cells, in blocks from lo on. -/
def RowsAt (W : World) (lo : Nat) (v : Value) (R C : Nat) (cell : Nat → Nat → Cl) : Prop :=
 ∃ ob, v = .slice (some ⟨ob, 0, none⟩) R R ∧ lo ≤ ob ∧ ∀ i, i < R → ∃ b cap, W.cell? ⟨ob, i, none⟩ = some (.slice (some ⟨b, 0, none⟩) C cap) ∧ (lo ≤ b ∧ C ≤ cap) ∧ CellsAt W b C (cell i)
theorem RowsAt.later {W W' : World} {lo R C : Nat} {v : Value} {cell : Nat → Nat → Cl} (h : RowsAt W lo v R C cell) (hb : Below W.heap.size W W') : RowsAt W' lo v R C cell := by
 obtain ⟨ob, h1, h2, h3⟩ := h
 refine ⟨ob, h1, h2, fun i hi => ?_⟩
 obtain ⟨b, cap, a1, a2, a3⟩ := h3 i hi
 exact ⟨b, cap, cellB hb a1, a2, fun j hj => ⟨cellB hb (a3 j hj).1, cellB hb (a3 j hj).2.1, cellB hb (a3 j hj).2.2.1, cellB hb (a3 j hj).2.2.2⟩⟩
theorem RowsAt.kept {W W' : World} {lo R C : Nat} {v : Value} {cell : Nat → Nat → Cl} (h : RowsAt W lo v R C cell) {row : Option Nat} (hg : W.grownBy W' row) (hr : ∀ r, row = some r → ∃ o : Obj, W.heap[r]? = some o ∧ o.isCells = false) : RowsAt W' lo v R C cell := by
 obtain ⟨ob, h1, h2, h3⟩ := h
 have kk := fun {b o v} (k : W.cell? ⟨b, o, none⟩ = some v) => cell_kept k hg hr
 refine ⟨ob, h1, h2, fun i hi => ?_⟩
 obtain ⟨b, cap, a1, a2, a3⟩ := h3 i hi
 exact ⟨b, cap, kk a1, a2, fun j hj => ⟨kk (a3 j hj).1, kk (a3 j hj).2.1, kk (a3 j hj).2.2.1, kk (a3 j hj).2.2.2⟩⟩
theorem Bld.rowsAt {W : World} {lo ob R C : Nat} {cell : Nat → Nat → Cl} (h : Bld W lo ob R C cell R 0) {lo' : Nat} (h1 : lo' ≤ ob) : RowsAt W lo' (.slice (some ⟨ob, 0, none⟩) R R) R C cell := by
 obtain ⟨hi, a1, a2, a3, _⟩ := h.done
 have hlo := h.olo
 refine ⟨ob, rfl, h1, fun i hi => ?_⟩
 obtain ⟨b, cap, b1, b2, b3, b4⟩ := a3 i hi
 exact ⟨b, cap, b1, ⟨by omega, b2.2⟩, b4⟩
def outO (R : Nat) : Obj := .cells (madeCells #[.slice none 0 0] R) 44
theorem make_out (R : Nat) (hR : R ≤ 255) (w : World) : (Instr.makeSlice 37 (.int .i64 (R : Int)) (.int .i64 (R : Int))).run Tryz.prog w = .ok (.slice (some ⟨w.heap.size, 0, none⟩) R R) (w.alloc (outO R)) := by
 obtain ⟨i0, hi, hz0, hz1, hz2⟩ := info_parts info44
 have := run_make (P := Tryz.prog) w 37 44 i0 _ Tryz.underlying37 hi hz0 .i64 .i64 (R : Int) (R : Int) (by omega) (by omega) (by rw [hz2]; omega) (by omega)
 rw [hz1] at this
 simpa [outO, Value.cells] using this
theorem madeCells_get (v : Value) (R i : Nat) (h : i < R) : (madeCells #[v] R)[i]? = some v := by
 simp [madeCells, h, Nat.mod_one]
theorem bld_new {w W : World} {R C : Nat} {cell : Nat → Nat → Cl} (hR : 1 ≤ R) (hb : Below (w.alloc (outO R)).heap.size (w.alloc (outO R)) W) : Bld W W.heap.size w.heap.size R C cell 0 0 := by
 have hlt : w.heap.size < (w.alloc (outO R)).heap.size := by simp
 have hh : W.heap[w.heap.size]? = some (.cells (madeCells #[.slice none 0 0] R) 44 (0, 0)) := (hb.block _ hlt).trans (heap_alloc_new w _)
 have hc : ∀ i, i < R → W.cell? ⟨w.heap.size, i, none⟩ = some (.slice none 0 0) := fun i hi => by
  simp only [World.cell?, hh]
  exact madeCells_get _ _ _ hi
 have hs := hb.size
 exact ⟨⟨_, hh, size_madeCells _ _⟩, by omega, ⟨W.heap.size, by omega, by omega, fun i hi => by omega, fun _ => ⟨_, hc 0 (by omega), OwnC.nil _ _⟩⟩, fun i _ hi => hc i hi⟩
/-- Behind an append to a row of cells, and a store to the rows' block, all other blocks are as they were. -/
theorem app_keeps {W X w3 : World} {hi ob k : Nat} {v u : Value} {L : List Cl} (hX : Below W.heap.size W X) (own : OwnC X hi v L) (g3 : X.grownBy w3 v.ownBlock) {q : Nat} {o : Obj}
  (hq : W.heap[q]? = some o) (ho : ∀ cs, o ≠ .cells cs 48 (0, 0)) (hne : q ≠ ob) : (w3.setCell ⟨ob, k, none⟩ u).heap[q]? = some o := by
 have hlt := (Array.getElem?_eq_some_iff.1 hq).1
 have hXq : X.heap[q]? = some o := (hX.block q hlt).trans hq
 refine (Below.heap_setCell _ _ _ _ hne).trans ((g3.block q (Array.getElem?_eq_some_iff.1 hXq).1 fun e => ?_).trans hXq)
 rcases own.2 with ⟨rfl, _⟩ | ⟨g, cap, cur, rfl, hg, hgb, _⟩
 ·cases e
 ·simp [Value.ownBlock] at e
  subst e
  rw [hXq] at hgb
  cases hgb
  exact ho _ rfl
set_option maxHeartbeats 4000000 in
theorem rows_any {K : Nat → Prop} {g rb cp R C : Nat} {rs : Nat → Nat} {cell : Nat → Nat → Cl} (w : World) (h : GridIs K w g rb cp R C rs cell) :
  Calls Tryz.prog 36 #[.pointer (some ⟨g, 0, none⟩)] w fun e w' => ∃ v, e = .returned v ∧ RowsAt w' w.heap.size v R C cell ∧ Below w.heap.size w w' := by
 refine (callsIn_wide (n := 3)).1 (callsIn_of_wp_marks Tryz.func36 rfl trivial ?_ rfl)
 simp only [Tryz.ntmps36, List.size_toArray, List.length_cons, List.length_nil, Nat.reduceAdd, Nat.reduceSub, Array.replicate_succ, Array.replicate_zero, List.push_toArray, List.append_toArray, List.nil_append, List.cons_append]
 have HS := Lib.hid (size_any w h)
 have HA := Lib.hid (fun W => all_any W (some ⟨g, 0, none⟩))
 have hmk := make_out R h.r2
 have hr0 : ¬ (R : Int) < 0 := by omega
 have HG := Lib.hid h
 clear h
 gi_wp2_with (first
  | (refine ⟨trivial, ?_⟩; gi_at_call 53; refine (callsIn_wide.2 HS.out).mono ?_; rintro e w1 ⟨rfl, b1⟩)
  | (refine ⟨trivial, ?_⟩; gi_at_call 63; refine (callsIn_wide.2 (HA.out _)).mono ?_; rintro e w2 ⟨rfl, rfl⟩))
 obtain ⟨w2, hw2⟩ : ∃ w2, ((((w1.alloc (Obj.cells #[Value.int IntKind.i64 ↑R, Value.int IntKind.i64 ↑C] 23)).alloc (outO R)).alloc
     (Obj.cells #[Value.slice (some { block := w1.heap.size + 1, off := 0 }) R R] 37)).alloc
   (Obj.cells #[Value.pointer (some { block := g, off := 0 })] 79)) = w2 := ⟨_, rfl⟩
 have hB : Below w.heap.size w w2 := bel_call b1 (by rw [← hw2]; exact bel_alloc (bel_alloc (bel_alloc (bel_alloc (Below.refl _ _) _) _) _) _)
 have hsz : w2.heap.size = w1.heap.size + 1 + 1 + 1 + 1 := by rw [← hw2]; simp
 have hbld : Bld w2 w2.heap.size (w1.heap.size + 1) R C cell 0 0 := by
  have := bld_new (w := w1.alloc (.cells #[.int .i64 (R : Int), .int .i64 (C : Int)] 23)) (W := w2) (C := C) (cell := cell) HG.out.r1 (by rw [← hw2]; exact (bel_alloc (bel_alloc (Below.refl _ _) _) _))
  simpa using this
 have co : w2.cell? ⟨w1.heap.size + 1 + 1, 0, none⟩ = some (.slice (some ⟨w1.heap.size + 1, 0, none⟩) R R) := by rw [← hw2]; simp [go_sem]
 have cx : w2.cell? ⟨w1.heap.size + 1 + 1 + 1, 0, none⟩ = some (.pointer (some ⟨g, 0, none⟩)) := by rw [← hw2]; simp [go_sem]
 have hs1 := b1.size
 rw [hw2]
 clear hw2 hmk HA HS
 have Hco := Lib.hid co
 have Hcx := Lib.hid cx
 have HSz := Lib.hid hsz
 have HB := Lib.hid hB
 have Hbld := Lib.hid hbld
 clear co cx hsz hB hbld b1
 refine range_law (n := 2) (m := 1) (gf := 99) (lb := #[.pointer (some ⟨w1.heap.size + 1 + 1 + 1, 0, none⟩)]) rfl (enters_of Tryz.func99 (by kernel_rfl) rfl) (encs := encPC) (fun _ => rfl)
  (S := fun ys => ys.length = R * C) (Sp := fun _ => True) (V := fun pre x => x = kth C cell pre.length) (N := R * C) (Kp := KeepsT 23) KeepsT.trans (fun W l o o' _ hl ho _ => KeepsT.putObj W l o o' hl ho)
  (fun pre W => W.cell? ⟨w1.heap.size + 1 + 1, 0, none⟩ = some (.slice (some ⟨w1.heap.size + 1, 0, none⟩) R R) ∧ W.cell? ⟨w1.heap.size + 1 + 1 + 1, 0, none⟩ = some (.pointer (some ⟨g, 0, none⟩)) ∧
   Bld W w2.heap.size (w1.heap.size + 1) R C cell (pre.length / C) (pre.length % C) ∧ Below w.heap.size w W)
  (fun c pre W => False)
  ?hI ?hIx ⟨Hco.out, Hcx.out, by simpa using Hbld.out, HB.out⟩
  (fun x a' W => ∃ b c, w2.heap.size ≤ b ∧ w2.heap.size ≤ c ∧ W.heap[b]? = some (.cells #[.int .i64 (x.i : Int), .int .i64 (x.j : Int)] 36 (0, 0)) ∧ CellsAt W c 1 (fun _ => x.c) ∧
   a' = { tmps := #[Value.pointer (some { block := g, off := 0 }), undef, Value.slice none 0 0,
     Value.pointer (some { block := w1.heap.size, off := 0 }),
     Value.pointer (some { block := w1.heap.size + 1 + 1, off := 0 }), .pointer (some ⟨b, 0, none⟩), .pointer (some ⟨c, 0, none⟩),
     Value.pointer (some { block := g, off := 0 }), pr ↑R ↑C,
     Value.pointer (some { block := w1.heap.size, off := 0 }), Value.int IntKind.i64 ↑R,
     Value.slice (some { block := w1.heap.size + 1, off := 0 }) R R, Value.pointer (some { block := g, off := 0 }),
     Value.func (Fn.func 99) #[] #[Value.pointer (some { block := w1.heap.size + 1 + 1 + 1, off := 0 })], pr x.i x.j,
     x.c.v, undef, undef, undef, undef, undef, undef, undef, undef, undef, undef, undef, undef, undef], defers := [] })
  ?hAx ?hit ?assign ?body ?done ?stop
 case hI =>
  rintro s W W' row ⟨h1, h2, h3, h4⟩ hg hr
  exact ⟨cell_kept h1 hg (fun r e => (hr r e).2), cell_kept h2 hg (fun r e => (hr r e).2), h3.kept hg (fun r e => (hr r e).2), ownFrom_below (β := Unit) (B := w2.heap.size) (w₀ := w) (Nat.le_refl _) HB.out.size () W W' row h4 hg hr⟩
 case hIx => exact fun c pre W W' row h _ _ => h
 case hAx =>
  rintro x a' _ W W' row ⟨b, c, hb, hc, k0, k2, e⟩ hg hr
  have k1 : W'.heap[b]? = some (.cells #[.int .i64 (x.i : Int), .int .i64 (x.j : Int)] 36 (0, 0)) := (hg.block b (Array.getElem?_eq_some_iff.1 k0).1 (fun e => by
   obtain ⟨_, o, ho, hc⟩ := hr b e.symm
   rw [k0] at ho; cases ho; cases hc)).trans k0
  have kk := fun {b o v} (k : W.cell? ⟨b, o, none⟩ = some v) => cell_kept k hg (fun r e => (hr r e).2)
  exact ⟨b, c, hb, hc, k1, fun j hj => ⟨kk (k2 j hj).1, kk (k2 j hj).2.1, kk (k2 j hj).2.2.1, kk (k2 j hj).2.2.2⟩, e⟩
 case hit =>
  rintro W0 ⟨o, o', _, _, rfl⟩ hI0
  refine all_iter 2 (by decide) (w1.heap.size + 1 + 1 + 1) w2.heap.size g rb cp R C K _ _ _ _ (by simp; omega) ?_ ?_ (fun _ _ h => h)
  ·rintro pre X X' ⟨h1, h2, h3, h4⟩ hb
   exact ⟨cellB hb h1, cellB hb h2, h3.later hb, bel_call h4 hb⟩
  ·rintro pre X ⟨h1, h2, h3, h4⟩
   exact ⟨h2, rs, cell, HG.out.later h4, fun _ => rfl⟩
 case assign =>
  rintro l pre x W Kk ⟨h1, h2, h3, h4⟩ hK
  simp only [encPC, Cl.v]
  gi_wp2
  have hbW : Below W.heap.size W ((W.alloc (Obj.cells #[Value.int IntKind.i64 ↑x.i, Value.int IntKind.i64 ↑x.j] 36)).alloc
   (Obj.cells #[Value.int IntKind.i32 x.c.g, Value.int IntKind.i64 x.c.a, Value.bool x.c.d, Value.int IntKind.i64 x.c.m] 48)) := bel_alloc (bel_alloc (Below.refl _ _) _) _
  obtain ⟨hi, a1, a2, _⟩ := h3.done
  refine hK _ _ (keepsB hbW) (KeepsT.ofBelow hbW) ⟨cellB hbW h1, cellB hbW h2, h3.later hbW, bel_call h4 hbW⟩ ⟨W.heap.size, W.heap.size + 1, by omega, by omega, ?_, ?_, rfl⟩
  ·exact (Below.heap_alloc _ _ _ (by simp)).trans (heap_alloc_new W _)
  ·intro j hj
   obtain rfl : j = 0 := by omega
   refine ⟨?_, ?_, ?_, ?_⟩ <;> simp [go_sem]
 case body =>
  rintro l pre x a' W ⟨h1, h2, h3, h4⟩ ⟨b, c, hb, hc, kb0, kc0, rfl⟩ hlen rfl
  have hC := HG.out.c1
  have hk : pre.length / C < R := Nat.div_lt_of_lt_mul (by rw [Nat.mul_comm]; exact hlen)
  have hm : pre.length % C < C := Nat.mod_lt _ (by omega)
  have hnext : (pre.length + 1) / C = (if pre.length % C + 1 = C then pre.length / C + 1 else pre.length / C) ∧ (pre.length + 1) % C = (if pre.length % C + 1 = C then 0 else pre.length % C + 1) := by
   have := Nat.div_add_mod pre.length C
   generalize pre.length / C = q at *
   generalize pre.length % C = r at *
   rw [← this]
   by_cases hr : r + 1 = C
   ·rw [if_pos hr, if_pos hr, show C * q + r + 1 = C * (q + 1) by rw [Nat.mul_succ]; omega]
    exact ⟨Nat.mul_div_cancel_left _ (by omega), Nat.mul_mod_right _ _⟩
   ·rw [if_neg hr, if_neg hr, show C * q + r + 1 = C * q + (r + 1) by omega]
    exact ⟨by rw [Nat.mul_add_div (by omega), Nat.div_eq_of_lt (by omega)]; omega, by rw [Nat.mul_add_mod, Nat.mod_eq_of_lt (by omega)]⟩
  have Hnx := Lib.hid hnext
  have hpl : (pre ++ [kth C cell pre.length]).length = pre.length + 1 := by simp
  have Hpl := Lib.hid hpl
  simp only [kth] at kb0 kc0 ⊢
  clear hnext hpl
  obtain ⟨k, hkk⟩ : ∃ k, pre.length / C = k := ⟨_, rfl⟩
  obtain ⟨m, hmm⟩ : ∃ m, pre.length % C = m := ⟨_, rfl⟩
  rw [hkk] at h3 hk
  rw [hmm] at h3 hm
  simp only [hkk, hmm] at kb0 kc0 Hnx ⊢
  generalize hxs : pre ++ [PC.mk k m (cell k m)] = xs
  have Hxl := Lib.hid (show xs.length = pre.length + 1 from by rw [← hxs]; simp)
  clear hxs Hpl hlen hkk hmm
  obtain ⟨hi, a4, a5, a6, a7⟩ := h3.done
  obtain ⟨v, cv, own⟩ := a7 hk
  obtain ⟨ad, cap, hv⟩ := own.shape
  rw [rowL_len] at hv
  subst hv
  obtain ⟨c0, c1⟩ := cells2 kb0
  obtain ⟨d0, d1, d2, d3⟩ := kc0 0 (by decide)
  have q1 : (k : Int) < (R : Int) := by omega
  have hlt1 : w1.heap.size + 1 < W.heap.size := h3.obk.elim (fun _ h => (Array.getElem?_eq_some_iff.1 h.1).1)
  have hlt2 : c < W.heap.size := World.block_lt_of_cell? W ⟨c, 0 * 4, none⟩ d0
  have HE : ∀ X, Below W.heap.size W X → ∀ w3 ad3 cap3, OwnC w3 hi (.slice ad3 (m + 1) cap3) (rowL (cell k) (m + 1)) → X.grownBy w3 (Value.slice ad m cap).ownBlock →
    (w3.cell? ⟨w1.heap.size + 1 + 1, 0, none⟩ = some (.slice (some ⟨w1.heap.size + 1, 0, none⟩) R R) ∧ w3.cell? ⟨b, 0, none⟩ = some (.int .i64 (k : Int))) ∧ (∃ u, w3.cell? ⟨w1.heap.size + 1, k, none⟩ = some u) ∧ w3.frozen? ⟨w1.heap.size + 1, k, none⟩ = false ∧
    (KeepsFrom w2.heap.size W (w3.setCell ⟨w1.heap.size + 1, k, none⟩ (.slice ad3 (m + 1) cap3)) ∧ KeepsT 23 W (w3.setCell ⟨w1.heap.size + 1, k, none⟩ (.slice ad3 (m + 1) cap3)) ∧
     (w3.setCell ⟨w1.heap.size + 1, k, none⟩ (.slice ad3 (m + 1) cap3)).cell? ⟨w1.heap.size + 1 + 1, 0, none⟩ = some (.slice (some ⟨w1.heap.size + 1, 0, none⟩) R R) ∧
     (w3.setCell ⟨w1.heap.size + 1, k, none⟩ (.slice ad3 (m + 1) cap3)).cell? ⟨w1.heap.size + 1 + 1 + 1, 0, none⟩ = some (.pointer (some ⟨g, 0, none⟩)) ∧
     Bld (w3.setCell ⟨w1.heap.size + 1, k, none⟩ (.slice ad3 (m + 1) cap3)) w2.heap.size (w1.heap.size + 1) R C cell (xs.length / C) (xs.length % C) ∧
     Below w.heap.size w (w3.setCell ⟨w1.heap.size + 1, k, none⟩ (.slice ad3 (m + 1) cap3))) := by
   intro X hX w3 ad3 cap3 o3 g3
   have ownX := own.call hX
   have hz := HSz.out
   have hXs := hX.size
   have hnum : ∀ q, q < hi → w3.heap[q]? = X.heap[q]? := fun q hq => g3.block q (by omega) (fun e => by
    rcases ownX.2 with ⟨e2, _⟩ | ⟨g', cap', cur, e2, hg, _⟩
    ·rw [e2] at e; cases e
    ·rw [e2] at e; simp [Value.ownBlock] at e; omega)
   have n1 : w3.cell? ⟨w1.heap.size + 1 + 1, 0, none⟩ = some (.slice (some ⟨w1.heap.size + 1, 0, none⟩) R R) := (World.cell?_of_block (a := ⟨_, _, none⟩) (hnum _ (by simp; omega))).trans (cellB hX h1)
   have n2 : w3.cell? ⟨w1.heap.size + 1 + 1 + 1, 0, none⟩ = some (.pointer (some ⟨g, 0, none⟩)) := (World.cell?_of_block (a := ⟨_, _, none⟩) (hnum _ (by simp; omega))).trans (cellB hX h2)
   have kp := fun {q : Nat} {o : Obj} (hq : W.heap[q]? = some o) ho hne => app_keeps (ob := w1.heap.size + 1) (k := k) (u := .slice ad3 (m + 1) cap3) hX ownX g3 hq ho hne
   obtain ⟨cs, hcs, hcz⟩ := h3.obk
   have hbne : b ≠ w1.heap.size + 1 := by omega
   have n3 : w3.cell? ⟨b, 0, none⟩ = some (.int .i64 (k : Int)) := by
    have := kp kb0 (fun cs e => by cases e) hbne
    have h2 := (Below.heap_setCell w3 ⟨w1.heap.size + 1, k, none⟩ (.slice ad3 (m + 1) cap3) b hbne).symm.trans this
    exact (cells2 h2).1
   have hob3 : w3.heap[w1.heap.size + 1]? = some (.cells cs 44 (0, 0)) := (hnum _ (by omega)).trans ((hX.block _ hlt1).trans hcs)
   have hblk : Blk w3 (w1.heap.size + 1) R := ⟨cs, 44, hob3, hcz⟩
   obtain ⟨u, hu, hfz⟩ := hblk.get k hk
   have hsz3 : (w3.setCell ⟨w1.heap.size + 1, k, none⟩ (.slice ad3 (m + 1) cap3)).heap.size = w3.heap.size := by simp [World.setCell]
   have hg3 := g3.size
   have hmore := (h3.later hX).more hk hm (v1 := .slice ad3 (m + 1) cap3) a4 (by omega) (fun i hi => (a6 i hi).later hX) ownX o3 g3
   refine ⟨⟨n1, n3⟩, ⟨u, hu⟩, hfz, ⟨by omega, fun q o hB hq ho => kp hq (fun cs e => by subst e; cases ho) (by omega)⟩, ⟨by omega, fun q cs hq => kp hq (fun cs e => by cases e) (fun e => by subst e; rw [hcs] at hq; cases hq)⟩, cs_other n1 (by simp <;> omega), cs_other n2 (by simp <;> omega), ?_, ?_⟩
   ·rw [Hxl.out, Hnx.out.1, Hnx.out.2]
    by_cases hr : m + 1 = C
    ·rw [if_pos hr, if_pos hr]; exact hmore.2 hr
    ·rw [if_neg hr, if_neg hr]; exact hmore.1 (by omega)
   ·refine ((bel_call h4 hX).grown g3 (by omega) fun q e => ?_).setCell (by simp; omega) _
    rcases ownX.2 with ⟨e2, _⟩ | ⟨g', cap', cur, e2, hg, _⟩
    ·rw [e2] at e; cases e
    ·rw [e2] at e; simp [Value.ownBlock] at e; omega
  have HEE := Lib.hid HE
  have Hown := Lib.hid own
  have Hhi := Lib.hid (show hi ≤ W.heap.size from a5)
  have d0' : W.cell? ⟨c, 0, none⟩ = some (.int .i32 (cell k m).g) := by simpa using d0
  have d1' : W.cell? ⟨c, 1, none⟩ = some (.int .i64 (cell k m).a) := by simpa using d1
  have d2' : W.cell? ⟨c, 2, none⟩ = some (.bool (cell k m).d) := by simpa using d2
  have d3' : W.cell? ⟨c, 3, none⟩ = some (.int .i64 (cell k m).m) := by simpa using d3
  have HK0 : ∀ X, Below W.heap.size W X → (X.cell? ⟨w1.heap.size + 1 + 1, 0, none⟩ = some (.slice (some ⟨w1.heap.size + 1, 0, none⟩) R R) ∧ X.cell? ⟨b, 0, none⟩ = some (.int .i64 (k : Int))) := fun X hX => ⟨cellB hX h1, cellB hX c0⟩
  have HKK := Lib.hid HK0
  have hbne : w1.heap.size + 1 ≠ b := by have := HSz.out; omega
  have hm5 : m ≤ 255 := by have := HG.out.c2; omega
  clear h1 h2 h3 h4 a4 a5 a6 a7 own c0 c1 d0 d1 d2 d3 kb0 kc0 HE HK0 hm
  gi_wp2_with fail
  refine wpIn_region_held (S := fun W' => W'.cell? ⟨w1.heap.size + 1 + 1, 0, none⟩ = some (.slice (some ⟨w1.heap.size + 1, 0, none⟩) R R) ∧ W'.cell? ⟨b, 0, none⟩ = some (.int .i64 (k : Int))) (by kernel_rfl) (noDefer_spec (by kernel_rfl)) (by rintro ⟨a, w, h⟩; exact h) (HKK.out _ (Below.refl _ _).drew) (fun hHeld => ?_)
  refine sY 0 16 ?_
  refine sY 1 17 ?_
  refine sY 2 18 ?_
  refine sY 3 19 ?_
  refine sY 4 20 ?_
  refine sY 5 21 ?_
  refine sY 6 22 ?_
  refine wpAnyH_ready (rs := [7, 8]) (by kernel_rfl) (by simp) ?_
  refine AllReadyH.cons rfl (fun K hK => ?_) (AllReadyH.cons rfl (fun K hK => ?_) (AllReadyH.nil))
  ·go_simp
   (try go_wp2_with fail)
   refine hK.out _ _ ?_ (fun hHeld => ?_)
   ·exact hHeld
   clear hK K
   try simp only [Act.put, List.setIfInBounds_toArray, List.set_cons_zero, List.set_cons_succ]
   refine sO 8 fun K hK => ?_
   go_simp
   (try go_wp2_with fail)
   refine hK.out _ _ ?_ (fun hHeld => ?_)
   ·exact hHeld
   clear hK K
   try simp only [Act.put, List.setIfInBounds_toArray, List.set_cons_zero, List.set_cons_succ]
   refine sO 9 fun K hK => ?_
   go_simp
   (try go_wp2_with fail)
   refine hK.out _ _ ?_ (fun hHeld => ?_)
   ·exact (HKK.out _ (by repeat first | exact Below.refl _ _ | refine bel_alloc ?_ _ | refine Below.drew ?_))
   clear hK K
   try simp only [Act.put, List.setIfInBounds_toArray, List.set_cons_zero, List.set_cons_succ]
   refine sO 10 fun K hK => ?_
   have hbX : Below W.heap.size W _ := (by repeat first | exact Below.refl _ _ | refine bel_alloc ?_ _ | refine Below.drew ?_ : Below W.heap.size W (W.alloc (.cells #[.int .i32 (cell k m).g, .int .i64 (cell k m).a, .bool (cell k m).d, .int .i64 (cell k m).m] 48)).drew)
   refine step_appC rfl (.tmp 23) (.tmp 25) rfl hi _ (rowL (cell k) m) _ (cell k m) W.heap.size rfl rfl ?_ (Hown.out.call hbX) (by have := Hhi.out; have := hbX.size; omega) (by rw [rowL_len]; omega) ?_
   ·intro j hj; obtain rfl : j = 0 := (by omega); refine ⟨?_, ?_, ?_, ?_⟩ <;> simp [go_sem]
   intro ad3 cap3 w3 o3 hs3 g3
   simp only [rowL_len] at o3 ⊢
   rw [← rowL_succ] at o3
   obtain ⟨⟨n1, n3⟩, ⟨u, hu⟩, hfz, hend⟩ := HEE.out _ hbX w3 ad3 cap3 o3 g3
   have Hend := Lib.hid hend
   clear hend o3 g3
   refine hK.out _ _ ?_ (fun hHeld => ?_)
   ·exact ⟨n1, n3⟩
   clear hK K
   try simp only [Act.put, List.setIfInBounds_toArray, List.set_cons_zero, List.set_cons_succ]
   refine sY 11 27 ?_
   refine sO 12 fun K hK => ?_
   go_simp
   (try go_wp2_with fail)
   refine hK.out _ _ ?_ (fun hHeld => ?_)
   ·exact ⟨Hend.out.2.2.1, cs_other n3 hbne⟩
   clear hK K
   try simp only [Act.put, List.setIfInBounds_toArray, List.set_cons_zero, List.set_cons_succ]
   refine wpAnyH_done (by kernel_rfl) ?_ _
   gi_wp2_with fail
   exact Hend.out
  ·go_simp
   (try go_wp2_with fail)
   refine hK.out _ _ ?_ (fun hHeld => ?_)
   ·exact hHeld
   clear hK K
   try simp only [Act.put, List.setIfInBounds_toArray, List.set_cons_zero, List.set_cons_succ]
   refine wpAnyH_ready (rs := [7, 9]) (by kernel_rfl) (by simp) ?_
   refine AllReadyH.cons rfl (fun K hK => ?_) (AllReadyH.cons rfl (fun K hK => ?_) (AllReadyH.nil))
   ·go_simp
    (try go_wp2_with fail)
    refine hK.out _ _ ?_ (fun hHeld => ?_)
    ·exact hHeld
    clear hK K
    try simp only [Act.put, List.setIfInBounds_toArray, List.set_cons_zero, List.set_cons_succ]
    refine sO 9 fun K hK => ?_
    go_simp
    (try go_wp2_with fail)
    refine hK.out _ _ ?_ (fun hHeld => ?_)
    ·exact (HKK.out _ (by repeat first | exact Below.refl _ _ | refine bel_alloc ?_ _ | refine Below.drew ?_))
    clear hK K
    try simp only [Act.put, List.setIfInBounds_toArray, List.set_cons_zero, List.set_cons_succ]
    refine sO 10 fun K hK => ?_
    have hbX : Below W.heap.size W _ := (by repeat first | exact Below.refl _ _ | refine bel_alloc ?_ _ | refine Below.drew ?_ : Below W.heap.size W (W.alloc (.cells #[.int .i32 (cell k m).g, .int .i64 (cell k m).a, .bool (cell k m).d, .int .i64 (cell k m).m] 48)).drew)
    refine step_appC rfl (.tmp 23) (.tmp 25) rfl hi _ (rowL (cell k) m) _ (cell k m) W.heap.size rfl rfl ?_ (Hown.out.call hbX) (by have := Hhi.out; have := hbX.size; omega) (by rw [rowL_len]; omega) ?_
    ·intro j hj; obtain rfl : j = 0 := (by omega); refine ⟨?_, ?_, ?_, ?_⟩ <;> simp [go_sem]
    intro ad3 cap3 w3 o3 hs3 g3
    simp only [rowL_len] at o3 ⊢
    rw [← rowL_succ] at o3
    obtain ⟨⟨n1, n3⟩, ⟨u, hu⟩, hfz, hend⟩ := HEE.out _ hbX w3 ad3 cap3 o3 g3
    have Hend := Lib.hid hend
    clear hend o3 g3
    refine hK.out _ _ ?_ (fun hHeld => ?_)
    ·exact ⟨n1, n3⟩
    clear hK K
    try simp only [Act.put, List.setIfInBounds_toArray, List.set_cons_zero, List.set_cons_succ]
    refine sY 11 27 ?_
    refine sO 12 fun K hK => ?_
    go_simp
    (try go_wp2_with fail)
    refine hK.out _ _ ?_ (fun hHeld => ?_)
    ·exact ⟨Hend.out.2.2.1, cs_other n3 hbne⟩
    clear hK K
    try simp only [Act.put, List.setIfInBounds_toArray, List.set_cons_zero, List.set_cons_succ]
    refine wpAnyH_done (by kernel_rfl) ?_ _
    gi_wp2_with fail
    exact Hend.out
   ·go_simp
    (try go_wp2_with fail)
    refine hK.out _ _ ?_ (fun hHeld => ?_)
    ·exact (HKK.out _ (by repeat first | exact Below.refl _ _ | refine bel_alloc ?_ _ | refine Below.drew ?_))
    clear hK K
    try simp only [Act.put, List.setIfInBounds_toArray, List.set_cons_zero, List.set_cons_succ]
    refine sO 7 fun K hK => ?_
    go_simp
    (try go_wp2_with fail)
    refine hK.out _ _ ?_ (fun hHeld => ?_)
    ·exact hHeld
    clear hK K
    try simp only [Act.put, List.setIfInBounds_toArray, List.set_cons_zero, List.set_cons_succ]
    refine sO 10 fun K hK => ?_
    have hbX : Below W.heap.size W _ := (by repeat first | exact Below.refl _ _ | refine bel_alloc ?_ _ | refine Below.drew ?_ : Below W.heap.size W (W.alloc (.cells #[.int .i32 (cell k m).g, .int .i64 (cell k m).a, .bool (cell k m).d, .int .i64 (cell k m).m] 48)).drew)
    refine step_appC rfl (.tmp 23) (.tmp 25) rfl hi _ (rowL (cell k) m) _ (cell k m) W.heap.size rfl rfl ?_ (Hown.out.call hbX) (by have := Hhi.out; have := hbX.size; omega) (by rw [rowL_len]; omega) ?_
    ·intro j hj; obtain rfl : j = 0 := (by omega); refine ⟨?_, ?_, ?_, ?_⟩ <;> simp [go_sem]
    intro ad3 cap3 w3 o3 hs3 g3
    simp only [rowL_len] at o3 ⊢
    rw [← rowL_succ] at o3
    obtain ⟨⟨n1, n3⟩, ⟨u, hu⟩, hfz, hend⟩ := HEE.out _ hbX w3 ad3 cap3 o3 g3
    have Hend := Lib.hid hend
    clear hend o3 g3
    refine hK.out _ _ ?_ (fun hHeld => ?_)
    ·exact ⟨n1, n3⟩
    clear hK K
    try simp only [Act.put, List.setIfInBounds_toArray, List.set_cons_zero, List.set_cons_succ]
    refine sY 11 27 ?_
    refine sO 12 fun K hK => ?_
    go_simp
    (try go_wp2_with fail)
    refine hK.out _ _ ?_ (fun hHeld => ?_)
    ·exact ⟨Hend.out.2.2.1, cs_other n3 hbne⟩
    clear hK K
    try simp only [Act.put, List.setIfInBounds_toArray, List.set_cons_zero, List.set_cons_succ]
    refine wpAnyH_done (by kernel_rfl) ?_ _
    gi_wp2_with fail
    exact Hend.out
 case done =>
  rintro D ys W hD hlen ⟨h1, h2, h3, h4⟩ hK
  have hC := HG.out.c1
  have e1 : ys.length / C = R := by rw [hlen]; exact Nat.mul_div_cancel _ (by omega)
  have e2 : ys.length % C = 0 := by rw [hlen]; exact Nat.mul_mod_left _ _
  rw [e1, e2] at h3
  have HR := Lib.hid (h3.rowsAt (lo' := w.heap.size) (by omega))
  have H4 := Lib.hid h4
  have HK := Lib.hid hK
  clear h3 h4 hK
  gi_wp2
  refine ⟨by simp, .inl ⟨_, _, rfl, run_takeDeferred HK.out, ?_⟩⟩
  have hr : ∀ r, some D = some r → ∃ o : Obj, W.heap[r]? = some o ∧ o.isCells = false := fun r e => by cases e; exact ⟨_, HK.out, rfl⟩
  exact ⟨.slice (some ⟨w1.heap.size + 1, 0, none⟩) R R, results_tmp (t := 2) rfl _ _ _, _, rfl, HR.out.kept (grownBy_putObj' _ D (.deferred none)) hr, H4.out.grown (grownBy_putObj' W D (.deferred none)) H4.out.size (fun k e => by cases e; have := HB.out.size; omega)⟩
 case stop => exact fun D c pre W _ _ h _ => h.elim
end Go.Proofs.YtpjooboohelffaaGreatDoor
/- Top: the screen: Size, Cursor, At, Rows. -/
namespace Go.Proofs.YtpjooboohelffaaGreatDoor
open Go.RowKit Go.Shelf T05
set_option linter.unusedVariables false
set_option linter.unusedSimpArgs false
set_option maxRecDepth 100000
section
variable {K : Nat → Prop} {L : Lay} {rs : Nat → Nat} {cell : Nat → Nat → Cl} {r c : Int} {S : Int → Bool}
theorem s_size (w : World) (h : Scr K L w rs cell r c S) : Fn w 26 #[.pointer (some ⟨L.sb, 0, none⟩)] (pr L.R L.C) := by
 have HS := Lib.hid (fun W (hb : Below w.heap.size w W) => size_any W (h.gr.later hb))
 have k3 := h.s3
 have hl := blt k3
 clear h
 go_enter Tryz.func26, Tryz.ntmps26
 go_wp2_with fail
 refine gen_calls ?_
 intro u hu0
 have KFu : ∀ W, Below u.heap.size u W → True ∧ (Blk W (w.heap.size) 2) ∧ Below w.heap.size w W := by
  intro W hu
  refine ⟨trivial, ?_, ?_⟩
  ·exact Blk.later (by rw [hu0]; exact Blk.new (by simp) rfl) hu
  ·exact bel_call (by rw [hu0]; (repeat first | exact Below.refl _ _ | refine bel_alloc ?_ _)) hu
 clear hu0
 obtain ⟨_, fr0, kb⟩ := KFu _ (Below.refl _ _)
 refine (HS.out u kb).mono ?_
 rintro e w1 ⟨rfl, b1⟩
 obtain ⟨_, fr1, kb1⟩ := KFu _ b1
 obtain ⟨q0, e0, z0⟩ := fr1.get 0 (by decide)
 obtain ⟨q1, e1, z1⟩ := fr1.get 1 (by decide)
 have hl0 := blt e0
 have Hkb := Lib.hid kb1
 clear KFu kb kb1 fr0 fr1 b1 HS
 go_wp2_with fail
 have kb := Hkb.out
 exact bodyPost_ret (v := pr L.R L.C) (by simp [results, Tryz.results26, go_sem, World.cell?_alloc_lt, e0, e1]) rfl ⟨rfl, by (repeat first | exact kb | exact Below.refl _ _ | refine bel_alloc ?_ _ | refine Below.drew ?_ | refine bel_set ?_ (by simp <;> omega) _)⟩
theorem s_cursor (w : World) (h : Scr K L w rs cell r c S) : Fn w 16 #[.pointer (some ⟨L.sb, 0, none⟩)] (.tuple #[pr r c, .bool false]) := by
 have k0 := h.s0
 have k1 := h.s1
 have k2 := h.s2
 have hl := blt k0
 clear h
 have kb := Below.refl w.heap.size w
 go_enter Tryz.func16, Tryz.ntmps16
 go_wp2_with fail
 go_region
 all_goals go_wp2_with fail
 all_goals exact bodyPost_ret (v := .tuple #[pr r c, .bool false]) (by simp [results, Tryz.results16, go_sem, World.cell?_alloc_lt]) rfl ⟨rfl, by (repeat first | exact kb | exact Below.refl _ _ | refine bel_alloc ?_ _ | refine Below.drew ?_ | refine bel_set ?_ (by simp <;> omega) _)⟩
theorem s_at_gen (w : World) (k3 : w.cell? ⟨L.sb, 3, none⟩ = some (.pointer (some ⟨L.g, 0, none⟩))) (i j z : Int) (x : Cl) (HA0 : ∀ W, Below w.heap.size w W → Fn W 96 #[.pointer (some ⟨L.g, 0, none⟩), pr i j] (.tuple #[x.v, .int .i64 z])) :
  Fn w 72 #[.pointer (some ⟨L.sb, 0, none⟩), pr i j] (.tuple #[x.v, .int .i64 z]) := by
 have HA := Lib.hid HA0
 have hl := blt k3
 clear HA0
 unfold Cl.v at *
 go_enter Tryz.func72, Tryz.ntmps72
 go_wp2_with fail
 refine gen_wp ?_
 intro u hu0
 have KFu : ∀ W, Below u.heap.size u W → (W.cell? ⟨w.heap.size, 0, none⟩ = some (.int .i64 i) ∧ W.cell? ⟨w.heap.size, 1, none⟩ = some (.int .i64 j) ∧ W.cell? ⟨L.sb, 3, none⟩ = some (.pointer (some ⟨L.g, 0, none⟩))) ∧ (Blk W (w.heap.size + 1) 4) ∧ Below w.heap.size w W := by
  intro W hu
  refine ⟨⟨?_, ?_, ?_⟩, ?_, ?_⟩
  ·exact (hu.cell (by rw [hu0]; simp <;> omega)).trans (by rw [hu0]; simp [go_sem])
  ·exact (hu.cell (by rw [hu0]; simp <;> omega)).trans (by rw [hu0]; simp [go_sem])
  ·exact cellB (bel_call (by rw [hu0]; (repeat first | exact Below.refl _ _ | refine bel_alloc ?_ _)) hu) (k3)
  ·exact Blk.later (by rw [hu0]; exact Blk.new (by simp) rfl) hu
  ·exact bel_call (by rw [hu0]; (repeat first | exact Below.refl _ _ | refine bel_alloc ?_ _)) hu
 clear hu0
 have hne : L.sb ≠ w.heap.size + 1 := by omega
 clear k3
 refine wp_region_held_drew (S := fun W => (W.cell? ⟨w.heap.size, 0, none⟩ = some (.int .i64 i) ∧ W.cell? ⟨w.heap.size, 1, none⟩ = some (.int .i64 j) ∧ W.cell? ⟨L.sb, 3, none⟩ = some (.pointer (some ⟨L.g, 0, none⟩))) ∧ (Blk W (w.heap.size + 1) 4) ∧ Below w.heap.size w W) (by kernel_rfl) (KFu _ (Below.refl _ _).drew) (fun hHeld => ?_)
 refine sY 0 9 ?_
 refine sY 1 10 ?_
 refine sY 2 11 ?_
 refine sY 3 12 ?_
 refine sY 4 13 ?_
 refine sO 5 fun K hK => ?_
 obtain ⟨⟨fc0, fc1, fc2⟩, fr0, fb⟩ := hHeld
 go_simp
 refine (HA.out _ fb).mono ?_
 rintro e w1 ⟨rfl, b1⟩
 (try go_wp2_with fail)
 refine hK.out _ _ ?_ (fun hHeld => ?_)
 ·exact ⟨⟨cellB b1 fc0, cellB b1 fc1, cellB b1 fc2⟩, fr0.later b1, bel_call fb b1⟩
 clear hK K
 try simp only [Act.put, List.setIfInBounds_toArray, List.set_cons_zero, List.set_cons_succ]
 refine sY 6 15 ?_
 refine sY 7 16 ?_
 refine sO 8 fun K hK => ?_
 obtain ⟨⟨fc0, fc1, fc2⟩, fr0, fb⟩ := hHeld
 obtain ⟨x0, e0, z0⟩ := fr0.get 0 (by decide)
 obtain ⟨x1, e1, z1⟩ := fr0.get 1 (by decide)
 obtain ⟨x2, e2, z2⟩ := fr0.get 2 (by decide)
 obtain ⟨x3, e3, z3⟩ := fr0.get 3 (by decide)
 try simp only [World.cell?_drew, World.frozen?_drew] at e0 z0 e1 z1 e2 z2 e3 z3
 go_simp
 (try go_wp2_with fail)
 refine hK.out _ _ ?_ (fun hHeld => ?_)
 ·exact ⟨⟨(cs_other (cs_other (cs_other (cs_other fc0 (by simp <;> omega)) (by simp <;> omega)) (by simp <;> omega)) (by simp <;> omega)), (cs_other (cs_other (cs_other (cs_other fc1 (by simp <;> omega)) (by simp <;> omega)) (by simp <;> omega)) (by simp <;> omega)), (cs_other (cs_other (cs_other (cs_other fc2 (by simp <;> omega)) (by simp <;> omega)) (by simp <;> omega)) (by simp <;> omega))⟩, ((((fr0).set _ _).set _ _).set _ _).set _ _, ((((fb).setCell (by simp <;> omega) _).setCell (by simp <;> omega) _).setCell (by simp <;> omega) _).setCell (by simp <;> omega) _⟩
 clear hK K
 try simp only [Act.put, List.setIfInBounds_toArray, List.set_cons_zero, List.set_cons_succ]
 refine sY 9 5 ?_
 refine wpAnyH_done (by kernel_rfl) ?_ _
 obtain ⟨-, -, kb⟩ := hHeld
 go_wp2_with fail
 exact bodyPost_ret (v := .tuple #[.agg #[.int .i32 x.g, .int .i64 x.a, .bool x.d, .int .i64 x.m], .int .i64 z]) (by simp [results, Tryz.results72, go_sem, World.cell?_alloc_lt, e0, e1, e2, e3]) rfl ⟨rfl, by (repeat first | exact kb | exact Below.refl _ _ | refine bel_alloc ?_ _ | refine Below.drew ?_ | refine bel_set ?_ (by simp <;> omega) _)⟩
theorem s_at (w : World) (h : Scr K L w rs cell r c S) (i j : Nat) (hi : i < L.R) (hj : j < L.C) : Fn w 72 #[.pointer (some ⟨L.sb, 0, none⟩), pr i j] (.tuple #[(cell i j).v, .int .i64 0]) :=
 s_at_gen w h.s3 i j 0 _ (fun W hb => at_ok W (h.gr.later hb) i j hi hj)
theorem s_at_out (w : World) (h : Scr K L w rs cell r c S) (i j : Int) (hij : ¬ inR L.R L.C i j) : Fn w 72 #[.pointer (some ⟨L.sb, 0, none⟩), pr i j] (.tuple #[(⟨0, 0, false, 0⟩ : Cl).v, .int .i64 11]) :=
 s_at_gen w h.s3 i j 11 _ (fun W hb => at_out W (h.gr.later hb) i j hij)
theorem s_rows (w : World) (h : Scr K L w rs cell r c S) : Calls Tryz.prog 19 #[.pointer (some ⟨L.sb, 0, none⟩)] w fun e w' => ∃ v, e = .returned v ∧ RowsAt w' w.heap.size v L.R L.C cell ∧ Below w.heap.size w w' := by
 have HR := Lib.hid (rows_any w h.gr)
 have k3 := h.s3
 clear h
 go_enter Tryz.func19, Tryz.ntmps19
 go_wp2_with fail
 refine HR.out.mono ?_
 rintro e w1 ⟨v, rfl, hr, b1⟩
 have Hr := Lib.hid hr
 clear hr
 go_wp2_with fail
 go_ret
 exact ⟨v, rfl, Hr.out, b1⟩
theorem s_listed (w : World) (h : Scr K L w rs cell r c S) : Calls Tryz.prog 27 #[.pointer (some ⟨L.sb, 0, none⟩)] w fun e w' => ∃ v, e = .returned v ∧ OwnI w' w.heap.size v (rise L.C S) ∧ Below w.heap.size w w' := by
 have HR := Lib.hid (list_ts w _ _ _ _ h.ts)
 have k4 := h.s4
 clear h
 go_enter Tryz.func27, Tryz.ntmps27
 go_wp2_with fail
 refine HR.out.mono ?_
 rintro e w1 ⟨v, rfl, hr, b1⟩
 have Hr := Lib.hid hr
 clear hr
 go_wp2_with fail
 go_ret
 exact ⟨v, rfl, Hr.out, b1⟩
end
end Go.Proofs.YtpjooboohelffaaGreatDoor
/- Top: the screen: Move, Step. -/
namespace Go.Proofs.YtpjooboohelffaaGreatDoor
open Go.RowKit Go.Shelf T05
set_option linter.unusedVariables false
set_option linter.unusedSimpArgs false
set_option maxRecDepth 100000
section
variable {K : Nat → Prop} {L : Lay} {rs : Nat → Nat} {cell : Nat → Nat → Cl} {r c : Int} {S : Int → Bool}
/-- .. and the cursor is set. -/
theorem Scr.placeB {w W : World} (h : Scr K L w rs cell r c S) (hK : KB K w) (hb : Below w.heap.size w W) {r' c' : Int} (hr : inR L.R L.C r' c') : Scr K L (plSet W L.sb r' c') rs cell r' c' S ∧ Kept K w (plSet W L.sb r' c') := by
 obtain ⟨h1, h2⟩ := (h.later hb).place hr
 exact ⟨h1, (Kept.ofBelow hb hK).trans h2⟩
theorem near_in {R C : Nat} (h : SzOk R C) (a b : Int) : inR R C (nearI a R) (nearI b C) := by
 have n1 := nearI_in (x := a) (show (1 : Int) ≤ R from h.1)
 have n2 := nearI_in (x := b) (show (1 : Int) ≤ C from by have := h.2.2; omega)
 exact ⟨n1.1, n1.2, n2.1, n2.2⟩
set_option maxHeartbeats 1000000 in
theorem s_move (w : World) (hK : KB K w) (h : Scr K L w rs cell r c S) (a b : Int) :
  Calls Tryz.prog 14 #[.pointer (some ⟨L.sb, 0, none⟩), pr a b] w fun e w' => e = .returned (.tuple #[]) ∧ Scr K L w' rs cell (nearI a L.R) (nearI b L.C) S ∧ Kept K w w' := by
 have HS := Lib.hid (fun W (hb : Below w.heap.size w W) => s_size W (h.later hb))
 have HN := Lib.hid (fun W => Near_ok W L.R L.C a b h.gr.sz)
 have HP := Lib.hid (fun W (hb : Below w.heap.size w W) => h.placeB hK hb (near_in h.gr.sz a b))
 have hsb := h.sB.blk
 have hl := hsb.lt
 clear h hK
 generalize nearI a L.R = na at *
 generalize nearI b L.C = nb at *
 go_enter Tryz.func14, Tryz.ntmps14
 go_wp2_with fail
 refine gen_wp ?_
 intro u hu0
 have FB : Below w.heap.size w u := by rw [hu0]; exact bel_alloc (Below.refl _ _) _
 have KFu : ∀ W, Below u.heap.size u W → (W.cell? ⟨w.heap.size, 0, none⟩ = some (.int .i64 a) ∧ W.cell? ⟨w.heap.size, 1, none⟩ = some (.int .i64 b)) ∧ (Blk W (L.sb) 5) ∧ True := by
  intro W hu
  refine ⟨⟨?_, ?_⟩, ?_, ?_⟩
  ·exact (hu.cell (by rw [hu0]; simp <;> omega)).trans (by rw [hu0]; simp [go_sem])
  ·exact (hu.cell (by rw [hu0]; simp <;> omega)).trans (by rw [hu0]; simp [go_sem])
  ·exact Blk.later (hsb) (bel_call (by rw [hu0]; (repeat first | exact Below.refl _ _ | refine bel_alloc ?_ _)) hu)
  ·trivial
 clear hu0 hsb
 refine wp_region_held_drew (S := fun W => (W.cell? ⟨w.heap.size, 0, none⟩ = some (.int .i64 a) ∧ W.cell? ⟨w.heap.size, 1, none⟩ = some (.int .i64 b)) ∧ (Blk W (L.sb) 5) ∧ True) (by kernel_rfl) (KFu _ (Below.refl _ _).drew) (fun hHeld => ?_)
 have FB := FB.drew
 refine sY 0 6 ?_
 refine sY 1 7 ?_
 refine sY 3 9 ?_
 refine sO 2 fun K hK => ?_
 obtain ⟨⟨fc0, fc1⟩, fr0, fb⟩ := hHeld
 go_simp
 refine (HS.out _ FB).mono ?_
 rintro e w1 ⟨rfl, b1⟩
 have FB := bel_call FB b1
 (try go_wp2_with fail)
 refine hK.out _ _ ?_ (fun hHeld => ?_)
 ·exact ⟨⟨cellB b1 fc0, cellB b1 fc1⟩, fr0.later b1, trivial⟩
 clear hK K
 try simp only [Act.put, List.setIfInBounds_toArray, List.set_cons_zero, List.set_cons_succ]
 refine sO 4 fun K hK => ?_
 obtain ⟨⟨fc0, fc1⟩, fr0, fb⟩ := hHeld
 go_simp
 refine (HN.out _).mono ?_
 rintro e w2 ⟨rfl, b2⟩
 have FB := bel_call FB b2
 (try go_wp2_with fail)
 refine hK.out _ _ ?_ (fun hHeld => ?_)
 ·exact ⟨⟨cellB b2 fc0, cellB b2 fc1⟩, fr0.later b2, trivial⟩
 clear hK K
 try simp only [Act.put, List.setIfInBounds_toArray, List.set_cons_zero, List.set_cons_succ]
 refine sY 5 11 ?_
 refine sY 6 12 ?_
 refine sY 7 13 ?_
 refine sO 8 fun K hK => ?_
 obtain ⟨⟨fc0, fc1⟩, fr0, fb⟩ := hHeld
 obtain ⟨x0, e0, z0⟩ := fr0.get 0 (by decide)
 obtain ⟨x1, e1, z1⟩ := fr0.get 1 (by decide)
 obtain ⟨x2, e2, z2⟩ := fr0.get 2 (by decide)
 try simp only [World.cell?_drew, World.frozen?_drew] at e0 z0 e1 z1 e2 z2
 go_simp
 (try go_wp2_with fail)
 refine hK.out _ _ ?_ (fun hHeld => ?_)
 ·exact ⟨⟨(cs_other (cs_other (cs_other fc0 (by simp <;> omega)) (by simp <;> omega)) (by simp <;> omega)), (cs_other (cs_other (cs_other fc1 (by simp <;> omega)) (by simp <;> omega)) (by simp <;> omega))⟩, (((fr0).set _ _).set _ _).set _ _, trivial⟩
 clear hK K
 try simp only [Act.put, List.setIfInBounds_toArray, List.set_cons_zero, List.set_cons_succ]
 refine wpAnyH_done (by kernel_rfl) ?_ _
 go_wp2_with fail
 go_end0
 exact ⟨rfl, HP.out _ FB⟩
set_option maxHeartbeats 1000000 in
theorem s_step (w : World) (hK : KB K w) (h : Scr K L w rs cell r c S) (n m : Int) :
  Calls Tryz.prog 75 #[.pointer (some ⟨L.sb, 0, none⟩), .int .i64 n, .int .i64 m] w fun e w' => e = .returned (.tuple #[]) ∧ (∃ r' c', Scr K L w' rs cell r' c' S) ∧ Kept K w w' := by
 have HS := Lib.hid (fun W (hb : Below w.heap.size w W) => s_size W (h.later hb))
 have HN := Lib.hid (fun W => step_ok W L.R L.C r c false n m h.gr.sz)
 have HP := Lib.hid (fun W (hb : Below w.heap.size w W) => h.placeB hK hb (near_in h.gr.sz (nearI r L.R + cutI n) (nearI c L.C + cutI m)))
 have hsb := h.sB.blk
 have hl := hsb.lt
 have P0 := Lib.hid (show w.cell? ⟨L.sb, 0, none⟩ = some (.int .i64 r) ∧ w.cell? ⟨L.sb, 1, none⟩ = some (.int .i64 c) ∧ w.cell? ⟨L.sb, 2, none⟩ = some (.bool false) from ⟨h.s0, h.s1, h.s2⟩)
 clear h hK
 generalize nearI (nearI r L.R + cutI n) L.R = na at *
 generalize nearI (nearI c L.C + cutI m) L.C = nb at *
 go_enter Tryz.func75, Tryz.ntmps75
 go_wp2_with fail
 refine gen_wp ?_
 intro u hu0
 have FB : Below w.heap.size w u := by rw [hu0]; exact Below.refl _ _
 have KFu : ∀ W, Below u.heap.size u W → True ∧ (Blk W (L.sb) 5) ∧ True := by
  intro W hu
  refine ⟨trivial, ?_, ?_⟩
  ·exact Blk.later (hsb) (bel_call (by rw [hu0]; (repeat first | exact Below.refl _ _ | refine bel_alloc ?_ _)) hu)
  ·trivial
 clear hu0 hsb
 refine wp_region_held_drew (S := fun W => True ∧ (Blk W (L.sb) 5) ∧ True) (by kernel_rfl) (KFu _ (Below.refl _ _).drew) (fun hHeld => ?_)
 have FB := FB.drew
 refine sY 0 8 ?_
 refine sY 1 9 ?_
 refine sY 3 11 ?_
 refine sY 4 12 ?_
 refine sY 5 13 ?_
 refine sY 7 15 ?_
 refine sY 8 16 ?_
 refine wpAnyH_ready (rs := [2, 6]) (by kernel_rfl) (by simp) ?_
 refine AllReadyH.cons rfl (fun K hK => ?_) (AllReadyH.cons rfl (fun K hK => ?_) (AllReadyH.nil))
 ·obtain ⟨_, fr0, fb⟩ := hHeld
  go_simp
  refine (HS.out _ FB).mono ?_
  rintro e w1 ⟨rfl, b1⟩
  have FB := bel_call FB b1
  (try go_wp2_with fail)
  refine hK.out _ _ ?_ (fun hHeld => ?_)
  ·exact ⟨trivial, fr0.later b1, trivial⟩
  clear hK K
  try simp only [Act.put, List.setIfInBounds_toArray, List.set_cons_zero, List.set_cons_succ]
  refine sO 6 fun K hK => ?_
  have p0 := (FB.cell (p := ⟨L.sb, 0, none⟩) hl).trans P0.out.1
  have p1 := (FB.cell (p := ⟨L.sb, 1, none⟩) hl).trans P0.out.2.1
  have p2 := (FB.cell (p := ⟨L.sb, 2, none⟩) hl).trans P0.out.2.2
  go_simp
  (try go_wp2_with fail)
  refine hK.out _ _ ?_ (fun hHeld => ?_)
  ·exact hHeld
  clear hK K
  try simp only [Act.put, List.setIfInBounds_toArray, List.set_cons_zero, List.set_cons_succ]
  refine sO 9 fun K hK => ?_
  obtain ⟨_, fr0, fb⟩ := hHeld
  go_simp
  refine (HN.out _).mono ?_
  rintro e w2 ⟨rfl, b2⟩
  have FB := bel_call FB b2
  (try go_wp2_with fail)
  refine hK.out _ _ ?_ (fun hHeld => ?_)
  ·exact ⟨trivial, fr0.later b2, trivial⟩
  clear hK K
  try simp only [Act.put, List.setIfInBounds_toArray, List.set_cons_zero, List.set_cons_succ]
  refine sY 10 18 ?_
  refine sY 11 19 ?_
  refine sO 12 fun K hK => ?_
  obtain ⟨_, fr0, fb⟩ := hHeld
  obtain ⟨x0, e0, z0⟩ := fr0.get 0 (by decide)
  obtain ⟨x1, e1, z1⟩ := fr0.get 1 (by decide)
  obtain ⟨x2, e2, z2⟩ := fr0.get 2 (by decide)
  try simp only [World.cell?_drew, World.frozen?_drew] at e0 z0 e1 z1 e2 z2
  go_simp
  (try go_wp2_with fail)
  refine hK.out _ _ ?_ (fun hHeld => ?_)
  ·exact ⟨trivial, (((fr0).set _ _).set _ _).set _ _, trivial⟩
  clear hK K
  try simp only [Act.put, List.setIfInBounds_toArray, List.set_cons_zero, List.set_cons_succ]
  refine wpAnyH_done (by kernel_rfl) ?_ _
  go_wp2_with fail
  go_end0
  exact ⟨rfl, ⟨_, _, (HP.out _ FB).1⟩, (HP.out _ FB).2⟩
 ·have p0 := (FB.cell (p := ⟨L.sb, 0, none⟩) hl).trans P0.out.1
  have p1 := (FB.cell (p := ⟨L.sb, 1, none⟩) hl).trans P0.out.2.1
  have p2 := (FB.cell (p := ⟨L.sb, 2, none⟩) hl).trans P0.out.2.2
  go_simp
  (try go_wp2_with fail)
  refine hK.out _ _ ?_ (fun hHeld => ?_)
  ·exact hHeld
  clear hK K
  try simp only [Act.put, List.setIfInBounds_toArray, List.set_cons_zero, List.set_cons_succ]
  refine sO 2 fun K hK => ?_
  obtain ⟨_, fr0, fb⟩ := hHeld
  go_simp
  refine (HS.out _ FB).mono ?_
  rintro e w1 ⟨rfl, b1⟩
  have FB := bel_call FB b1
  (try go_wp2_with fail)
  refine hK.out _ _ ?_ (fun hHeld => ?_)
  ·exact ⟨trivial, fr0.later b1, trivial⟩
  clear hK K
  try simp only [Act.put, List.setIfInBounds_toArray, List.set_cons_zero, List.set_cons_succ]
  refine sO 9 fun K hK => ?_
  obtain ⟨_, fr0, fb⟩ := hHeld
  go_simp
  refine (HN.out _).mono ?_
  rintro e w2 ⟨rfl, b2⟩
  have FB := bel_call FB b2
  (try go_wp2_with fail)
  refine hK.out _ _ ?_ (fun hHeld => ?_)
  ·exact ⟨trivial, fr0.later b2, trivial⟩
  clear hK K
  try simp only [Act.put, List.setIfInBounds_toArray, List.set_cons_zero, List.set_cons_succ]
  refine sY 10 18 ?_
  refine sY 11 19 ?_
  refine sO 12 fun K hK => ?_
  obtain ⟨_, fr0, fb⟩ := hHeld
  obtain ⟨x0, e0, z0⟩ := fr0.get 0 (by decide)
  obtain ⟨x1, e1, z1⟩ := fr0.get 1 (by decide)
  obtain ⟨x2, e2, z2⟩ := fr0.get 2 (by decide)
  try simp only [World.cell?_drew, World.frozen?_drew] at e0 z0 e1 z1 e2 z2
  go_simp
  (try go_wp2_with fail)
  refine hK.out _ _ ?_ (fun hHeld => ?_)
  ·exact ⟨trivial, (((fr0).set _ _).set _ _).set _ _, trivial⟩
  clear hK K
  try simp only [Act.put, List.setIfInBounds_toArray, List.set_cons_zero, List.set_cons_succ]
  refine wpAnyH_done (by kernel_rfl) ?_ _
  go_wp2_with fail
  go_end0
  exact ⟨rfl, ⟨_, _, (HP.out _ FB).1⟩, (HP.out _ FB).2⟩
end
end Go.Proofs.YtpjooboohelffaaGreatDoor
/- Top: the screen: Chars, Lines, Wipe. -/
namespace Go.Proofs.YtpjooboohelffaaGreatDoor
open Go.RowKit Go.Shelf T05
set_option linter.unusedVariables false
set_option linter.unusedSimpArgs false
set_option maxRecDepth 100000
section
variable {K : Nat → Prop} {L : Lay} {rs : Nat → Nat} {cell : Nat → Nat → Cl} {r c : Int} {S : Int → Bool}
/-- Behind a step of the grid's: the screen as it was, but for its cells. -/
def SlidS (K : Nat → Prop) (L : Lay) (w w' : World) (cell : Nat → Nat → Cl) (r c : Int) (S : Int → Bool) (x : Cl) : Prop := (∃ rs' cell', Scr K L w' rs' cell' r c S ∧ Frm L.R L.C x cell cell') ∧ Kept K w w'
theorem inR_nat {R C : Nat} {r c : Int} (h : inR R C r c) : ∃ i j : Nat, r = i ∧ c = j ∧ i < R ∧ j < C := by
 obtain ⟨h0, h1, h2, h3⟩ := h
 exact ⟨r.toNat, c.toNat, by omega, by omega, by omega, by omega⟩
set_option maxHeartbeats 1000000 in
theorem s_chars (w : World) (hK : KB K w) (h : Scr K L w rs cell r c S) (n : Int) (x : Cl) (gd : Bool) :
  Calls Tryz.prog 111 #[.pointer (some ⟨L.sb, 0, none⟩), .int .i64 n, x.v, .bool gd] w fun e w' => e = .returned (.tuple #[]) ∧ SlidS K L w w' cell r c S x := by
 obtain ⟨i, j, rfl, rfl, hi, hj⟩ := inR_nat h.rc
 have HC := Lib.hid (fun W (hb : Below w.heap.size w W) => chars_any (K := Loc (L.KS K) w W) W ((h.kb hK).loc hb) (h.gr.loc hb) i j hi hj n x gd)
 have HE := Lib.hid (fun W W2 (hb : Below w.heap.size w W) hs => (show SlidS K L w W2 cell i j S x from h.slid hK hb hs))
 have k0 := h.s0
 have k1 := h.s1
 have k3 := h.s3
 have hl := blt k0
 clear h hK
 unfold Cl.v at *
 go_enter Tryz.func111, Tryz.ntmps111
 go_wp2_with fail
 refine gen_wp ?_
 intro u hu0
 have FB : Below w.heap.size w u := by rw [hu0]; exact bel_alloc (Below.refl _ _) _
 have KFu : ∀ W, Below u.heap.size u W → (W.cell? ⟨w.heap.size, 0, none⟩ = some (.int .i32 x.g) ∧ W.cell? ⟨w.heap.size, 1, none⟩ = some (.int .i64 x.a) ∧ W.cell? ⟨w.heap.size, 2, none⟩ = some (.bool x.d) ∧ W.cell? ⟨w.heap.size, 3, none⟩ = some (.int .i64 x.m) ∧ W.cell? ⟨L.sb, 0, none⟩ = some (.int .i64 (i : Int)) ∧ W.cell? ⟨L.sb, 1, none⟩ = some (.int .i64 (j : Int)) ∧ W.cell? ⟨L.sb, 3, none⟩ = some (.pointer (some ⟨L.g, 0, none⟩))) ∧ True ∧ True := by
  intro W hu
  refine ⟨⟨?_, ?_, ?_, ?_, ?_, ?_, ?_⟩, trivial, ?_⟩
  ·exact (hu.cell (by rw [hu0]; simp <;> omega)).trans (by rw [hu0]; simp [go_sem])
  ·exact (hu.cell (by rw [hu0]; simp <;> omega)).trans (by rw [hu0]; simp [go_sem])
  ·exact (hu.cell (by rw [hu0]; simp <;> omega)).trans (by rw [hu0]; simp [go_sem])
  ·exact (hu.cell (by rw [hu0]; simp <;> omega)).trans (by rw [hu0]; simp [go_sem])
  ·exact cellB (bel_call (by rw [hu0]; (repeat first | exact Below.refl _ _ | refine bel_alloc ?_ _)) hu) (k0)
  ·exact cellB (bel_call (by rw [hu0]; (repeat first | exact Below.refl _ _ | refine bel_alloc ?_ _)) hu) (k1)
  ·exact cellB (bel_call (by rw [hu0]; (repeat first | exact Below.refl _ _ | refine bel_alloc ?_ _)) hu) (k3)
  ·trivial
 clear hu0 k0 k1 k3
 refine wp_region_held_drew (S := fun W => (W.cell? ⟨w.heap.size, 0, none⟩ = some (.int .i32 x.g) ∧ W.cell? ⟨w.heap.size, 1, none⟩ = some (.int .i64 x.a) ∧ W.cell? ⟨w.heap.size, 2, none⟩ = some (.bool x.d) ∧ W.cell? ⟨w.heap.size, 3, none⟩ = some (.int .i64 x.m) ∧ W.cell? ⟨L.sb, 0, none⟩ = some (.int .i64 (i : Int)) ∧ W.cell? ⟨L.sb, 1, none⟩ = some (.int .i64 (j : Int)) ∧ W.cell? ⟨L.sb, 3, none⟩ = some (.pointer (some ⟨L.g, 0, none⟩))) ∧ True ∧ True) (by kernel_rfl) (KFu _ (Below.refl _ _).drew) (fun hHeld => ?_)
 have FB := FB.drew
 refine sY 0 10 ?_
 refine sY 1 11 ?_
 refine sY 2 12 ?_
 refine sY 3 13 ?_
 refine sY 4 14 ?_
 refine sY 5 15 ?_
 refine sY 6 16 ?_
 refine sY 7 17 ?_
 refine sY 8 18 ?_
 refine sY 9 19 ?_
 refine sY 10 20 ?_
 refine sY 11 21 ?_
 refine sO 12 fun K hK => ?_
 obtain ⟨⟨fc0, fc1, fc2, fc3, fc4, fc5, fc6⟩, _, fb⟩ := hHeld
 go_simp
 refine (HC.out _ FB).mono ?_
 rintro e w1 ⟨⟨z, rfl⟩, hs⟩
 (try go_wp2_with fail)
 refine hK.out _ _ ?_ (fun hHeld => ?_)
 ·exact ⟨⟨((hs.2).cell (.inr ⟨by first | omega | (simp <;> omega), blt fc0⟩) fc0), ((hs.2).cell (.inr ⟨by first | omega | (simp <;> omega), blt fc1⟩) fc1), ((hs.2).cell (.inr ⟨by first | omega | (simp <;> omega), blt fc2⟩) fc2), ((hs.2).cell (.inr ⟨by first | omega | (simp <;> omega), blt fc3⟩) fc3), ((hs.2).cell (.inl (.inr (.inl rfl))) fc4), ((hs.2).cell (.inl (.inr (.inl rfl))) fc5), ((hs.2).cell (.inl (.inr (.inl rfl))) fc6)⟩, trivial, trivial⟩
 clear hK K
 try simp only [Act.put, List.setIfInBounds_toArray, List.set_cons_zero, List.set_cons_succ]
 refine wpAnyH_done (by kernel_rfl) ?_ _
 go_wp2_with fail
 go_end0
 exact ⟨rfl, HE.out _ _ FB hs⟩
set_option maxHeartbeats 1000000 in
theorem s_lines (w : World) (hK : KB K w) (h : Scr K L w rs cell r c S) (n : Int) (x : Cl) (gd : Bool) :
  Calls Tryz.prog 119 #[.pointer (some ⟨L.sb, 0, none⟩), .int .i64 n, x.v, .bool gd] w fun e w' => e = .returned (.tuple #[]) ∧ SlidS K L w w' cell r c S x := by
 obtain ⟨i, j, rfl, rfl, hi, hj⟩ := inR_nat h.rc
 have HC := Lib.hid (fun W (hb : Below w.heap.size w W) => lines_any (K := Loc (L.KS K) w W) W ((h.kb hK).loc hb) (h.gr.loc hb) i hi n x gd)
 have HE := Lib.hid (fun W W2 (hb : Below w.heap.size w W) hs => (show SlidS K L w W2 cell i j S x from h.slid hK hb hs))
 have k0 := h.s0
 have k3 := h.s3
 have hl := blt k0
 clear h hK
 unfold Cl.v at *
 go_enter Tryz.func119, Tryz.ntmps119
 go_wp2_with fail
 refine gen_wp ?_
 intro u hu0
 have FB : Below w.heap.size w u := by rw [hu0]; exact bel_alloc (Below.refl _ _) _
 have KFu : ∀ W, Below u.heap.size u W → (W.cell? ⟨w.heap.size, 0, none⟩ = some (.int .i32 x.g) ∧ W.cell? ⟨w.heap.size, 1, none⟩ = some (.int .i64 x.a) ∧ W.cell? ⟨w.heap.size, 2, none⟩ = some (.bool x.d) ∧ W.cell? ⟨w.heap.size, 3, none⟩ = some (.int .i64 x.m) ∧ W.cell? ⟨L.sb, 0, none⟩ = some (.int .i64 (i : Int)) ∧ W.cell? ⟨L.sb, 3, none⟩ = some (.pointer (some ⟨L.g, 0, none⟩))) ∧ True ∧ True := by
  intro W hu
  refine ⟨⟨?_, ?_, ?_, ?_, ?_, ?_⟩, trivial, ?_⟩
  ·exact (hu.cell (by rw [hu0]; simp <;> omega)).trans (by rw [hu0]; simp [go_sem])
  ·exact (hu.cell (by rw [hu0]; simp <;> omega)).trans (by rw [hu0]; simp [go_sem])
  ·exact (hu.cell (by rw [hu0]; simp <;> omega)).trans (by rw [hu0]; simp [go_sem])
  ·exact (hu.cell (by rw [hu0]; simp <;> omega)).trans (by rw [hu0]; simp [go_sem])
  ·exact cellB (bel_call (by rw [hu0]; (repeat first | exact Below.refl _ _ | refine bel_alloc ?_ _)) hu) (k0)
  ·exact cellB (bel_call (by rw [hu0]; (repeat first | exact Below.refl _ _ | refine bel_alloc ?_ _)) hu) (k3)
  ·trivial
 clear hu0 k0 k3
 refine wp_region_held_drew (S := fun W => (W.cell? ⟨w.heap.size, 0, none⟩ = some (.int .i32 x.g) ∧ W.cell? ⟨w.heap.size, 1, none⟩ = some (.int .i64 x.a) ∧ W.cell? ⟨w.heap.size, 2, none⟩ = some (.bool x.d) ∧ W.cell? ⟨w.heap.size, 3, none⟩ = some (.int .i64 x.m) ∧ W.cell? ⟨L.sb, 0, none⟩ = some (.int .i64 (i : Int)) ∧ W.cell? ⟨L.sb, 3, none⟩ = some (.pointer (some ⟨L.g, 0, none⟩))) ∧ True ∧ True) (by kernel_rfl) (KFu _ (Below.refl _ _).drew) (fun hHeld => ?_)
 have FB := FB.drew
 refine sY 0 10 ?_
 refine sY 1 11 ?_
 refine sY 2 12 ?_
 refine sY 3 13 ?_
 refine sY 4 14 ?_
 refine sY 5 15 ?_
 refine sY 6 16 ?_
 refine sY 7 17 ?_
 refine sY 8 18 ?_
 refine sY 9 19 ?_
 refine sY 10 20 ?_
 refine sY 11 21 ?_
 refine sY 12 22 ?_
 refine sO 13 fun K hK => ?_
 obtain ⟨⟨fc0, fc1, fc2, fc3, fc4, fc5⟩, _, fb⟩ := hHeld
 go_simp
 refine (HC.out _ FB).mono ?_
 rintro e w1 ⟨⟨z, rfl⟩, hs⟩
 (try go_wp2_with fail)
 refine hK.out _ _ ?_ (fun hHeld => ?_)
 ·exact ⟨⟨((hs.2).cell (.inr ⟨by first | omega | (simp <;> omega), blt fc0⟩) fc0), ((hs.2).cell (.inr ⟨by first | omega | (simp <;> omega), blt fc1⟩) fc1), ((hs.2).cell (.inr ⟨by first | omega | (simp <;> omega), blt fc2⟩) fc2), ((hs.2).cell (.inr ⟨by first | omega | (simp <;> omega), blt fc3⟩) fc3), ((hs.2).cell (.inl (.inr (.inl rfl))) fc4), ((hs.2).cell (.inl (.inr (.inl rfl))) fc5)⟩, trivial, trivial⟩
 clear hK K
 try simp only [Act.put, List.setIfInBounds_toArray, List.set_cons_zero, List.set_cons_succ]
 refine wpAnyH_done (by kernel_rfl) ?_ _
 go_wp2_with fail
 go_end0
 exact ⟨rfl, HE.out _ _ FB hs⟩
set_option maxHeartbeats 1000000 in
theorem s_wipe (w : World) (hK : KB K w) (h : Scr K L w rs cell r c S) (a b d e : Int) (x : Cl) (gd : Bool) :
  Calls Tryz.prog 149 #[.pointer (some ⟨L.sb, 0, none⟩), pr a b, pr d e, x.v, .bool gd] w fun e w' => e = .returned (.tuple #[]) ∧ SlidS K L w w' cell r c S x := by
 have HS := Lib.hid (fun W (hb : Below w.heap.size w W) => s_size W (h.later hb))
 have HN := Lib.hid (fun W p q => Near_ok W L.R L.C p q h.gr.sz)
 have HC := Lib.hid (fun W (hb : Below w.heap.size w W) a b c d => wipe_any (K := Loc (L.KS K) w W) W ((h.kb hK).loc hb) (h.gr.loc hb) a b c d x gd)
 have HE := Lib.hid (fun W W2 (hb : Below w.heap.size w W) hs => (show SlidS K L w W2 cell r c S x from h.slid hK hb hs))
 have k3 := h.s3
 have hl := blt k3
 clear h hK
 unfold Cl.v at *
 go_enter Tryz.func149, Tryz.ntmps149
 go_wp2_with fail
 refine gen_wp ?_
 intro u hu0
 have FB : Below w.heap.size w u := by rw [hu0]; exact bel_alloc (bel_alloc (bel_alloc (Below.refl _ _) _) _) _
 have KFu : ∀ W, Below u.heap.size u W → (W.cell? ⟨w.heap.size, 0, none⟩ = some (.int .i64 a) ∧ W.cell? ⟨w.heap.size, 1, none⟩ = some (.int .i64 b) ∧ W.cell? ⟨w.heap.size + 1, 0, none⟩ = some (.int .i64 d) ∧ W.cell? ⟨w.heap.size + 1, 1, none⟩ = some (.int .i64 e) ∧ W.cell? ⟨w.heap.size + 1 + 1, 0, none⟩ = some (.int .i32 x.g) ∧ W.cell? ⟨w.heap.size + 1 + 1, 1, none⟩ = some (.int .i64 x.a) ∧ W.cell? ⟨w.heap.size + 1 + 1, 2, none⟩ = some (.bool x.d) ∧ W.cell? ⟨w.heap.size + 1 + 1, 3, none⟩ = some (.int .i64 x.m) ∧ W.cell? ⟨L.sb, 3, none⟩ = some (.pointer (some ⟨L.g, 0, none⟩))) ∧ True ∧ True := by
  intro W hu
  refine ⟨⟨?_, ?_, ?_, ?_, ?_, ?_, ?_, ?_, ?_⟩, trivial, ?_⟩
  ·exact (hu.cell (by rw [hu0]; simp <;> omega)).trans (by rw [hu0]; simp [go_sem])
  ·exact (hu.cell (by rw [hu0]; simp <;> omega)).trans (by rw [hu0]; simp [go_sem])
  ·exact (hu.cell (by rw [hu0]; simp <;> omega)).trans (by rw [hu0]; simp [go_sem])
  ·exact (hu.cell (by rw [hu0]; simp <;> omega)).trans (by rw [hu0]; simp [go_sem])
  ·exact (hu.cell (by rw [hu0]; simp <;> omega)).trans (by rw [hu0]; simp [go_sem])
  ·exact (hu.cell (by rw [hu0]; simp <;> omega)).trans (by rw [hu0]; simp [go_sem])
  ·exact (hu.cell (by rw [hu0]; simp <;> omega)).trans (by rw [hu0]; simp [go_sem])
  ·exact (hu.cell (by rw [hu0]; simp <;> omega)).trans (by rw [hu0]; simp [go_sem])
  ·exact cellB (bel_call (by rw [hu0]; (repeat first | exact Below.refl _ _ | refine bel_alloc ?_ _)) hu) (k3)
  ·trivial
 clear hu0 k3
 refine wp_region_held_drew (S := fun W => (W.cell? ⟨w.heap.size, 0, none⟩ = some (.int .i64 a) ∧ W.cell? ⟨w.heap.size, 1, none⟩ = some (.int .i64 b) ∧ W.cell? ⟨w.heap.size + 1, 0, none⟩ = some (.int .i64 d) ∧ W.cell? ⟨w.heap.size + 1, 1, none⟩ = some (.int .i64 e) ∧ W.cell? ⟨w.heap.size + 1 + 1, 0, none⟩ = some (.int .i32 x.g) ∧ W.cell? ⟨w.heap.size + 1 + 1, 1, none⟩ = some (.int .i64 x.a) ∧ W.cell? ⟨w.heap.size + 1 + 1, 2, none⟩ = some (.bool x.d) ∧ W.cell? ⟨w.heap.size + 1 + 1, 3, none⟩ = some (.int .i64 x.m) ∧ W.cell? ⟨L.sb, 3, none⟩ = some (.pointer (some ⟨L.g, 0, none⟩))) ∧ True ∧ True) (by kernel_rfl) (KFu _ (Below.refl _ _).drew) (fun hHeld => ?_)
 have FB := FB.drew
 refine sY 0 12 ?_
 refine sY 1 13 ?_
 refine sY 2 14 ?_
 refine sY 3 15 ?_
 refine sY 4 16 ?_
 refine sY 6 18 ?_
 refine sY 8 20 ?_
 refine sY 10 22 ?_
 refine sY 12 24 ?_
 refine sY 13 25 ?_
 refine sO 5 fun K hK => ?_
 obtain ⟨⟨fc0, fc1, fc2, fc3, fc4, fc5, fc6, fc7, fc8⟩, _, fb⟩ := hHeld
 go_simp
 refine (HS.out _ FB).mono ?_
 rintro e w1 ⟨rfl, b1⟩
 have FB := bel_call FB b1
 (try go_wp2_with fail)
 refine hK.out _ _ ?_ (fun hHeld => ?_)
 ·exact ⟨⟨cellB b1 fc0, cellB b1 fc1, cellB b1 fc2, cellB b1 fc3, cellB b1 fc4, cellB b1 fc5, cellB b1 fc6, cellB b1 fc7, cellB b1 fc8⟩, trivial, trivial⟩
 clear hK K
 try simp only [Act.put, List.setIfInBounds_toArray, List.set_cons_zero, List.set_cons_succ]
 refine sO 7 fun K hK => ?_
 obtain ⟨⟨fc0, fc1, fc2, fc3, fc4, fc5, fc6, fc7, fc8⟩, _, fb⟩ := hHeld
 go_simp
 refine (HN.out _ _ _).mono ?_
 rintro e w2 ⟨rfl, b2⟩
 have FB := bel_call FB b2
 (try go_wp2_with fail)
 refine hK.out _ _ ?_ (fun hHeld => ?_)
 ·exact ⟨⟨cellB b2 fc0, cellB b2 fc1, cellB b2 fc2, cellB b2 fc3, cellB b2 fc4, cellB b2 fc5, cellB b2 fc6, cellB b2 fc7, cellB b2 fc8⟩, trivial, trivial⟩
 clear hK K
 try simp only [Act.put, List.setIfInBounds_toArray, List.set_cons_zero, List.set_cons_succ]
 refine sO 9 fun K hK => ?_
 obtain ⟨⟨fc0, fc1, fc2, fc3, fc4, fc5, fc6, fc7, fc8⟩, _, fb⟩ := hHeld
 go_simp
 refine (HS.out _ FB).mono ?_
 rintro e w1 ⟨rfl, b1⟩
 have FB := bel_call FB b1
 (try go_wp2_with fail)
 refine hK.out _ _ ?_ (fun hHeld => ?_)
 ·exact ⟨⟨cellB b1 fc0, cellB b1 fc1, cellB b1 fc2, cellB b1 fc3, cellB b1 fc4, cellB b1 fc5, cellB b1 fc6, cellB b1 fc7, cellB b1 fc8⟩, trivial, trivial⟩
 clear hK K
 try simp only [Act.put, List.setIfInBounds_toArray, List.set_cons_zero, List.set_cons_succ]
 refine sO 11 fun K hK => ?_
 obtain ⟨⟨fc0, fc1, fc2, fc3, fc4, fc5, fc6, fc7, fc8⟩, _, fb⟩ := hHeld
 go_simp
 refine (HN.out _ _ _).mono ?_
 rintro e w2 ⟨rfl, b2⟩
 have FB := bel_call FB b2
 (try go_wp2_with fail)
 refine hK.out _ _ ?_ (fun hHeld => ?_)
 ·exact ⟨⟨cellB b2 fc0, cellB b2 fc1, cellB b2 fc2, cellB b2 fc3, cellB b2 fc4, cellB b2 fc5, cellB b2 fc6, cellB b2 fc7, cellB b2 fc8⟩, trivial, trivial⟩
 clear hK K
 try simp only [Act.put, List.setIfInBounds_toArray, List.set_cons_zero, List.set_cons_succ]
 refine sO 14 fun K hK => ?_
 obtain ⟨⟨fc0, fc1, fc2, fc3, fc4, fc5, fc6, fc7, fc8⟩, _, fb⟩ := hHeld
 go_simp
 refine (HC.out _ FB _ _ _ _).mono ?_
 rintro e w3 ⟨⟨n, z, rfl⟩, hs⟩
 (try go_wp2_with fail)
 refine hK.out _ _ ?_ (fun hHeld => ?_)
 ·exact ⟨⟨((hs.2).cell (.inr ⟨by first | omega | (simp <;> omega), blt fc0⟩) fc0), ((hs.2).cell (.inr ⟨by first | omega | (simp <;> omega), blt fc1⟩) fc1), ((hs.2).cell (.inr ⟨by first | omega | (simp <;> omega), blt fc2⟩) fc2), ((hs.2).cell (.inr ⟨by first | omega | (simp <;> omega), blt fc3⟩) fc3), ((hs.2).cell (.inr ⟨by first | omega | (simp <;> omega), blt fc4⟩) fc4), ((hs.2).cell (.inr ⟨by first | omega | (simp <;> omega), blt fc5⟩) fc5), ((hs.2).cell (.inr ⟨by first | omega | (simp <;> omega), blt fc6⟩) fc6), ((hs.2).cell (.inr ⟨by first | omega | (simp <;> omega), blt fc7⟩) fc7), ((hs.2).cell (.inl (.inr (.inl rfl))) fc8)⟩, trivial, trivial⟩
 clear hK K
 try simp only [Act.put, List.setIfInBounds_toArray, List.set_cons_zero, List.set_cons_succ]
 refine wpAnyH_done (by kernel_rfl) ?_ _
 go_wp2_with fail
 go_end0
 exact ⟨rfl, HE.out _ _ FB hs⟩
end
end Go.Proofs.YtpjooboohelffaaGreatDoor
