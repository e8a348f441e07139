/- The walk of the law's fields: all that the iterator hands over, in a slice. -/
import Derived.Test.YtooikmialpfdkaaFC
import Derived.Test.YtooikmialpfdkaaF7
import Derived.Laws.EntriesVeiled
namespace Go.Proofs.Ytooikmialpfdkaa
open Go.RowKit Go.Shelf
set_option linter.unusedVariables false
attribute [local go_sem] Oper.semAt_some

/-- As w was below N, but for block By. -/
structure Sav (By N : Nat) (w W : World) : Prop where
  os : W.os = w.os
  tape : W.tape = w.tape
  output : W.output = w.output
  size : w.heap.size ≤ W.heap.size
  block : ∀ k, k < N → k ≠ By → W.heap[k]? = w.heap[k]?
theorem Sav.refl (By N : Nat) (w : World) : Sav By N w w := ⟨rfl, rfl, rfl, Nat.le_refl _, fun _ _ _ => rfl⟩
theorem Sav.below {By N n₁ : Nat} {w W : World} (h : Sav By N w W) (h1 : n₁ ≤ By) (h2 : n₁ ≤ N) : Below n₁ w W :=
  ⟨h.os, h.tape, h.output, h.size, fun k hk => h.block k (by omega) (by omega)⟩
theorem Sav.cell {By N : Nat} {w W : World} (h : Sav By N w W) {b o : Nat} (h1 : b < N) (h2 : b ≠ By) : W.cell? ⟨b, o, none⟩ = w.cell? ⟨b, o, none⟩ :=
  World.cell?_of_block (h.block b h1 h2)
theorem Sav.frozen {By N : Nat} {w W : World} (h : Sav By N w W) {b o : Nat} (h1 : b < N) (h2 : b ≠ By) : W.frozen? ⟨b, o, none⟩ = w.frozen? ⟨b, o, none⟩ :=
  World.frozen?_of_block (h.block b h1 h2)
theorem Sav.set {By N : Nat} {w W : World} (h : Sav By N w W) (u : Value) : Sav By N w (W.setCell ⟨By, 0, none⟩ u) :=
  ⟨h.os, h.tape, h.output, by simpa [World.setCell] using h.size, fun k h1 h2 => (Below.heap_setCell _ _ _ _ h2).trans (h.block k h1 h2)⟩
theorem Sav.step {By N n : Nat} {w W W' : World} (h : Sav By N w W) (hN : N ≤ n) (hb : Below n W W') : Sav By N w W' :=
  ⟨hb.os.trans h.os, hb.tape.trans h.tape, hb.output.trans h.output, Nat.le_trans h.size hb.size, fun k h1 h2 => (hb.block k (by omega)).trans (h.block k h1 h2)⟩
theorem Sav.ownFrom {β : Type} {By N B : Nat} {w : World} (hN : N ≤ B) (hw : N ≤ w.heap.size) : OwnFrom B (fun (_ : β) W => Sav By N w W) := fun _ W W' row h hg hr => by
  have hne : ∀ k, k < B → some k ≠ row := fun k hk e => by have := (hr k e.symm).1; omega
  exact ⟨hg.os.trans h.os, hg.tape.trans h.tape, hg.output.trans h.output, Nat.le_trans h.size hg.size,
    fun k h1 h2 => (hg.block k (by have := h.size; omega) (hne k (by omega))).trans (h.block k h1 h2)⟩
theorem OwnF.kept {e : TypeId} {w w' : World} {base : Nat} {v : Value} {L : List Fd} {row : Option Nat} (h : OwnF e w base v L) (hg : w.grownBy w' row) (hr : ∀ r, row = some r → ∃ o : Obj, w.heap[r]? = some o ∧ o.isCells = false) : OwnF e w' base v L := by
  refine World.ownsRow.kept h hg ?_
  rcases h.2 with ⟨rfl, _⟩ | ⟨g, cap, cur, rfl, _, hgb, _⟩
  · exact .inl rfl
  · refine .inr fun e => ?_
    obtain ⟨o, ho, hc⟩ := hr g (by rw [← e]; rfl)
    rw [ho] at hgb
    cases hgb
    cases hc
theorem boxed_kept {W W' : World} {row : Option Nat} {B : Nat} {t : TypeId} {v : Value} (h : Boxed W B t v) (hg : W.grownBy W' row) (hr : ∀ r, row = some r → ∃ o : Obj, W.heap[r]? = some o ∧ o.isCells = false) : Boxed W' B t v := by
  refine h.kept hg fun e => ?_
  obtain ⟨o, ho, hc⟩ := hr B e.symm
  rw [show W.heap[B]? = _ from h] at ho
  cases ho
  cases hc
theorem wpIn_app39 {F : Fence} {n : Nat} {ops : Array Oper} {rest : List Oper} {o : Oper} {a : Act} {Q : Exit → Act → World → Prop} (hgd : o.guard = none) (s x : Operand)
    (ho : o.op = .call { callee := .builtin .append, args := #[s, x], argTypes := #[33, 33] }) (base : Nat) (v : Value) (L : List Fd) (W : World) (y : Fd) (B : Nat)
    (hs : a.eval s = v) (hx : a.eval x = .slice (some ⟨B, 0, none⟩) 1 1) (hB : W.heap.size = B) (hown : OwnF 39 W base v L) (hbase : base ≤ W.heap.size) (hn : L.length ≤ 1000000)
    (h : ∀ v' w', OwnF 39 w' base v' (L ++ [y]) → (W.alloc (.cells #[.int .i64 (y.1 : Int), .int .i64 (y.2.1 : Int), .int .i64 (y.2.2 : Int)] 39)).grownBy w' v.ownBlock → wpListIn F n Try.prog ops Q rest (a.put o.dst v') w') :
    wpListIn F n Try.prog ops Q (o :: rest) a (W.alloc (.cells #[.int .i64 (y.1 : Int), .int .i64 (y.2.1 : Int), .int .i64 (y.2.2 : Int)] 39)) := by
  obtain ⟨i0, hi, hz0, hz1, hz2⟩ := info_parts info39
  subst hB
  refine wpListIn_append_own _ hgd s x 33 ho base 39 i0 _ 3 24 Try.underlying33 hi hz0 hz1 hz2 rfl (by decide) v L.length _ hs (hown.alloc _) ⟨W.heap.size, 0, none⟩ 1 1 (fcells y) hx rfl ?_ (by simp [fcells, Value.oneCell']) (by unfold maxLen; omega) (by omega) (by simp; omega) ?_
  · intro j u hj
    have hj3 : j < 3 := by
      have := (List.getElem?_eq_some_iff.1 hj).1
      simpa [fcells] using this
    have h3 : j = 0 ∨ j = 1 ∨ j = 2 := by omega
    rcases h3 with rfl | rfl | rfl <;> (simp [fcells] at hj; subst hj; simp [go_sem, Addr.add])
  · intro v' w' h1 h2 _
    exact h v' w' (by unfold OwnF; simpa using h1) h2

theorem OwnF.other {e : TypeId} {w : World} {base By : Nat} {v u : Value} {L : List Fd} (h : OwnF e w base v L) (hB : By < base) : OwnF e (w.setCell ⟨By, 0, none⟩ u) base v L := by
  obtain ⟨h1, h2⟩ := h
  refine ⟨h1, ?_⟩
  rcases h2 with h2 | ⟨g, cap, cur, hv, hg, hh, r⟩
  · exact .inl h2
  · exact .inr ⟨g, cap, cur, hv, hg, (Below.heap_setCell _ _ _ _ (by simp; omega)).trans hh, r⟩
theorem OwnF.mono {e : TypeId} {w : World} {base base' : Nat} {v : Value} {L : List Fd} (h : OwnF e w base v L) (hb : base' ≤ base) : OwnF e w base' v L := by
  obtain ⟨h1, h2⟩ := h
  refine ⟨h1, ?_⟩
  rcases h2 with h2 | ⟨g, cap, cur, hv, hg, r⟩
  · exact .inl h2
  · exact .inr ⟨g, cap, cur, hv, by omega, r⟩
theorem OwnF.row {e : TypeId} {w : World} {base : Nat} {v : Value} {L : List Fd} (h : OwnF e w base v L) {k : Nat} (hk : v.ownBlock = some k) : base ≤ k ∧ ∃ o : Obj, w.heap[k]? = some o ∧ o.isCells = true := by
  rcases h.2 with ⟨rfl, _⟩ | ⟨g, cap, cur, rfl, hg, hgb, _⟩
  · simp [Value.ownBlock] at hk
  · simp [Value.ownBlock] at hk
    subst hk
    exact ⟨hg, _, hgb, rfl⟩
/-- The whole step of an append to a slice that lies in a box. -/
theorem box_append {By base : Nat} {W W1 w2 : World} {v v1 x1 : Value} {L L1 : List Fd} {o : Obj} {B : Nat} (hW : Sav By base w2 W) (hbase : base ≤ W.heap.size) (hBy : By < base) (ho : OwnF 39 W base v L) (h1 : OwnF 39 W1 base v1 L1) (hg : (W.alloc o).grownBy W1 v.ownBlock) (hb : Boxed W1 By 33 x1) :
    KeepsFrom B W (W1.setCell ⟨By, 0, none⟩ v1) ∧ Sav By base w2 (W1.setCell ⟨By, 0, none⟩ v1) ∧ Boxed (W1.setCell ⟨By, 0, none⟩ v1) By 33 v1 ∧ OwnF 39 (W1.setCell ⟨By, 0, none⟩ v1) base v1 L1 := by
  refine ⟨?_, ?_, hb.set v1, h1.other hBy⟩
  · refine (((KeepsOthers.alloc _ _).from B).trans ⟨hg.size, fun k p _ hk hc => ?_⟩).trans ((KeepsOthers.setCell _ _ _).from _)
    refine (hg.block k (Array.getElem?_eq_some_iff.1 hk).1 fun e => ?_).trans hk
    obtain ⟨_, q, hq, hqc⟩ := (ho.alloc o).row e.symm
    rw [hq] at hk
    cases hk
    rw [hc] at hqc
    cases hqc
  · refine Sav.set ?_ v1
    have hs1 := hg.size
    simp at hs1
    refine ⟨hg.os.trans hW.os, hg.tape.trans hW.tape, hg.output.trans hW.output, Nat.le_trans hW.size (by omega), fun k k1 k2 => ?_⟩
    refine ((hg.block k (by simp; omega) fun e => ?_).trans (Below.heap_alloc _ _ _ (by omega))).trans (hW.block k k1 k2)
    have := (ho.row e.symm).1
    omega
theorem all_any (G : Grid) (w : World) : Calls Try.prog 28 #[G.v] w fun e w' => e = .returned (.func (.func 34) #[] #[.pointer (some ⟨w.heap.size, 0, none⟩)]) ∧ w' = w.alloc (.cells #[G.v] 22) := by
  unfold Grid.v
  go_enter Try.func28, Try.ntmps28
  go_wp2_with fail
  go_ret
  exact ⟨rfl, rfl⟩
set_option maxRecDepth 100000 in
set_option maxHeartbeats 4000000 in
theorem fields_law (G : Grid) (w : World) (h : G.In w.heap.size w) (hfl : (fieldsOf G).length ≤ 2000) :
    Calls Try.prog 14 #[G.v] w fun e w' => ∃ v, e = .returned (.tuple #[v, .bool true]) ∧ OwnF 39 w' w.heap.size v (fieldsOf G) ∧ Below w.heap.size w w' := by
  refine (callsIn_wide (n := 3)).1 (callsIn_of_wp_marks Try.func14 rfl trivial ?_ rfl)
  simp only [Try.ntmps14, List.size_toArray, List.length_cons, List.length_nil, Nat.reduceAdd, Nat.reduceSub, Array.replicate_succ, Array.replicate_zero, List.push_toArray, List.append_toArray, List.nil_append, List.cons_append]
  have H := Lib.hid h
  have HL := Lib.hid hfl
  clear h hfl
  have hnil : ∀ (x : Value) (W : World), (binOp .eql 52 (.func (.func 34) #[] #[x]) .nilFunc).run Try.prog W = .ok (.bool false) W := fun _ _ => by kernel_rfl
  have HA := fun W => all_any G W
  gi_wp2_with (refine ⟨trivial, ?_⟩; gi_at_call 28; refine (callsIn_wide.2 (HA _)).mono ?_; rintro e w1 ⟨rfl, rfl⟩)
  obtain ⟨w2, hw2⟩ : ∃ w2, ((((w.alloc (Obj.cells #[Value.slice none 0 0] 33)).alloc (Obj.cells #[Value.bool false] 4)).alloc (Obj.cells #[Value.slice none 0 0] 33)).alloc (Obj.cells #[G.v] 22)) = w2 := ⟨_, rfl⟩
  have hB : Below w.heap.size w w2 := by rw [← hw2]; exact bel_alloc (bel_alloc (bel_alloc (bel_alloc (Below.refl _ _) _) _) _) _
  have hsz : w2.heap.size = w.heap.size + 4 := by rw [← hw2]; simp
  have c0 : w2.cell? ⟨w.heap.size, 0, none⟩ = some (.slice none 0 0) ∧ w2.frozen? ⟨w.heap.size, 0, none⟩ = false := by rw [← hw2]; simp [go_sem]
  have c1 : w2.cell? ⟨w.heap.size + 1, 0, none⟩ = some (.bool false) ∧ w2.frozen? ⟨w.heap.size + 1, 0, none⟩ = false := by rw [← hw2]; simp [go_sem]
  have c2 : Boxed w2 (w.heap.size + 1 + 1) 33 (.slice none 0 0) := by
    rw [← hw2]
    have := Boxed.new ((w.alloc (Obj.cells #[Value.slice none 0 0] 33)).alloc (Obj.cells #[Value.bool false] 4)) 33 (.slice none 0 0)
    simp only [World.size_alloc] at this
    exact this.alloc _
  have c3 : w2.cell? ⟨w.heap.size + 1 + 1 + 1, 0, none⟩ = some G.v := by rw [← hw2]; simp [go_sem]
  rw [hw2]
  clear hw2 hnil HA
  have HC0 := Lib.hid c0
  have HC1 := Lib.hid c1
  have HC3 := Lib.hid c3
  clear c0 c1 c3
  have hN : w2.heap.size ≤ w2.heap.size := Nat.le_refl _
  refine range_law (n := 2) (m := 1) (gf := 34) (lb := #[.pointer (some ⟨w.heap.size + 1 + 1 + 1, 0, none⟩)]) rfl (enters_of Try.func34 (by kernel_rfl) rfl) (encs := encF) (fun _ => rfl)
    (S := fun ys => ys = fieldsOf G) (Sp := fun pre => ∃ t, fieldsOf G = pre ++ t) (V := fun _ => True) (N := (fieldsOf G).length) (Kp := fun _ _ => True) (fun _ _ => trivial) (fun _ _ _ _ _ _ _ _ => trivial)
    (fun pre W => Sav (w.heap.size + 1 + 1) w2.heap.size w2 W ∧ ∃ v, Boxed W (w.heap.size + 1 + 1) 33 v ∧ OwnF 39 W w2.heap.size v pre)
    (fun c pre W => False)
    ?hI ?hIx ⟨Sav.refl _ _ _, _, c2, OwnF.nil _ _ _⟩
    (fun x a' W => ∃ b, w2.heap.size ≤ b ∧ W.cell? ⟨b, 0, none⟩ = some (.int .i64 (x.1 : Int)) ∧ W.cell? ⟨b, 1, none⟩ = some (.int .i64 (x.2.1 : Int)) ∧ W.cell? ⟨b, 2, none⟩ = some (.int .i64 (x.2.2 : Int)) ∧
      a' = { tmps := #[G.v, undef, Value.pointer (some { block := w.heap.size, off := 0 }),
          Value.pointer (some { block := w.heap.size + 1, off := 0 }),
          Value.pointer (some { block := w.heap.size + 1 + 1, off := 0 }),
          Value.func (Fn.func 34) #[] #[Value.pointer (some { block := w.heap.size + 1 + 1 + 1, off := 0 })], .pointer (some ⟨b, 0, none⟩),
          G.v, Value.func (Fn.func 34) #[] #[Value.pointer (some { block := w.heap.size + 1 + 1 + 1, off := 0 })], Value.func (Fn.func 34) #[] #[Value.pointer (some { block := w.heap.size + 1 + 1 + 1, off := 0 })],
          Value.bool false,
          Value.func (Fn.func 34) #[] #[Value.pointer (some { block := w.heap.size + 1 + 1 + 1, off := 0 })], .agg #[.int .i64 (x.1 : Int), .int .i64 (x.2.1 : Int), .int .i64 (x.2.2 : Int)],
          undef, undef, undef, undef, undef, undef, undef, undef], defers := [] })
    ?hAx ?hit ?assign ?body ?done ?stop
  case hI =>
    rintro s W W' row ⟨h1, v, hv, ho⟩ hg hr
    exact ⟨Sav.ownFrom (β := Unit) hN hN () W W' row h1 hg hr, v, boxed_kept hv hg (fun r e => (hr r e).2), ho.kept hg (fun r e => (hr r e).2)⟩
  case hIx => exact fun c pre W W' row h _ _ => h
  case hAx =>
    rintro x a' _ W W' row ⟨b, hb, k0, k1, k2, e⟩ hg hr
    exact ⟨b, hb, cell_kept k0 hg (fun r e => (hr r e).2), cell_kept k1 hg (fun r e => (hr r e).2), cell_kept k2 hg (fun r e => (hr r e).2), e⟩
  case hit =>
    rintro W0 ⟨o, o', _, _, rfl⟩ hI0
    refine all_iter G 2 (by decide) (w.heap.size + 1 + 1 + 1) w2.heap.size _ _ ?_ ?_ ?_ _
    · rintro pre W ⟨hW, _⟩
      exact ⟨(hW.cell (by omega) (by omega)).trans HC3.out, H.out.later (hB.trans (hW.below (by omega) (by omega))) (by have := hW.size; omega)⟩
    · rintro pre W ⟨hW, v, hv, ho⟩
      exact ⟨⟨hW.os, hW.tape, hW.output, hW.size, hW.block⟩, v, hv, ho⟩
    · rintro pre W W' ⟨hW, v, hv, ho⟩ hb
      exact ⟨hW.step hW.size hb, v, (hb.block _ hv.lt).trans hv, ho.call hb⟩
  case assign =>
    rintro l pre x W K ⟨hW, v, hv, ho⟩ hK
    simp only [encF]
    gi_wp2
    have hBW : Below W.heap.size W (W.alloc (.cells #[.int .i64 (x.1 : Int), .int .i64 (x.2.1 : Int), .int .i64 (x.2.2 : Int)] 39)) := bel_alloc (Below.refl _ _) _
    refine hK _ _ ((KeepsOthers.alloc _ _).from _) trivial ⟨hW.step hW.size hBW, v, (hBW.block _ hv.lt).trans hv, ho.call hBW⟩ ⟨W.heap.size, hW.size, by simp [go_sem], by simp [go_sem], by simp [go_sem], rfl⟩
  case body =>
    rintro l pre x a' W ⟨hW, v, hv, ho⟩ ⟨b, hb, k0, k1, k2, rfl⟩ hlen _
    have cv := hv.cell
    have fv := hv.frozen
    have hs := hW.size
    have hl : pre.length < 2000 := by have := HL.out; omega
    have Hv := Lib.hid hv
    have Ho := Lib.hid ho
    have HW := Lib.hid hW
    have HS := Lib.hid hsz
    clear hv ho hW hlen hsz
    gi_wp2_with (gi_at_builtin; refine wpIn_app39 rfl (.tmp 13) (.tmp 15) rfl w2.heap.size _ _ _ x _ rfl rfl rfl Ho.out hs (by omega) ?_; intro v1 W1 own1 gr1; obtain ⟨n1, hn1⟩ : ∃ n1, (pre ++ [x]).length = n1 := ⟨_, rfl⟩; obtain ⟨ad1, cap1, hv1⟩ := own1.shape; rw [hn1] at hv1; subst hv1; have q9 : ¬ (2000 : Int) < (n1 : Int) := (by simp at hn1; omega); clear hn1; have bx1 := ((Hv.out.alloc _).kept gr1 (Boxed.not_row Hv.out (by decide) Ho.out)); have cv1 := bx1.cell; have fv1 := bx1.frozen; have Own1 := Lib.hid own1; have Gr1 := Lib.hid gr1; have Bx1 := Lib.hid bx1; clear own1 gr1 bx1)
    have hsz := HS.out
    obtain ⟨g1, g2, g3, g4⟩ := box_append (B := w2.heap.size) HW.out hs (by omega) Ho.out Own1.out Gr1.out Bx1.out
    exact ⟨g1, trivial, g2, _, g3, g4⟩
  case done =>
    rintro D ys W hD rfl ⟨hW, v, hv, ho⟩ hK
    have cv := hv.cell
    have d0 := (hW.frozen (o := 0) (show w.heap.size < w2.heap.size by omega) (by omega)).trans HC0.out.2
    have d1 := (hW.frozen (o := 0) (show w.heap.size + 1 < w2.heap.size by omega) (by omega)).trans HC1.out.2
    have e0 := (hW.cell (o := 0) (show w.heap.size < w2.heap.size by omega) (by omega)).trans HC0.out.1
    have e1 := (hW.cell (o := 0) (show w.heap.size + 1 < w2.heap.size by omega) (by omega)).trans HC1.out.1
    have hs := hW.size
    obtain ⟨ad, cap, rfl⟩ := ho.shape
    have Hv := Lib.hid hv
    have Ho := Lib.hid ho
    have HW := Lib.hid hW
    have HK := Lib.hid hK
    have HS := Lib.hid hsz
    clear hv ho hW hK hsz
    gi_wp2
    have hKO : KeepsOthers W ((W.setCell ⟨w.heap.size, 0, none⟩ (.slice ad (fieldsOf G).length cap)).setCell ⟨w.heap.size + 1, 0, none⟩ (.bool true)) := (KeepsOthers.setCell _ _ _).trans (KeepsOthers.setCell _ _ _)
    have hK4 := hKO.same D _ HK.out rfl
    have hBe : Below w.heap.size w ((W.setCell ⟨w.heap.size, 0, none⟩ (.slice ad (fieldsOf G).length cap)).setCell ⟨w.heap.size + 1, 0, none⟩ (.bool true)) :=
      (((hB.mono (by omega)).trans (HW.out.below (by omega) (by have := HS.out; omega))).setCell (p := ⟨w.heap.size, 0, none⟩) (by simp) _).setCell (p := ⟨w.heap.size + 1, 0, none⟩) (by simp) _
    have ho2 : OwnF 39 ((W.setCell ⟨w.heap.size, 0, none⟩ (.slice ad (fieldsOf G).length cap)).setCell ⟨w.heap.size + 1, 0, none⟩ (.bool true)) w2.heap.size (.slice ad (fieldsOf G).length cap) (fieldsOf G) := (Ho.out.other (by have := HS.out; omega)).other (by have := HS.out; omega)
    have z0 : ((W.setCell ⟨w.heap.size, 0, none⟩ (.slice ad (fieldsOf G).length cap)).setCell ⟨w.heap.size + 1, 0, none⟩ (.bool true)).cell? ⟨w.heap.size, 0, none⟩ = some (.slice ad (fieldsOf G).length cap) :=
      (World.cell?_setCell_other _ _ _ _ (by simp)).trans (World.cell?_setCell_same' _ _ _ (by rw [e0]; rfl))
    have z1 : ((W.setCell ⟨w.heap.size, 0, none⟩ (.slice ad (fieldsOf G).length cap)).setCell ⟨w.heap.size + 1, 0, none⟩ (.bool true)).cell? ⟨w.heap.size + 1, 0, none⟩ = some (.bool true) :=
      World.cell?_setCell_same' _ _ _ (by rw [World.cell?_setCell_other _ _ _ _ (by simp), e1]; rfl)
    generalize ((W.setCell ⟨w.heap.size, 0, none⟩ (.slice ad (fieldsOf G).length cap)).setCell ⟨w.heap.size + 1, 0, none⟩ (.bool true)) = W3 at *
    have y0 := cell_kept z0 (grownBy_putObj' _ D (.deferred none)) (fun r e => by cases e; exact ⟨_, hK4, rfl⟩)
    have y1 := cell_kept z1 (grownBy_putObj' _ D (.deferred none)) (fun r e => by cases e; exact ⟨_, hK4, rfl⟩)
    refine ⟨by simp, .inl ⟨_, _, rfl, run_takeDeferred hK4, ?_⟩⟩
    refine ⟨.tuple #[.slice ad (fieldsOf G).length cap, .bool true], ?_, _, rfl, ?_, ?_⟩
    · simp [results, Try.results14, go_sem, y0, y1]
    · exact (ho2.kept (grownBy_putObj' _ D (.deferred none)) (fun r e => by cases e; exact ⟨_, hK4, rfl⟩)).mono (by have := HS.out; omega)
    · exact hBe.trans (belowK_b (w := w2) (by have := HS.out; omega) W3 D _ _ hD hK4 rfl rfl)
  case stop => exact fun D c pre W _ _ h _ => h.elim
end Go.Proofs.Ytooikmialpfdkaa
