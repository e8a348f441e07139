/- remap: Parse: the walk. -/
import Derived.Test.YtnfpfpppnfighaaDoorR6
import Derived.Deep.CutRange
namespace Go.Proofs.YtnfpfpppnfighaaDoor
open Go.Shelf Go.RowKit
set_option linter.unusedVariables false
set_option linter.unusedSimpArgs false
set_option maxRecDepth 100000
def zeroI : Itm := ⟨false, 0, []⟩
theorem take_any (w : World) (lb B : Nat) (xs : List Itm) (h : ListAt w lb xs B) :
    Calls Tryd.prog 28 #[.pointer (some ⟨lb, 0, none⟩)] w fun e w' => e = .returned (.tuple #[(xs.headD zeroI).val, .bool (!xs.isEmpty)]) ∧ ListAt w' lb xs.tail B ∧ Chg w w' [lb] := by
  cases xs with
  | nil =>
    refine (take_none w lb B h).mono ?_
    rintro e w' ⟨he, hb⟩
    exact ⟨he, h.later hb, Chg.of_below hb⟩
  | cons x r =>
    refine (take_some w lb B x r h).mono ?_
    rintro e w' ⟨he, hL, hc⟩
    exact ⟨he, hL, hc⟩
/-- What Parse hands back. -/
def parseV : Except Int (Bool × Nat × List UInt8) → Value
  | .error k => .tuple #[.agg #[.bool false, .int .i64 0], .string ⟨#[]⟩, .int .i64 k]
  | .ok (e, n, t) => .tuple #[.agg #[.bool e, .int .i64 n], .string (st t), .int .i64 0]
theorem parseP_items (l : List UInt8) : parseP l = match items l with
  | none => .error 14
  | some xs => parseI xs := rfl
theorem items_len : ∀ (f : Nat) (l : List UInt8) (xs : List Itm), itemsF f l = some xs → ((xs.map (·.text)).flatten).length ≤ l.length := by
  intro f
  induction f with
  | zero => intro l xs h; cases h
  | succ f ih =>
    intro l xs h
    simp only [itemsF] at h
    cases hp : itemP l with
    | none => rw [hp] at h; cases h
    | some p =>
      obtain ⟨x, r⟩ := p
      rw [hp] at h
      have h1 := itemP_len hp
      cases r with
      | nil =>
        simp only [Option.some.injEq] at h
        subst h
        simp at h1 ⊢
        omega
      | cons b r =>
        simp only at h
        by_cases hb : b = 59
        · rw [if_pos hb] at h
          cases hi : itemsF f r with
          | none => rw [hi] at h; cases h
          | some ys =>
            rw [hi] at h
            simp only [Option.map_some, Option.some.injEq] at h
            subst h
            have h2 := ih r ys hi
            simp at h1 h2 ⊢
            omega
        · rw [if_neg hb] at h; cases h
/-- A builder, while nothing from B on is written. -/
theorem isB_keep {w w' : World} {B b : Nat} {bs : List Value} (h : Lib.IsBuilder 72 5 B b bs w) (hk : ∀ k, B ≤ k → k < w.heap.size → w'.heap[k]? = w.heap[k]?) : Lib.IsBuilder 72 5 B b bs w' := by
  have key : ∀ p, Lib.BuilderAt 72 5 B b p bs w → Lib.BuilderAt 72 5 B b p bs w' := by
    rintro p ⟨hB, v, hb, hown, hne⟩
    refine ⟨hB, v, (hk b hB (Array.getElem?_eq_some_iff.1 hb).1).trans hb, ?_, hne⟩
    obtain ⟨h1, h2⟩ := hown
    refine ⟨h1, ?_⟩
    rcases h2 with h2 | ⟨g, cap, cur, hv, hg, hh, r⟩
    · exact .inl h2
    · exact .inr ⟨g, cap, cur, hv, hg, (hk g hg (Array.getElem?_eq_some_iff.1 hh).1).trans hh, r⟩
  rcases h with h | h
  · exact .inl (key _ h)
  · exact .inr (key _ h)
theorem res2 {W : World} {b : Nat} {u0 u1 : Value} (v0 v1 : Value) (e0 : W.cell? ⟨b, 0, none⟩ = some u0) (e1 : W.cell? ⟨b, 1, none⟩ = some u1) :
    ((W.setCell ⟨b, 0, none⟩ v0).setCell ⟨b, 1, none⟩ v1).cell? ⟨b, 0, none⟩ = some v0 ∧ ((W.setCell ⟨b, 0, none⟩ v0).setCell ⟨b, 1, none⟩ v1).cell? ⟨b, 1, none⟩ = some v1 := by
  have n1 : (⟨b, 0, none⟩ : Addr) ≠ ⟨b, 1, none⟩ := by simp
  have x0 : (W.setCell ⟨b, 0, none⟩ v0).cell? ⟨b, 0, none⟩ = some v0 := World.cell?_setCell_same' _ _ _ (by rw [e0]; rfl)
  have x1 : (W.setCell ⟨b, 0, none⟩ v0).cell? ⟨b, 1, none⟩ = some u1 := (World.cell?_setCell_other _ _ _ _ n1).trans e1
  exact ⟨(World.cell?_setCell_other _ _ _ _ n1.symm).trans x0, World.cell?_setCell_same' _ _ _ (by rw [x1]; rfl)⟩
theorem bel_set2 {w W : World} {b : Nat} (h : Below w.heap.size w W) (hb : w.heap.size ≤ b) (v0 v1 : Value) : Below w.heap.size w ((W.setCell ⟨b, 0, none⟩ v0).setCell ⟨b, 1, none⟩ v1) :=
  (h.setCell (p := ⟨b, 0, none⟩) hb v0).setCell (p := ⟨b, 1, none⟩) hb v1
/-- Parse midway: the result's block, the part's, the key's. -/
structure PS (w W : World) (b2 b7 b9 lb B : Nat) (x : Itm) (e : Bool) (n : Nat) (rest : List Itm) : Prop where
  h2 : W.heap[b2]? = some (.cells #[.bool false, .int .i64 0] 24 (0, 0))
  h7 : W.heap[b7]? = some (.cells #[.bool x.num, .int .i64 x.n, .string (st x.text)] 66 (0, 0))
  h9 : W.heap[b9]? = some (.cells #[.bool e, .int .i64 n] 24 (0, 0))
  hL : ListAt W lb rest B
  bel : Below w.heap.size w W
  g : w.heap.size ≤ b2 ∧ w.heap.size ≤ b7 ∧ w.heap.size ≤ b9 ∧ w.heap.size ≤ lb
  ne : b2 ≠ lb ∧ b7 ≠ lb ∧ b9 ≠ lb ∧ b2 ≠ b7 ∧ b2 ≠ b9 ∧ b7 ≠ b9
  lo : B ≤ b7 ∧ B ≤ b9
theorem PS.c2 {w W : World} {b2 b7 b9 lb B : Nat} {x : Itm} {e : Bool} {n : Nat} {rest : List Itm} (h : PS w W b2 b7 b9 lb B x e n rest) :
    (W.cell? ⟨b2, 0, none⟩ = some (.bool false) ∧ W.cell? ⟨b2, 1, none⟩ = some (.int .i64 0)) ∧ (W.frozen? ⟨b2, 0, none⟩ = false ∧ W.frozen? ⟨b2, 1, none⟩ = false) :=
  ⟨⟨by simp [World.cell?, h.h2], by simp [World.cell?, h.h2]⟩, Lib.frozen_of_heap h.h2 0, Lib.frozen_of_heap h.h2 1⟩
theorem PS.c7 {w W : World} {b2 b7 b9 lb B : Nat} {x : Itm} {e : Bool} {n : Nat} {rest : List Itm} (h : PS w W b2 b7 b9 lb B x e n rest) :
    (W.cell? ⟨b7, 0, none⟩ = some (.bool x.num) ∧ W.cell? ⟨b7, 1, none⟩ = some (.int .i64 x.n) ∧ W.cell? ⟨b7, 2, none⟩ = some (.string (st x.text))) ∧ (W.frozen? ⟨b7, 0, none⟩ = false ∧ W.frozen? ⟨b7, 1, none⟩ = false ∧ W.frozen? ⟨b7, 2, none⟩ = false) :=
  ⟨⟨by simp [World.cell?, h.h7], by simp [World.cell?, h.h7], by simp [World.cell?, h.h7]⟩, Lib.frozen_of_heap h.h7 0, Lib.frozen_of_heap h.h7 1, Lib.frozen_of_heap h.h7 2⟩
theorem PS.c9 {w W : World} {b2 b7 b9 lb B : Nat} {x : Itm} {e : Bool} {n : Nat} {rest : List Itm} (h : PS w W b2 b7 b9 lb B x e n rest) :
    (W.cell? ⟨b9, 0, none⟩ = some (.bool e) ∧ W.cell? ⟨b9, 1, none⟩ = some (.int .i64 n)) ∧ (W.frozen? ⟨b9, 0, none⟩ = false ∧ W.frozen? ⟨b9, 1, none⟩ = false) :=
  ⟨⟨by simp [World.cell?, h.h9], by simp [World.cell?, h.h9]⟩, Lib.frozen_of_heap h.h9 0, Lib.frozen_of_heap h.h9 1⟩
theorem lt_of_heap {W : World} {k : Nat} {o : Obj} (h : W.heap[k]? = some o) : k < W.heap.size := (Array.getElem?_eq_some_iff.1 h).1
theorem PS.take {w W W' : World} {b2 b7 b9 lb B : Nat} {x : Itm} {e : Bool} {n : Nat} {rest r' : List Itm} (h : PS w W b2 b7 b9 lb B x e n rest) (hc : Chg W W' [lb]) (hL : ListAt W' lb r' B) : PS w W' b2 b7 b9 lb B x e n r' := by
  obtain ⟨n1, n2, n3, n4⟩ := h.ne
  refine ⟨(hc.block b2 (lt_of_heap h.h2) (by simpa using n1)).trans h.h2, (hc.block b7 (lt_of_heap h.h7) (by simpa using n2)).trans h.h7, (hc.block b9 (lt_of_heap h.h9) (by simpa using n3)).trans h.h9, hL, ?_, h.g, h.ne, h.lo⟩
  exact h.bel.trans (hc.below h.bel.size (by simpa using h.g.2.2.2))
theorem ListAt.sets {W : World} {lb B b i : Nat} {xs : List Itm} (h : ListAt W lb xs B) (hb : B ≤ b) (v : Value) : ListAt (W.setCell ⟨b, i, none⟩ v) lb xs B :=
  h.keep (by simp [World.setCell]) fun k hk => heap_setCell_other _ _ _ _ (by show k ≠ b; omega)
theorem PS.put7 {w W : World} {b2 b7 b9 lb B : Nat} {x : Itm} {e : Bool} {n : Nat} {rest : List Itm} (h : PS w W b2 b7 b9 lb B x e n rest) (y : Itm) :
    PS w (((W.setCell ⟨b7, 0, none⟩ (.bool y.num)).setCell ⟨b7, 1, none⟩ (.int .i64 y.n)).setCell ⟨b7, 2, none⟩ (.string (st y.text))) b2 b7 b9 lb B y e n rest := by
  obtain ⟨n1, n2, n3, n4, n5, n6⟩ := h.ne
  have s1 := heap_setCell_same W b7 0 _ _ (.bool y.num) h.h7
  have s2 := heap_setCell_same _ b7 1 _ _ (.int .i64 y.n) s1
  have s3 := heap_setCell_same _ b7 2 _ _ (.string (st y.text)) s2
  have o2 : ∀ (W : World) i v, (W.setCell ⟨b7, i, none⟩ v).heap[b2]? = W.heap[b2]? := fun W i v => heap_setCell_other _ _ _ _ n4
  have o9 : ∀ (W : World) i v, (W.setCell ⟨b7, i, none⟩ v).heap[b9]? = W.heap[b9]? := fun W i v => heap_setCell_other _ _ _ _ n6.symm
  exact ⟨by rw [o2, o2, o2]; exact h.h2, by rw [s3]; rfl, by rw [o9, o9, o9]; exact h.h9, ((h.hL.sets h.lo.1 _).sets h.lo.1 _).sets h.lo.1 _, bel_set3 h.bel h.g.2.1 _ _ _, h.g, h.ne, h.lo⟩
theorem PS.put9 {w W : World} {b2 b7 b9 lb B : Nat} {x : Itm} {e : Bool} {n : Nat} {rest : List Itm} (h : PS w W b2 b7 b9 lb B x e n rest) (e' : Bool) (n' : Nat) :
    PS w ((W.setCell ⟨b9, 0, none⟩ (.bool e')).setCell ⟨b9, 1, none⟩ (.int .i64 n')) b2 b7 b9 lb B x e' n' rest := by
  obtain ⟨n1, n2, n3, n4, n5, n6⟩ := h.ne
  have s1 := heap_setCell_same W b9 0 _ _ (.bool e') h.h9
  have s2 := heap_setCell_same _ b9 1 _ _ (.int .i64 (n' : Int)) s1
  have o2 : ∀ (W : World) i v, (W.setCell ⟨b9, i, none⟩ v).heap[b2]? = W.heap[b2]? := fun W i v => heap_setCell_other _ _ _ _ n5
  have o7 : ∀ (W : World) i v, (W.setCell ⟨b9, i, none⟩ v).heap[b7]? = W.heap[b7]? := fun W i v => heap_setCell_other _ _ _ _ n6
  exact ⟨by rw [o2, o2]; exact h.h2, by rw [o7, o7]; exact h.h7, by rw [s2]; rfl, (h.hL.sets h.lo.2 _).sets h.lo.2 _, bel_set2 h.bel h.g.2.2.1 _ _, h.g, h.ne, h.lo⟩
/-- Behind the first part. -/
theorem PS.start {w w2 w3 : World} {lb : Nat} {x : Itm} {rest : List Itm} (hb : Below (w.alloc (.cells #[.bool false, .int .i64 0] 24)).heap.size (w.alloc (.cells #[.bool false, .int .i64 0] 24)) w2) (hlb : (w.alloc (.cells #[.bool false, .int .i64 0] 24)).heap.size ≤ lb)
    (hc : Chg w2 w3 [lb]) (hL : ListAt w3 lb rest w2.heap.size) :
    PS w ((w3.alloc (.cells #[.bool x.num, .int .i64 x.n, .string (st x.text)] 66)).alloc (.cells #[.bool false, .int .i64 x.n] 24)) w.heap.size w3.heap.size (w3.heap.size + 1) lb w2.heap.size x false x.n rest := by
  have hs : (w.alloc (.cells #[.bool false, .int .i64 0] 24)).heap.size = w.heap.size + 1 := by simp
  rw [hs] at hb hlb
  have h0 := (MapKept.heap_alloc w (.cells #[.bool false, .int .i64 0] 24)).1
  have hb2 := hb.size
  have hc2 := hc.size
  have hlt := hL.lt
  have e1 : w2.heap[w.heap.size]? = some (.cells #[.bool false, .int .i64 0] 24 (0, 0)) := (hb.block _ (by omega)).trans h0
  have e2 : w3.heap[w.heap.size]? = some (.cells #[.bool false, .int .i64 0] 24 (0, 0)) := (hc.block _ (by omega) (by simp; omega)).trans e1
  have ab := bel_alloc (bel_alloc (Below.refl _ w3) (.cells #[.bool x.num, .int .i64 x.n, .string (st x.text)] 66)) (.cells #[.bool false, .int .i64 x.n] 24)
  have b1 : Below w.heap.size w (w.alloc (.cells #[.bool false, .int .i64 0] 24)) := bel_alloc (Below.refl _ _) _
  have h7 := (MapKept.heap_alloc w3 (.cells #[.bool x.num, .int .i64 x.n, .string (st x.text)] 66)).1
  have h9 := (MapKept.heap_alloc (w3.alloc (.cells #[.bool x.num, .int .i64 x.n, .string (st x.text)] 66)) (.cells #[.bool false, .int .i64 x.n] 24)).1
  rw [show (w3.alloc (.cells #[.bool x.num, .int .i64 x.n, .string (st x.text)] 66)).heap.size = w3.heap.size + 1 by simp] at h9
  refine ⟨(ab.block _ (lt_of_heap e2)).trans e2, ((bel_alloc (Below.refl _ _) _).block _ (by simp)).trans h7, h9, hL.later ab, ?_, by omega, by omega, by omega⟩
  have hw2 : Below w.heap.size w w2 := b1.trans (hb.mono (by omega))
  exact bel_call (hw2.trans (hc.below (by omega) (by simp; omega))) ab
theorem held9 {W : World} {b2 b9 : Nat} {u v : Value} (h : W.cell? ⟨b9, 0, none⟩ = some u ∧ W.cell? ⟨b9, 1, none⟩ = some v) (hne : b2 ≠ b9) (x y : Value) :
    ((W.setCell ⟨b2, 0, none⟩ x).setCell ⟨b2, 1, none⟩ y).cell? ⟨b9, 0, none⟩ = some u ∧ ((W.setCell ⟨b2, 0, none⟩ x).setCell ⟨b2, 1, none⟩ y).cell? ⟨b9, 1, none⟩ = some v := by
  refine ⟨?_, ?_⟩
  · rw [World.cell?_setCell_other _ _ _ _ (by simp <;> omega), World.cell?_setCell_other _ _ _ _ (by simp <;> omega)]; exact h.1
  · rw [World.cell?_setCell_other _ _ _ _ (by simp <;> omega), World.cell?_setCell_other _ _ _ _ (by simp <;> omega)]; exact h.2
theorem PS.above {w W W' : World} {b2 b7 b9 lb B Bb : Nat} {x : Itm} {e : Bool} {n : Nat} {rest : List Itm} (h : PS w W b2 b7 b9 lb B x e n rest) (hb : Below Bb W W') (ho : b2 < Bb ∧ b7 < Bb ∧ b9 < Bb ∧ lb < Bb ∧ B ≤ Bb) (hw : w.heap.size ≤ Bb) : PS w W' b2 b7 b9 lb B x e n rest :=
  ⟨(hb.block b2 ho.1).trans h.h2, (hb.block b7 ho.2.1).trans h.h7, (hb.block b9 ho.2.2.1).trans h.h9, h.hL.keep hb.size (fun k hk => hb.block k (by omega)), h.bel.trans (hb.mono hw), h.g, h.ne, h.lo⟩
theorem parse_A {xs : List Itm} (h : (xs.headD zeroI).num = false) : parseI xs = .error 15 := by
  cases xs with
  | nil => rfl
  | cons x r => simp at h; simp [parseI, h]
theorem parse_B {xs : List Itm} (h : (xs.headD zeroI).num = true) (h0 : (xs.headD zeroI).n ≠ 0) : parseI xs = .ok (false, (xs.headD zeroI).n, (xs.tail.map (·.text)).flatten) := by
  cases xs with
  | nil => cases h
  | cons x r => simp at h h0; simp [parseI, h, h0]
theorem parse_C1 {xs : List Itm} (h : (xs.headD zeroI).num = true) (h0 : (xs.headD zeroI).n = 0) (h1 : (xs.tail.headD zeroI).num = false) : parseI xs = .error 15 := by
  cases xs with
  | nil => cases h
  | cons x r =>
    simp at h h0
    cases r with
    | nil => simp [parseI, h, h0]
    | cons y r => simp at h1; simp [parseI, h, h0, h1]
theorem parse_C2 {xs : List Itm} (h : (xs.headD zeroI).num = true) (h0 : (xs.headD zeroI).n = 0) (h1 : (xs.tail.headD zeroI).num = true) : parseI xs = .ok (true, (xs.tail.headD zeroI).n, (xs.tail.tail.map (·.text)).flatten) := by
  cases xs with
  | nil => cases h
  | cons x r =>
    simp at h h0
    cases r with
    | nil => cases h1
    | cons y r => simp at h1; simp [parseI, h, h0, h1]
theorem flat_tail (xs : List Itm) : ((xs.tail.map (·.text)).flatten).length ≤ ((xs.map (·.text)).flatten).length := by
  cases xs with
  | nil => simp
  | cons x r => simp
set_option maxHeartbeats 4000000 in
theorem parse_any (w : World) (l : List UInt8) (hl : l.length ≤ 100000) :
    Calls Tryd.prog 11 #[.string (st l)] w fun e w' => e = .returned (parseV (parseP l)) ∧ Below w.heap.size w w' := by
  have HIt := Lib.hid (fun W => items_any W l hl)
  obtain ⟨R, hR⟩ : ∃ R, parseV (parseP l) = R := ⟨_, rfl⟩
  have HNo := Lib.hid (fun (h : items l = none) => (show R = .tuple #[.agg #[.bool false, .int .i64 0], .string ⟨#[]⟩, .int .i64 14] from by rw [← hR, parseP_items, h]; rfl))
  have HEr := Lib.hid (fun xs (h : items l = some xs) (h2 : parseI xs = .error 15) => (show R = .tuple #[.agg #[.bool false, .int .i64 0], .string ⟨#[]⟩, .int .i64 15] from by rw [← hR, parseP_items, h]; simp only [h2]; rfl))
  have HOk := Lib.hid (fun xs e n t (h : items l = some xs) (h2 : parseI xs = .ok (e, n, t)) => (show R = .tuple #[.agg #[.bool e, .int .i64 n], .string (st t), .int .i64 0] from by rw [← hR, parseP_items, h]; simp only [h2]; rfl))
  have HLen := Lib.hid (fun xs (h : items l = some xs) => (show ((xs.map (·.text)).flatten).length ≤ 100000 from Nat.le_trans (items_len _ l xs h) hl))
  rw [hR]
  clear hR
  go_enter Tryd.func11, Tryd.ntmps11
  go_wp2_with fail
  refine (HIt.out _).mono ?_
  rintro e w2 (⟨hI, rfl, hb⟩ | ⟨xs, lb, hI, rfl, hL, hlb, hb⟩)
  · have hh : w2.heap[w.heap.size]? = some (.cells #[.bool false, .int .i64 0] 24 (0, 0)) := (hb.block _ (by simp)).trans (MapKept.heap_alloc w _).1
    have c0 : w2.cell? ⟨w.heap.size, 0, none⟩ = some (.bool false) := by simp [World.cell?, hh]
    have c1 : w2.cell? ⟨w.heap.size, 1, none⟩ = some (.int .i64 0) := by simp [World.cell?, hh]
    have f0 := Lib.frozen_of_heap hh 0
    have f1 := Lib.frozen_of_heap hh 1
    have HB := Lib.hid (bel_call (bel_alloc (Below.refl w.heap.size w) (.cells #[.bool false, .int .i64 0] 24)) hb)
    have HR := Lib.hid (HNo.out hI)
    have HZ := Lib.hid (res2 (W := w2) (b := w.heap.size) (.bool false) (.int .i64 0) c0 c1)
    clear hh hb hI
    go_wp2_with fail
    obtain ⟨z0, z1⟩ := HZ.out
    refine bodyPost_ret (v := .tuple #[.agg #[.bool false, .int .i64 0], .string ⟨#[]⟩, .int .i64 14]) (by simp [results, Tryd.results11, go_sem, z0, z1]) rfl ⟨by rw [HR.out], bel_set2 HB.out (Nat.le_refl _) _ _⟩
  · obtain ⟨⟨xb, xi, xt⟩, hx⟩ : ∃ x, xs.headD zeroI = x := ⟨_, rfl⟩
    have hT := take_any w2 lb _ xs hL
    rw [hx] at hT
    have HT := Lib.hid (show Calls Tryd.prog 28 #[.pointer (some ⟨lb, 0, none⟩)] w2 fun e w' => e = .returned (.tuple #[.agg #[.bool xb, .int .i64 xi, .string (st xt)], .bool (!xs.isEmpty)]) ∧ ListAt w' lb xs.tail w2.heap.size ∧ Chg w2 w' [lb] from hT)
    have HPS := Lib.hid (fun w3 (hL3 : ListAt w3 lb xs.tail w2.heap.size) (hc : Chg w2 w3 [lb]) => PS.start (x := ⟨xb, xi, xt⟩) hb hlb hc hL3)
    have HX := Lib.hid hx
    have HI := Lib.hid hI
    have HFl := Lib.hid (HLen.out xs hI)
    obtain ⟨bx, hbx⟩ : ∃ bx, (!xs.isEmpty) = bx := ⟨_, rfl⟩
    rw [hbx] at HT
    clear hbx hT hx hI hL hlb hb HIt HNo HLen
    cases xb with
    | false =>
      go_wp2_with fail
      refine HT.out.mono ?_
      rintro e w3 ⟨rfl, hL3, hc3⟩
      have HP := Lib.hid (show PS w ((w3.alloc (.cells #[.bool false, .int .i64 xi, .string (st xt)] 66)).alloc (.cells #[.bool false, .int .i64 xi] 24)) w.heap.size w3.heap.size (w3.heap.size + 1) lb w2.heap.size ⟨false, xi, xt⟩ false xi xs.tail from HPS.out w3 hL3 hc3)
      clear hL3 hc3 HPS
      go_upto_region 6 with fail
      obtain ⟨w5, hw5⟩ : ∃ w5, ((w3.alloc (.cells #[.bool false, .int .i64 xi, .string (st xt)] 66)).alloc (.cells #[.bool false, .int .i64 xi] 24)) = w5 := ⟨_, rfl⟩
      rw [hw5] at HP ⊢
      clear hw5
      obtain ⟨b7, hb7⟩ : ∃ b7, w3.heap.size = b7 := ⟨_, rfl⟩
      rw [hb7] at HP ⊢
      obtain ⟨b9, hb9⟩ : ∃ b9, b7 + 1 = b9 := ⟨_, rfl⟩
      rw [hb9] at HP ⊢
      clear hb7 hb9
      obtain ⟨b2, hb2⟩ : ∃ b2, w.heap.size = b2 := ⟨_, rfl⟩
      obtain ⟨B, hB⟩ : ∃ B, w2.heap.size = B := ⟨_, rfl⟩
      have HP' : PS w w5 b2 b7 b9 lb B ⟨false, xi, xt⟩ false xi xs.tail := by rw [← hb2, ← hB]; exact HP.out
      have HP5 := Lib.hid HP'
      rw [hb2]
      clear HP HP' hb2 hB
      have HR := Lib.hid (HEr.out xs HI.out (parse_A (by rw [HX.out])))
      obtain ⟨⟨k0, k1, k2⟩, -⟩ := HP5.out.c7
      obtain ⟨⟨c0, c1⟩, f0, f1⟩ := HP5.out.c2
      have HZ := Lib.hid (res2 (W := w5) (b := b2) (.bool false) (.int .i64 0) c0 c1)
      go_wp2_with fail
      obtain ⟨z0, z1⟩ := HZ.out
      refine bodyPost_ret (v := .tuple #[.agg #[.bool false, .int .i64 0], .string ⟨#[]⟩, .int .i64 15]) (by simp [results, Tryd.results11, go_sem, z0, z1]) rfl ⟨by rw [HR.out], bel_set2 HP5.out.bel HP5.out.g.1 _ _⟩
    | true =>
      by_cases hxi : xi = 0
      · subst hxi
        go_wp2_with fail
        refine HT.out.mono ?_
        rintro e w3 ⟨rfl, hL3, hc3⟩
        have HP := Lib.hid (show PS w ((w3.alloc (.cells #[.bool true, .int .i64 0, .string (st xt)] 66)).alloc (.cells #[.bool false, .int .i64 0] 24)) w.heap.size w3.heap.size (w3.heap.size + 1) lb w2.heap.size ⟨true, 0, xt⟩ false 0 xs.tail from HPS.out w3 hL3 hc3)
        clear hL3 hc3 HPS
        go_upto_region 6 with fail
        obtain ⟨w5, hw5⟩ : ∃ w5, ((w3.alloc (.cells #[.bool true, .int .i64 0, .string (st xt)] 66)).alloc (.cells #[.bool false, .int .i64 0] 24)) = w5 := ⟨_, rfl⟩
        rw [hw5] at HP ⊢
        clear hw5
        obtain ⟨b7, hb7⟩ : ∃ b7, w3.heap.size = b7 := ⟨_, rfl⟩
        rw [hb7] at HP ⊢
        obtain ⟨b9, hb9⟩ : ∃ b9, b7 + 1 = b9 := ⟨_, rfl⟩
        rw [hb9] at HP ⊢
        clear hb7 hb9
        obtain ⟨b2, hb2⟩ : ∃ b2, w.heap.size = b2 := ⟨_, rfl⟩
        obtain ⟨B, hB⟩ : ∃ B, w2.heap.size = B := ⟨_, rfl⟩
        have HP' : PS w w5 b2 b7 b9 lb B ⟨true, 0, xt⟩ false 0 xs.tail := by rw [← hb2, ← hB]; exact HP.out
        have HP5 := Lib.hid HP'
        rw [hb2]
        clear HP HP' hb2 hB
        obtain ⟨⟨yb, yi, yt⟩, hy⟩ : ∃ y, xs.tail.headD zeroI = y := ⟨_, rfl⟩
        have hT2 := take_any w5 lb B xs.tail HP5.out.hL
        rw [hy] at hT2
        have HT2 := Lib.hid (show Calls Tryd.prog 28 #[.pointer (some ⟨lb, 0, none⟩)] w5 fun e w' => e = .returned (.tuple #[.agg #[.bool yb, .int .i64 yi, .string (st yt)], .bool (!xs.tail.isEmpty)]) ∧ ListAt w' lb xs.tail.tail B ∧ Chg w5 w' [lb] from hT2)
        have HY := Lib.hid hy
        obtain ⟨by', hby⟩ : ∃ by', (!xs.tail.isEmpty) = by' := ⟨_, rfl⟩
        rw [hby] at HT2
        obtain ⟨⟨k0, k1, k2⟩, -⟩ := HP5.out.c7
        clear hT2 hy hby
        go_wp2_with fail
        refine HT2.out.mono ?_
        rintro e w6 ⟨rfl, hL6, hc6⟩
        have hp6 := HP5.out.take hc6 hL6
        have hp7 := hp6.put7 ⟨yb, yi, yt⟩
        have HP8 := Lib.hid (hp7.put9 true yi)
        obtain ⟨⟨a0, a1, a2⟩, a3, a4, a5⟩ := hp6.c7
        obtain ⟨⟨e0, e1, e2⟩, -⟩ := hp7.c7
        obtain ⟨⟨g0, g1⟩, g2, g3⟩ := hp7.c9
        clear hL6 hc6 hp6 hp7 k0 k1 k2 HP5
        go_upto_region 9 with fail
        obtain ⟨w8, hw8⟩ : ∃ w8, (((((w6.setCell ⟨b7, 0, none⟩ (.bool yb)).setCell ⟨b7, 1, none⟩ (.int .i64 yi)).setCell ⟨b7, 2, none⟩ (.string (st yt))).setCell ⟨b9, 0, none⟩ (.bool true)).setCell ⟨b9, 1, none⟩ (.int .i64 yi)) = w8 := ⟨_, rfl⟩
        rw [hw8] at HP8 ⊢
        clear hw8 a0 a1 a2 a3 a4 a5 e0 e1 e2 g0 g1 g2 g3
        obtain ⟨⟨k0, k1, k2⟩, -⟩ := HP8.out.c7
        cases yb with
        | false =>
          have HR := Lib.hid (HEr.out xs HI.out (parse_C1 (by rw [HX.out]) (by rw [HX.out]) (by rw [HY.out])))
          obtain ⟨⟨c0, c1⟩, f0, f1⟩ := HP8.out.c2
          have HZ := Lib.hid (res2 (W := w8) (b := b2) (.bool false) (.int .i64 0) c0 c1)
          go_wp2_with fail
          obtain ⟨z0, z1⟩ := HZ.out
          refine bodyPost_ret (v := .tuple #[.agg #[.bool false, .int .i64 0], .string ⟨#[]⟩, .int .i64 15]) (by simp [results, Tryd.results11, go_sem, z0, z1]) rfl ⟨by rw [HR.out], bel_set2 HP8.out.bel HP8.out.g.1 _ _⟩
        | true =>
          have HR := Lib.hid (HOk.out xs true yi _ HI.out (by have := parse_C2 (xs := xs) (by rw [HX.out]) (by rw [HX.out]) (by rw [HY.out]); rw [HY.out] at this; exact this))
          replace HFl := Lib.hid (Nat.le_trans (flat_tail xs.tail) (Nat.le_trans (flat_tail xs) HFl.out))
          have HO := Lib.hid (show b2 < w8.heap.size ∧ b7 < w8.heap.size ∧ b9 < w8.heap.size ∧ lb < w8.heap.size ∧ B ≤ w8.heap.size from
            ⟨lt_of_heap HP8.out.h2, lt_of_heap HP8.out.h7, lt_of_heap HP8.out.h9, Nat.lt_of_lt_of_le HP8.out.hL.lt HP8.out.hL.bw, HP8.out.hL.bw⟩)
          have HWs := Lib.hid HP8.out.bel.size
          have HPa := Lib.hid (HP8.out.above (bel_alloc (Below.refl _ _) (.cells #[.pointer none, .slice none 0 0] 72)) HO.out HWs.out)
          have HFb := Lib.hid (Lib.fresh_isBuilder 72 5 w8)
          have HSz := Lib.hid (show w8.heap.size ≤ (w8.alloc (.cells #[.pointer none, .slice none 0 0] 72)).heap.size by simp)
          go_wp2_with fail
          obtain ⟨Bb, hBb⟩ : ∃ Bb, w8.heap.size = Bb := ⟨_, rfl⟩
          rw [hBb] at HO HWs HFb HSz ⊢
          clear hBb
          obtain ⟨T, hT⟩ : ∃ T, ((xs.tail.tail).map (·.text)).flatten = T := ⟨_, rfl⟩
          rw [hT] at HR HFl
          have HTt := Lib.hid hT
          clear hT
          go_loopg [12] ((xs.tail.tail).length) (fun k i wr => ∃ (r : List Itm) (acc : List UInt8), r.length = k ∧ acc ++ (r.map (·.text)).flatten = T ∧ PS w wr b2 b7 b9 lb B ⟨true, yi, yt⟩ true yi r ∧ Lib.IsBuilder 72 5 Bb Bb (Lib.byteCells acc) wr ∧ Bb ≤ wr.heap.size)
          case atStart => exact ⟨_, [], rfl, by rw [← HTt.out]; rfl, HPa.out, HFb.out, HSz.out⟩
          case round =>
            obtain ⟨r, acc, hk, hacc, hps, hib, hsz⟩ := hrel
            have HPr := Lib.hid hps
            have HIb := Lib.hid hib
            have Hsz := Lib.hid hsz
            have HAcc := Lib.hid hacc
            have Hk := Lib.hid hk
            have hT := take_any wr lb B r hps.hL
            clear hps hib hsz hacc hk
            cases r with
            | nil =>
              have HT2 := Lib.hid (show Calls Tryd.prog 28 #[.pointer (some ⟨lb, 0, none⟩)] wr fun e w' => e = .returned (.tuple #[.agg #[.bool false, .int .i64 0, .string ⟨#[]⟩], .bool false]) ∧ ListAt w' lb [] B ∧ Chg wr w' [lb] from hT)
              clear hT
              go_wp2_with fail
              refine HT2.out.mono ?_
              rintro e w9 ⟨rfl, hL9, hc9⟩
              have hp9 := HPr.out.take hc9 hL9
              have hbb9 : Bb ≤ w9.heap.size := Nat.le_trans Hsz.out hc9.size
              have hib9 := isB_keep HIb.out (w' := w9) (fun k h1 h2 => hc9.block k h2 (by have := HO.out; simp; omega))
              have hab : Below w9.heap.size w9 (w9.alloc (.cells #[.bool false, .int .i64 0, .string ⟨#[]⟩] 66)) := bel_alloc (Below.refl _ _) _
              have HPx := Lib.hid (show PS w (w9.alloc (.cells #[.bool false, .int .i64 0, .string ⟨#[]⟩] 66)).drew b2 b7 b9 lb B ⟨true, yi, yt⟩ true yi [] from (hp9.above (hab.mono hbb9) HO.out HWs.out).above (bel_drewN (Below.refl Bb _) 1) HO.out HWs.out)
              have HIx := Lib.hid (isB_keep hib9 (w' := (w9.alloc (.cells #[.bool false, .int .i64 0, .string ⟨#[]⟩] 66)).drew) (fun k h1 h2 => hab.block k h2))
              have HSx := Lib.hid (show Bb ≤ (w9.alloc (.cells #[.bool false, .int .i64 0, .string ⟨#[]⟩] 66)).drew.heap.size from Nat.le_trans hbb9 hab.size)
              clear hp9 hib9 hab hbb9 hL9 hc9
              go_wp2_with fail
              obtain ⟨wx, hwx⟩ : ∃ wx, w9.alloc (.cells #[.bool false, .int .i64 0, .string ⟨#[]⟩] 66) = wx := ⟨_, rfl⟩
              rw [hwx] at HPx HIx HSx ⊢
              clear hwx
              have hS1 := HPx.out.c9.1
              refine wp_region_held_drew (S := fun W => W.cell? ⟨b9, 0, none⟩ = some (.bool true) ∧ W.cell? ⟨b9, 1, none⟩ = some (.int .i64 yi)) (by kernel_rfl) hS1 (fun hHeld => ?_)
              clear hS1
              refine wpAnyH_step (i := 0) (d := some 55) (v := ?_) rfl rfl (by kernel_rfl) (by kernel_rfl) (by kernel_rfl) (fun _ _ _ h => h) (Or.inl ⟨by rfl, ?_⟩) (by assumption) ?_
              rotate_left
              · intro w hSw; (try dsimp only at hSw); go_simp; (try with_reducible rfl)
              try simp only [Act.put, List.setIfInBounds_toArray, List.set_cons_zero, List.set_cons_succ]
              refine wpAnyH_ready (rs := [1]) (by kernel_rfl) (by simp) ?_
              refine AllReadyH.cons rfl (fun K hK => ?_) AllReadyH.nil
              go_simp
              refine (builder_string Bb Bb acc _ HIx.out HSx.out).mono ?_
              rintro e w10 ⟨rfl, hb10⟩
              have HP10 := Lib.hid (HPx.out.above hb10 HO.out HWs.out)
              clear hb10
              (try go_wp2_with fail)
              refine hK.out _ _ ?_ (fun hHeld => ?_)
              · exact HP10.out.c9.1
              clear hK K
              try simp only [Act.put, List.setIfInBounds_toArray, List.set_cons_zero, List.set_cons_succ]
              refine wpAnyH_ready (rs := [2]) (by kernel_rfl) (by simp) ?_
              refine AllReadyH.cons rfl (fun K hK => ?_) AllReadyH.nil
              go_simp
              obtain ⟨⟨c0, c1⟩, f0, f1⟩ := HP10.out.c2
              go_simp
              (try go_wp2_with fail)
              refine hK.out _ _ ?_ (fun hHeld => ?_)
              · exact held9 HP10.out.c9.1 HP10.out.ne.2.2.2.2.1 _ _
              clear hK K
              try simp only [Act.put, List.setIfInBounds_toArray, List.set_cons_zero, List.set_cons_succ]
              refine wpAnyH_step (i := 3) (d := some 3) (v := ?_) rfl rfl (by kernel_rfl) (by kernel_rfl) (by kernel_rfl) (fun _ _ _ h => h) (Or.inl ⟨by rfl, ?_⟩) (by assumption) ?_
              rotate_left
              · intro w hSw; (try dsimp only at hSw); go_simp; (try with_reducible rfl)
              try simp only [Act.put, List.setIfInBounds_toArray, List.set_cons_zero, List.set_cons_succ]
              refine wpAnyH_step (i := 4) (d := some 4) (v := ?_) rfl rfl (by kernel_rfl) (by kernel_rfl) (by kernel_rfl) (fun _ _ _ h => h) (Or.inl ⟨by rfl, ?_⟩) (by assumption) ?_
              rotate_left
              · intro w hSw; (try dsimp only at hSw); go_simp; (try with_reducible rfl)
              try simp only [Act.put, List.setIfInBounds_toArray, List.set_cons_zero, List.set_cons_succ]
              refine wpAnyH_done (by kernel_rfl) ?_ _
              obtain ⟨⟨c0, c1⟩, -⟩ := HP10.out.c2
              have HZ := Lib.hid (res2 (W := w10) (b := b2) (.bool true) (.int .i64 yi) c0 c1)
              have HEq := Lib.hid (show acc = T from by have := HAcc.out; simpa using this)
              go_wp2_with fail
              obtain ⟨z0, z1⟩ := HZ.out
              refine bodyPost_ret (v := .tuple #[.agg #[.bool true, .int .i64 yi], .string ⟨acc.toArray⟩, .int .i64 0]) (by simp [results, Tryd.results11, go_sem, z0, z1]) rfl ⟨by rw [HR.out, HEq.out]; rfl, bel_set2 HP10.out.bel HP10.out.g.1 _ _⟩
            | cons y r =>
              have HT2 := Lib.hid (show Calls Tryd.prog 28 #[.pointer (some ⟨lb, 0, none⟩)] wr fun e w' => e = .returned (.tuple #[.agg #[.bool y.num, .int .i64 y.n, .string (st y.text)], .bool true]) ∧ ListAt w' lb r B ∧ Chg wr w' [lb] from hT)
              clear hT
              go_wp2_with fail
              refine HT2.out.mono ?_
              rintro e w9 ⟨rfl, hL9, hc9⟩
              have hp9 := HPr.out.take hc9 hL9
              have hbb9 : Bb ≤ w9.heap.size := Nat.le_trans Hsz.out hc9.size
              have hib9 := isB_keep HIb.out (w' := w9) (fun k h1 h2 => hc9.block k h2 (by have := HO.out; simp; omega))
              have hab : Below w9.heap.size w9 (w9.alloc (.cells #[.bool y.num, .int .i64 y.n, .string (st y.text)] 66)) := bel_alloc (Below.refl _ _) _
              have HPx := Lib.hid (hp9.above (hab.mono hbb9) HO.out HWs.out)
              have HSx := Lib.hid (Nat.le_trans hbb9 hab.size)
              have HWr := Lib.hid (builder_write Bb Bb _ (st y.text) _ (isB_keep hib9 (w' := w9.alloc (.cells #[.bool y.num, .int .i64 y.n, .string (st y.text)] 66)) (fun k h1 h2 => hab.block k h2)) (by
                have h1 := HAcc.out
                have h2 := HFl.out
                rw [← h1] at h2
                simp at h2
                rw [st_size, Lib.byteCells_length]
                omega) (Nat.le_trans hbb9 hab.size))
              clear hp9 hib9 hab hbb9 hL9 hc9
              go_wp2_with fail
              refine HWr.out.mono ?_
              rintro e w10 ⟨rfl, hib10, hb10⟩
              have HI10 := Lib.hid hib10
              have HP10 := Lib.hid (HPx.out.above hb10 HO.out HWs.out)
              have HS10 := Lib.hid (Nat.le_trans HSx.out hb10.size)
              clear hib10 hb10
              go_wp2_with fail
              go_roundg (r.length)
              case measure => have := Hk.out; simp at this; omega
              case rel => exact ⟨r, acc ++ y.text, rfl, by have := HAcc.out; simpa using this, HP10.out, by have := HI10.out; rw [show Lib.byteCells (acc ++ y.text) = Lib.byteCells acc ++ Lib.strCells (st y.text) from by simp [Lib.byteCells, Lib.strCells, st_list]]; exact this, HS10.out⟩
      · have hx1 : ¬ (xi : Int) = 0 := by omega
        have hx2 : ((xi : Int) == 0) = false := by simp; omega
        go_wp2_with fail
        refine HT.out.mono ?_
        rintro e w3 ⟨rfl, hL3, hc3⟩
        have HP := Lib.hid (show PS w ((w3.alloc (.cells #[.bool true, .int .i64 xi, .string (st xt)] 66)).alloc (.cells #[.bool false, .int .i64 xi] 24)) w.heap.size w3.heap.size (w3.heap.size + 1) lb w2.heap.size ⟨true, xi, xt⟩ false xi xs.tail from HPS.out w3 hL3 hc3)
        clear hL3 hc3 HPS
        go_upto_region 6 with fail
        obtain ⟨w5, hw5⟩ : ∃ w5, ((w3.alloc (.cells #[.bool true, .int .i64 xi, .string (st xt)] 66)).alloc (.cells #[.bool false, .int .i64 xi] 24)) = w5 := ⟨_, rfl⟩
        rw [hw5] at HP ⊢
        clear hw5
        obtain ⟨b7, hb7⟩ : ∃ b7, w3.heap.size = b7 := ⟨_, rfl⟩
        rw [hb7] at HP ⊢
        obtain ⟨b9, hb9⟩ : ∃ b9, b7 + 1 = b9 := ⟨_, rfl⟩
        rw [hb9] at HP ⊢
        clear hb7 hb9
        obtain ⟨b2, hb2⟩ : ∃ b2, w.heap.size = b2 := ⟨_, rfl⟩
        obtain ⟨B, hB⟩ : ∃ B, w2.heap.size = B := ⟨_, rfl⟩
        have HP' : PS w w5 b2 b7 b9 lb B ⟨true, xi, xt⟩ false xi xs.tail := by rw [← hb2, ← hB]; exact HP.out
        have HP5 := Lib.hid HP'
        rw [hb2]
        clear HP HP' hb2 hB
        have HR := Lib.hid (HOk.out xs false xi _ HI.out (by have := parse_B (xs := xs) (by rw [HX.out]) (by rw [HX.out]; exact hxi); rw [HX.out] at this; exact this))
        replace HFl := Lib.hid (Nat.le_trans (flat_tail xs) HFl.out)
        obtain ⟨⟨k0, k1, k2⟩, -⟩ := HP5.out.c7
        have HO := Lib.hid (show b2 < w5.heap.size ∧ b7 < w5.heap.size ∧ b9 < w5.heap.size ∧ lb < w5.heap.size ∧ B ≤ w5.heap.size from
          ⟨lt_of_heap HP5.out.h2, lt_of_heap HP5.out.h7, lt_of_heap HP5.out.h9, Nat.lt_of_lt_of_le HP5.out.hL.lt HP5.out.hL.bw, HP5.out.hL.bw⟩)
        have HWs := Lib.hid HP5.out.bel.size
        have HPa := Lib.hid (HP5.out.above (bel_alloc (Below.refl _ _) (.cells #[.pointer none, .slice none 0 0] 72)) HO.out HWs.out)
        have HFb := Lib.hid (Lib.fresh_isBuilder 72 5 w5)
        have HSz := Lib.hid (show w5.heap.size ≤ (w5.alloc (.cells #[.pointer none, .slice none 0 0] 72)).heap.size by simp)
        go_wp2_with fail
        obtain ⟨Bb, hBb⟩ : ∃ Bb, w5.heap.size = Bb := ⟨_, rfl⟩
        rw [hBb] at HO HWs HFb HSz ⊢
        clear hBb
        obtain ⟨T, hT⟩ : ∃ T, ((xs.tail).map (·.text)).flatten = T := ⟨_, rfl⟩
        rw [hT] at HR HFl
        have HTt := Lib.hid hT
        clear hT
        go_loopg [12] ((xs.tail).length) (fun k i wr => ∃ (r : List Itm) (acc : List UInt8), r.length = k ∧ acc ++ (r.map (·.text)).flatten = T ∧ PS w wr b2 b7 b9 lb B ⟨true, xi, xt⟩ false xi r ∧ Lib.IsBuilder 72 5 Bb Bb (Lib.byteCells acc) wr ∧ Bb ≤ wr.heap.size)
        case atStart => exact ⟨_, [], rfl, by rw [← HTt.out]; rfl, HPa.out, HFb.out, HSz.out⟩
        case round =>
          obtain ⟨r, acc, hk, hacc, hps, hib, hsz⟩ := hrel
          have HPr := Lib.hid hps
          have HIb := Lib.hid hib
          have Hsz := Lib.hid hsz
          have HAcc := Lib.hid hacc
          have Hk := Lib.hid hk
          have hT := take_any wr lb B r hps.hL
          clear hps hib hsz hacc hk
          cases r with
          | nil =>
            have HT2 := Lib.hid (show Calls Tryd.prog 28 #[.pointer (some ⟨lb, 0, none⟩)] wr fun e w' => e = .returned (.tuple #[.agg #[.bool false, .int .i64 0, .string ⟨#[]⟩], .bool false]) ∧ ListAt w' lb [] B ∧ Chg wr w' [lb] from hT)
            clear hT
            go_wp2_with fail
            refine HT2.out.mono ?_
            rintro e w9 ⟨rfl, hL9, hc9⟩
            have hp9 := HPr.out.take hc9 hL9
            have hbb9 : Bb ≤ w9.heap.size := Nat.le_trans Hsz.out hc9.size
            have hib9 := isB_keep HIb.out (w' := w9) (fun k h1 h2 => hc9.block k h2 (by have := HO.out; simp; omega))
            have hab : Below w9.heap.size w9 (w9.alloc (.cells #[.bool false, .int .i64 0, .string ⟨#[]⟩] 66)) := bel_alloc (Below.refl _ _) _
            have HPx := Lib.hid (show PS w (w9.alloc (.cells #[.bool false, .int .i64 0, .string ⟨#[]⟩] 66)).drew b2 b7 b9 lb B ⟨true, xi, xt⟩ false xi [] from (hp9.above (hab.mono hbb9) HO.out HWs.out).above (bel_drewN (Below.refl Bb _) 1) HO.out HWs.out)
            have HIx := Lib.hid (isB_keep hib9 (w' := (w9.alloc (.cells #[.bool false, .int .i64 0, .string ⟨#[]⟩] 66)).drew) (fun k h1 h2 => hab.block k h2))
            have HSx := Lib.hid (show Bb ≤ (w9.alloc (.cells #[.bool false, .int .i64 0, .string ⟨#[]⟩] 66)).drew.heap.size from Nat.le_trans hbb9 hab.size)
            clear hp9 hib9 hab hbb9 hL9 hc9
            go_wp2_with fail
            obtain ⟨wx, hwx⟩ : ∃ wx, w9.alloc (.cells #[.bool false, .int .i64 0, .string ⟨#[]⟩] 66) = wx := ⟨_, rfl⟩
            rw [hwx] at HPx HIx HSx ⊢
            clear hwx
            have hS1 := HPx.out.c9.1
            refine wp_region_held_drew (S := fun W => W.cell? ⟨b9, 0, none⟩ = some (.bool false) ∧ W.cell? ⟨b9, 1, none⟩ = some (.int .i64 xi)) (by kernel_rfl) hS1 (fun hHeld => ?_)
            clear hS1
            refine wpAnyH_step (i := 0) (d := some 55) (v := ?_) rfl rfl (by kernel_rfl) (by kernel_rfl) (by kernel_rfl) (fun _ _ _ h => h) (Or.inl ⟨by rfl, ?_⟩) (by assumption) ?_
            rotate_left
            · intro w hSw; (try dsimp only at hSw); go_simp; (try with_reducible rfl)
            try simp only [Act.put, List.setIfInBounds_toArray, List.set_cons_zero, List.set_cons_succ]
            refine wpAnyH_ready (rs := [1]) (by kernel_rfl) (by simp) ?_
            refine AllReadyH.cons rfl (fun K hK => ?_) AllReadyH.nil
            go_simp
            refine (builder_string Bb Bb acc _ HIx.out HSx.out).mono ?_
            rintro e w10 ⟨rfl, hb10⟩
            have HP10 := Lib.hid (HPx.out.above hb10 HO.out HWs.out)
            clear hb10
            (try go_wp2_with fail)
            refine hK.out _ _ ?_ (fun hHeld => ?_)
            · exact HP10.out.c9.1
            clear hK K
            try simp only [Act.put, List.setIfInBounds_toArray, List.set_cons_zero, List.set_cons_succ]
            refine wpAnyH_ready (rs := [2]) (by kernel_rfl) (by simp) ?_
            refine AllReadyH.cons rfl (fun K hK => ?_) AllReadyH.nil
            go_simp
            obtain ⟨⟨c0, c1⟩, f0, f1⟩ := HP10.out.c2
            go_simp
            (try go_wp2_with fail)
            refine hK.out _ _ ?_ (fun hHeld => ?_)
            · exact held9 HP10.out.c9.1 HP10.out.ne.2.2.2.2.1 _ _
            clear hK K
            try simp only [Act.put, List.setIfInBounds_toArray, List.set_cons_zero, List.set_cons_succ]
            refine wpAnyH_step (i := 3) (d := some 3) (v := ?_) rfl rfl (by kernel_rfl) (by kernel_rfl) (by kernel_rfl) (fun _ _ _ h => h) (Or.inl ⟨by rfl, ?_⟩) (by assumption) ?_
            rotate_left
            · intro w hSw; (try dsimp only at hSw); go_simp; (try with_reducible rfl)
            try simp only [Act.put, List.setIfInBounds_toArray, List.set_cons_zero, List.set_cons_succ]
            refine wpAnyH_step (i := 4) (d := some 4) (v := ?_) rfl rfl (by kernel_rfl) (by kernel_rfl) (by kernel_rfl) (fun _ _ _ h => h) (Or.inl ⟨by rfl, ?_⟩) (by assumption) ?_
            rotate_left
            · intro w hSw; (try dsimp only at hSw); go_simp; (try with_reducible rfl)
            try simp only [Act.put, List.setIfInBounds_toArray, List.set_cons_zero, List.set_cons_succ]
            refine wpAnyH_done (by kernel_rfl) ?_ _
            obtain ⟨⟨c0, c1⟩, -⟩ := HP10.out.c2
            have HZ := Lib.hid (res2 (W := w10) (b := b2) (.bool false) (.int .i64 xi) c0 c1)
            have HEq := Lib.hid (show acc = T from by have := HAcc.out; simpa using this)
            go_wp2_with fail
            obtain ⟨z0, z1⟩ := HZ.out
            refine bodyPost_ret (v := .tuple #[.agg #[.bool false, .int .i64 xi], .string ⟨acc.toArray⟩, .int .i64 0]) (by simp [results, Tryd.results11, go_sem, z0, z1]) rfl ⟨by rw [HR.out, HEq.out]; rfl, bel_set2 HP10.out.bel HP10.out.g.1 _ _⟩
          | cons y r =>
            have HT2 := Lib.hid (show Calls Tryd.prog 28 #[.pointer (some ⟨lb, 0, none⟩)] wr fun e w' => e = .returned (.tuple #[.agg #[.bool y.num, .int .i64 y.n, .string (st y.text)], .bool true]) ∧ ListAt w' lb r B ∧ Chg wr w' [lb] from hT)
            clear hT
            go_wp2_with fail
            refine HT2.out.mono ?_
            rintro e w9 ⟨rfl, hL9, hc9⟩
            have hp9 := HPr.out.take hc9 hL9
            have hbb9 : Bb ≤ w9.heap.size := Nat.le_trans Hsz.out hc9.size
            have hib9 := isB_keep HIb.out (w' := w9) (fun k h1 h2 => hc9.block k h2 (by have := HO.out; simp; omega))
            have hab : Below w9.heap.size w9 (w9.alloc (.cells #[.bool y.num, .int .i64 y.n, .string (st y.text)] 66)) := bel_alloc (Below.refl _ _) _
            have HPx := Lib.hid (hp9.above (hab.mono hbb9) HO.out HWs.out)
            have HSx := Lib.hid (Nat.le_trans hbb9 hab.size)
            have HWr := Lib.hid (builder_write Bb Bb _ (st y.text) _ (isB_keep hib9 (w' := w9.alloc (.cells #[.bool y.num, .int .i64 y.n, .string (st y.text)] 66)) (fun k h1 h2 => hab.block k h2)) (by
              have h1 := HAcc.out
              have h2 := HFl.out
              rw [← h1] at h2
              simp at h2
              rw [st_size, Lib.byteCells_length]
              omega) (Nat.le_trans hbb9 hab.size))
            clear hp9 hib9 hab hbb9 hL9 hc9
            go_wp2_with fail
            refine HWr.out.mono ?_
            rintro e w10 ⟨rfl, hib10, hb10⟩
            have HI10 := Lib.hid hib10
            have HP10 := Lib.hid (HPx.out.above hb10 HO.out HWs.out)
            have HS10 := Lib.hid (Nat.le_trans HSx.out hb10.size)
            clear hib10 hb10
            go_wp2_with fail
            go_roundg (r.length)
            case measure => have := Hk.out; simp at this; omega
            case rel => exact ⟨r, acc ++ y.text, rfl, by have := HAcc.out; simpa using this, HP10.out, by have := HI10.out; rw [show Lib.byteCells (acc ++ y.text) = Lib.byteCells acc ++ Lib.strCells (st y.text) from by simp [Lib.byteCells, Lib.strCells, st_list]]; exact this, HS10.out⟩
end Go.Proofs.YtnfpfpppnfighaaDoor
