/- TopLooks and TopSends, helper 1 of 27. It holds: what stays of a world ('Kept K'), and the first helpers; Top, plain: the attributes and glyphs of a Wyse 60; walk's functions, and grid's May; walk's Behind, Index, Of; the grid in memory; Size, there, At. Each theorem states its own conditions. -/
import Derived.RowKit3
import Derived.Below
import Derived.Laws.AppendOwn
import Derived.Lib.Hide
import Derived.Deep.Draws
import Derived.Test.YtpjooboohelffaaGreatDoorProg
import Derived.WalkKit
import Derived.WalkSpells
import Derived.WalkLawsBesides
import Derived.Deep.QuietTactic
import Derived.BigQuiet
import Derived.Deep.RegionHeld3
/- Top: what stays of a world ('Kept K'), and the first helpers. -/
namespace Go.Proofs.YtpjooboohelffaaGreatDoor
open Go.RowKit
set_option linter.unusedVariables false
set_option linter.unusedSimpArgs false
/-- The blocks of K are as they were; no block is gone. -/
structure Kept (K : Nat → Prop) (w w' : World) : Prop where
 os : w'.os = w.os
 tape : w'.tape = w.tape
 output : w'.output = w.output
 size : w.heap.size ≤ w'.heap.size
 block : ∀ k, K k → w'.heap[k]? = w.heap[k]?
/-- The blocks of K are there. -/
def KB (K : Nat → Prop) (w : World) : Prop := ∀ k, K k → k < w.heap.size
section
variable {K K' : Nat → Prop} {w w1 w2 : World}
theorem Kept.refl (K : Nat → Prop) (w : World) : Kept K w w := ⟨rfl, rfl, rfl, Nat.le_refl _, fun _ _ => rfl⟩
theorem Kept.trans (h : Kept K w w1) (k : Kept K w1 w2) : Kept K w w2 :=
 ⟨k.os.trans h.os, k.tape.trans h.tape, k.output.trans h.output, Nat.le_trans h.size k.size, fun i hi => (k.block i hi).trans (h.block i hi)⟩
theorem Kept.less (h : Kept K w w1) (hs : ∀ k, K' k → K k) : Kept K' w w1 := ⟨h.os, h.tape, h.output, h.size, fun i hi => h.block i (hs i hi)⟩
theorem Kept.ofBelow (h : Below w.heap.size w w1) (hK : KB K w) : Kept K w w1 := ⟨h.os, h.tape, h.output, h.size, fun i hi => h.block i (hK i hi)⟩
theorem Kept.below {B : Nat} (h : Kept (fun k => k < B) w w1) : Below B w w1 := ⟨h.os, h.tape, h.output, h.size, fun i hi => h.block i hi⟩
theorem KB.later (h : KB K w) (k : Kept K' w w1) : KB K w1 := fun i hi => Nat.lt_of_lt_of_le (h i hi) k.size
theorem KB.more (h : KB K w) (hs : w.heap.size ≤ w1.heap.size) : KB K w1 := fun i hi => Nat.lt_of_lt_of_le (h i hi) hs
theorem Kept.drew (h : Kept K w w1) : Kept K w w1.drew := ⟨h.os, h.tape, h.output, h.size, h.block⟩
theorem Kept.drewN (h : Kept K w w1) (n : Nat) : Kept K w (w1.drewN n) := ⟨h.os, h.tape, h.output, h.size, h.block⟩
theorem Kept.call (h : Kept K w w1) (hK : KB K w) (k : Below w1.heap.size w1 w2) : Kept K w w2 := h.trans (Kept.ofBelow k (hK.later h))
theorem Kept.alloc (h : Kept K w w1) (hK : KB K w) (o : Obj) : Kept K w (w1.alloc o) := h.call hK ((Below.refl _ _).alloc (Nat.le_refl _) o)
theorem Kept.set (h : Kept K w w1) {p : Addr} (hp : ¬ K p.block) (u : Value) : Kept K w (w1.setCell p u) :=
 h.trans ⟨rfl, rfl, rfl, by simp [World.setCell], fun k hk => Below.heap_setCell _ _ _ _ (fun e => hp (e ▸ hk))⟩
theorem Kept.grown {row : Option Nat} (h : Kept K w w1) (hg : w1.grownBy w2 row) (hK : KB K w) (hr : ∀ k, row = some k → ¬ K k) : Kept K w w2 :=
 h.trans ⟨hg.os, hg.tape, hg.output, hg.size, fun k hk => hg.block k (Nat.lt_of_lt_of_le (hK k hk) h.size) (fun e => hr k e.symm hk)⟩
theorem Kept.cell (h : Kept K w w1) {b o : Nat} {v : Value} (hb : K b) (hc : w.cell? ⟨b, o, none⟩ = some v) : w1.cell? ⟨b, o, none⟩ = some v :=
 (World.cell?_of_block (a := ⟨b, o, none⟩) (h.block b hb)).trans hc
theorem Kept.cells (h : Kept K w w1) {b : Nat} (hb : K b) : (∀ o, w1.cell? ⟨b, o, none⟩ = w.cell? ⟨b, o, none⟩) ∧ (∀ o, w1.frozen? ⟨b, o, none⟩ = w.frozen? ⟨b, o, none⟩) :=
 ⟨fun o => World.cell?_of_block (a := ⟨b, o, none⟩) (h.block b hb), fun o => World.frozen?_of_block (a := ⟨b, o, none⟩) (h.block b hb)⟩
end
theorem bel_alloc {w W : World} (h : Below w.heap.size w W) (o : Obj) : Below w.heap.size w (W.alloc o) := h.alloc h.size o
theorem bel_call {w W W' : World} (h : Below w.heap.size w W) (k : Below W.heap.size W W') : Below w.heap.size w W' := h.trans (k.mono h.size)
theorem bel_set {w W : World} (h : Below w.heap.size w W) {p : Addr} (hp : w.heap.size ≤ p.block) (u : Value) : Below w.heap.size w (W.setCell p u) := h.setCell hp u
theorem bel_drewN {B : Nat} {a w : World} (h : Below B a w) (n : Nat) : Below B a (w.drewN n) := ⟨h.os, h.tape, h.output, h.size, h.block⟩
theorem cellB {W W' : World} (hb : Below W.heap.size W W') {b o : Nat} {v : Value} (h : W.cell? ⟨b, o, none⟩ = some v) : W'.cell? ⟨b, o, none⟩ = some v :=
 (hb.cell (p := ⟨b, o, none⟩) (World.block_lt_of_cell? W ⟨b, o, none⟩ h)).trans h

/-- A block of n cells. -/
def Blk (W : World) (b n : Nat) : Prop := ∃ cs t, W.heap[b]? = some (.cells cs t (0, 0)) ∧ cs.size = n
theorem Blk.get {W : World} {b n : Nat} (h : Blk W b n) (o : Nat) (ho : o < n) : ∃ v, W.cell? ⟨b, o, none⟩ = some v ∧ W.frozen? ⟨b, o, none⟩ = false := by
 obtain ⟨cs, t, hh, hs⟩ := h
 refine ⟨cs[o], ?_, ?_⟩
 ·simp [World.cell?, hh, hs, ho]
 ·simp [World.frozen?, hh]
theorem Blk.lt {W : World} {b n : Nat} (h : Blk W b n) : b < W.heap.size := by
 obtain ⟨cs, t, hh, hs⟩ := h
 exact (Array.getElem?_eq_some_iff.1 hh).1
theorem Blk.to {W W' : World} {b n : Nat} (h : Blk W b n) (hb : W'.heap[b]? = W.heap[b]?) : Blk W' b n := by
 obtain ⟨cs, t, hh, hs⟩ := h
 exact ⟨cs, t, hb.trans hh, hs⟩
theorem Blk.set {W : World} {b n : Nat} (h : Blk W b n) (p : Addr) (v : Value) : Blk (W.setCell p v) b n := by
 by_cases hp : b = p.block
 ·obtain ⟨cs, t, hh, hs⟩ := h
  subst hp
  refine ⟨if p.spot.isSome = true then cs else cs.setIfInBounds p.off v, t, ?_, by split <;> simp [hs]⟩
  simp only [World.setCell, Array.getElem?_modify, if_true, hh]
  rfl
 ·exact h.to (Below.heap_setCell _ _ _ _ hp)
theorem Blk.later {W W' : World} {b n : Nat} (h : Blk W b n) (hb : Below W.heap.size W W') : Blk W' b n := h.to (hb.block b h.lt)
theorem Blk.new {W : World} {cs : Array Value} {t : TypeId} {b n : Nat} (hb : b = W.heap.size) (hn : cs.size = n) : Blk (W.alloc (.cells cs t)) b n := by
 subst hb; subst hn
 exact ⟨cs, t, heap_alloc_new W _, rfl⟩
theorem Blk.alloc {W : World} {b n : Nat} (h : Blk W b n) (o : Obj) : Blk (W.alloc o) b n := h.later (bel_alloc (Below.refl _ _) o)
/-- .. of cells of a type. -/
def BlkT (W : World) (b n : Nat) (t : TypeId) : Prop := ∃ cs, W.heap[b]? = some (.cells cs t (0, 0)) ∧ cs.size = n
theorem BlkT.blk {W : World} {b n : Nat} {t : TypeId} (h : BlkT W b n t) : Blk W b n := h.elim fun cs h => ⟨cs, t, h⟩
theorem BlkT.to {W W' : World} {b n : Nat} {t : TypeId} (h : BlkT W b n t) (hb : W'.heap[b]? = W.heap[b]?) : BlkT W' b n t := h.elim fun cs h => ⟨cs, hb.trans h.1, h.2⟩
theorem BlkT.later {W W' : World} {b n : Nat} {t : TypeId} (h : BlkT W b n t) (hb : Below W.heap.size W W') : BlkT W' b n t := h.to (hb.block b h.blk.lt)
theorem BlkT.set {W : World} {b n : Nat} {t : TypeId} (h : BlkT W b n t) (p : Addr) (v : Value) : BlkT (W.setCell p v) b n t := by
 by_cases hp : b = p.block
 ·obtain ⟨cs, hh, hs⟩ := h
  subst hp
  refine ⟨if p.spot.isSome = true then cs else cs.setIfInBounds p.off v, ?_, by split <;> simp [hs]⟩
  simp only [World.setCell, Array.getElem?_modify, if_true, hh]
  rfl
 ·exact h.to (Below.heap_setCell _ _ _ _ hp)
theorem BlkT.ne {W : World} {b b' n n' : Nat} {t t' : TypeId} (h : BlkT W b n t) (h' : BlkT W b' n' t') (ht : t ≠ t') : b ≠ b' := by
 rintro rfl
 obtain ⟨cs, h1, _⟩ := h
 obtain ⟨cs', h2, _⟩ := h'
 rw [h1] at h2
 cases h2
 exact ht rfl
theorem cs_other {W : World} {b o : Nat} {v : Value} (h : W.cell? ⟨b, o, none⟩ = some v) {p : Addr} {u : Value} (hne : p.block ≠ b) : (W.setCell p u).cell? ⟨b, o, none⟩ = some v :=
 (World.cell?_of_block (a := ⟨b, o, none⟩) (Below.heap_setCell _ _ _ _ (fun e => hne e.symm))).trans h
theorem gen_calls {P : Program} {f : FuncId} {args : Array Value} {R : Ending → World → Prop} {w0 : World} (h : ∀ u, u = w0 → Calls P f args u R) : Calls P f args w0 R := h _ rfl
theorem gen_wp {P : Program} {c : Code} {Q : Exit → Act → World → Prop} {a : Act} {w0 : World} (h : ∀ u, u = w0 → Code.wp P c Q a u) : Code.wp P c Q a w0 := h _ rfl
end Go.Proofs.YtpjooboohelffaaGreatDoor
/- Top, plain: the attributes and glyphs of a Wyse 60. -/
namespace Go.Proofs.YtpjooboohelffaaGreatDoor
open Go.RowKit
set_option linter.unusedVariables false
set_option linter.unusedSimpArgs false
/-- A cell. -/
structure Cl where
 g : Int
 a : Int
 d : Bool
 m : Int
def Cl.v (c : Cl) : Value := .agg #[.int .i32 c.g, .int .i64 c.a, .bool c.d, .int .i64 c.m]
def Cl.cs (c : Cl) : List Value := [.int .i32 c.g, .int .i64 c.a, .bool c.d, .int .i64 c.m]
/-- The attributes of a Wyse 60. -/
def wattrs : List Int := (List.range 32).map fun (n : Nat) => 2 * (n : Int)
def WAttr (a : Int) : Prop := a ∈ wattrs
instance (a : Int) : Decidable (WAttr a) := by unfold WAttr; infer_instance
def orI (a b : Int) : Int := IntKind.i64.wrap (BitVec.ofInt 64 a ||| BitVec.ofInt 64 b).toNat
theorem or_wattrs : ∀ a ∈ wattrs, ∀ b ∈ wattrs, orI a b ∈ wattrs := by decide +kernel
theorem WAttr.or {a b : Int} (ha : WAttr a) (hb : WAttr b) : WAttr (orI a b) := or_wattrs a ha b hb
theorem WAttr.bd {a : Int} (h : WAttr a) : 0 ≤ a ∧ a ≤ 62 := (by decide +kernel : ∀ a ∈ wattrs, 0 ≤ a ∧ a ≤ 62) a h
theorem WAttr.zero : WAttr 0 := by decide +kernel
/-- The tables of the glyphs: of Ascii, and of a Wyse 60's graphics. -/
def asciiT (i : Nat) : Int := if 32 ≤ i ∧ i ≤ 126 then (i : Int) else 65533
def wyseL : List Int := [9516, 9492, 9484, 9488, 9500, 9496, 9474, 9608, 9532, 9508, 9472, 9618, 9552, 9524, 9553, 9617]
def wyseT (i : Nat) : Int := if 48 ≤ i then wyseL.getD (i - 48) (asciiT i) else asciiT i
def tabT (set : Int) : Nat → Int := if set = 4 then wyseT else asciiT
/-- A glyph of the sets of a Wyse 60. -/
def gets (T : Nat → Int) (n : Nat) (g : Int) : Option Nat := (List.range n).find? fun b => decide (T b ≠ 65533) && decide (T b = g)
def WGlyph (g : Int) : Prop := (gets asciiT 256 g).isSome = true ∨ (gets wyseT 256 g).isSome = true
theorem wglyph_of {set : Int} (hs : set = 1 ∨ set = 4) {b : Nat} (h1 : 32 ≤ b) (h2 : b ≤ 126) : WGlyph (tabT set b) := by
 have k1 : ∀ b, b < 127 → 32 ≤ b → (gets asciiT 256 (asciiT b)).isSome = true := by decide +kernel
 have k2 : ∀ b, b < 127 → 32 ≤ b → (gets wyseT 256 (wyseT b)).isSome = true := by decide +kernel
 rcases hs with rfl | rfl
 ·exact .inl (k1 b (by omega) h1)
 ·exact .inr (k2 b (by omega) h1)
/-- Bytes of glyphs are bytes that are shown. -/
theorem gets_shown {T : Nat → Int} (hT : T = asciiT ∨ T = wyseT) {g : Int} {b : Nat} (h : gets T 256 g = some b) : 32 ≤ b ∧ b ≤ 126 := by
 have h1 := List.find?_some h
 have h2 := List.mem_of_find?_eq_some h
 have h3 : b < 256 := by simpa using h2
 have h4 : T b ≠ 65533 := by simp at h1; exact h1.1
 have k1 : ∀ b, b < 256 → asciiT b ≠ 65533 → 32 ≤ b ∧ b ≤ 126 := by decide +kernel
 have k2 : ∀ b, b < 256 → wyseT b ≠ 65533 → 32 ≤ b ∧ b ≤ 126 := by decide +kernel
 rcases hT with rfl | rfl
 ·exact k1 b h3 h4
 ·exact k2 b h3 h4
/-- A mark: none, or attributes of a Wyse 60, and one. -/
def WMark (m : Int) : Prop := m = 0 ∨ WAttr (m - 1)
/-- A cell of a Wyse 60. -/
structure WCell (c : Cl) : Prop where
 g : WGlyph c.g
 a : WAttr c.a
 m : WMark c.m
def blankC : Cl := ⟨32, 0, false, 0⟩
theorem wglyph32 : WGlyph 32 := by unfold WGlyph; decide +kernel
theorem wcell_blank : WCell blankC := ⟨wglyph32, WAttr.zero, .inl rfl⟩
end Go.Proofs.YtpjooboohelffaaGreatDoor
/- Top: walk's functions, and grid's May. -/
namespace Go.Proofs.YtpjooboohelffaaGreatDoor
open Go.RowKit
set_option linter.unusedVariables false
set_option linter.unusedSimpArgs false
set_option maxRecDepth 100000
/-- An operation that reads, or is not wanted, taken first; the slot that it writes is named. -/
theorem wpAnyH_step {P : Program} {ops : Array Oper} {Q : Exit → Act → World → Prop} {md : Region.Mode} {S : World → Prop} {i : Nat} {oi : Oper} {d : Option Tmp} {v : Value} {fuel : Nat} {listed : Array Bool} {a : Act} {w : World} (hi : ops[i]? = some oi) (hd : oi.dst = d)
  (hs : Region.noSelect ops = true) (hf : Region.free md ops listed i = true) (hr : (Region.ready md ops listed).contains i = true)
  (hQ : ∀ c a w, Q (.panic c) (a.put d v) w → Q (.panic c) a w) (hy : YieldsIf P ops S oi v a) (hS : S w)
  (h : wpAnyH P md ops Q S fuel (listed.setIfInBounds i true) (a.put d v) w) : wpAnyH P md ops Q S (fuel + 1) listed a w := by
 subst hd
 exact wpAnyH_take hi hs hf hr hQ hy hS h
/-- .. in short. -/
theorem sY {P : Program} {ops : Array Oper} {Q : Exit → Act → World → Prop} {md : Region.Mode} {S : World → Prop} (i : Nat) (d : Tmp) {oi : Oper} {v : Value} {fuel : Nat} {listed : Array Bool} {l l' : List Value} {ds : List Deferred} {w : World}
  (h : wpAnyH P md ops Q S fuel (listed.setIfInBounds i true) ⟨l'.toArray, ds⟩ w)
  (hi : ops[i]? = some oi := by rfl) (hd : oi.dst = some d := by rfl)
  (hs : Region.noSelect ops = true := by kernel_rfl) (hf : Region.free md ops listed i = true := by kernel_rfl) (hr : (Region.ready md ops listed).contains i = true := by kernel_rfl)
  (hQ : ∀ c a w, Q (.panic c) (a.put (some d) v) w → Q (.panic c) a w := by exact fun _ _ _ h => h)
  (hg : Region.wanted oi (yielded ops l.toArray) = true := by rfl)
  (hy : ∀ w, S w → (execOp (Act.eval ⟨l.toArray, ds⟩) oi).run P w = .ok (.value v) w := by intro w hSw; (try dsimp only at hSw); go_simp; (try with_reducible rfl))
  (hS : S w := by assumption)
  (hl : l.set d v = l' := by simp only [List.set_cons_zero, List.set_cons_succ]; rfl) :
  wpAnyH P md ops Q S (fuel + 1) listed ⟨l.toArray, ds⟩ w := by
 subst hl
 refine wpAnyH_step hi hd hs hf hr hQ (Or.inl ⟨hg, hy⟩) hS ?_
 have e : Act.put ⟨l.toArray, ds⟩ (some d) v = ⟨(l.set d v).toArray, ds⟩ := by
  show (⟨l.toArray.setIfInBounds d v, ds⟩ : Act) = _
  rw [List.setIfInBounds_toArray]
 rw [e]
 exact h
theorem sU {P : Program} {ops : Array Oper} {Q : Exit → Act → World → Prop} {md : Region.Mode} {S : World → Prop} (i : Nat) (d : Tmp) {oi : Oper} {fuel : Nat} {listed : Array Bool} {l l' : List Value} {ds : List Deferred} {w : World}
  (h : wpAnyH P md ops Q S fuel (listed.setIfInBounds i true) ⟨l'.toArray, ds⟩ w)
  (hi : ops[i]? = some oi := by rfl) (hd : oi.dst = some d := by rfl)
  (hs : Region.noSelect ops = true := by kernel_rfl) (hf : Region.free md ops listed i = true := by kernel_rfl) (hr : (Region.ready md ops listed).contains i = true := by kernel_rfl)
  (hQ : ∀ c a w, Q (.panic c) (a.put (some d) undef) w → Q (.panic c) a w := by exact fun _ _ _ h => h)
  (hg : Region.wanted oi (yielded ops l.toArray) = false := by rfl) (hS : S w := by assumption)
  (hl : l.set d undef = l' := by simp only [List.set_cons_zero, List.set_cons_succ]; rfl) :
  wpAnyH P md ops Q S (fuel + 1) listed ⟨l.toArray, ds⟩ w := by
 subst hl
 refine wpAnyH_step hi hd hs hf hr hQ (Or.inr ⟨hg, rfl⟩) hS ?_
 have e : Act.put ⟨l.toArray, ds⟩ (some d) undef = ⟨(l.set d undef).toArray, ds⟩ := by
  show (⟨l.toArray.setIfInBounds d undef, ds⟩ : Act) = _
  rw [List.setIfInBounds_toArray]
 rw [e]
 exact h
theorem sO {P : Program} {ops : Array Oper} {Q : Exit → Act → World → Prop} {md : Region.Mode} {S : World → Prop} (i : Nat) {o : Oper} {fuel : Nat} {listed : Array Bool} {a : Act} {w : World}
  (h : ∀ K' : Act → World → Prop, Shut (∀ a w, S w → (S w → wpAnyH P md ops Q S fuel (listed.setIfInBounds i true) a w) → K' a w) → if Region.wanted o (yielded ops a.tmps) = true then Oper.wp P o a w K' Q else K' (a.put o.dst undef) w)
  (ho : ops[i]? = some o := by rfl) (hr : Region.ready md ops listed = [i] := by kernel_rfl) : wpAnyH P md ops Q S (fuel + 1) listed a w :=
 wpAnyH_ready hr (by simp) (AllReadyH.cons ho h AllReadyH.nil)
abbrev pr (a b : Int) : Value := .agg #[.int .i64 a, .int .i64 b]
/-- A function that answers v, and turns nothing that was there. -/
abbrev Fn (w : World) (f : FuncId) (args : Array Value) (v : Value) : Prop := Calls Tryz.prog f args w fun e w' => e = .returned v ∧ Below w.heap.size w w'
/-- .. and makes nothing. -/
abbrev Fs (w : World) (f : FuncId) (args : Array Value) (v : Value) : Prop := Calls Tryz.prog f args w fun e w' => e = .returned v ∧ w' = w
theorem Fs.fn {w : World} {f : FuncId} {args : Array Value} {v : Value} (h : Fs w f args v) : Fn w f args v := h.mono fun e w' ⟨h1, h2⟩ => ⟨h1, h2 ▸ Below.refl _ _⟩
def nearI (x n : Int) : Int := max 0 (min x (n - 1))
theorem nearI_in {x n : Int} (hn : 1 ≤ n) : 0 ≤ nearI x n ∧ nearI x n < n := by unfold nearI; omega
theorem nearI_id {x n : Int} (h0 : 0 ≤ x) (h1 : x < n) : nearI x n = x := by unfold nearI; omega
/-- A size that may be. -/
def SzOk (R C : Int) : Prop := 1 ≤ R ∧ R ≤ 255 ∧ 1 ≤ C ∧ C ≤ 255
theorem ret_int {k : IntKind} {a b : Int} (h : a = b) : Ending.returned (.int k a) = .returned (.int k b) := by rw [h]
theorem ret_pr {a b c d : Int} (h : a = c) (h2 : b = d) : Ending.returned (pr a b) = .returned (pr c d) := by rw [h, h2]
theorem may_ok (w : World) (R C : Int) (h : SzOk R C) : Fn w 58 #[pr R C] (.int .i64 0) := by
 obtain ⟨h1, h2, h3, h4⟩ := h
 have g1 : ¬ R < 1 := by omega
 have g2 : ¬ 255 < R := by omega
 have g3 : ¬ C < 1 := by omega
 have g4 : ¬ 255 < C := by omega
 go_enter Tryz.func58, Tryz.ntmps58
 go_wp2_with fail
 go_ret
 exact ⟨rfl, bel_alloc (Below.refl _ _) _⟩
theorem near_any (w : World) (x n : Int) (hn : -9223372036854775807 ≤ n ∧ n ≤ 9223372036854775807) : Fs w 59 #[.int .i64 x, .int .i64 n] (.int .i64 (nearI x n)) := by
 have m1 : IntKind.i64.wrap (n - 1) = n - 1 := IntWalk.i64_in _ (by omega)
 unfold nearI
 go_enter Tryz.func59, Tryz.ntmps59
 go_wp2_with fail
 all_goals (go_ret; exact ⟨ret_int (by omega), rfl⟩)
theorem Near_ok (w : World) (R C r c : Int) (h : SzOk R C) : Fn w 32 #[pr R C, pr r c] (pr (nearI r R) (nearI c C)) := by
 have H1 := fun W => may_ok W R C h
 have HR : -9223372036854775807 ≤ R ∧ R ≤ 9223372036854775807 := by have := h.1; have := h.2.1; omega
 have HC : -9223372036854775807 ≤ C ∧ C ≤ 9223372036854775807 := by have := h.2.2.1; have := h.2.2.2; omega
 have HR' := Lib.hid HR
 have HC' := Lib.hid HC
 clear HR HC
 go_enter Tryz.func32, Tryz.ntmps32
 go_wp2_with fail
 refine gen_calls ?_
 intro u hu0
 have KFu : ∀ W, Below u.heap.size u W → (W.cell? ⟨w.heap.size, 0, none⟩ = some (.int .i64 R) ∧ W.cell? ⟨w.heap.size, 1, none⟩ = some (.int .i64 C) ∧ W.cell? ⟨w.heap.size + 1, 0, none⟩ = some (.int .i64 r) ∧ W.cell? ⟨w.heap.size + 1, 1, none⟩ = some (.int .i64 c)) ∧ (Blk W (w.heap.size + 1 + 1) 2) ∧ Below w.heap.size w W := by
  intro W hu
  refine ⟨⟨?_, ?_, ?_, ?_⟩, ?_, ?_⟩
  ·exact (hu.cell (by rw [hu0]; simp <;> omega)).trans (by rw [hu0]; simp [go_sem])
  ·exact (hu.cell (by rw [hu0]; simp <;> omega)).trans (by rw [hu0]; simp [go_sem])
  ·exact (hu.cell (by rw [hu0]; simp <;> omega)).trans (by rw [hu0]; simp [go_sem])
  ·exact (hu.cell (by rw [hu0]; simp <;> omega)).trans (by rw [hu0]; simp [go_sem])
  ·exact Blk.later (by rw [hu0]; exact Blk.new (by simp) rfl) hu
  ·exact bel_call (by rw [hu0]; (repeat first | exact Below.refl _ _ | refine bel_alloc ?_ _)) hu
 clear hu0
 refine (H1 _).mono ?_
 rintro e w1 ⟨rfl, b1⟩
 obtain ⟨⟨k0, k1, k2, k3⟩, fr0, kb⟩ := KFu _ b1
 go_wp2_with fail
 refine wp_region_held_drew (S := fun W => (W.cell? ⟨w.heap.size, 0, none⟩ = some (.int .i64 R) ∧ W.cell? ⟨w.heap.size, 1, none⟩ = some (.int .i64 C) ∧ W.cell? ⟨w.heap.size + 1, 0, none⟩ = some (.int .i64 r) ∧ W.cell? ⟨w.heap.size + 1, 1, none⟩ = some (.int .i64 c)) ∧ (Blk W (w.heap.size + 1 + 1) 2) ∧ Below w.heap.size w W) (by kernel_rfl) (KFu _ b1.drew) (fun hHeld => ?_)
 refine sY 0 9 ?_
 refine sY 1 10 ?_
 refine sY 2 11 ?_
 refine sY 3 12 ?_
 refine sY 5 14 ?_
 refine sY 6 15 ?_
 refine sY 7 16 ?_
 refine sY 8 17 ?_
 refine sO 4 fun K hK => ?_
 go_simp
 refine (near_any _ _ _ (by first | exact HR'.out | exact HC'.out)).mono ?_
 rintro e w2 ⟨rfl, rfl⟩
 (try go_wp2_with fail)
 refine hK.out _ _ ?_ (fun hHeld => ?_)
 ·exact hHeld
 clear hK K
 try simp only [Act.put, List.setIfInBounds_toArray, List.set_cons_zero, List.set_cons_succ]
 refine sO 9 fun K hK => ?_
 go_simp
 refine (near_any _ _ _ (by first | exact HR'.out | exact HC'.out)).mono ?_
 rintro e w2 ⟨rfl, rfl⟩
 (try go_wp2_with fail)
 refine hK.out _ _ ?_ (fun hHeld => ?_)
 ·exact hHeld
 clear hK K
 try simp only [Act.put, List.setIfInBounds_toArray, List.set_cons_zero, List.set_cons_succ]
 refine sY 10 19 ?_
 refine sO 11 fun K hK => ?_
 obtain ⟨⟨fc0, fc1, fc2, fc3⟩, fr0, fb⟩ := hHeld
 obtain ⟨x0, e0, z0⟩ := fr0.get 0 (by decide)
 obtain ⟨x1, e1, z1⟩ := fr0.get 1 (by decide)
 try simp only [World.cell?_drew, World.frozen?_drew] at e0 z0 e1 z1
 go_simp
 (try go_wp2_with fail)
 refine hK.out _ _ ?_ (fun hHeld => ?_)
 ·exact ⟨⟨(cs_other (cs_other fc0 (by simp <;> omega)) (by simp <;> omega)), (cs_other (cs_other fc1 (by simp <;> omega)) (by simp <;> omega)), (cs_other (cs_other fc2 (by simp <;> omega)) (by simp <;> omega)), (cs_other (cs_other fc3 (by simp <;> omega)) (by simp <;> omega))⟩, ((fr0).set _ _).set _ _, ((fb).setCell (by simp <;> omega) _).setCell (by simp <;> omega) _⟩
 clear hK K
 try simp only [Act.put, List.setIfInBounds_toArray, List.set_cons_zero, List.set_cons_succ]
 refine wpAnyH_done (by kernel_rfl) ?_ _
 go_wp2_with fail
 exact bodyPost_ret (v := pr (nearI r R) (nearI c C)) (by simp [results, Tryz.results32, go_sem, e0, e1]) rfl ⟨rfl, hHeld.2.2⟩
def cutI (n : Int) : Int := max (-510) (min n 510)
theorem cut_any (w : World) (n : Int) : Fs w 139 #[.int .i64 n] (.int .i64 (cutI n)) := by
 unfold cutI
 go_enter Tryz.func139, Tryz.ntmps139
 go_wp2_with fail
 all_goals (go_ret; exact ⟨ret_int (by omega), rfl⟩)
/-- A place and whether it waits. -/
abbrev plc (r c : Int) (p : Bool) : Value := .agg #[.int .i64 r, .int .i64 c, .bool p]
theorem step_ok (w : World) (R C r c : Int) (p : Bool) (n m : Int) (h : SzOk R C) : Fn w 106 #[pr R C, plc r c p, .int .i64 n, .int .i64 m] (plc (nearI (nearI r R + cutI n) R) (nearI (nearI c C + cutI m) C) false) := by
 have H1 := fun W r c => Near_ok W R C r c h
 have HS := Lib.hid h
 have r0 := nearI_in (x := r) h.1
 have c0 := nearI_in (x := c) h.2.2.1
 have hd : -510 ≤ cutI n ∧ cutI n ≤ 510 ∧ -510 ≤ cutI m ∧ cutI m ≤ 510 := by unfold cutI; omega
 have hR := h.2.1
 have hC := h.2.2.2
 have q1 : IntKind.i64.wrap (nearI r R + cutI n) = nearI r R + cutI n := IntWalk.i64_in _ (by omega)
 have q2 : IntKind.i64.wrap (nearI c C + cutI m) = nearI c C + cutI m := IntWalk.i64_in _ (by omega)
 clear r0 c0 hd hR hC h
 go_enter Tryz.func106, Tryz.ntmps106
 go_wp2_with fail
 refine gen_calls ?_
 intro u hu0
 have KFu : ∀ W, Below u.heap.size u W → (W.cell? ⟨w.heap.size, 0, none⟩ = some (.int .i64 R) ∧ W.cell? ⟨w.heap.size, 1, none⟩ = some (.int .i64 C) ∧ W.cell? ⟨w.heap.size + 1, 0, none⟩ = some (.int .i64 r) ∧ W.cell? ⟨w.heap.size + 1, 1, none⟩ = some (.int .i64 c)) ∧ (Blk W (w.heap.size + 1 + 1) 3) ∧ Below w.heap.size w W := by
  intro W hu
  refine ⟨⟨?_, ?_, ?_, ?_⟩, ?_, ?_⟩
  ·exact (hu.cell (by rw [hu0]; simp <;> omega)).trans (by rw [hu0]; simp [go_sem])
  ·exact (hu.cell (by rw [hu0]; simp <;> omega)).trans (by rw [hu0]; simp [go_sem])
  ·exact (hu.cell (by rw [hu0]; simp <;> omega)).trans (by rw [hu0]; simp [go_sem])
  ·exact (hu.cell (by rw [hu0]; simp <;> omega)).trans (by rw [hu0]; simp [go_sem])
  ·exact Blk.later (by rw [hu0]; exact Blk.new (by simp) rfl) hu
  ·exact bel_call (by rw [hu0]; (repeat first | exact Below.refl _ _ | refine bel_alloc ?_ _)) hu
 clear hu0
 refine (H1 _ _ _).mono ?_
 rintro e w1 ⟨rfl, b1⟩
 obtain ⟨⟨k0, k1, k2, k3⟩, fr0, kb⟩ := KFu _ b1
 go_wp2_with fail
 refine gen_wp ?_
 intro u2 hu20
 have hb2 : Below w1.heap.size w1 u2 := by rw [hu20]; exact bel_alloc (Below.refl _ _) _
 have KFu2 : ∀ W, Below u2.heap.size u2 W → (W.cell? ⟨w.heap.size, 0, none⟩ = some (.int .i64 R) ∧ W.cell? ⟨w.heap.size, 1, none⟩ = some (.int .i64 C) ∧ W.cell? ⟨w.heap.size + 1, 0, none⟩ = some (.int .i64 r) ∧ W.cell? ⟨w.heap.size + 1, 1, none⟩ = some (.int .i64 c) ∧ W.cell? ⟨w1.heap.size, 0, none⟩ = some (.int .i64 (nearI r R)) ∧ W.cell? ⟨w1.heap.size, 1, none⟩ = some (.int .i64 (nearI c C))) ∧ (Blk W (w.heap.size + 1 + 1) 3) ∧ Below w.heap.size w W := by
  intro W hu2
  obtain ⟨⟨pc0, pc1, pc2, pc3⟩, pr0, pb⟩ := KFu W (bel_call (bel_call b1 hb2) hu2)
  refine ⟨⟨?_, ?_, ?_, ?_, ?_, ?_⟩, ?_, ?_⟩
  ·exact pc0
  ·exact pc1
  ·exact pc2
  ·exact pc3
  ·exact (hu2.cell (by rw [hu20]; simp <;> omega)).trans (by rw [hu20]; simp [go_sem])
  ·exact (hu2.cell (by rw [hu20]; simp <;> omega)).trans (by rw [hu20]; simp [go_sem])
  ·exact pr0
  ·exact pb
 have hs1 := fr0.lt
 clear hu20 k0 k1 k2 k3 fr0 kb hb2 b1 KFu
 refine wp_region_held_drew (S := fun W => (W.cell? ⟨w.heap.size, 0, none⟩ = some (.int .i64 R) ∧ W.cell? ⟨w.heap.size, 1, none⟩ = some (.int .i64 C) ∧ W.cell? ⟨w.heap.size + 1, 0, none⟩ = some (.int .i64 r) ∧ W.cell? ⟨w.heap.size + 1, 1, none⟩ = some (.int .i64 c) ∧ W.cell? ⟨w1.heap.size, 0, none⟩ = some (.int .i64 (nearI r R)) ∧ W.cell? ⟨w1.heap.size, 1, none⟩ = some (.int .i64 (nearI c C))) ∧ (Blk W (w.heap.size + 1 + 1) 3) ∧ Below w.heap.size w W) (by kernel_rfl) (KFu2 _ (Below.refl _ _).drew) (fun hHeld => ?_)
 refine sY 0 19 ?_
 refine sY 1 20 ?_
 refine sY 2 21 ?_
 refine sY 3 22 ?_
 refine sY 6 25 ?_
 refine sY 7 26 ?_
 refine sY 8 27 ?_
 refine sO 4 fun K hK => ?_
 go_simp
 refine (cut_any _ _).mono ?_
 rintro e w2 ⟨rfl, rfl⟩
 (try go_wp2_with fail)
 refine hK.out _ _ ?_ (fun hHeld => ?_)
 ·exact hHeld
 clear hK K
 try simp only [Act.put, List.setIfInBounds_toArray, List.set_cons_zero, List.set_cons_succ]
 refine sY 5 24 ?_
 refine sO 9 fun K hK => ?_
 go_simp
 refine (cut_any _ _).mono ?_
 rintro e w2 ⟨rfl, rfl⟩
 (try go_wp2_with fail)
 refine hK.out _ _ ?_ (fun hHeld => ?_)
 ·exact hHeld
 clear hK K
 try simp only [Act.put, List.setIfInBounds_toArray, List.set_cons_zero, List.set_cons_succ]
 refine sY 10 29 ?_
 refine sY 11 30 ?_
 refine sO 12 fun K hK => ?_
 obtain ⟨⟨fc0, fc1, fc2, fc3, fc4, fc5⟩, fr0, fb⟩ := hHeld
 go_simp
 refine (H1 _ _ _).mono ?_
 rintro e w2 ⟨rfl, b2⟩
 (try go_wp2_with fail)
 refine hK.out _ _ ?_ (fun hHeld => ?_)
 ·exact ⟨⟨cellB b2 fc0, cellB b2 fc1, cellB b2 fc2, cellB b2 fc3, cellB b2 fc4, cellB b2 fc5⟩, fr0.later b2, bel_call fb b2⟩
 clear hK K
 try simp only [Act.put, List.setIfInBounds_toArray, List.set_cons_zero, List.set_cons_succ]
 refine sY 13 32 ?_
 refine sO 14 fun K hK => ?_
 obtain ⟨⟨fc0, fc1, fc2, fc3, fc4, fc5⟩, fr0, fb⟩ := hHeld
 obtain ⟨x0, e0, z0⟩ := fr0.get 0 (by decide)
 obtain ⟨x1, e1, z1⟩ := fr0.get 1 (by decide)
 obtain ⟨x2, e2, z2⟩ := fr0.get 2 (by decide)
 try simp only [World.cell?_drew, World.frozen?_drew] at e0 z0 e1 z1 e2 z2
 go_simp
 (try go_wp2_with fail)
 refine hK.out _ _ ?_ (fun hHeld => ?_)
 ·exact ⟨⟨(cs_other (cs_other (cs_other fc0 (by simp <;> omega)) (by simp <;> omega)) (by simp <;> omega)), (cs_other (cs_other (cs_other fc1 (by simp <;> omega)) (by simp <;> omega)) (by simp <;> omega)), (cs_other (cs_other (cs_other fc2 (by simp <;> omega)) (by simp <;> omega)) (by simp <;> omega)), (cs_other (cs_other (cs_other fc3 (by simp <;> omega)) (by simp <;> omega)) (by simp <;> omega)), (cs_other (cs_other (cs_other fc4 (by simp <;> omega)) (by simp <;> omega)) (by simp <;> omega)), (cs_other (cs_other (cs_other fc5 (by simp <;> omega)) (by simp <;> omega)) (by simp <;> omega))⟩, (((fr0).set _ _).set _ _).set _ _, (((fb).setCell (by simp <;> omega) _).setCell (by simp <;> omega) _).setCell (by simp <;> omega) _⟩
 clear hK K
 try simp only [Act.put, List.setIfInBounds_toArray, List.set_cons_zero, List.set_cons_succ]
 refine wpAnyH_done (by kernel_rfl) ?_ _
 go_wp2_with fail
 exact bodyPost_ret (v := plc (nearI (nearI r R + cutI n) R) (nearI (nearI c C + cutI m) C) false) (by simp [results, Tryz.results106, go_sem, e0, e1, e2]) rfl ⟨rfl, hHeld.2.2⟩
/-- The first column of the next row. -/
def nextR (R r : Int) : Int := min (r + 1) (R - 1)
theorem next_ok (w : World) (R C r c : Int) (h : SzOk R C) (h0 : 0 ≤ r ∧ r < R) : Fn w 228 #[pr R C, pr r c] (.tuple #[pr (nextR R r) 0, .bool (decide (nextR R r = r))]) := by
 obtain ⟨h1, h2, _, _⟩ := h
 obtain ⟨h3, h4⟩ := h0
 have q1 : IntKind.i64.wrap (r + 1) = r + 1 := IntWalk.i64_in _ (by omega)
 have q2 : IntKind.i64.wrap (R - 1) = R - 1 := IntWalk.i64_in _ (by omega)
 obtain ⟨m, hm⟩ : ∃ m, nextR R r = m := ⟨_, rfl⟩
 have hm' : min (r + 1) (R - 1) = m := hm
 rw [hm]
 go_enter Tryz.func228, Tryz.ntmps228
 go_wp2_with fail
 all_goals go_region
 all_goals go_wp2_with fail
 all_goals refine bodyPost_ret (v := .tuple #[pr m 0, .bool (decide (m = r))]) (by simp [results, Tryz.results228, go_sem]; refine ⟨by omega, ?_⟩; rw [Bool.eq_iff_iff]; simp; omega) rfl ⟨rfl, ?_⟩
 all_goals (repeat first | exact Below.refl _ _ | refine bel_alloc ?_ _ | refine Below.drew ?_)
theorem ahead_no (w : World) (R C r c : Int) (h : SzOk R C) : Fn w 191 #[pr R C, plc r c false] (.tuple #[pr (nearI r R) (nearI c C), .bool false]) := by
 have H1 := fun W r c => Near_ok W R C r c h
 go_enter Tryz.func191, Tryz.ntmps191
 go_wp2_with fail
 refine gen_calls ?_
 intro u hu0
 have KFu : ∀ W, Below u.heap.size u W → (W.cell? ⟨w.heap.size, 0, none⟩ = some (.int .i64 R) ∧ W.cell? ⟨w.heap.size, 1, none⟩ = some (.int .i64 C) ∧ W.cell? ⟨w.heap.size + 1, 0, none⟩ = some (.int .i64 r) ∧ W.cell? ⟨w.heap.size + 1, 1, none⟩ = some (.int .i64 c) ∧ W.cell? ⟨w.heap.size + 1, 2, none⟩ = some (.bool false)) ∧ (Blk W (w.heap.size + 1 + 1) 2) ∧ Below w.heap.size w W := by
  intro W hu
  refine ⟨⟨?_, ?_, ?_, ?_, ?_⟩, ?_, ?_⟩
  ·exact (hu.cell (by rw [hu0]; simp <;> omega)).trans (by rw [hu0]; simp [go_sem])
  ·exact (hu.cell (by rw [hu0]; simp <;> omega)).trans (by rw [hu0]; simp [go_sem])
  ·exact (hu.cell (by rw [hu0]; simp <;> omega)).trans (by rw [hu0]; simp [go_sem])
  ·exact (hu.cell (by rw [hu0]; simp <;> omega)).trans (by rw [hu0]; simp [go_sem])
  ·exact (hu.cell (by rw [hu0]; simp <;> omega)).trans (by rw [hu0]; simp [go_sem])
  ·exact Blk.later (by rw [hu0]; exact Blk.new (by simp) rfl) hu
  ·exact bel_call (by rw [hu0]; (repeat first | exact Below.refl _ _ | refine bel_alloc ?_ _)) hu
 clear hu0
 refine (H1 _ _ _).mono ?_
 rintro e w1 ⟨rfl, b1⟩
 obtain ⟨⟨k0, k1, k2, k3, k4⟩, fr0, kb⟩ := KFu _ b1
 obtain ⟨x0, e0, z0⟩ := fr0.get 0 (by decide)
 obtain ⟨x1, e1, z1⟩ := fr0.get 1 (by decide)
 have hs2 := fr0.lt
 have hs1 : w.heap.size + 1 < w1.heap.size := by omega
 have hs0 : w.heap.size < w1.heap.size := by omega
 clear fr0
 go_wp2_with fail
 exact bodyPost_ret (v := .tuple #[pr (nearI r R) (nearI c C), .bool false]) (by simp [results, Tryz.results191, go_sem, e0, e1, World.cell?_alloc_lt, hs2]) rfl ⟨rfl, bel_alloc (bel_set (bel_set kb (by simp <;> omega) _) (by simp <;> omega) _) _⟩
end Go.Proofs.YtpjooboohelffaaGreatDoor
/- Top: walk's Behind, Index, Of. -/
namespace Go.Proofs.YtpjooboohelffaaGreatDoor
open Go.RowKit
set_option linter.unusedVariables false
set_option linter.unusedSimpArgs false
set_option maxRecDepth 100000
/-- Where the cursor is behind a glyph (it goes to the next line at the edge), and whether the lines go up. -/
theorem behind_in (w : World) (R C r c : Int) (h : SzOk R C) (h0 : 0 ≤ r ∧ r < R) (h1 : 0 ≤ c ∧ c < C - 1) : Fn w 193 #[pr R C, pr r c, .int .i64 2] (.tuple #[plc r (c + 1) false, .bool false]) := by
 have H0 := fun W => may_ok W R C h
 have H1 := fun W => Near_ok W R C r c h
 have e1 : nearI r R = r := nearI_id h0.1 h0.2
 have e2 : nearI c C = c := nearI_id h1.1 (by omega)
 rw [e1, e2] at H1
 have q1 : IntKind.i64.wrap (C - 1) = C - 1 := IntWalk.i64_in _ (by have := h.2.2; omega)
 have q2 : IntKind.i64.wrap (c + 1) = c + 1 := IntWalk.i64_in _ (by have := h.2.2; omega)
 have g1 : c < C - 1 := h1.2
 clear e1 e2 h0 h1 h
 go_enter Tryz.func193, Tryz.ntmps193
 go_wp2_with fail
 refine gen_calls ?_
 intro u hu0
 have KFu : ∀ W, Below u.heap.size u W → (W.cell? ⟨w.heap.size, 0, none⟩ = some (.int .i64 R) ∧ W.cell? ⟨w.heap.size, 1, none⟩ = some (.int .i64 C) ∧ W.cell? ⟨w.heap.size + 1, 0, none⟩ = some (.int .i64 r) ∧ W.cell? ⟨w.heap.size + 1, 1, none⟩ = some (.int .i64 c)) ∧ (Blk W (w.heap.size + 1 + 1) 3) ∧ Below w.heap.size w W := by
  intro W hu
  refine ⟨⟨?_, ?_, ?_, ?_⟩, ?_, ?_⟩
  ·exact (hu.cell (by rw [hu0]; simp <;> omega)).trans (by rw [hu0]; simp [go_sem])
  ·exact (hu.cell (by rw [hu0]; simp <;> omega)).trans (by rw [hu0]; simp [go_sem])
  ·exact (hu.cell (by rw [hu0]; simp <;> omega)).trans (by rw [hu0]; simp [go_sem])
  ·exact (hu.cell (by rw [hu0]; simp <;> omega)).trans (by rw [hu0]; simp [go_sem])
  ·exact Blk.later (by rw [hu0]; repeat first | exact Blk.new (by simp) rfl | refine Blk.alloc ?_ _) hu
  ·exact bel_call (by rw [hu0]; (repeat first | exact Below.refl _ _ | refine bel_alloc ?_ _)) hu
 clear hu0
 refine (H0 _).mono ?_
 rintro e w1 ⟨rfl, b1⟩
 obtain ⟨⟨k0, k1, k2, k3⟩, fr0, kb⟩ := KFu _ b1
 go_wp2_with fail
 refine (H1 _).mono ?_
 rintro e w2 ⟨rfl, b2⟩
 clear k0 k1 k2 k3 fr0 kb
 obtain ⟨⟨k0, k1, k2, k3⟩, fr0, kb⟩ := KFu _ (bel_call b1 b2)
 obtain ⟨x0, e0, z0⟩ := fr0.get 0 (by decide)
 obtain ⟨x1, e1, z1⟩ := fr0.get 1 (by decide)
 obtain ⟨x2, e2, z2⟩ := fr0.get 2 (by decide)
 have hs2 := fr0.lt
 have hs1 : w.heap.size + 1 < w2.heap.size := by omega
 have hs0 : w.heap.size < w2.heap.size := by omega
 clear fr0
 go_wp2_with fail
 exact bodyPost_ret (v := .tuple #[plc r (c + 1) false, .bool false]) (by simp [results, Tryz.results193, go_sem, World.cell?_alloc_lt, e0, e1, e2, hs2]) rfl ⟨rfl, by (repeat first | exact kb | exact Below.refl _ _ | refine bel_alloc ?_ _ | refine Below.drew ?_ | refine bel_set ?_ (by simp <;> omega) _)⟩
theorem behind_edge (w : World) (R C r : Int) (h : SzOk R C) (h0 : 0 ≤ r ∧ r < R) : Fn w 193 #[pr R C, pr r (C - 1), .int .i64 2] (.tuple #[plc (nextR R r) 0 false, .bool (decide (nextR R r = r))]) := by
 have H0 := fun W => may_ok W R C h
 have H1 := fun W => Near_ok W R C r (C - 1) h
 have H2 := fun W => next_ok W R C r (C - 1) h h0
 have e1 : nearI r R = r := nearI_id h0.1 h0.2
 have e2 : nearI (C - 1) C = C - 1 := nearI_id (by have := h.2.2.1; omega) (by omega)
 rw [e1, e2] at H1
 have q1 : IntKind.i64.wrap (C - 1) = C - 1 := IntWalk.i64_in _ (by have := h.2.2; omega)
 clear e1 e2 h0 h
 obtain ⟨d, hd⟩ : ∃ d, C - 1 = d := ⟨_, rfl⟩
 rw [hd] at H1 H2 q1
 rw [hd]
 have g1 : ¬ d < d := by omega
 go_enter Tryz.func193, Tryz.ntmps193
 go_wp2_with fail
 refine gen_calls ?_
 intro u hu0
 have KFu : ∀ W, Below u.heap.size u W → (W.cell? ⟨w.heap.size, 0, none⟩ = some (.int .i64 R) ∧ W.cell? ⟨w.heap.size, 1, none⟩ = some (.int .i64 C) ∧ W.cell? ⟨w.heap.size + 1, 0, none⟩ = some (.int .i64 r) ∧ W.cell? ⟨w.heap.size + 1, 1, none⟩ = some (.int .i64 d)) ∧ (Blk W (w.heap.size + 1 + 1) 3) ∧ Below w.heap.size w W := by
  intro W hu
  refine ⟨⟨?_, ?_, ?_, ?_⟩, ?_, ?_⟩
  ·exact (hu.cell (by rw [hu0]; simp <;> omega)).trans (by rw [hu0]; simp [go_sem])
  ·exact (hu.cell (by rw [hu0]; simp <;> omega)).trans (by rw [hu0]; simp [go_sem])
  ·exact (hu.cell (by rw [hu0]; simp <;> omega)).trans (by rw [hu0]; simp [go_sem])
  ·exact (hu.cell (by rw [hu0]; simp <;> omega)).trans (by rw [hu0]; simp [go_sem])
  ·exact Blk.later (by rw [hu0]; repeat first | exact Blk.new (by simp) rfl | refine Blk.alloc ?_ _) hu
  ·exact bel_call (by rw [hu0]; (repeat first | exact Below.refl _ _ | refine bel_alloc ?_ _)) hu
 clear hu0
 refine (H0 _).mono ?_
 rintro e w1 ⟨rfl, b1⟩
 obtain ⟨⟨k0, k1, k2, k3⟩, fr0, kb⟩ := KFu _ b1
 go_wp2_with fail
 refine (H1 _).mono ?_
 rintro e w2 ⟨rfl, b2⟩
 have hs2 := fr0.lt
 have hs1 : w.heap.size + 1 < w2.heap.size := by have := b2.size; omega
 have hs0 : w.heap.size < w2.heap.size := by omega
 have hs2 : w.heap.size + 1 + 1 < w2.heap.size := by have := b2.size; omega
 clear k0 k1 k2 k3 fr0 kb
 obtain ⟨⟨k0, k1, k2, k3⟩, fr0, kb⟩ := KFu _ (bel_call b1 b2)
 go_wp2_with fail
 refine (H2 _).mono ?_
 rintro e w3 ⟨rfl, b3⟩
 have hb3 := bel_call (bel_call b1 b2) (bel_call (bel_alloc (Below.refl _ _) _) b3)
 clear k0 k1 k2 k3 kb fr0
 obtain ⟨⟨k0, k1, k2, k3⟩, fr0, kb⟩ := KFu _ hb3
 obtain ⟨x0, e0, z0⟩ := fr0.get 0 (by decide)
 obtain ⟨x1, e1, z1⟩ := fr0.get 1 (by decide)
 obtain ⟨x2, e2, z2⟩ := fr0.get 2 (by decide)
 have ht2 := fr0.lt
 clear fr0
 go_wp2_with fail
 exact bodyPost_ret (v := .tuple #[plc (nextR R r) 0 false, .bool (decide (nextR R r = r))]) (by simp [results, Tryz.results193, go_sem, World.cell?_alloc_lt, e0, e1, e2, ht2]) rfl ⟨rfl, by (repeat first | exact kb | exact Below.refl _ _ | refine bel_alloc ?_ _ | refine Below.drew ?_ | refine bel_set ?_ (by simp <;> omega) _)⟩
theorem index_ok (w : World) (R C r c : Int) (h : SzOk R C) (h0 : 0 ≤ r ∧ r < R) (h1 : 0 ≤ c ∧ c < C) : Fn w 128 #[pr R C, pr r c] (.tuple #[.int .i64 (r * C + c), .int .i64 0]) := by
 have H0 := fun W => may_ok W R C h
 have H1 := fun W => Near_ok W R C r c h
 have e1 : nearI r R = r := nearI_id h0.1 h0.2
 have e2 : nearI c C = c := nearI_id h1.1 h1.2
 rw [e1, e2] at H1
 have b0 : 0 ≤ r * C := Int.mul_nonneg h0.1 (by omega)
 have b1 : r * C ≤ 255 * 255 := Int.mul_le_mul (by have := h.2.1; omega) h.2.2.2 (by omega) (by omega)
 have q1 : IntKind.i64.wrap (r * C) = r * C := IntWalk.i64_in _ (by omega)
 have q2 : IntKind.i64.wrap (r * C + c) = r * C + c := IntWalk.i64_in _ (by have := h.2.2.2; omega)
 clear e1 e2 h0 h1 h b0 b1
 go_enter Tryz.func128, Tryz.ntmps128
 go_wp2_with fail
 refine gen_calls ?_
 intro u hu0
 have KFu : ∀ W, Below u.heap.size u W → (W.cell? ⟨w.heap.size, 0, none⟩ = some (.int .i64 R) ∧ W.cell? ⟨w.heap.size, 1, none⟩ = some (.int .i64 C) ∧ W.cell? ⟨w.heap.size + 1, 0, none⟩ = some (.int .i64 r) ∧ W.cell? ⟨w.heap.size + 1, 1, none⟩ = some (.int .i64 c)) ∧ True ∧ Below w.heap.size w W := by
  intro W hu
  refine ⟨⟨?_, ?_, ?_, ?_⟩, trivial, ?_⟩
  ·exact (hu.cell (by rw [hu0]; simp <;> omega)).trans (by rw [hu0]; simp [go_sem])
  ·exact (hu.cell (by rw [hu0]; simp <;> omega)).trans (by rw [hu0]; simp [go_sem])
  ·exact (hu.cell (by rw [hu0]; simp <;> omega)).trans (by rw [hu0]; simp [go_sem])
  ·exact (hu.cell (by rw [hu0]; simp <;> omega)).trans (by rw [hu0]; simp [go_sem])
  ·exact bel_call (by rw [hu0]; (repeat first | exact Below.refl _ _ | refine bel_alloc ?_ _)) hu
 clear hu0
 refine (H0 _).mono ?_
 rintro e w1 ⟨rfl, b1⟩
 obtain ⟨⟨k0, k1, k2, k3⟩, _, kb⟩ := KFu _ b1
 go_wp2_with fail
 refine wp_region_held_drew (S := fun W => (W.cell? ⟨w.heap.size, 0, none⟩ = some (.int .i64 R) ∧ W.cell? ⟨w.heap.size, 1, none⟩ = some (.int .i64 C) ∧ W.cell? ⟨w.heap.size + 1, 0, none⟩ = some (.int .i64 r) ∧ W.cell? ⟨w.heap.size + 1, 1, none⟩ = some (.int .i64 c)) ∧ True ∧ Below w.heap.size w W) (by kernel_rfl) (KFu _ b1.drew) (fun hHeld => ?_)
 refine sY 0 12 ?_
 refine sY 1 13 ?_
 refine sY 3 15 ?_
 refine sO 2 fun K hK => ?_
 obtain ⟨⟨fc0, fc1, fc2, fc3⟩, _, fb⟩ := hHeld
 go_simp
 refine (H1 _).mono ?_
 rintro e w2 ⟨rfl, b2⟩
 (try go_wp2_with fail)
 refine hK.out _ _ ?_ (fun hHeld => ?_)
 ·exact ⟨⟨cellB b2 fc0, cellB b2 fc1, cellB b2 fc2, cellB b2 fc3⟩, trivial, bel_call fb b2⟩
 clear hK K
 try simp only [Act.put, List.setIfInBounds_toArray, List.set_cons_zero, List.set_cons_succ]
 refine sY 4 16 ?_
 refine wpAnyH_done (by kernel_rfl) ?_ _
 have kq := hHeld.1
 obtain ⟨p0, p1, p2, p3⟩ := kq
 go_wp2_with fail
 go_ret2
 exact ⟨rfl, hHeld.2.2⟩
theorem of_ok (w : World) (R C n : Int) (h : SzOk R C) (h0 : 0 ≤ n ∧ n < R * C) : Fn w 129 #[pr R C, .int .i64 n] (.tuple #[pr (n / C) (n % C), .int .i64 0]) := by
 have H0 := fun W => may_ok W R C h
 have b1 : R * C ≤ 255 * 255 := Int.mul_le_mul h.2.1 h.2.2.2 (by have := h.2.2.1; omega) (by omega)
 have q1 : IntKind.i64.wrap (R * C) = R * C := IntWalk.i64_in _ (by omega)
 have t1 : Int.tdiv n C = n / C := Int.tdiv_eq_ediv_of_nonneg h0.1
 have t2 : Int.tmod n C = n % C := Int.tmod_eq_emod_of_nonneg h0.1
 have hC : ¬ C = 0 := by have := h.2.2.1; omega
 have d0 : 0 ≤ n / C := Int.ediv_nonneg h0.1 (by have := h.2.2.1; omega)
 have d1 : n / C ≤ n := Int.ediv_le_self _ h0.1
 have t3 : wrap64 (n / C) = n / C := IntWalk.wrap64_in _ (by omega)
 have g0 : ¬ n < 0 := by omega
 have g1 : decide (n < 0) = false := by simp [g0]
 have g2 : n < R * C := h0.2
 clear b1 h0 h d0 d1
 go_enter Tryz.func129, Tryz.ntmps129
 go_wp2_with fail
 refine gen_calls ?_
 intro u hu0
 have KFu : ∀ W, Below u.heap.size u W → (W.cell? ⟨w.heap.size, 0, none⟩ = some (.int .i64 R) ∧ W.cell? ⟨w.heap.size, 1, none⟩ = some (.int .i64 C)) ∧ (Blk W (w.heap.size + 1) 2) ∧ Below w.heap.size w W := by
  intro W hu
  refine ⟨⟨?_, ?_⟩, ?_, ?_⟩
  ·exact (hu.cell (by rw [hu0]; simp <;> omega)).trans (by rw [hu0]; simp [go_sem])
  ·exact (hu.cell (by rw [hu0]; simp <;> omega)).trans (by rw [hu0]; simp [go_sem])
  ·exact Blk.later (by rw [hu0]; repeat first | exact Blk.new (by simp) rfl | refine Blk.alloc ?_ _) hu
  ·exact bel_call (by rw [hu0]; (repeat first | exact Below.refl _ _ | refine bel_alloc ?_ _)) hu
 clear hu0
 refine (H0 _).mono ?_
 rintro e w1 ⟨rfl, b1⟩
 obtain ⟨⟨k0, k1⟩, fr0, kb⟩ := KFu _ b1
 obtain ⟨x0, e0, z0⟩ := fr0.get 0 (by decide)
 obtain ⟨x1, e1, z1⟩ := fr0.get 1 (by decide)
 have hs1 := fr0.lt
 go_wp2_with fail
 go_region
 go_wp2_with fail
 exact bodyPost_ret (v := .tuple #[pr (n / C) (n % C), .int .i64 0]) (by simp [results, Tryz.results129, go_sem, World.cell?_alloc_lt, e0, e1, hs1, t3]) rfl ⟨rfl, by (repeat first | exact kb | exact Below.refl _ _ | refine bel_alloc ?_ _ | refine Below.drew ?_ | refine bel_set ?_ (by simp <;> omega) _)⟩
end Go.Proofs.YtpjooboohelffaaGreatDoor
/- Top: the grid in memory; Size, there, At. -/
namespace Go.Proofs.YtpjooboohelffaaGreatDoor
open Go.RowKit
set_option linter.unusedVariables false
set_option linter.unusedSimpArgs false
set_option maxRecDepth 100000
/-- A grid behind a pointer: g: its block; rb: the rows' block; rs: the blocks of its rows. The blocks of the rows are none of K. -/
structure GridIs (K : Nat → Prop) (W : World) (g rb cp R C : Nat) (rs : Nat → Nat) (cell : Nat → Nat → Cl) : Prop where
 r1 : 1 ≤ R
 r2 : R ≤ 255
 c1 : 1 ≤ C
 c2 : C ≤ 255
 kg : K g
 kr : ¬ K rb
 ks : ∀ i, i < R → ¬ K (rs i)
 ne : ∀ i, i < R → rs i ≠ rb
 cap : R ≤ cp
 g0 : W.cell? ⟨g, 0, none⟩ = some (.slice (some ⟨rb, 0, none⟩) R cp)
 rowB : BlkT W rb cp 44
 rowC : ∀ i, i < R → W.cell? ⟨rb, i, none⟩ = some (.slice (some ⟨rs i, 0, none⟩) C C)
 celB : ∀ i, i < R → BlkT W (rs i) (C * 4) 48
 celC : ∀ i j, i < R → j < C → W.cell? ⟨rs i, j * 4, none⟩ = some (.int .i32 (cell i j).g) ∧ W.cell? ⟨rs i, j * 4 + 1, none⟩ = some (.int .i64 (cell i j).a) ∧
  W.cell? ⟨rs i, j * 4 + 2, none⟩ = some (.bool (cell i j).d) ∧ W.cell? ⟨rs i, j * 4 + 3, none⟩ = some (.int .i64 (cell i j).m)
section
variable {K : Nat → Prop} {W W' : World} {g rb cp R C : Nat} {rs : Nat → Nat} {cell : Nat → Nat → Cl}
theorem GridIs.sz (h : GridIs K W g rb cp R C rs cell) : SzOk (R : Int) (C : Int) := ⟨by have := h.r1; omega, by have := h.r2; omega, by have := h.c1; omega, by have := h.c2; omega⟩
/-- It stays where its blocks stay. -/
theorem GridIs.to (h : GridIs K W g rb cp R C rs cell) (hg : W'.heap[g]? = W.heap[g]?) (hr : W'.heap[rb]? = W.heap[rb]?) (hs : ∀ i, i < R → W'.heap[rs i]? = W.heap[rs i]?) : GridIs K W' g rb cp R C rs cell :=
 ⟨h.r1, h.r2, h.c1, h.c2, h.kg, h.kr, h.ks, h.ne, h.cap, (World.cell?_of_block (a := ⟨g, 0, none⟩) hg).trans h.g0, h.rowB.to hr,
  fun i hi => (World.cell?_of_block (a := ⟨rb, i, none⟩) hr).trans (h.rowC i hi), fun i hi => (h.celB i hi).to (hs i hi),
  fun i j hi hj => ⟨(World.cell?_of_block (a := ⟨rs i, _, none⟩) (hs i hi)).trans (h.celC i j hi hj).1, (World.cell?_of_block (a := ⟨rs i, _, none⟩) (hs i hi)).trans (h.celC i j hi hj).2.1,
   (World.cell?_of_block (a := ⟨rs i, _, none⟩) (hs i hi)).trans (h.celC i j hi hj).2.2.1, (World.cell?_of_block (a := ⟨rs i, _, none⟩) (hs i hi)).trans (h.celC i j hi hj).2.2.2⟩⟩
theorem GridIs.glt (h : GridIs K W g rb cp R C rs cell) : g < W.heap.size := World.block_lt_of_cell? W ⟨g, 0, none⟩ h.g0
theorem GridIs.later (h : GridIs K W g rb cp R C rs cell) (hb : Below W.heap.size W W') : GridIs K W' g rb cp R C rs cell :=
 h.to (hb.block _ h.glt) (hb.block _ h.rowB.blk.lt) (fun i hi => hb.block _ (h.celB i hi).blk.lt)
/-- The kept blocks may be others. -/
theorem GridIs.under {K' : Nat → Prop} (h : GridIs K W g rb cp R C rs cell) (hg : K' g) (hr : ¬ K' rb) (hs : ∀ i, i < R → ¬ K' (rs i)) : GridIs K' W g rb cp R C rs cell :=
 ⟨h.r1, h.r2, h.c1, h.c2, hg, hr, hs, h.ne, h.cap, h.g0, h.rowB, h.rowC, h.celB, h.celC⟩
end
theorem size_nil (w : World) : Fn w 53 #[.pointer none] (pr 0 0) := by
 go_enter Tryz.func53, Tryz.ntmps53
 go_wp2_with fail
 have kb := Below.refl w.heap.size w
 exact bodyPost_ret (v := pr 0 0) (by simp [results, Tryz.results53, go_sem, World.cell?_alloc_lt]) rfl ⟨rfl, by (repeat first | exact kb | exact Below.refl _ _ | refine bel_alloc ?_ _ | refine Below.drew ?_ | refine bel_set ?_ (by simp <;> omega) _)⟩
theorem size_any {K : Nat → Prop} {g rb cp R C : Nat} {rs : Nat → Nat} {cell : Nat → Nat → Cl} (w : World) (h : GridIs K w g rb cp R C rs cell) : Fn w 53 #[.pointer (some ⟨g, 0, none⟩)] (pr R C) := by
 have k0 := h.g0
 have k1 := h.rowC 0 h.r1
 have g0 : 0 < R := h.r1
 have g1 : (0 : Int) < (R : Int) := by omega
 have hlt := h.glt
 have hlt2 := h.rowB.blk.lt
 clear h
 have kb := Below.refl w.heap.size w
 go_enter Tryz.func53, Tryz.ntmps53
 go_wp2_with fail
 go_region
 go_wp2_with fail
 exact bodyPost_ret (v := pr R C) (by simp [results, Tryz.results53, go_sem, World.cell?_alloc_lt]) rfl ⟨rfl, by (repeat first | exact kb | exact Below.refl _ _ | refine bel_alloc ?_ _ | refine Below.drew ?_ | refine bel_set ?_ (by simp <;> omega) _)⟩
/-- Places in a row of the call's own. -/
def PosAt (W : World) (b n : Nat) (rr cc : Nat → Int) : Prop := ∀ j, j < n → W.cell? ⟨b, j * 2, none⟩ = some (.int .i64 (rr j)) ∧ W.cell? ⟨b, j * 2 + 1, none⟩ = some (.int .i64 (cc j))
theorem PosAt.later {W W' : World} {b n : Nat} {rr cc : Nat → Int} (h : PosAt W b n rr cc) (hb : Below W.heap.size W W') : PosAt W' b n rr cc := fun j hj => ⟨cellB hb (h j hj).1, cellB hb (h j hj).2⟩
def inR (R C : Nat) (r c : Int) : Prop := 0 ≤ r ∧ r < R ∧ 0 ≤ c ∧ c < C
instance (R C : Nat) (r c : Int) : Decidable (inR R C r c) := by unfold inR; infer_instance
def thereE (R C n : Nat) (rr cc : Nat → Int) : Int := if ∀ j, j < n → inR R C (rr j) (cc j) then 0 else 11
theorem thereE_bad {R C n : Nat} {rr cc : Nat → Int} {j : Nat} (hj : j < n) (h : ¬ inR R C (rr j) (cc j)) : thereE R C n rr cc = 11 := by
 unfold thereE; rw [if_neg (fun hh => h (hh j hj))]
theorem thereE_ok {R C n : Nat} {rr cc : Nat → Int} (h : ∀ j, j < n → inR R C (rr j) (cc j)) : thereE R C n rr cc = 0 := by
 unfold thereE; rw [if_pos h]
set_option maxHeartbeats 1000000 in
theorem there_any {K : Nat → Prop} {g rb cp R C : Nat} {rs : Nat → Nat} {cell : Nat → Nat → Cl} (w : World) (h : GridIs K w g rb cp R C rs cell) (b n : Nat) (hn : n ≤ 10) (rr cc : Nat → Int) (hp : PosAt w b n rr cc) :
  Fn w 130 #[.pointer (some ⟨g, 0, none⟩), .slice (some ⟨b, 0, none⟩) n n] (.int .i64 (thereE R C n rr cc)) := by
 have HS := Lib.hid (size_any w h)
 have HP := Lib.hid hp
 clear h hp
 go_enter Tryz.func130, Tryz.ntmps130
 go_wp2_with fail
 refine HS.out.mono ?_
 rintro e w1 ⟨rfl, b1⟩
 go_wp2_with fail
 go_loopw [14] (fun i wr => ∃ k : Nat, k ≤ n ∧ i = .int .i64 (k : Int) ∧ (∀ j, j < k → inR R C (rr j) (cc j)) ∧ Below (w1.heap.size + 1) (w1.alloc (.cells #[.int .i64 (R : Int), .int .i64 (C : Int)] 23)) wr) (fun i _ => n - (intOf i).toNat)
 case atStart => exact ⟨0, Nat.zero_le _, rfl, fun j hj => absurd hj (by omega), by have := Below.refl (w1.alloc (.cells #[.int .i64 (R : Int), .int .i64 (C : Int)] 23)).heap.size (w1.alloc (.cells #[.int .i64 (R : Int), .int .i64 (C : Int)] 23)); rwa [World.size_alloc] at this⟩
 case round =>
  obtain ⟨k, hk, rfl, hall, hb⟩ := hrel
  have hbw : Below w.heap.size w wr := bel_call b1 (bel_call (bel_alloc (Below.refl _ _) _) (by rw [World.size_alloc]; exact hb))
  by_cases hlt : k < n
  ·have q1 : (k : Int) < (n : Int) := by omega
   obtain ⟨p0, p1⟩ := HP.out.later hbw k hlt
   have s0 : wr.cell? ⟨w1.heap.size, 0, none⟩ = some (.int .i64 (R : Int)) := (hb.cell (by simp)).trans (by simp [go_sem])
   have s1 : wr.cell? ⟨w1.heap.size, 1, none⟩ = some (.int .i64 (C : Int)) := (hb.cell (by simp)).trans (by simp [go_sem])
   have hslt : w1.heap.size < wr.heap.size := World.block_lt_of_cell? _ _ s0
   have Hb := Lib.hid hb
   have Hbw := Lib.hid hbw
   have Hall := Lib.hid hall
   clear hb hbw hall
   obtain ⟨r, hr⟩ : ∃ r, rr k = r := ⟨_, rfl⟩
   obtain ⟨c, hc⟩ : ∃ c, cc k = c := ⟨_, rfl⟩
   rw [hr] at p0
   rw [hc] at p1
   by_cases a1 : r < 0
   ·have he : thereE R C n rr cc = 11 := thereE_bad hlt (by unfold inR; rw [hr]; omega)
    have d1 : decide (r < 0) = true := by simp [a1]
    go_wp2_with fail
    go_ret
    first | exact ⟨ret_int he.symm, bel_call Hbw.out (bel_alloc (Below.refl _ _) _)⟩ | exact ⟨rfl, bel_call Hbw.out (bel_alloc (Below.refl _ _) _)⟩
   ·have d1 : decide (r < 0) = false := by simp [a1]
    by_cases a2 : (R : Int) ≤ r
    ·have he : thereE R C n rr cc = 11 := thereE_bad hlt (by unfold inR; rw [hr]; omega)
     have d2 : decide ((R : Int) ≤ r) = true := by simp [a2]
     go_wp2_with fail
     go_ret
     first | exact ⟨ret_int he.symm, bel_call Hbw.out (bel_alloc (Below.refl _ _) _)⟩ | exact ⟨rfl, bel_call Hbw.out (bel_alloc (Below.refl _ _) _)⟩
    ·have d2 : decide ((R : Int) ≤ r) = false := by simp; omega
     by_cases a3 : c < 0
     ·have he : thereE R C n rr cc = 11 := thereE_bad hlt (by unfold inR; rw [hr, hc]; omega)
      have d3 : decide (c < 0) = true := by simp [a3]
      go_wp2_with fail
      go_ret
      first | exact ⟨ret_int he.symm, bel_call Hbw.out (bel_alloc (Below.refl _ _) _)⟩ | exact ⟨rfl, bel_call Hbw.out (bel_alloc (Below.refl _ _) _)⟩
     ·have d3 : decide (c < 0) = false := by simp [a3]
      by_cases a4 : (C : Int) ≤ c
      ·have he : thereE R C n rr cc = 11 := thereE_bad hlt (by unfold inR; rw [hr, hc]; omega)
       have d4 : decide ((C : Int) ≤ c) = true := by simp [a4]
       go_wp2_with fail
       go_ret
       first | exact ⟨ret_int he.symm, bel_call Hbw.out (bel_alloc (Below.refl _ _) _)⟩ | exact ⟨rfl, bel_call Hbw.out (bel_alloc (Below.refl _ _) _)⟩
      ·have d4 : decide ((C : Int) ≤ c) = false := by simp; omega
       have hin : inR R C (rr k) (cc k) := by unfold inR; rw [hr, hc]; omega
       go_wp2_with fail
       refine ⟨⟨k + 1, by omega, by push_cast; rfl, fun j hj => ?_, Hb.out.alloc (by omega) _⟩, by simp [intOf]; omega⟩
       by_cases hjk : j = k
       ·subst hjk; exact hin
       ·exact Hall.out j (by omega)
  ·have hkn : k = n := by omega
   subst hkn
   have he : thereE R C k rr cc = 0 := thereE_ok hall
   have q1 : ¬ (k : Int) < (k : Int) := by omega
   have Hbw := Lib.hid hbw
   clear hb hbw hall
   go_wp2_with fail
   go_ret
   first | exact ⟨ret_int he.symm, Hbw.out⟩ | exact ⟨rfl, Hbw.out⟩
end Go.Proofs.YtpjooboohelffaaGreatDoor
