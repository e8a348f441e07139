/- TopLooks and TopSends, helper 2 of 27. It holds: a cell set in a grid; At, Set; A range over a function whose iterator writes a variable of its own: what the caller owes and gets. The iterator is shown for invariants that stand on the caller's own and on what is no cells; the iterator over all places of a grid; a region that draws inside a round; rows of cells of the call's own; copy of cells that are four values wide; slices.Repeat of one cell. Each theorem states its own conditions. -/
import Derived.Test.YtpjooboohelffaaGreatDoorM00
import Derived.RangeFuncNested
import Derived.RangeFuncBound
import Derived.RangeFuncCalls
import Derived.RangeFuncLeaves
import Derived.RangeFuncGives
import Derived.RangeFuncSeq
import Derived.Shelf.Abstract
import Derived.OwnWalkIn
import Derived.TacticsInMore
import Derived.LoopNIn
import Derived.LoopIn
import Derived.Outline
import Derived.Stop.RegionWithIn
import Derived.OrdersIn
import Derived.Deep.AppendLies
import Derived.Laws.MakeOwn
import Derived.Laws.IdiomCopy
import Derived.Shelf.Bits.Mul64
/- Top: a cell set in a grid; At, Set. -/
namespace Go.Proofs.YtpjooboohelffaaGreatDoor
open Go.RowKit
set_option linter.unusedVariables false
set_option linter.unusedSimpArgs false
set_option maxRecDepth 100000
/-- Four cells stored one behind the other. -/
def set4 (W : World) (b o : Nat) (c : Cl) : World :=
 (((W.setCell ⟨b, o, none⟩ (.int .i32 c.g)).setCell ⟨b, o + 1, none⟩ (.int .i64 c.a)).setCell ⟨b, o + 2, none⟩ (.bool c.d)).setCell ⟨b, o + 3, none⟩ (.int .i64 c.m)
theorem set4_heap {W : World} {b o : Nat} {c : Cl} {k : Nat} (hk : k ≠ b) : (set4 W b o c).heap[k]? = W.heap[k]? := by
 unfold set4
 repeat rw [Below.heap_setCell _ _ _ _ hk]
theorem set4_size (W : World) (b o : Nat) (c : Cl) : (set4 W b o c).heap.size = W.heap.size := by simp [set4, World.setCell]
theorem set4_kept {K : Nat → Prop} (W : World) {b : Nat} (hb : ¬ K b) (o : Nat) (c : Cl) : Kept K W (set4 W b o c) :=
 ⟨rfl, rfl, rfl, by rw [set4_size]; exact Nat.le_refl _, fun k hk => set4_heap (fun e => hb (e ▸ hk))⟩
theorem set4_blk {W : World} {b n b0 o : Nat} {c : Cl} (h : Blk W b n) : Blk (set4 W b0 o c) b n := (((h.set _ _).set _ _).set _ _).set _ _
theorem set4_blkT {W : World} {b n b0 o : Nat} {t : TypeId} {c : Cl} (h : BlkT W b n t) : BlkT (set4 W b0 o c) b n t := (((h.set _ _).set _ _).set _ _).set _ _
theorem set4_old {W : World} {b o q : Nat} {c : Cl} (h : q < o ∨ o + 3 < q) : (set4 W b o c).cell? ⟨b, q, none⟩ = W.cell? ⟨b, q, none⟩ := by
 unfold set4
 rw [World.cell?_setCell_other _ _ _ _ (by simp <;> omega), World.cell?_setCell_other _ _ _ _ (by simp <;> omega), World.cell?_setCell_other _ _ _ _ (by simp <;> omega), World.cell?_setCell_other _ _ _ _ (by simp <;> omega)]
theorem set4_new {W : World} {b o n : Nat} {c : Cl} (h : Blk W b n) (ho : o + 3 < n) : (set4 W b o c).cell? ⟨b, o, none⟩ = some (.int .i32 c.g) ∧ (set4 W b o c).cell? ⟨b, o + 1, none⟩ = some (.int .i64 c.a) ∧
  (set4 W b o c).cell? ⟨b, o + 2, none⟩ = some (.bool c.d) ∧ (set4 W b o c).cell? ⟨b, o + 3, none⟩ = some (.int .i64 c.m) := by
 have k : ∀ {X : World} (hX : Blk X b n) (q : Nat) (hq : q < n) (v : Value), (X.setCell ⟨b, q, none⟩ v).cell? ⟨b, q, none⟩ = some v := fun hX q hq v => by
  obtain ⟨u, hu, _⟩ := hX.get q hq
  exact World.cell?_setCell_same' _ _ _ (by rw [hu]; rfl)
 have o1 : ∀ {X : World} {q q' : Nat} {v : Value}, q ≠ q' → (X.setCell ⟨b, q, none⟩ v).cell? ⟨b, q', none⟩ = X.cell? ⟨b, q', none⟩ := fun h => World.cell?_setCell_other _ _ _ _ (by simp <;> exact h)
 unfold set4
 refine ⟨?_, ?_, ?_, ?_⟩
 ·rw [o1 (by omega), o1 (by omega), o1 (by omega)]; exact k h _ (by omega) _
 ·rw [o1 (by omega), o1 (by omega)]; exact k (h.set _ _) _ (by omega) _
 ·rw [o1 (by omega)]; exact k ((h.set _ _).set _ _) _ (by omega) _
 ·exact k (((h.set _ _).set _ _).set _ _) _ (by omega) _
/-- The cells behind a store of c to the place i, j. -/
def setCl (rs : Nat → Nat) (cell : Nat → Nat → Cl) (i j : Nat) (c : Cl) : Nat → Nat → Cl := fun i' j' => if rs i' = rs i ∧ j' = j then c else cell i' j'
theorem GridIs.set4 {K : Nat → Prop} {W : World} {g rb cp R C : Nat} {rs : Nat → Nat} {cell : Nat → Nat → Cl} (h : GridIs K W g rb cp R C rs cell) {i j : Nat} (hi : i < R) (hj : j < C) (c : Cl) :
  GridIs K (set4 W (rs i) (j * 4) c) g rb cp R C rs (setCl rs cell i j c) := by
 have hgne : g ≠ rs i := fun e => h.ks i hi (e ▸ h.kg)
 refine ⟨h.r1, h.r2, h.c1, h.c2, h.kg, h.kr, h.ks, h.ne, h.cap, (World.cell?_of_block (a := ⟨g, 0, none⟩) (set4_heap hgne)).trans h.g0, set4_blkT h.rowB,
  fun k hk => (World.cell?_of_block (a := ⟨rb, k, none⟩) (set4_heap (fun e => h.ne i hi e.symm))).trans (h.rowC k hk), fun k hk => set4_blkT (h.celB k hk), fun k l hk hl => ?_⟩
 unfold setCl
 have hC := h.celC k l hk hl
 by_cases hb : rs k = rs i
 ·by_cases hjl : l = j
  ·rw [if_pos ⟨hb, hjl⟩, hb, hjl]
   exact set4_new (h.celB i hi).blk (by omega)
  ·rw [if_neg (fun e => hjl e.2), hb]
   rw [hb] at hC
   rw [set4_old (by omega), set4_old (by omega), set4_old (by omega), set4_old (by omega)]
   exact hC
 ·rw [if_neg (fun e => hb e.1)]
  have := fun o => World.cell?_of_block (a := ⟨rs k, o, none⟩) (set4_heap (W := W) (o := j * 4) (c := c) hb)
  rw [this, this, this, this]
  exact hC
theorem at_ok {K : Nat → Prop} {g rb cp R C : Nat} {rs : Nat → Nat} {cell : Nat → Nat → Cl} (w : World) (h : GridIs K w g rb cp R C rs cell) (i j : Nat) (hi : i < R) (hj : j < C) :
  Fn w 96 #[.pointer (some ⟨g, 0, none⟩), pr i j] (.tuple #[(cell i j).v, .int .i64 0]) := by
 have HT := Lib.hid (fun W (hW : Below w.heap.size w W) b (hp : PosAt W b 1 (fun _ => (i : Int)) (fun _ => (j : Int))) => there_any W (h.later hW) b 1 (by omega) _ _ hp)
 have HG := Lib.hid h
 have he : thereE R C 1 (fun _ => (i : Int)) (fun _ => (j : Int)) = 0 := thereE_ok (fun _ _ => by unfold inR; omega)
 rw [he] at HT
 clear h he
 go_enter Tryz.func96, Tryz.ntmps96
 go_wp2_with fail
 refine gen_calls ?_
 intro u hu0
 have KFu : ∀ W, Below u.heap.size u W → (W.cell? ⟨w.heap.size, 0, none⟩ = some (.int .i64 (i : Int)) ∧ W.cell? ⟨w.heap.size, 1, none⟩ = some (.int .i64 (j : Int))) ∧ (Blk W (w.heap.size + 1) 4) ∧ Below w.heap.size w W := by
  intro W hu
  refine ⟨⟨?_, ?_⟩, ?_, ?_⟩
  ·exact (hu.cell (by rw [hu0]; simp <;> omega)).trans (by rw [hu0]; simp [go_sem])
  ·exact (hu.cell (by rw [hu0]; simp <;> omega)).trans (by rw [hu0]; simp [go_sem])
  ·exact Blk.later (by rw [hu0]; repeat first | exact Blk.new (by simp) rfl | refine Blk.alloc ?_ _) hu
  ·exact bel_call (by rw [hu0]; (repeat first | exact Below.refl _ _ | refine bel_alloc ?_ _)) hu
 have hpos : PosAt u (w.heap.size + 1 + 1) 1 (fun _ => (i : Int)) (fun _ => (j : Int)) := by
  intro k hk
  have : k = 0 := by omega
  subst this
  rw [hu0]
  constructor <;> simp [go_sem]
 clear hu0
 refine (HT.out u (KFu _ (Below.refl _ _)).2.2 _ hpos).mono ?_
 rintro e w1 ⟨rfl, b1⟩
 obtain ⟨⟨k0, k1⟩, fr0, kb⟩ := KFu _ b1
 obtain ⟨x0, e0, z0⟩ := fr0.get 0 (by decide)
 obtain ⟨x1, e1, z1⟩ := fr0.get 1 (by decide)
 obtain ⟨x2, e2, z2⟩ := fr0.get 2 (by decide)
 obtain ⟨x3, e3, z3⟩ := fr0.get 3 (by decide)
 have hs1 := fr0.lt
 have G1 := HG.out.later kb
 have g0 := G1.g0
 have g1 := G1.rowC i hi
 obtain ⟨q0, q1, q2, q3⟩ := G1.celC i j hi hj
 have HK := Lib.hid kb
 clear G1 fr0 kb
 have i1 : (i : Int) < (R : Int) := by omega
 have i2 : (j : Int) < (C : Int) := by omega
 go_wp2_with fail
 go_region
 go_wp2_with fail
 have kb := HK.out
 exact bodyPost_ret (v := .tuple #[(cell i j).v, .int .i64 0]) (by simp [results, Tryz.results96, go_sem, World.cell?_alloc_lt, e0, e1, e2, e3, hs1, Cl.v]) rfl ⟨rfl, by (repeat first | exact kb | exact Below.refl _ _ | refine bel_alloc ?_ _ | refine Below.drew ?_ | refine bel_set ?_ (by simp <;> omega) _)⟩
theorem at_out {K : Nat → Prop} {g rb cp R C : Nat} {rs : Nat → Nat} {cell : Nat → Nat → Cl} (w : World) (h : GridIs K w g rb cp R C rs cell) (i j : Int) (hij : ¬ inR R C i j) :
  Fn w 96 #[.pointer (some ⟨g, 0, none⟩), pr i j] (.tuple #[(⟨0, 0, false, 0⟩ : Cl).v, .int .i64 11]) := by
 have HT := Lib.hid (fun W (hW : Below w.heap.size w W) b (hp : PosAt W b 1 (fun _ => i) (fun _ => j)) => there_any W (h.later hW) b 1 (by omega) _ _ hp)
 have he : thereE R C 1 (fun _ => i) (fun _ => j) = 11 := thereE_bad (j := 0) (by omega) hij
 rw [he] at HT
 clear h he
 go_enter Tryz.func96, Tryz.ntmps96
 go_wp2_with fail
 refine gen_calls ?_
 intro u hu0
 have KFu : ∀ W, Below u.heap.size u W → (W.cell? ⟨w.heap.size, 0, none⟩ = some (.int .i64 i) ∧ W.cell? ⟨w.heap.size, 1, none⟩ = some (.int .i64 j) ∧ W.cell? ⟨w.heap.size + 1, 0, none⟩ = some (.int .i32 0) ∧ W.cell? ⟨w.heap.size + 1, 1, none⟩ = some (.int .i64 0) ∧ W.cell? ⟨w.heap.size + 1, 2, none⟩ = some (.bool false) ∧ W.cell? ⟨w.heap.size + 1, 3, none⟩ = some (.int .i64 0)) ∧ (Blk W (w.heap.size + 1) 4) ∧ Below w.heap.size w W := by
  intro W hu
  refine ⟨⟨?_, ?_, ?_, ?_, ?_, ?_⟩, ?_, ?_⟩
  ·exact (hu.cell (by rw [hu0]; simp <;> omega)).trans (by rw [hu0]; simp [go_sem])
  ·exact (hu.cell (by rw [hu0]; simp <;> omega)).trans (by rw [hu0]; simp [go_sem])
  ·exact (hu.cell (by rw [hu0]; simp <;> omega)).trans (by rw [hu0]; simp [go_sem])
  ·exact (hu.cell (by rw [hu0]; simp <;> omega)).trans (by rw [hu0]; simp [go_sem])
  ·exact (hu.cell (by rw [hu0]; simp <;> omega)).trans (by rw [hu0]; simp [go_sem])
  ·exact (hu.cell (by rw [hu0]; simp <;> omega)).trans (by rw [hu0]; simp [go_sem])
  ·exact Blk.later (by rw [hu0]; repeat first | exact Blk.new (by simp) rfl | refine Blk.alloc ?_ _) hu
  ·exact bel_call (by rw [hu0]; (repeat first | exact Below.refl _ _ | refine bel_alloc ?_ _)) hu
 have hpos : PosAt u (w.heap.size + 1 + 1) 1 (fun _ => i) (fun _ => j) := by
  intro k hk
  have : k = 0 := by omega
  subst this
  rw [hu0]
  constructor <;> simp [go_sem]
 clear hu0
 refine (HT.out u (KFu _ (Below.refl _ _)).2.2 _ hpos).mono ?_
 rintro e w1 ⟨rfl, b1⟩
 obtain ⟨⟨k0, k1, e0, e1, e2, e3⟩, fr0, kb⟩ := KFu _ b1
 obtain ⟨x0, y0, z0⟩ := fr0.get 0 (by decide)
 obtain ⟨x1, y1, z1⟩ := fr0.get 1 (by decide)
 obtain ⟨x2, y2, z2⟩ := fr0.get 2 (by decide)
 obtain ⟨x3, y3, z3⟩ := fr0.get 3 (by decide)
 have hs1 := fr0.lt
 have HK := Lib.hid kb
 clear fr0 kb y0 y1 y2 y3 x0 x1 x2 x3
 go_wp2_with fail
 have kb := HK.out
 exact bodyPost_ret (v := .tuple #[(⟨0, 0, false, 0⟩ : Cl).v, .int .i64 11]) (by simp [results, Tryz.results96, go_sem, World.cell?_alloc_lt, e0, e1, e2, e3, hs1, Cl.v]) rfl ⟨rfl, by (repeat first | exact kb | exact Below.refl _ _ | refine bel_alloc ?_ _ | refine Below.drew ?_ | refine bel_set ?_ (by simp <;> omega) _)⟩
theorem set_ok {K : Nat → Prop} {g rb cp R C : Nat} {rs : Nat → Nat} {cell : Nat → Nat → Cl} (w : World) (hK : KB K w) (h : GridIs K w g rb cp R C rs cell) (i j : Nat) (hi : i < R) (hj : j < C) (c : Cl) :
  Calls Tryz.prog 190 #[.pointer (some ⟨g, 0, none⟩), pr i j, c.v] w fun e w' => e = .returned (.int .i64 0) ∧ GridIs K w' g rb cp R C rs (setCl rs cell i j c) ∧ Kept K w w' := by
 have HT := Lib.hid (fun W (hW : Below w.heap.size w W) b (hp : PosAt W b 1 (fun _ => (i : Int)) (fun _ => (j : Int))) => there_any W (h.later hW) b 1 (by omega) _ _ hp)
 have HG := Lib.hid h
 have he : thereE R C 1 (fun _ => (i : Int)) (fun _ => (j : Int)) = 0 := thereE_ok (fun _ _ => by unfold inR; omega)
 rw [he] at HT
 have Hend := Lib.hid (fun W (hb : Below w.heap.size w W) => (show GridIs K (set4 W (rs i) (j * 4) c) g rb cp R C rs (setCl rs cell i j c) ∧ Kept K w (set4 W (rs i) (j * 4) c) from
  ⟨(h.later hb).set4 hi hj c, (Kept.ofBelow hb hK).trans (set4_kept W (h.ks i hi) _ c)⟩))
 clear h he hK
 unfold Cl.v
 go_enter Tryz.func190, Tryz.ntmps190
 go_wp2_with fail
 refine gen_calls ?_
 intro u hu0
 have KFu : ∀ W, Below u.heap.size u W → (W.cell? ⟨w.heap.size, 0, none⟩ = some (.int .i64 (i : Int)) ∧ W.cell? ⟨w.heap.size, 1, none⟩ = some (.int .i64 (j : Int)) ∧ W.cell? ⟨w.heap.size + 1, 0, none⟩ = some (.int .i32 c.g) ∧ W.cell? ⟨w.heap.size + 1, 1, none⟩ = some (.int .i64 c.a) ∧ W.cell? ⟨w.heap.size + 1, 2, none⟩ = some (.bool c.d) ∧ W.cell? ⟨w.heap.size + 1, 3, none⟩ = some (.int .i64 c.m)) ∧ True ∧ Below w.heap.size w W := by
  intro W hu
  refine ⟨⟨?_, ?_, ?_, ?_, ?_, ?_⟩, trivial, ?_⟩
  ·exact (hu.cell (by rw [hu0]; simp <;> omega)).trans (by rw [hu0]; simp [go_sem])
  ·exact (hu.cell (by rw [hu0]; simp <;> omega)).trans (by rw [hu0]; simp [go_sem])
  ·exact (hu.cell (by rw [hu0]; simp <;> omega)).trans (by rw [hu0]; simp [go_sem])
  ·exact (hu.cell (by rw [hu0]; simp <;> omega)).trans (by rw [hu0]; simp [go_sem])
  ·exact (hu.cell (by rw [hu0]; simp <;> omega)).trans (by rw [hu0]; simp [go_sem])
  ·exact (hu.cell (by rw [hu0]; simp <;> omega)).trans (by rw [hu0]; simp [go_sem])
  ·exact bel_call (by rw [hu0]; (repeat first | exact Below.refl _ _ | refine bel_alloc ?_ _)) hu
 have hpos : PosAt u (w.heap.size + 1 + 1) 1 (fun _ => (i : Int)) (fun _ => (j : Int)) := by
  intro k hk
  have : k = 0 := by omega
  subst this
  rw [hu0]
  constructor <;> simp [go_sem]
 clear hu0
 refine (HT.out u (KFu _ (Below.refl _ _)).2.2 _ hpos).mono ?_
 rintro e w1 ⟨rfl, b1⟩
 obtain ⟨⟨k0, k1, k2, k3, k4, k5⟩, _, kb⟩ := KFu _ b1
 have G1 := HG.out.later kb
 have g0 := G1.g0
 have g1 := G1.rowC i hi
 have hbk := (G1.celB i hi).blk
 obtain ⟨x0, e0, z0⟩ := hbk.get (j * 4) (by omega)
 obtain ⟨x1, e1, z1⟩ := hbk.get (j * 4 + 1) (by omega)
 obtain ⟨x2, e2, z2⟩ := hbk.get (j * 4 + 2) (by omega)
 obtain ⟨x3, e3, z3⟩ := hbk.get (j * 4 + 3) (by omega)
 have Hk := Lib.hid kb
 clear G1 kb hbk
 have i1 : (i : Int) < (R : Int) := by omega
 have i2 : (j : Int) < (C : Int) := by omega
 go_wp2_with fail
 go_region
 go_wp2_with fail
 go_ret
 obtain ⟨f1, f2⟩ := Hend.out w1 Hk.out
 exact ⟨rfl, f1.to rfl rfl (fun _ _ => rfl), f2.drew⟩
end Go.Proofs.YtpjooboohelffaaGreatDoor
/- A range over a function whose iterator writes a variable of its own: what the caller owes and gets. The iterator is shown for invariants that stand on the caller's own and on what is no cells. -/
namespace Go.Proofs.YtpjooboohelffaaGreatDoor
open Go.RowKit Go.Shelf
set_option linter.unusedVariables false

/-- The loop's two blocks of book-keeping. -/
def Book (W : World) (D l : Nat) (r : Loop) : Prop := W.heap[l]? = some (.loop r) ∧ W.heap[D]? = some (.deferred (some []))
theorem Book.kept {B D l : Nat} {r : Loop} {W W' : World} (h : Book W D l r) (hk : KeepsFrom B W W') (hD : B ≤ D) (hl : B ≤ l) : Book W' D l r :=
 ⟨hk.same _ _ hl h.1 rfl, hk.same _ _ hD h.2 rfl⟩
theorem Book.turn {D l : Nat} {r : Loop} {W : World} (h : Book W D l r) (hne : D ≠ l) (r' : Loop) : Book (W.putObj l (.loop r')) D l r' :=
 ⟨World.putObj_heap_same (Array.getElem?_eq_some_iff.1 h.1).1, (World.putObj_heap_other hne).trans h.2⟩

theorem walk_no_cells {o : Obj} (h : o.isWalk = true) : o.isCells = false := by cases o <;> simp_all [Obj.isWalk, Obj.isCells]
theorem Book.abides {D l : Nat} {r : Loop} {W W' : World} {row : Option Nat} (h : Book W D l r) (hg : W.grownBy W' row) (hr : ∀ r, row = some r → ∃ o : Obj, W.heap[r]? = some o ∧ o.isWalk = true) : Book W' D l r :=
 ⟨(grownBy_keeps hg hr h.1 rfl).trans h.1, (grownBy_keeps hg hr h.2 rfl).trans h.2⟩
section
variable {α : Type} {P : Program} {n m : Nat}

/-- What an iterator must do, for the caller's invariants I (between two rounds) and J, which stands on I and on what is no cells. -/
def Iterates (P : Program) (n m : Nat) (gf : Nat) (lb : Array Value) (encs : α → Array Value) (S Sp : List α → Prop) (V : List α → α → Prop) (N B : Nat) (I : List α → World → Prop) (Kp : World → World → Prop) (W0 : World) : Prop :=
 ∀ (l : Nat) (J Jx : List α → World → Prop), J [] W0 → (∀ s X X', J s X → I s X' → KeepsFrom B X X' → J s X') → AbidesFrom B J → (∀ s X, J s X → I s X) →
  (∀ pre x X, J pre X → pre.length < N → V pre x → YieldAt Fence.wide m P l (encs x) X fun e X' =>
   (e = .returned (.bool true) ∧ J (pre ++ [x]) X' ∧ Kp X X') ∨ (e = .returned (.bool false) ∧ Jx (pre ++ [x]) X')) →
  CallsIn Fence.wide n P gf (#[.func (.yield l) #[] #[]] ++ lb) W0 fun e W' => (∃ v, e = .returned v) ∧ ((∃ xs, S xs ∧ J xs W') ∨ (∃ pre, Sp pre ∧ Jx pre W'))

theorem ownsB {B : Nat} {β : Type} {I : β → World → Prop} (hI : OwnFrom B I) {s : β} {W : World} {D l : Nat} {r : Loop} (hb : Book W D l r) (hl : B ≤ l) (o : Obj) (h : I s W) : I s (W.putObj l o) :=
 hI.putObj o h hl hb.1 rfl

theorem range_law {g : Operand} {ps : Array Tmp} {assign body : Code} {Q : Exit → Act → World → Prop} {a : Act} {w : World} {gf : Nat} {lb : Array Value}
  (hg : a.eval g = .func (.func gf) #[] lb) (eg : ∀ args w, (callFunc gf args).run P w = .ok (.enter gf args) w) {encs : α → Array Value} (hps : ∀ x, (encs x).size = ps.size)
  {S Sp : List α → Prop} {V : List α → α → Prop} {N : Nat} {Kp : World → World → Prop} (hKt : ∀ {X Y Z : World}, Kp X Y → Kp Y Z → Kp X Z)
  (hKb : ∀ (W : World) (l : Nat) (o o' : Obj), w.heap.size ≤ l → W.heap[l]? = some o → o.isCells = false → o.isWalk = false → Kp W (W.putObj l o'))
  (I : List α → World → Prop) (Ix : Code → List α → World → Prop) (hI : OwnFrom w.heap.size I) (hIx : ∀ c, OwnFrom w.heap.size (Ix c)) (h0 : I [] w)
  (Ax : α → Act → World → Prop) (hAx : ∀ x a', OwnFrom w.heap.size (fun (_ : Unit) W => Ax x a' W))
  (hit : ∀ W0, (∃ o o', o.isCells = false ∧ o'.isCells = false ∧ W0 = (w.alloc o).alloc o') → I [] W0 → Iterates P n m gf lb encs S Sp V N w.heap.size I Kp W0)
  (hassign : ∀ (l : Nat) (pre : List α) (x : α) (W : World) (K : Act → World → Prop), I pre W → (∀ a' W', KeepsFrom w.heap.size W W' → Kp W W' → I pre W' → Ax x a' W' → K a' W') →
   assign.wpIn (Fence.wide.inRound l) m P (Exit.then K (fun _ _ _ => False)) { tmps := (ps.zip (encs x)).foldl (fun t (p, v) => t.setIfInBounds p v) a.tmps, defers := [] } W)
  (hbody : ∀ (l : Nat) (pre : List α) (x : α) (a' : Act) (W : World), I pre W → Ax x a' W → pre.length < N → V pre x → body.wpIn (Fence.wide.inRound l) m P (ownPostG w.heap.size Kp I Ix (pre ++ [x]) W) a' W)
  (hdone : ∀ (D : Nat) (xs : List α) (W : World), w.heap.size ≤ D → S xs → I xs W → W.heap[D]? = some (.deferred (some [])) → Q .normal { a with defers := { target := .collected D, args := #[] } :: a.defers } W)
  (hstop : ∀ (D : Nat) (c : Code) (pre : List α) (W : World), w.heap.size ≤ D → Sp pre → Ix c pre W → W.heap[D]? = some (.deferred (some [])) → c.wpIn Fence.wide (n + 1) P Q { a with defers := { target := .collected D, args := #[] } :: a.defers } W) :
  (Code.rangeFunc g ps assign body).wpIn Fence.wide (n + 1) P Q a w := by
 refine wpIn_rangeFunc fun fn hfn => ?_
 have hD : w.heap.size ≠ w.heap.size + 1 := by omega
 let rc : LoopState → Option Code → Loop := fun st pe => { state := st, pending := pe, fn, tmps := a.tmps, params := ps, assign, body, defers := w.heap.size }
 have hW : ∃ o o' : Obj, o.isCells = false ∧ o'.isCells = false ∧ (w.alloc (.deferred (some []))).alloc (.loop (rc .ready none)) = (w.alloc o).alloc o' := ⟨_, _, rfl, rfl, rfl⟩
 have hbook : Book ((w.alloc (.deferred (some []))).alloc (.loop (rc .ready none))) w.heap.size (w.heap.size + 1) (rc .ready none) := by
  constructor
  ·have := World.alloc_heap_new (w.alloc (.deferred (some []))) (.loop (rc .ready none))
   rwa [World.size_alloc] at this
  ·exact (Below.heap_alloc _ _ _ (by simp)).trans (World.alloc_heap_new w _)
 have hI1 : I [] ((w.alloc (.deferred (some []))).alloc (.loop (rc .ready none))) := hI.alloc _ (hI.alloc _ h0)
 obtain ⟨W1, hW1⟩ : ∃ W1, (w.alloc (.deferred (some []))).alloc (.loop (rc .ready none)) = W1 := ⟨_, rfl⟩
 rw [hW1] at hbook hI1 hW
 refine ⟨w.heap.size + 1, [{ target := .collected w.heap.size, args := #[] }], W1, { target := .fn (.func gf) lb, args := #[.func (.yield (w.heap.size + 1)) #[] #[]] }, W1, gf,
  #[.func (.yield (w.heap.size + 1)) #[] #[]] ++ lb, W1, by rw [← hW1]; exact run_enterLoop_outer _ _ _ _ _, ?_, fun _ _ => trivial, ?_, fun _ => Nat.le_add_left 1 n, ?_⟩
 ·simp only [resolve, hg]
  simp [go_sem]
 ·simp [invoke, go_sem, eg]
 refine (hit W1 hW hI1 (w.heap.size + 1) (fun pre X => I pre X ∧ Book X w.heap.size (w.heap.size + 1) (rc .ready none))
  (fun pre X => ∃ c, Ix c pre X ∧ Book X w.heap.size (w.heap.size + 1) (rc .done (some c))) ⟨hI1, hbook⟩
  (fun s X X' hj hi hk => ⟨hi, hj.2.kept hk (Nat.le_refl _) (by omega)⟩)
  (fun s X X' row hj hg hr => ⟨hI s X X' row hj.1 hg (fun r e => by obtain ⟨h1, o, h2, h3⟩ := hr r e; exact ⟨h1, o, h2, walk_no_cells h3⟩), hj.2.abides hg (fun r e => (hr r e).2)⟩) (fun s X hj => hj.1) ?_).mono ?_
 ·rintro pre x X ⟨hi, hb⟩ hlen hv
  refine ⟨fn, _, assign, body, run_yield hb.1 (hps x), roundIn_of_wpIn hfn (hassign _ pre x X _ hi ?_)⟩
  intro a' Xa hka hpa hia hax
  have hba := hb.kept hka (Nat.le_refl _) (by omega)
  refine ⟨_, run_beginRound hba.1 rfl, ?_⟩
  have hbb := hba.turn hD { rc .ready none with state := .busy }
  have hpb := hKb Xa _ _ (.loop { rc .ready none with state := .busy }) (by omega) hba.1 rfl rfl
  refine wpIn_mono (hbody _ pre x a' _ (ownsB hI hba (by omega) _ hia) (ownsB (s := ()) (hAx x a') hba (by omega) _ hax) hlen hv) ?_
  have stop : ∀ (c : Code) (Y : World), KeepsFrom w.heap.size (Xa.putObj (w.heap.size + 1) (.loop { rc .ready none with state := .busy })) Y → Ix c (pre ++ [x]) Y →
    ∃ v Y', (Instr.endRound (w.heap.size + 1) (some c)).run P Y = .ok v Y' ∧ ((Ending.returned v = .returned (.bool true) ∧ (I (pre ++ [x]) Y' ∧ Book Y' w.heap.size (w.heap.size + 1) (rc .ready none)) ∧ Kp X Y') ∨
     (Ending.returned v = .returned (.bool false) ∧ ∃ c, Ix c (pre ++ [x]) Y' ∧ Book Y' w.heap.size (w.heap.size + 1) (rc .done (some c)))) := fun c Y hk hx => by
   have hby := hbb.kept hk (Nat.le_refl _) (by omega)
   exact ⟨_, _, run_endRound (some c) hby.1, .inr ⟨rfl, c, ownsB (hIx c) hby (by omega) _ hx, hby.turn hD _⟩⟩
  rintro e b Y hp
  cases e with
  | normal =>
   obtain ⟨hk, hkp, hi3⟩ := hp
   have hby := hbb.kept hk (Nat.le_refl _) (by omega)
   exact ⟨_, _, run_endRound none hby.1, .inl ⟨rfl, ⟨ownsB hI hby (by omega) _ hi3, hby.turn hD _⟩, hKt hpa (hKt (hKt hpb hkp) (hKb Y _ _ _ (by omega) hby.1 rfl rfl))⟩⟩
  | ret => exact stop .ret Y hp.1 hp.2
  | exit id => exact stop (.exit id) Y hp.1 hp.2
  | goto t => exact stop (.goto t) Y hp.1 hp.2
  | panic ch => exact hp.elim
  | outgrown => exact hp.elim
 ·rintro e Y ⟨⟨v, rfl⟩, ⟨xs, hS, hi, hb⟩ | ⟨pre, hSp, c, hx, hb⟩⟩
  ·exact ⟨none, _, run_endLoop hb.1 (by simp [rc]), hdone _ xs _ (Nat.le_refl _) hS (ownsB hI hb (by omega) _ hi) ((World.putObj_heap_other hD).trans hb.2)⟩
  ·exact ⟨some c, _, run_endLoop hb.1 (by simp [rc]), hstop _ c pre _ (Nat.le_refl _) hSp (ownsB (hIx c) hb (by omega) _ hx) ((World.putObj_heap_other hD).trans hb.2)⟩
end
theorem roundIn_any {n m : Nat} {P : Program} {l : Nat} {f : FuncId} {tmps : Array Value} {assign body : Code} {w : World} {R : Ending → World → Prop}
  (h : RoundIn Fence.wide n P l f tmps assign body w R) : RoundIn Fence.wide m P l f tmps assign body w R :=
 ⟨h.1, fun c cs _ => h.2 c cs (room_wide _)⟩
theorem keepsB {B : Nat} {W W' : World} (h : Below W.heap.size W W') : KeepsFrom B W W' :=
 ⟨h.size, fun k o _ hk _ => (h.block k (Array.getElem?_eq_some_iff.1 hk).1).trans hk⟩
end Go.Proofs.YtpjooboohelffaaGreatDoor
/- Top: the iterator over all places of a grid. -/
namespace Go.Proofs.YtpjooboohelffaaGreatDoor
open Go.RowKit Go.Shelf
set_option linter.unusedVariables false
set_option linter.unusedSimpArgs false
set_option maxRecDepth 100000
attribute [local go_sem] Oper.semAt_some
def KeepsCells (B : Nat) (X X' : World) : Prop := X.heap.size ≤ X'.heap.size ∧ ∀ (k : Nat) (o : Obj), B ≤ k → X.heap[k]? = some o → o.isCells = true → X'.heap[k]? = some o
theorem KeepsCells.trans {B : Nat} {X Y Z : World} (h : KeepsCells B X Y) (k : KeepsCells B Y Z) : KeepsCells B X Z := ⟨Nat.le_trans h.1 k.1, fun i o hB hi ho => k.2 i o hB (h.2 i o hB hi ho) ho⟩
theorem KeepsCells.ofBelow {B : Nat} {X Y : World} (h : Below X.heap.size X Y) : KeepsCells B X Y := ⟨h.size, fun i o _ hi _ => (h.block i (Array.getElem?_eq_some_iff.1 hi).1).trans hi⟩
theorem KeepsCells.cell {B : Nat} {X Y : World} (h : KeepsCells B X Y) {b o : Nat} {v : Value} (hB : B ≤ b) (hc : X.cell? ⟨b, o, none⟩ = some v) : Y.cell? ⟨b, o, none⟩ = some v := by
 have hlt := World.block_lt_of_cell? X ⟨b, o, none⟩ hc
 obtain ⟨ob, hob⟩ : ∃ ob, X.heap[b]? = some ob := ⟨_, Array.getElem?_eq_getElem hlt⟩
 have hcl : ob.isCells = true := by
  cases ob <;> first | rfl | (simp [World.cell?, hob] at hc)
 exact (World.cell?_of_block (a := ⟨b, o, none⟩) ((h.2 b ob hB hob hcl).trans hob.symm)).trans hc
/-- Blocks of one type are kept. -/
def KeepsT (t : TypeId) (X X' : World) : Prop := X.heap.size ≤ X'.heap.size ∧ ∀ (k : Nat) (cs : Array Value), X.heap[k]? = some (.cells cs t (0, 0)) → X'.heap[k]? = some (.cells cs t (0, 0))
theorem KeepsT.refl (t : TypeId) (X : World) : KeepsT t X X := ⟨Nat.le_refl _, fun _ _ h => h⟩
theorem KeepsT.trans {t : TypeId} {X Y Z : World} (h : KeepsT t X Y) (k : KeepsT t Y Z) : KeepsT t X Z := ⟨Nat.le_trans h.1 k.1, fun i cs hi => k.2 i cs (h.2 i cs hi)⟩
theorem KeepsT.ofBelow {t : TypeId} {X Y : World} (h : Below X.heap.size X Y) : KeepsT t X Y := ⟨h.size, fun i cs hi => (h.block i (Array.getElem?_eq_some_iff.1 hi).1).trans hi⟩
theorem KeepsT.putObj {t : TypeId} (W : World) (l : Nat) (o o' : Obj) (hl : W.heap[l]? = some o) (ho : o.isCells = false) : KeepsT t W (W.putObj l o') := by
 refine ⟨by simp, fun k cs hk => ?_⟩
 have hne : k ≠ l := fun e => by
  subst e
  rw [hl] at hk
  cases hk
  cases ho
 exact (World.putObj_heap_other hne).trans hk
theorem cells2 {W : World} {b : Nat} {u v : Value} {t : TypeId} (h : W.heap[b]? = some (.cells #[u, v] t (0, 0))) : W.cell? ⟨b, 0, none⟩ = some u ∧ W.cell? ⟨b, 1, none⟩ = some v := by
 constructor <;> simp [World.cell?, h]
/-- A place with its cell. -/
structure PC where
 i : Nat
 j : Nat
 c : Cl
def encPC (x : PC) : Array Value := #[pr x.i x.j, x.c.v]
def kth (C : Nat) (cell : Nat → Nat → Cl) (k : Nat) : PC := ⟨k / C, k % C, cell (k / C) (k % C)⟩
set_option maxHeartbeats 4000000 in
theorem all_iter (n : Nat) (hn : 1 ≤ n) (Bx B g rb cp R C : Nat) (K : Nat → Prop) (V : List PC → PC → Prop) (I : List PC → World → Prop) (Kp : World → World → Prop) (W0 : World) (hB : B ≤ W0.heap.size)
  (hIs : ∀ pre X X', I pre X → Below X.heap.size X X' → I pre X')
  (hIc : ∀ pre X, I pre X → X.cell? ⟨Bx, 0, none⟩ = some (.pointer (some ⟨g, 0, none⟩)) ∧ ∃ rs cell, GridIs K X g rb cp R C rs cell ∧ (pre.length < R * C → V pre (kth C cell pre.length)))
  (hKp : ∀ X X', Kp X X' → KeepsT 23 X X') :
  Iterates Tryz.prog n (n - 1) 99 #[.pointer (some ⟨Bx, 0, none⟩)] encPC (fun ys => ys.length = R * C) (fun _ => True) V (R * C) B I Kp W0 := by
 intro l J Jx hJ0 hJk _ hJI hY
 have hJs : ∀ s X X', J s X → Below X.heap.size X X' → J s X' := fun s X X' hj hb => hJk s X X' hj (hIs _ _ _ (hJI _ _ hj) hb) (keepsB hb)
 have hJc := fun s X (h : J s X) => hIc _ _ (hJI _ _ h)
 obtain ⟨cx, rs0, cell0, hG0, -⟩ := hJc _ _ hJ0
 have HS := Lib.hid (size_any W0 hG0)
 have hr1 := hG0.r1
 have hr2 := hG0.r2
 have hc1 := hG0.c1
 have hc2 := hG0.c2
 have HJ := Lib.hid hJ0
 have HJs := Lib.hid hJs
 have HJc := Lib.hid hJc
 have HY := Lib.hid hY
 have HKp := Lib.hid hKp
 have HB := Lib.hid hB
 clear hG0 hJ0 hJs hJc hY hKp hB hJk hJI hIs hIc
 refine callsIn_of_wp Tryz.func99 rfl trivial ?_ rfl
 simp only [Tryz.ntmps99, List.size_toArray, List.length_cons, List.length_nil, Nat.reduceAdd, Nat.reduceSub, Array.replicate_succ, Array.replicate_zero, List.push_toArray, List.append_toArray, List.nil_append, List.cons_append]
 gi_wp2_with (refine ⟨trivial, ?_⟩; gi_at_call 53; refine (callsIn_wide.2 HS.out).mono ?_; rintro e w1 ⟨rfl, b1⟩; have hb0 := Lib.hid (show Below W0.heap.size W0 (w1.alloc (.cells #[.int .i64 (R : Int), .int .i64 (C : Int)] 23)) from bel_call b1 (bel_alloc (Below.refl _ _) _)); have HSz := Lib.hid b1.size; clear b1)
 have HJ1 := Lib.hid (HJs.out _ _ _ HJ.out hb0.out)
 have Hz := Lib.hid (heap_alloc_new w1 (.cells #[.int .i64 (R : Int), .int .i64 (C : Int)] 23))
 clear cx HS HJ
 gi_loopw [10] (fun i wr => ∃ k : Nat, k ≤ R ∧ i = .int .i64 (k : Int) ∧ (∃ pre, pre.length = k * C ∧ J pre wr) ∧ wr.heap[w1.heap.size]? = some (.cells #[.int .i64 (R : Int), .int .i64 (C : Int)] 23 (0, 0))) (fun i _ => R - (intOf i).toNat)
 case atStart => exact ⟨0, Nat.zero_le _, rfl, ⟨[], by simp, HJ1.out⟩, Hz.out⟩
 case round =>
  obtain ⟨k, hk, rfl, hpre, hz⟩ := hrel
  obtain ⟨s0, s1⟩ := cells2 hz
  have Hz := Lib.hid hz
  clear hz
  have HPre := Lib.hid hpre
  clear hpre
  by_cases hlt : k < R
  ·have q1 : (k : Int) < (R : Int) := by omega
   gi_wp2_with fail
   clear s0 s1
   gi_loopw [15] (fun i wr => ∃ m : Nat, m ≤ C ∧ i = .int .i64 (m : Int) ∧ (∃ pre, pre.length = k * C + m ∧ J pre wr) ∧ wr.heap[w1.heap.size]? = some (.cells #[.int .i64 (R : Int), .int .i64 (C : Int)] 23 (0, 0))) (fun i _ => C - (intOf i).toNat)
   case atStart => exact ⟨0, Nat.zero_le _, rfl, HPre.out, Hz.out⟩
   case round =>
    obtain ⟨m, hm, rfl, hpre2, hz⟩ := hrel
    have Ht := Lib.hid hz
    clear hz
    by_cases hlt2 : m < C
    ·have q2 : (m : Int) < (C : Int) := by omega
     obtain ⟨pre, hpl, hJr⟩ := hpre2
     obtain ⟨cx, rs, cell, hG, hV⟩ := HJc.out _ _ hJr
     have hkm : k * C + m < R * C := by
      have : (k + 1) * C ≤ R * C := Nat.mul_le_mul_right C hlt
      rw [Nat.succ_mul] at this
      omega
     have hVx := hV (by rw [hpl]; exact hkm)
     have hdiv : (k * C + m) / C = k := by rw [Nat.mul_comm, Nat.mul_add_div (by omega), Nat.div_eq_of_lt hlt2]; omega
     have hmod : (k * C + m) % C = m := by rw [Nat.mul_comm, Nat.mul_add_mod, Nat.mod_eq_of_lt hlt2]
     have hkx : kth C cell pre.length = ⟨k, m, cell k m⟩ := by unfold kth; rw [hpl, hdiv, hmod]
     rw [hkx] at hVx
     obtain ⟨fn, tmps, assign, body, hy, hR⟩ := HY.out _ _ _ hJr (by rw [hpl]; exact hkm) hVx
     have hR' := (roundIn_any (m := n - 1) hR).mono (R' := fun e X' => ∃ r : Bool, e = .returned (.bool r) ∧ Hid ((r = true ∧ (∃ p2, p2.length = k * C + (m + 1) ∧ J p2 X') ∧ KeepsT 23 wr X') ∨ (r = false ∧ ∃ p2, Jx p2 X'))) (fun e X' h => by
      rcases h with ⟨rfl, a, c⟩ | ⟨rfl, a⟩
      ·exact ⟨true, rfl, .inl ⟨rfl, ⟨_, by rw [List.length_append, hpl]; simp; omega, a⟩, HKp.out _ _ c⟩⟩
      ·exact ⟨false, rfl, .inr ⟨rfl, _, a⟩⟩)
     have g0 := hG.g0
     have g1 := hG.rowC k hlt
     obtain ⟨d0, d1, d2, d3⟩ := hG.celC k m hlt hlt2
     simp only [encPC, Cl.v] at hy
     clear hR hVx hV hJr hG hkx hdiv hmod hkm hpl
     generalize cell k m = x at *
     gi_wp2_with fail
     refine hR'.mono ?_
     rintro e W' ⟨r, rfl, hpost⟩
     cases r
     ·rcases hpost with ⟨hr, _⟩ | ⟨-, hJx'⟩
      ·cases hr
      have HJx := Lib.hid hJx'
      clear hJx'
      gi_wp2_with fail
      refine bodyPost_ret (results_none rfl _ _ _) rfl ?_
      obtain ⟨p2, hp2⟩ := HJx.out
      exact ⟨⟨_, rfl⟩, .inr ⟨p2, trivial, hp2⟩⟩
     ·rcases hpost with ⟨-, hJ', hk'⟩ | ⟨hr, _⟩
      rotate_left
      ·cases hr
      have HJ' := Lib.hid hJ'
      have Hk' := Lib.hid hk'
      clear hJ' hk'
      gi_wp2_with fail
      go_roundw
      case rel => exact ⟨m + 1, by omega, by go_num, HJ'.out, Hk'.out.2 _ _ Ht.out⟩
      case measure => simp [intOf]; omega
    ·obtain rfl : m = C := by omega
     have HPre2 := Lib.hid hpre2
     clear hpre2
     gi_wp2_with fail
     go_roundw
     case rel =>
      obtain ⟨p2, hp2, hJ2⟩ := HPre2.out
      exact ⟨k + 1, by omega, by go_num, ⟨p2, by rw [Nat.succ_mul]; exact hp2, hJ2⟩, Ht.out⟩
     case measure => simp [intOf]; omega
  ·obtain rfl : k = R := by omega
   gi_wp2_with fail
   go_end0
   obtain ⟨p2, hp2, hJ2⟩ := HPre.out
   exact ⟨⟨_, rfl⟩, .inl ⟨p2, hp2, hJ2⟩⟩
theorem all_any (w : World) (g : Option Addr) : Calls Tryz.prog 63 #[.pointer g] w fun e w' => e = .returned (.func (.func 99) #[] #[.pointer (some ⟨w.heap.size, 0, none⟩)]) ∧ w' = w.alloc (.cells #[.pointer g] 79) := by
 go_enter Tryz.func63, Tryz.ntmps63
 go_wp2_with fail
 go_ret
 exact ⟨rfl, rfl⟩
end Go.Proofs.YtpjooboohelffaaGreatDoor
/- Top: a region that draws inside a round; rows of cells of the call's own. -/
namespace Go.Proofs.YtpjooboohelffaaGreatDoor
open Go.RowKit Go.Shelf
set_option linter.unusedVariables false
set_option linter.unusedSimpArgs false
set_option maxRecDepth 100000
section
variable {P : Program} {Q : Exit → Act → World → Prop}
theorem wpIn_of_wp {l n : Nat} {o : Oper} {a : Act} {w : World} {K : Act → World → Prop} (hd : ∀ c, o.op ≠ .defer c) (h : o.wp P a w K Q) : o.wpIn (Fence.wide.inRound l) n P a w K Q := by
 refine ⟨fun _ _ => trivial, ?_⟩
 rw [Oper.semAt_plain _ _ _ hd]
 unfold Oper.wp at h
 generalize (execOp a.eval o).run P w = r at h
 cases r with
 | ok x w' =>
  cases x with
  | value v => exact h
  | skip => exact h
  | defer d => exact h
  | enter f args => exact ⟨fun e => (by cases e), (callsIn_wide.2 h).inRound l⟩
  | row row args => exact ⟨fun e => (by cases e), fun c cs _ => by
    obtain ⟨v, w2, h1, h2⟩ := h c cs
    exact ⟨v, w2, h1, stepsIn_wide.2 h2⟩⟩
  | _ => exact h.elim
 | halt x w' =>
  cases x with
  | panic v => exact h
  | _ => exact h.elim
theorem wpAnyIn_of_held {l n : Nat} {ops : Array Oper} {md : Region.Mode} {S : World → Prop} (hd : ∀ (i : Nat) (o : Oper), ops[i]? = some o → ∀ c, o.op ≠ .defer c) (hQ : ¬ LetsOut Q) :
  ∀ (fuel : Nat) (listed : Array Bool) (a : Act) (w : World), wpAnyH P md ops Q S fuel listed a w → wpAnyIn (Fence.wide.inRound l) n P md ops Q fuel listed a w
 | 0, _, _, _, h => h
 | fuel + 1, listed, a, w, h => by
  refine ⟨h.1, fun i hi => ?_⟩
  have h2 := h.2 i hi
  unfold wpOp at h2
  unfold wpOpIn
  cases e : ops[i]? with
  | none =>
   simp only [e] at h2 ⊢
   exact wpAnyIn_of_held hd hQ fuel _ _ _ h2.2
  | some o =>
   simp only [e] at h2 ⊢
   split at h2
   ·rw [if_pos (by assumption)]
    rcases h2 with h2 | h2
    ·exact Oper.wpIn_mono (fun a' w' h' => wpAnyIn_of_held hd hQ fuel _ _ _ h'.2) (wpIn_of_wp (hd i o e) h2)
    ·exact absurd h2.2 hQ
   ·rw [if_neg (by assumption)]
    exact ⟨fun _ _ => trivial, wpAnyIn_of_held hd hQ fuel _ _ _ h2.2⟩
theorem wpIn_region_held {l n id : Nat} {ops : Array Oper} {a : Act} {w : World} {S : World → Prop} (hm : P.follows .mixedOrders = true) (hd : ∀ (i : Nat) (o : Oper), ops[i]? = some o → ∀ c, o.op ≠ .defer c) (hQ : ¬ LetsOut Q) (hS : S w.drew)
  (h : S w.drew → wpAnyH P .any ops Q S ops.size (Array.replicate ops.size false) a w.drew) : (Code.region id ops true).wpIn (Fence.wide.inRound l) n P Q a w :=
 wpIn_region_any hm (wpAnyIn_of_held hd hQ _ _ _ _ (h hS))
def noDefer (ops : Array Oper) : Bool := ops.all fun o => match o.op with
 | .defer _ => false
 | _ => true
theorem noDefer_spec {ops : Array Oper} (h : noDefer ops = true) : ∀ (i : Nat) (o : Oper), ops[i]? = some o → ∀ c, o.op ≠ .defer c := by
 intro i o hi c e
 obtain ⟨hlt, rfl⟩ := Array.getElem?_eq_some_iff.1 hi
 have := (Array.all_eq_true.1 h) i hlt
 rw [e] at this
 cases this
end
/-- Only the ordinary end. -/
def OnlyNormal (Q : Exit → Act → World → Prop) : Exit → Act → World → Prop
 | .normal, a, w => Q .normal a w
 | _, _, _ => False
theorem wp_only {P : Program} {c : Code} {Q : Exit → Act → World → Prop} {a : Act} {w : World} (h : c.wp P (OnlyNormal Q) a w) : c.wp P Q a w :=
 wpIn_wide (n := 0).1 (wpIn_mono (wpIn_wide.2 h) (fun e a w hq => by cases e <;> first | exact hq | exact hq.elim))
theorem info_parts {i : Option TypeInfo} {z : Value} {s b : Nat} (h : i.map (fun i => (i.zero, i.size, i.bytes)) = some (some z, s, b)) : ∃ j, i = some j ∧ j.zero = some z ∧ j.size = s ∧ j.bytes = b := by
 cases i with
 | none => cases h
 | some j =>
  simp at h
  exact ⟨j, rfl, h.1, h.2.1, h.2.2⟩
theorem info48 : (Tryz.prog.info? 48).map (fun i => (i.zero, i.size, i.bytes)) = some (some (.agg #[.int .i32 0, .int .i64 0, .bool false, .int .i64 0]), 4, 32) := by kernel_rfl
theorem info44 : (Tryz.prog.info? 44).map (fun i => (i.zero, i.size, i.bytes)) = some (some (.slice none 0 0), 1, 24) := by kernel_rfl
/-- A row of cells of the call's own. -/
def OwnC (w : World) (base : Nat) (v : Value) (L : List Cl) : Prop := w.ownsRow base 48 4 v L.length (L.flatMap Cl.cs)
theorem OwnC.nil (w : World) (base : Nat) : OwnC w base (.slice none 0 0) [] := World.ownsRow_nil _ _ _ _
theorem OwnC.alloc {w : World} {base : Nat} {v : Value} {L : List Cl} (h : OwnC w base v L) (o : Obj) : OwnC (w.alloc o) base v L := World.ownsRow.alloc h o
theorem ownsRow_call {w w' : World} {base : Nat} {e : TypeId} {s n : Nat} {v : Value} {L : List Value} (h : w.ownsRow base e s v n L) (hb : Below w.heap.size w w') : w'.ownsRow base e s v n L := by
 obtain ⟨h1, h2⟩ := h
 refine ⟨h1, ?_⟩
 rcases h2 with h2 | ⟨g, cap, cur, hv, hg, hh, r⟩
 ·exact .inl h2
 ·exact .inr ⟨g, cap, cur, hv, hg, (hb.block g (Array.getElem?_eq_some_iff.1 hh).1).trans hh, r⟩
theorem OwnC.call {w w' : World} {base : Nat} {v : Value} {L : List Cl} (h : OwnC w base v L) (hb : Below w.heap.size w w') : OwnC w' base v L := ownsRow_call h hb
theorem OwnC.shape {w : World} {base : Nat} {v : Value} {L : List Cl} (h : OwnC w base v L) : ∃ ad cap, v = .slice ad L.length cap := by
 rcases h.2 with ⟨rfl, h0⟩ | ⟨g, cap, cur, hv, _⟩
 ·exact ⟨none, 0, by rw [h0]⟩
 ·exact ⟨_, _, hv⟩
theorem cs_get {L : List Cl} {i : Nat} (h : i < L.length) : (L.flatMap Cl.cs)[i * 4]? = some (.int .i32 (L[i]).g) ∧ (L.flatMap Cl.cs)[i * 4 + 1]? = some (.int .i64 (L[i]).a) ∧
  (L.flatMap Cl.cs)[i * 4 + 2]? = some (.bool (L[i]).d) ∧ (L.flatMap Cl.cs)[i * 4 + 3]? = some (.int .i64 (L[i]).m) := by
 induction L generalizing i with
 | nil => simp at h
 | cons x l ih =>
  cases i with
  | zero => simp [Cl.cs]
  | succ i =>
   have := ih (i := i) (by simpa using h)
   simp only [List.flatMap_cons, Cl.cs, List.getElem_cons_succ]
   rw [show (i + 1) * 4 = i * 4 + 4 by omega]
   simpa using this
/-- The cells of a row at a place in memory. -/
def CellsAt (W : World) (b : Nat) (n : Nat) (c : Nat → Cl) : Prop := ∀ j, j < n → W.cell? ⟨b, j * 4, none⟩ = some (.int .i32 (c j).g) ∧ W.cell? ⟨b, j * 4 + 1, none⟩ = some (.int .i64 (c j).a) ∧
  W.cell? ⟨b, j * 4 + 2, none⟩ = some (.bool (c j).d) ∧ W.cell? ⟨b, j * 4 + 3, none⟩ = some (.int .i64 (c j).m)
theorem CellsAt.to {W W' : World} {b n : Nat} {c : Nat → Cl} (h : CellsAt W b n c) (hb : W'.heap[b]? = W.heap[b]?) : CellsAt W' b n c := fun j hj => by
 obtain ⟨h0, h1, h2, h3⟩ := h j hj
 have := fun o => World.cell?_of_block (a := ⟨b, o, none⟩) (w := W) (w' := W') hb
 exact ⟨(this _).trans h0, (this _).trans h1, (this _).trans h2, (this _).trans h3⟩
theorem OwnC.cells {w : World} {base : Nat} {v : Value} {L : List Cl} (h : OwnC w base v L) (h0 : 0 < L.length) : ∃ g cap, v = .slice (some ⟨g, 0, none⟩) L.length cap ∧ base ≤ g ∧ g < w.heap.size ∧ CellsAt w g L.length (fun j => L.getD j ⟨0, 0, false, 0⟩) := by
 rcases h.2 with ⟨rfl, hn⟩ | ⟨g, cap, cur, hv, hg, hh, ht, hsz, hl⟩
 ·omega
 ·refine ⟨g, cap, hv, hg, (Array.getElem?_eq_some_iff.1 hh).1, fun i hi => ?_⟩
  obtain ⟨k0, k1, k2, k3⟩ := cs_get hi
  have e : L.getD i ⟨0, 0, false, 0⟩ = L[i] := by simp [List.getD, hi]
  rw [← hl.2] at k0 k1 k2 k3
  rw [List.getElem?_take] at k0 k1 k2 k3
  rw [if_pos (by omega)] at k0 k1 k2 k3
  simp only [World.cell?, hh, e]
  simp only [Array.getElem?_toList] at k0 k1 k2 k3
  exact ⟨k0, k1, k2, k3⟩
/-- .. told by a function. -/
def rowL (c : Nat → Cl) (m : Nat) : List Cl := (List.range m).map c
theorem rowL_len (c : Nat → Cl) (m : Nat) : (rowL c m).length = m := by simp [rowL]
theorem rowL_succ (c : Nat → Cl) (m : Nat) : rowL c (m + 1) = rowL c m ++ [c m] := by simp [rowL, List.range_succ]
theorem OwnC.cellsF {w : World} {base : Nat} {v : Value} {c : Nat → Cl} {m : Nat} (h : OwnC w base v (rowL c m)) (h0 : 0 < m) : ∃ g cap, v = .slice (some ⟨g, 0, none⟩) m cap ∧ base ≤ g ∧ g < w.heap.size ∧ CellsAt w g m c := by
 obtain ⟨g, cap, hv, hg, hl, hc⟩ := h.cells (by rw [rowL_len]; exact h0)
 rw [rowL_len] at hv hc
 refine ⟨g, cap, hv, hg, hl, fun j hj => ?_⟩
 have := hc j hj
 have e : (rowL c m).getD j ⟨0, 0, false, 0⟩ = c j := by simp [rowL, List.getD, hj]
 simp only [e] at this
 exact this
theorem step_appC {ops : Array Oper} {o : Oper} {a : Act} {K : Act → World → Prop} {Q : Exit → Act → World → Prop} {E : Prop} (hgd : o.guard = none) (s x : Operand)
  (ho : o.op = .call { callee := .builtin .append, args := #[s, x], argTypes := #[44, 44] }) (base : Nat) (v : Value) (L : List Cl) (W : World) (y : Cl) (B : Nat)
  (hs : a.eval s = v) (hx : a.eval x = .slice (some ⟨B, 0, none⟩) 1 1) (hB : CellsAt W B 1 (fun _ => y)) (hown : OwnC W base v L) (hbase : base ≤ W.heap.size) (hn : L.length ≤ 1000000)
  (h : ∀ ad cap w', OwnC w' base (.slice ad (L.length + 1) cap) (L ++ [y]) → W.heap.size ≤ w'.heap.size → W.grownBy w' v.ownBlock → K (a.put o.dst (.slice ad (L.length + 1) cap)) w') :
  if Region.wanted o (yielded ops a.tmps) = true then Oper.wp Tryz.prog o a W K Q else E := by
 obtain ⟨i0, hi, hz0, hz1, hz2⟩ := info_parts info48
 refine step_append_lies _ hgd s x 44 ho base 48 i0 _ 4 32 Tryz.underlying44 hi hz0 hz1 hz2 rfl (by decide) v L.length _ hs hown ⟨B, 0, none⟩ 1 1 y.cs hx rfl ?_ (by simp [Cl.cs, Value.oneCell']) (by decide) (by unfold maxLen; omega) (by omega) hbase _ rfl ?_
 ·intro j u hj
  obtain ⟨c0, c1, c2, c3⟩ := hB 0 (by decide)
  have hj3 : j < 4 := by
   have := (List.getElem?_eq_some_iff.1 hj).1
   simpa [Cl.cs] using this
  have h3 : j = 0 ∨ j = 1 ∨ j = 2 ∨ j = 3 := by omega
  rcases h3 with rfl | rfl | rfl | rfl <;> (simp [Cl.cs] at hj; subst hj; simpa [Addr.add] using by assumption)
 ·intro g cap w' h1 h2 _ _
  exact h _ cap w' (by unfold OwnC; simpa using h1) h2.size h2
end Go.Proofs.YtpjooboohelffaaGreatDoor
/- Top: copy of cells that are four values wide. -/
namespace Go.Proofs.YtpjooboohelffaaGreatDoor
open Go.RowKit Go.Shelf
set_option linter.unusedVariables false
set_option linter.unusedSimpArgs false
theorem run_copy_wide {P : Program} (w : World) (dT sT ty elem : TypeId) (size b o dLen dCap : Nat) (a : Addr) (sLen sCap : Nat) (cs : List Value)
  (hu : P.underlying dT = some (.slice elem)) (hs : (P.info? elem).map (·.size) = some size) (hn : cs.length = Nat.min sLen dLen * size)
  (hsrc : ∀ j v, cs[j]? = some v → w.cell? (a.add j) = some v) (hc : ∀ j, j < cs.length → (w.cell? ⟨b, o + j, none⟩).isSome = true) (hf : ∀ j, j < cs.length → w.frozen? ⟨b, o + j, none⟩ = false) (h1 : ∀ v ∈ cs, v.oneCell' = true) :
  (Builtin.copy_ #[dT, sT] ty #[.slice (some ⟨b, o, none⟩) dLen dCap, .slice (some a) sLen sCap]).run P w = .ok (goInt (Nat.min sLen dLen)) (w.setCells b o cs) := by
 have hl := run_loadCells_list (P := P) w a cs hsrc
 have hst := run_storeCells_cells (P := P) b o cs 0 w (by simpa using hc) (by simpa using hf) h1
 cases hq : P.info? elem with
 | none => simp [hq] at hs
 | some i =>
  have hi : i.size = size := by simpa [hq] using hs
  subst hi
  simp only [Nat.add_zero] at hst
  have e1 : Nat.min sLen dLen * i.size = cs.length := hn.symm
  have e2 : i.size * Nat.min sLen dLen = cs.length := by rw [Nat.mul_comm]; exact e1
  simp [Builtin.copy_, run_underlying hu, Builtin.lenOf, Builtin.firstCells, sizeOf, typeInfo, hq, e1, e2, hl, hst]
/-- Cells at a place in a block. -/
def CellsO (W : World) (b off : Nat) (n : Nat) (c : Nat → Cl) : Prop := ∀ j, j < n → W.cell? ⟨b, off + j * 4, none⟩ = some (.int .i32 (c j).g) ∧ W.cell? ⟨b, off + (j * 4 + 1), none⟩ = some (.int .i64 (c j).a) ∧
  W.cell? ⟨b, off + (j * 4 + 2), none⟩ = some (.bool (c j).d) ∧ W.cell? ⟨b, off + (j * 4 + 3), none⟩ = some (.int .i64 (c j).m)
theorem CellsAt.at {W : World} {b n : Nat} {c : Nat → Cl} (h : CellsAt W b n c) (q k : Nat) (hk : q + k ≤ n) : CellsO W b (q * 4) k (fun j => c (q + j)) := fun j hj => by
 have := h (q + j) (by omega)
 rwa [show (q + j) * 4 = q * 4 + j * 4 by omega, show q * 4 + j * 4 + 1 = q * 4 + (j * 4 + 1) by omega, show q * 4 + j * 4 + 2 = q * 4 + (j * 4 + 2) by omega, show q * 4 + j * 4 + 3 = q * 4 + (j * 4 + 3) by omega] at this
theorem flat_len (c : Nat → Cl) (k : Nat) : ((rowL c k).flatMap Cl.cs).length = k * 4 := by
 induction k with
 | zero => rfl
 | succ k ih => rw [rowL_succ, List.flatMap_append, List.length_append, ih]; simp [Cl.cs]; omega
theorem flat_get (c : Nat → Cl) (k j : Nat) (hj : j < k) : ((rowL c k).flatMap Cl.cs)[j * 4]? = some (.int .i32 (c j).g) ∧ ((rowL c k).flatMap Cl.cs)[j * 4 + 1]? = some (.int .i64 (c j).a) ∧
  ((rowL c k).flatMap Cl.cs)[j * 4 + 2]? = some (.bool (c j).d) ∧ ((rowL c k).flatMap Cl.cs)[j * 4 + 3]? = some (.int .i64 (c j).m) := by
 have := cs_get (L := rowL c k) (i := j) (by rw [rowL_len]; exact hj)
 have e : (rowL c k)[j]'(by rw [rowL_len]; exact hj) = c j := by simp [rowL]
 rwa [e] at this
theorem flat_one (c : Nat → Cl) (k : Nat) : ∀ v ∈ (rowL c k).flatMap Cl.cs, v.oneCell' = true := by
 intro v hv
 obtain ⟨x, _, hx⟩ := List.mem_flatMap.1 hv
 simp [Cl.cs] at hx
 rcases hx with rfl | rfl | rfl | rfl <;> rfl
theorem CellsO.src {W : World} {b off k : Nat} {c : Nat → Cl} (h : CellsO W b off k c) : ∀ j v, ((rowL c k).flatMap Cl.cs)[j]? = some v → W.cell? ((⟨b, off, none⟩ : Addr).add j) = some v := by
 intro j v hj
 have hlt : j < k * 4 := by have := (List.getElem?_eq_some_iff.1 hj).1; rwa [flat_len] at this
 have hadd : (⟨b, off, none⟩ : Addr).add j = ⟨b, off + j, none⟩ := by unfold Addr.add; split <;> simp_all
 rw [hadd]
 obtain ⟨q, r, hr, rfl⟩ : ∃ q r, r < 4 ∧ j = q * 4 + r := ⟨j / 4, j % 4, Nat.mod_lt _ (by decide), by omega⟩
 obtain ⟨h0, h1, h2, h3⟩ := h q (by omega)
 obtain ⟨g0, g1, g2, g3⟩ := flat_get c k q (by omega)
 have h4 : r = 0 ∨ r = 1 ∨ r = 2 ∨ r = 3 := by omega
 rcases h4 with rfl | rfl | rfl | rfl
 ·rw [Nat.add_zero] at hj ⊢; rw [g0] at hj; cases hj; exact h0
 ·rw [g1] at hj; cases hj; exact h1
 ·rw [g2] at hj; cases hj; exact h2
 ·rw [g3] at hj; cases hj; exact h3
theorem setCells_heap (b : Nat) {k : Nat} (hk : k ≠ b) : ∀ (vs : List Value) (o : Nat) (w : World), (w.setCells b o vs).heap[k]? = w.heap[k]?
 | [], _, _ => rfl
 | v :: r, o, w => by rw [World.setCells, setCells_heap b hk r]; exact Below.heap_setCell _ _ _ _ hk
theorem setCells_blk (b b' n : Nat) : ∀ (vs : List Value) (o : Nat) (w : World), Blk w b' n → Blk (w.setCells b o vs) b' n
 | [], _, _, h => h
 | v :: r, o, w, h => by rw [World.setCells]; exact setCells_blk b b' n r _ _ (h.set _ _)
theorem setCells_blkT (b b' n : Nat) (t : TypeId) : ∀ (vs : List Value) (o : Nat) (w : World), BlkT w b' n t → BlkT (w.setCells b o vs) b' n t
 | [], _, _, h => h
 | v :: r, o, w, h => by rw [World.setCells]; exact setCells_blkT b b' n t r _ _ (h.set _ _)
theorem setCells_size (b : Nat) : ∀ (vs : List Value) (o : Nat) (w : World), (w.setCells b o vs).heap.size = w.heap.size
 | [], _, _ => rfl
 | v :: r, o, w => by rw [World.setCells, setCells_size b r]; simp [World.setCell]
theorem setCells_misc (b : Nat) : ∀ (vs : List Value) (o : Nat) (w : World), (w.setCells b o vs).os = w.os ∧ (w.setCells b o vs).tape = w.tape ∧ (w.setCells b o vs).output = w.output
 | [], _, _ => ⟨rfl, rfl, rfl⟩
 | v :: r, o, w => by rw [World.setCells]; exact setCells_misc b r _ _
/-- What stands behind a copy of k cells to the place q. -/
theorem CellsAt.copied {W : World} {b n q k N : Nat} {c d : Nat → Cl} (hB : Blk W b N) (h : CellsAt W b n c) (hN : (q + k) * 4 ≤ N) :
  CellsAt (W.setCells b (q * 4) ((rowL d k).flatMap Cl.cs)) b (max n (q + k)) (fun j => if q ≤ j ∧ j < q + k then d (j - q) else c j) ∨ n < q := by
 by_cases hnq : n < q
 ·exact .inr hnq
 refine .inl fun j hj => ?_
 have hin : ∀ i, i < k * 4 → (W.setCells b (q * 4) ((rowL d k).flatMap Cl.cs)).cell? ⟨b, q * 4 + i, none⟩ = ((rowL d k).flatMap Cl.cs)[i]? := fun i hi => by
  rw [World.cell?_setCells_in b _ _ W (fun j hj => by
   rw [flat_len] at hj
   obtain ⟨u, hu, _⟩ := hB.get (q * 4 + j) (by omega)
   rw [hu]; rfl) i (by rw [flat_len]; exact hi)]
  exact (List.getElem?_eq_getElem _).symm
 have hout : ∀ i, i < q * 4 ∨ (q + k) * 4 ≤ i → (W.setCells b (q * 4) ((rowL d k).flatMap Cl.cs)).cell? ⟨b, i, none⟩ = W.cell? ⟨b, i, none⟩ := fun i hi =>
  World.cell?_setCells_out b _ _ _ _ (fun _ _ => by rw [flat_len]; simp; omega)
 by_cases hjq : q ≤ j ∧ j < q + k
 ·simp only [if_pos hjq]
  obtain ⟨g0, g1, g2, g3⟩ := flat_get d k (j - q) (by omega)
  refine ⟨?_, ?_, ?_, ?_⟩
  ·rw [show j * 4 = q * 4 + (j - q) * 4 by omega, hin _ (by omega)]; exact g0
  ·rw [show j * 4 + 1 = q * 4 + ((j - q) * 4 + 1) by omega, hin _ (by omega)]; exact g1
  ·rw [show j * 4 + 2 = q * 4 + ((j - q) * 4 + 2) by omega, hin _ (by omega)]; exact g2
  ·rw [show j * 4 + 3 = q * 4 + ((j - q) * 4 + 3) by omega, hin _ (by omega)]; exact g3
 ·simp only [if_neg hjq]
  have hjn : j < n := by omega
  rw [hout _ (by omega), hout _ (by omega), hout _ (by omega), hout _ (by omega)]
  exact h j hjn
end Go.Proofs.YtpjooboohelffaaGreatDoor
/- Top: slices.Repeat of one cell. -/
namespace Go.Proofs.YtpjooboohelffaaGreatDoor
open Go.RowKit Go.Shelf
set_option linter.unusedVariables false
set_option linter.unusedSimpArgs false
set_option maxRecDepth 100000
/-- A row of cells, the same everywhere, in a new block. -/
def newRow (n : Nat) : Obj := .cells (madeCells #[.int .i32 0, .int .i64 0, .bool false, .int .i64 0] (n * 4)) 48
theorem make_row (n : Nat) (hn : n ≤ 255) (w : World) : (Instr.makeSlice 44 (.int .i64 (n : Int)) (.int .i64 (n : Int))).run Tryz.prog w = .ok (.slice (some ⟨w.heap.size, 0, none⟩) n n) (w.alloc (newRow n)) := by
 obtain ⟨i0, hi, hz0, hz1, hz2⟩ := info_parts info48
 have := run_make (P := Tryz.prog) w 44 48 i0 _ Tryz.underlying44 hi hz0 .i64 .i64 (n : Int) (n : Int) (by omega) (by omega) (by rw [hz2]; omega) (by omega)
 rw [hz1] at this
 simpa [newRow, Value.cells] using this
theorem new_blk (n : Nat) (w : World) : BlkT (w.alloc (newRow n)) w.heap.size (n * 4) 48 := ⟨_, heap_alloc_new w _, size_madeCells _ _⟩
/-- A copy inside one block: k cells from its beginning to the place q. -/
theorem copy_in {W : World} {B b q k N dl dc sl sc b' m : Nat} {t : TypeId} {c d : Nat → Cl} (hB : BlkT W b N t) (hA : CellsAt W b q c) (hS : CellsAt W b' m d) (hk : Nat.min sl dl = k) (hkm : k ≤ m) (hN : (q + k) * 4 ≤ N) (hb : B ≤ b) :
  ∃ w2, Sem.run Tryz.prog (Builtin.copy_ #[44, 44] 3 #[.slice (some ⟨b, q * 4, none⟩) dl dc, .slice (some ⟨b', 0, none⟩) sl sc]) W = .ok (.int .i64 (k : Int)) w2 ∧
   BlkT w2 b N t ∧ CellsAt w2 b (q + k) (fun j => if q ≤ j ∧ j < q + k then d (j - q) else c j) ∧ Below B W w2 := by
 have hsz48 : (Tryz.prog.info? 48).map (·.size) = some 4 := by kernel_rfl
 refine ⟨W.setCells b (q * 4) ((rowL d k).flatMap Cl.cs), ?_, setCells_blkT _ _ _ _ _ _ _ hB, ?_, ?_⟩
 ·have hsrc := (hS.at 0 k (by omega)).src
  simp only [Nat.zero_mul, Nat.zero_add] at hsrc
  have := run_copy_wide (P := Tryz.prog) W 44 44 3 48 4 b (q * 4) dl dc ⟨b', 0, none⟩ sl sc ((rowL d k).flatMap Cl.cs) Tryz.underlying44 hsz48
   (by rw [flat_len, hk]) hsrc (fun j hj => by
    rw [flat_len] at hj
    obtain ⟨u, hu, _⟩ := hB.blk.get (q * 4 + j) (by omega)
    rw [hu]; rfl) (fun j hj => by
    rw [flat_len] at hj
    obtain ⟨u, _, hz⟩ := hB.blk.get (q * 4 + j) (by omega)
    exact hz) (flat_one _ _)
  rw [hk] at this
  exact this
 ·rcases CellsAt.copied (k := k) (d := d) hB.blk hA hN with h | h
  ·rwa [show max q (q + k) = q + k by omega] at h
  ·omega
 ·have h1 := setCells_misc b ((rowL d k).flatMap Cl.cs) (q * 4) W
  exact ⟨h1.1, h1.2.1, h1.2.2, by rw [setCells_size]; exact Nat.le_refl _, fun i hi => setCells_heap _ (by omega) _ _ _⟩
theorem repeat_any (w : World) (b n : Nat) (x : Cl) (hn1 : 1 ≤ n) (hn : n ≤ 255) (hx : CellsAt w b 1 (fun _ => x))
  (HM : ∀ W, Calls Tryz.prog 104 #[.int .u64 1, .int .u64 (n : Int)] W fun e w' => e = .returned (.tuple #[.int .u64 0, .int .u64 (n : Int)]) ∧ w' = W) :
  Calls Tryz.prog 71 #[.slice (some ⟨b, 0, none⟩) 1 1, .int .i64 (n : Int)] w fun e w' => ∃ r, e = .returned (.slice (some ⟨r, 0, none⟩) n n) ∧ w.heap.size ≤ r ∧ BlkT w' r (n * 4) 48 ∧ CellsAt w' r n (fun _ => x) ∧ Below w.heap.size w w' := by
 have hmk := make_row n hn
 have g0 : ¬ (n : Int) < 0 := by omega
 have c0 : IntKind.u64.wrap (n : Int) = (n : Int) := by simp [IntKind.wrap, IntKind.bits, IntKind.signed]; omega
 have c1 : IntKind.i64.wrap (n : Int) = (n : Int) := IntWalk.i64_in _ (by omega)
 have HMM := Lib.hid HM
 clear HM
 have hB0 : BlkT (w.alloc (newRow n)) w.heap.size (n * 4) 48 := new_blk n w
 have hb : b < w.heap.size := World.block_lt_of_cell? w ⟨b, 0 * 4, none⟩ (hx 0 (by decide)).1
 have hx' : CellsAt (w.alloc (newRow n)) b 1 (fun _ => x) := hx.to (Below.heap_alloc _ _ _ hb)
 obtain ⟨w2, hcp, hB2, hA2, hb2⟩ : ∃ w2, Sem.run Tryz.prog (Builtin.copy_ #[44, 44] 3 #[.slice (some ⟨w.heap.size, 0, none⟩) n n, .slice (some ⟨b, 0, none⟩) 1 1]) (w.alloc (newRow n)) = .ok (.int .i64 1) w2 ∧
   BlkT w2 w.heap.size (n * 4) 48 ∧ CellsAt w2 w.heap.size 1 (fun _ => x) ∧ Below w.heap.size w w2 := by
  obtain ⟨w2, h1, h2, h3, h4⟩ := copy_in (B := w.heap.size) (b := w.heap.size) (q := 0) (k := 1) (dl := n) (dc := n) (sl := 1) (sc := 1) (c := fun _ => x) hB0 (fun j hj => by omega) hx' (Nat.min_eq_left hn1) (Nat.le_refl _) (by omega) (Nat.le_refl _)
  simp only [Nat.zero_mul, Nat.zero_add] at h1 h3
  refine ⟨w2, h1, h2, ?_, (Below.refl _ _ |>.alloc (Nat.le_refl _) _).trans h4⟩
  intro j hj
  have := h3 j hj
  simpa using this
 clear hB0 hb hx' hx
 have HB2 := Lib.hid hB2
 have HA2 := Lib.hid hA2
 have Hb2 := Lib.hid hb2
 clear hB2 hA2 hb2
 have g9 : ¬ (9223372036854775807 : Int) < (n : Int) := by omega
 have d9 : decide ((9223372036854775807 : Int) < (n : Int)) = false := by simp; omega
 go_enter Tryz.func71, Tryz.ntmps71
 go_wp2_with (go_at_call 104; refine (HMM.out _).mono ?_; rintro e w1 ⟨rfl, h1⟩; rw [h1]; clear h1 w1)
 go_loopw [8] (fun m wr => ∃ k : Nat, 1 ≤ k ∧ k ≤ n ∧ m = .int .i64 (k : Int) ∧ BlkT wr w.heap.size (n * 4) 48 ∧ CellsAt wr w.heap.size k (fun _ => x) ∧ Below w.heap.size w wr) (fun m _ => n - (intOf m).toNat)
 case atStart => exact ⟨1, Nat.le_refl _, hn1, rfl, HB2.out, HA2.out, Hb2.out⟩
 case round =>
  obtain ⟨k, hk1, hk, rfl, hB, hA, hb⟩ := hrel
  by_cases hlt : k < n
  ·have q1 : (k : Int) < (n : Int) := by omega
   obtain ⟨j, hj⟩ : ∃ j, Nat.min k (n - k) = j := ⟨_, rfl⟩
   have hj1 : 1 ≤ j ∧ k + j ≤ n ∧ j ≤ k := by have : j = min k (n - k) := hj.symm; omega
   obtain ⟨w3, h1, h2, h3, h4⟩ := copy_in (W := wr.drew) (B := w.heap.size) (b := w.heap.size) (q := k) (k := j) (dl := n - k) (dc := n - k) (sl := k) (sc := n) (c := fun _ => x) (d := fun _ => x) (hB.to rfl) (hA.to rfl) (hA.to rfl) hj hj1.2.2 (by omega) (Nat.le_refl _)
   have h3' : CellsAt w3 w.heap.size (k + j) (fun _ => x) := by
    intro i hi
    have := h3 i hi
    simpa using this
   have q2 : IntKind.i64.wrap ((k : Int) + (j : Int)) = (k : Int) + (j : Int) := IntWalk.i64_in _ (by omega)
   have HB := Lib.hid h2
   have HA := Lib.hid h3'
   have Hb := Lib.hid (hb.trans ((Below.refl w.heap.size wr).drew.trans h4))
   have Hj := Lib.hid hj1
   clear hB hA hb h2 h3 h3' h4 hj hj1
   go_wp2_with fail
   go_region
   go_wp2_with fail
   go_roundw
   case rel => exact ⟨k + j, by have := Hj.out; omega, Hj.out.2.1, by go_num, HB.out, HA.out, Hb.out⟩
   case measure => have := Hj.out; simp [intOf]; omega
  ·obtain rfl : k = n := by omega
   have q1 : ¬ (k : Int) < (k : Int) := by omega
   have HB := Lib.hid hB
   have HA := Lib.hid hA
   have Hb := Lib.hid hb
   clear hB hA hb
   go_wp2_with fail
   go_ret
   exact ⟨_, rfl, Nat.le_refl _, HB.out, HA.out, Hb.out⟩
end Go.Proofs.YtpjooboohelffaaGreatDoor
