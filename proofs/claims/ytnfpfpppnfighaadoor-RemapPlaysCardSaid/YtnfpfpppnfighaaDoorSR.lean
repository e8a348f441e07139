/- A range over a function whose iterator writes a variable of its own: what the caller owes and gets. The iterator is shown for invariants that stand on the caller's own and on what is no cells. -/
import Derived.RangeFuncNested
import Derived.RangeFuncBound
import Derived.RangeFuncCalls
import Derived.RangeFuncLeaves
import Derived.RangeFuncGives
import Derived.RangeFuncSeq
import Derived.Shelf.Abstract
namespace Go.Proofs.YtnfpfpppnfighaaDoor
open Go.RowKit Go.Shelf
set_option linter.unusedVariables false

/-- The loop's two blocks of book-keeping. -/
def Book (W : World) (D l : Nat) (r : Loop) : Prop := W.heap[l]? = some (.loop r) ∧ W.heap[D]? = some (.deferred (some []))
theorem Book.kept {B D l : Nat} {r : Loop} {W W' : World} (h : Book W D l r) (hk : KeepsFrom B W W') (hD : B ≤ D) (hl : B ≤ l) : Book W' D l r :=
  ⟨hk.same _ _ hl h.1 rfl, hk.same _ _ hD h.2 rfl⟩
theorem Book.turn {D l : Nat} {r : Loop} {W : World} (h : Book W D l r) (hne : D ≠ l) (r' : Loop) : Book (W.putObj l (.loop r')) D l r' :=
  ⟨World.putObj_heap_same (Array.getElem?_eq_some_iff.1 h.1).1, (World.putObj_heap_other hne).trans h.2⟩

theorem walk_no_cells {o : Obj} (h : o.isWalk = true) : o.isCells = false := by cases o <;> simp_all [Obj.isWalk, Obj.isCells]
theorem Book.abides {D l : Nat} {r : Loop} {W W' : World} {row : Option Nat} (h : Book W D l r) (hg : W.grownBy W' row) (hr : ∀ r, row = some r → ∃ o : Obj, W.heap[r]? = some o ∧ o.isWalk = true) : Book W' D l r :=
  ⟨(grownBy_keeps hg hr h.1 rfl).trans h.1, (grownBy_keeps hg hr h.2 rfl).trans h.2⟩
section
variable {α : Type} {P : Program} {n m : Nat}

/-- What an iterator must do, for the caller's invariants I (between two rounds) and J, which stands on I and on what is no cells. -/
def Iterates (P : Program) (n m : Nat) (gf : Nat) (lb : Array Value) (encs : α → Array Value) (S Sp : List α → Prop) (V : List α → α → Prop) (N B : Nat) (I : List α → World → Prop) (Kp : World → World → Prop) (W0 : World) : Prop :=
  ∀ (l : Nat) (J Jx : List α → World → Prop), J [] W0 → (∀ s X X', J s X → I s X' → KeepsFrom B X X' → J s X') → AbidesFrom B J → (∀ s X, J s X → I s X) →
    (∀ pre x X, J pre X → pre.length < N → V pre x → YieldAt Fence.wide m P l (encs x) X fun e X' =>
      (e = .returned (.bool true) ∧ J (pre ++ [x]) X' ∧ Kp X X') ∨ (e = .returned (.bool false) ∧ Jx (pre ++ [x]) X')) →
    CallsIn Fence.wide n P gf (#[.func (.yield l) #[] #[]] ++ lb) W0 fun e W' => (∃ v, e = .returned v) ∧ ((∃ xs, S xs ∧ J xs W') ∨ (∃ pre, Sp pre ∧ Jx pre W'))

theorem ownsB {B : Nat} {β : Type} {I : β → World → Prop} (hI : OwnFrom B I) {s : β} {W : World} {D l : Nat} {r : Loop} (hb : Book W D l r) (hl : B ≤ l) (o : Obj) (h : I s W) : I s (W.putObj l o) :=
  hI.putObj o h hl hb.1 rfl

theorem range_law {g : Operand} {ps : Array Tmp} {assign body : Code} {Q : Exit → Act → World → Prop} {a : Act} {w : World} {gf : Nat} {lb : Array Value}
    (hg : a.eval g = .func (.func gf) #[] lb) (eg : ∀ args w, (callFunc gf args).run P w = .ok (.enter gf args) w) {encs : α → Array Value} (hps : ∀ x, (encs x).size = ps.size)
    {S Sp : List α → Prop} {V : List α → α → Prop} {N : Nat} {Kp : World → World → Prop} (hKt : ∀ {X Y Z : World}, Kp X Y → Kp Y Z → Kp X Z)
    (hKb : ∀ (W : World) (l : Nat) (o o' : Obj), w.heap.size ≤ l → W.heap[l]? = some o → o.isCells = false → o.isWalk = false → Kp W (W.putObj l o'))
    (I : List α → World → Prop) (Ix : Code → List α → World → Prop) (hI : OwnFrom w.heap.size I) (hIx : ∀ c, OwnFrom w.heap.size (Ix c)) (h0 : I [] w)
    (Ax : α → Act → World → Prop) (hAx : ∀ x a', OwnFrom w.heap.size (fun (_ : Unit) W => Ax x a' W))
    (hit : ∀ W0, (∃ o o', o.isCells = false ∧ o'.isCells = false ∧ W0 = (w.alloc o).alloc o') → I [] W0 → Iterates P n m gf lb encs S Sp V N w.heap.size I Kp W0)
    (hassign : ∀ (l : Nat) (pre : List α) (x : α) (W : World) (K : Act → World → Prop), I pre W → (∀ a' W', KeepsFrom w.heap.size W W' → Kp W W' → I pre W' → Ax x a' W' → K a' W') →
      assign.wpIn (Fence.wide.inRound l) m P (Exit.then K (fun _ _ _ => False)) { tmps := (ps.zip (encs x)).foldl (fun t (p, v) => t.setIfInBounds p v) a.tmps, defers := [] } W)
    (hbody : ∀ (l : Nat) (pre : List α) (x : α) (a' : Act) (W : World), I pre W → Ax x a' W → pre.length < N → V pre x → body.wpIn (Fence.wide.inRound l) m P (ownPostG w.heap.size Kp I Ix (pre ++ [x]) W) a' W)
    (hdone : ∀ (D : Nat) (xs : List α) (W : World), w.heap.size ≤ D → S xs → I xs W → W.heap[D]? = some (.deferred (some [])) → Q .normal { a with defers := { target := .collected D, args := #[] } :: a.defers } W)
    (hstop : ∀ (D : Nat) (c : Code) (pre : List α) (W : World), w.heap.size ≤ D → Sp pre → Ix c pre W → W.heap[D]? = some (.deferred (some [])) → c.wpIn Fence.wide (n + 1) P Q { a with defers := { target := .collected D, args := #[] } :: a.defers } W) :
    (Code.rangeFunc g ps assign body).wpIn Fence.wide (n + 1) P Q a w := by
  refine wpIn_rangeFunc fun fn hfn => ?_
  have hD : w.heap.size ≠ w.heap.size + 1 := by omega
  let rc : LoopState → Option Code → Loop := fun st pe => { state := st, pending := pe, fn, tmps := a.tmps, params := ps, assign, body, defers := w.heap.size }
  have hW : ∃ o o' : Obj, o.isCells = false ∧ o'.isCells = false ∧ (w.alloc (.deferred (some []))).alloc (.loop (rc .ready none)) = (w.alloc o).alloc o' := ⟨_, _, rfl, rfl, rfl⟩
  have hbook : Book ((w.alloc (.deferred (some []))).alloc (.loop (rc .ready none))) w.heap.size (w.heap.size + 1) (rc .ready none) := by
    constructor
    · have := World.alloc_heap_new (w.alloc (.deferred (some []))) (.loop (rc .ready none))
      rwa [World.size_alloc] at this
    · exact (Below.heap_alloc _ _ _ (by simp)).trans (World.alloc_heap_new w _)
  have hI1 : I [] ((w.alloc (.deferred (some []))).alloc (.loop (rc .ready none))) := hI.alloc _ (hI.alloc _ h0)
  obtain ⟨W1, hW1⟩ : ∃ W1, (w.alloc (.deferred (some []))).alloc (.loop (rc .ready none)) = W1 := ⟨_, rfl⟩
  rw [hW1] at hbook hI1 hW
  refine ⟨w.heap.size + 1, [{ target := .collected w.heap.size, args := #[] }], W1, { target := .fn (.func gf) lb, args := #[.func (.yield (w.heap.size + 1)) #[] #[]] }, W1, gf,
    #[.func (.yield (w.heap.size + 1)) #[] #[]] ++ lb, W1, by rw [← hW1]; exact run_enterLoop_outer _ _ _ _ _, ?_, fun _ _ => trivial, ?_, fun _ => Nat.le_add_left 1 n, ?_⟩
  · simp only [resolve, hg]
    simp [go_sem]
  · simp [invoke, go_sem, eg]
  refine (hit W1 hW hI1 (w.heap.size + 1) (fun pre X => I pre X ∧ Book X w.heap.size (w.heap.size + 1) (rc .ready none))
    (fun pre X => ∃ c, Ix c pre X ∧ Book X w.heap.size (w.heap.size + 1) (rc .done (some c))) ⟨hI1, hbook⟩
    (fun s X X' hj hi hk => ⟨hi, hj.2.kept hk (Nat.le_refl _) (by omega)⟩)
    (fun s X X' row hj hg hr => ⟨hI s X X' row hj.1 hg (fun r e => by obtain ⟨h1, o, h2, h3⟩ := hr r e; exact ⟨h1, o, h2, walk_no_cells h3⟩), hj.2.abides hg (fun r e => (hr r e).2)⟩) (fun s X hj => hj.1) ?_).mono ?_
  · rintro pre x X ⟨hi, hb⟩ hlen hv
    refine ⟨fn, _, assign, body, run_yield hb.1 (hps x), roundIn_of_wpIn hfn (hassign _ pre x X _ hi ?_)⟩
    intro a' Xa hka hpa hia hax
    have hba := hb.kept hka (Nat.le_refl _) (by omega)
    refine ⟨_, run_beginRound hba.1 rfl, ?_⟩
    have hbb := hba.turn hD { rc .ready none with state := .busy }
    have hpb := hKb Xa _ _ (.loop { rc .ready none with state := .busy }) (by omega) hba.1 rfl rfl
    refine wpIn_mono (hbody _ pre x a' _ (ownsB hI hba (by omega) _ hia) (ownsB (s := ()) (hAx x a') hba (by omega) _ hax) hlen hv) ?_
    have stop : ∀ (c : Code) (Y : World), KeepsFrom w.heap.size (Xa.putObj (w.heap.size + 1) (.loop { rc .ready none with state := .busy })) Y → Ix c (pre ++ [x]) Y →
        ∃ v Y', (Instr.endRound (w.heap.size + 1) (some c)).run P Y = .ok v Y' ∧ ((Ending.returned v = .returned (.bool true) ∧ (I (pre ++ [x]) Y' ∧ Book Y' w.heap.size (w.heap.size + 1) (rc .ready none)) ∧ Kp X Y') ∨
          (Ending.returned v = .returned (.bool false) ∧ ∃ c, Ix c (pre ++ [x]) Y' ∧ Book Y' w.heap.size (w.heap.size + 1) (rc .done (some c)))) := fun c Y hk hx => by
      have hby := hbb.kept hk (Nat.le_refl _) (by omega)
      exact ⟨_, _, run_endRound (some c) hby.1, .inr ⟨rfl, c, ownsB (hIx c) hby (by omega) _ hx, hby.turn hD _⟩⟩
    rintro e b Y hp
    cases e with
    | normal =>
      obtain ⟨hk, hkp, hi3⟩ := hp
      have hby := hbb.kept hk (Nat.le_refl _) (by omega)
      exact ⟨_, _, run_endRound none hby.1, .inl ⟨rfl, ⟨ownsB hI hby (by omega) _ hi3, hby.turn hD _⟩, hKt hpa (hKt (hKt hpb hkp) (hKb Y _ _ _ (by omega) hby.1 rfl rfl))⟩⟩
    | ret => exact stop .ret Y hp.1 hp.2
    | exit id => exact stop (.exit id) Y hp.1 hp.2
    | goto t => exact stop (.goto t) Y hp.1 hp.2
    | panic ch => exact hp.elim
    | outgrown => exact hp.elim
  · rintro e Y ⟨⟨v, rfl⟩, ⟨xs, hS, hi, hb⟩ | ⟨pre, hSp, c, hx, hb⟩⟩
    · exact ⟨none, _, run_endLoop hb.1 (by simp [rc]), hdone _ xs _ (Nat.le_refl _) hS (ownsB hI hb (by omega) _ hi) ((World.putObj_heap_other hD).trans hb.2)⟩
    · exact ⟨some c, _, run_endLoop hb.1 (by simp [rc]), hstop _ c pre _ (Nat.le_refl _) hSp (ownsB (hIx c) hb (by omega) _ hx) ((World.putObj_heap_other hD).trans hb.2)⟩
end
theorem roundIn_any {n m : Nat} {P : Program} {l : Nat} {f : FuncId} {tmps : Array Value} {assign body : Code} {w : World} {R : Ending → World → Prop}
    (h : RoundIn Fence.wide n P l f tmps assign body w R) : RoundIn Fence.wide m P l f tmps assign body w R :=
  ⟨h.1, fun c cs _ => h.2 c cs (room_wide _)⟩
theorem keepsB {B : Nat} {W W' : World} (h : Below W.heap.size W W') : KeepsFrom B W W' :=
  ⟨h.size, fun k o _ hk _ => (h.block k (Array.getElem?_eq_some_iff.1 hk).1).trans hk⟩
end Go.Proofs.YtnfpfpppnfighaaDoor
