/- Rows of cells in memory, and the contracts of the small functions that look at their lengths: Check, Right, Few. -/
import Derived.Test.YtooikmialpfdkaaRows
import Derived.WalkKit
import Derived.WalkSpells
import Derived.WalkLawsBesides
import Derived.RowKit3
import Derived.Below
import Derived.Laws.BytesArg
import Derived.Lib.Hide
import Derived.Deep.QuietTactic
import Derived.BigQuiet
namespace Go.Proofs.Ytooikmialpfdkaa
open Go.RowKit
set_option linter.unusedVariables false

/-- A function that answers v and writes nothing that was there. -/
def Fn (w : World) (f : FuncId) (args : Array Value) (v : Value) : Prop :=
  Calls Try.prog f args w fun e w' => e = .returned v ∧ Below w.heap.size w w'

theorem bcell {W w1 : World} (hb : Below W.heap.size W w1) : (∀ b o, b < W.heap.size → w1.cell? ⟨b, o, none⟩ = W.cell? ⟨b, o, none⟩) ∧ (∀ b o, b < W.heap.size → w1.frozen? ⟨b, o, none⟩ = W.frozen? ⟨b, o, none⟩) :=
  ⟨fun b o h => hb.cell (p := ⟨b, o, none⟩) h, fun b o h => hb.frozen (p := ⟨b, o, none⟩) h⟩
theorem bel_alloc {w W : World} (h : Below w.heap.size w W) (o : Obj) : Below w.heap.size w (W.alloc o) := h.alloc h.size o
theorem bel_call {w W W' : World} (h : Below w.heap.size w W) (k : Below W.heap.size W W') : Below w.heap.size w W' := h.trans (k.mono h.size)
theorem bel_set {w W : World} (h : Below w.heap.size w W) {p : Addr} (hp : w.heap.size ≤ p.block) (u : Value) : Below w.heap.size w (W.setCell p u) := h.setCell hp u
theorem bel_drewN {B : Nat} {a w : World} (h : Below B a w) (n : Nat) : Below B a (w.drewN n) := ⟨h.os, h.tape, h.output, h.size, h.block⟩
theorem ret_str {a b : ByteArray} (h : a = b) : Ending.returned (.string a) = .returned (.string b) := by rw [h]
theorem ret_int {k : IntKind} {a b : Int} (h : a = b) : Ending.returned (.int k a) = .returned (.int k b) := by rw [h]
theorem ret_bool {a b : Bool} (h : a = b) : Ending.returned (.bool a) = .returned (.bool b) := by rw [h]

/-- Rows of cells: how many, how long each, what stands in each cell, and where they lie. -/
structure Grid where
  n : Nat
  a : Option Addr
  cap : Nat
  ra : Nat → Option Addr
  len : Nat → Nat
  rc : Nat → Nat
  gl : Nat → Nat → Int
  tr : Nat → Nat → Int
  gd : Nat → Nat → Bool
  ma : Nat → Nat → Int
def Grid.v (G : Grid) : Value := .slice G.a G.n G.cap
/-- They lie in w, in blocks below B. -/
structure Grid.In (G : Grid) (B : Nat) (w : World) : Prop where
  big : G.n ≤ 9223372036854775807
  rows : 0 < G.n → ∃ b off, G.a = some ⟨b, off, none⟩ ∧ b < B ∧ ∀ i, i < G.n → w.cell? ⟨b, off + i, none⟩ = some (.slice (G.ra i) (G.len i) (G.rc i))
  lens : ∀ i, i < G.n → G.len i ≤ 9223372036854775807
  cells : ∀ i, i < G.n → 0 < G.len i → ∃ rb ro, G.ra i = some ⟨rb, ro, none⟩ ∧ rb < B ∧ ∀ j, j < G.len i →
    w.cell? ⟨rb, ro + j * 4, none⟩ = some (.int .i32 (G.gl i j)) ∧ w.cell? ⟨rb, ro + j * 4 + 1, none⟩ = some (.int .i64 (G.tr i j)) ∧
    w.cell? ⟨rb, ro + j * 4 + 2, none⟩ = some (.bool (G.gd i j)) ∧ w.cell? ⟨rb, ro + j * 4 + 3, none⟩ = some (.int .i64 (G.ma i j))
  glyphs : ∀ i, i < G.n → ∀ j, j < G.len i → -2147483648 ≤ G.gl i j ∧ G.gl i j ≤ 2147483647
theorem Grid.In.later {G : Grid} {B B' : Nat} {w w' : World} (h : G.In B w) (hb : Below B w w') (hB : B ≤ B') : G.In B' w' := by
  refine ⟨h.big, fun h0 => ?_, h.lens, fun i hi h0 => ?_, h.glyphs⟩
  · obtain ⟨b, off, e, hlt, hc⟩ := h.rows h0
    exact ⟨b, off, e, by omega, fun i hi => (hb.cell (p := ⟨b, off + i, none⟩) hlt).trans (hc i hi)⟩
  · obtain ⟨b, off, e, hlt, hc⟩ := h.cells i hi h0
    refine ⟨b, off, e, by omega, fun j hj => ?_⟩
    obtain ⟨c0, c1, c2, c3⟩ := hc j hj
    exact ⟨(hb.cell (p := ⟨b, _, none⟩) hlt).trans c0, (hb.cell (p := ⟨b, _, none⟩) hlt).trans c1, (hb.cell (p := ⟨b, _, none⟩) hlt).trans c2, (hb.cell (p := ⟨b, _, none⟩) hlt).trans c3⟩
/-- What rows may be. -/
def Grid.good (G : Grid) (i : Nat) : Prop := 1 ≤ G.len i ∧ G.len i ≤ 255 ∧ G.len i = G.len 0
instance (G : Grid) (i : Nat) : Decidable (G.good i) := by unfold Grid.good; infer_instance
def Grid.Ok (G : Grid) : Prop := 1 ≤ G.n ∧ G.n ≤ 255 ∧ ∀ i, i < G.n → G.good i
open Classical in
noncomputable def Grid.okB (G : Grid) : Bool := decide G.Ok

def errOf (b : Bool) : Int := if b then 0 else 10
theorem okB_yes {G : Grid} (h : G.Ok) : G.okB = true := by simp [Grid.okB, h]
theorem not_okB {G : Grid} (h : ¬ G.Ok) : G.okB = false := by simp [Grid.okB, h]
theorem check_any (G : Grid) (w : World) (h : G.In w.heap.size w) : Fn w 24 #[G.v] (.int .i64 (errOf G.okB)) := by
  have hbig := h.big
  unfold Fn Grid.v
  by_cases h1 : G.n < 1
  · rw [not_okB (fun e => by have := e.1; have := e.2.1; omega)]
    have h1' : (G.n : Int) < 1 := by omega
    go_enter Try.func24, Try.ntmps24
    go_wp2
    go_ret
    exact ⟨rfl, Below.refl _ _⟩
  by_cases h2 : 255 < G.n
  · rw [not_okB (fun e => by have := e.1; have := e.2.1; omega)]
    have h1' : ¬ (G.n : Int) < 1 := by omega
    have h2' : 255 < (G.n : Int) := by omega
    go_enter Try.func24, Try.ntmps24
    go_wp2
    go_ret
    exact ⟨rfl, Below.refl _ _⟩
  obtain ⟨b, off, ea, hb, hc⟩ := h.rows (by omega)
  have c0 := hc 0 (by omega)
  simp only [Nat.add_zero] at c0
  rw [ea]
  have Hc := Lib.hid hc
  have Hl := Lib.hid h.lens
  have l0 := h.lens 0 (by omega)
  clear hc h ea
  go_enter Try.func24, Try.ntmps24
  go_wp2
  go_loop [4, 15] (fun _ i => ∃ k : Nat, k ≤ G.n ∧ i = .int .i64 k ∧ ∀ j, j < k → G.good j) (fun _ i => G.n - (intOf i).toNat)
  case atStart => exact ⟨0, Nat.zero_le _, rfl, fun j hj => absurd hj (by omega)⟩
  case round =>
    obtain ⟨k, hk, rfl, hg⟩ := hrel
    have Hg := Lib.hid hg
    clear hg
    by_cases hlt : k < G.n
    · have ck := Hc.out k hlt
      have lk := Hl.out k hlt
      by_cases g : G.good k
      · obtain ⟨g1, g2, g3⟩ := g
        have g1' : ¬ (G.len k : Int) < 1 := by omega
        have g2' : ¬ 255 < (G.len k : Int) := by omega
        have g3' : ((G.len k : Int) != (G.len 0 : Int)) = false := by simp; omega
        have G3 := Lib.hid g3
        clear g3
        go_wp2
        go_round
        case rel => exact ⟨k + 1, by omega, by go_num, fun j hj => by
          by_cases e : j < k
          · exact Hg.out j e
          · obtain rfl : j = k := by omega
            exact ⟨g1, g2, G3.out⟩⟩
        case measure => simp [intOf]; omega
      · have hno : G.okB = false := not_okB fun e => g (e.2.2 k hlt)
        have Hno := Lib.hid hno
        clear hno
        by_cases g1 : G.len k < 1
        · have g1' : (G.len k : Int) < 1 := by omega
          go_wp2
          go_ret
          exact ⟨ret_int (by rw [Hno.out]; rfl), Below.refl _ _⟩
        · by_cases g2 : 255 < G.len k
          · have g1' : ¬ (G.len k : Int) < 1 := by omega
            have g2' : 255 < (G.len k : Int) := by omega
            go_wp2
            go_ret
            exact ⟨ret_int (by rw [Hno.out]; rfl), Below.refl _ _⟩
          · have g3 : ¬ G.len k = G.len 0 := fun e => g ⟨by omega, by omega, e⟩
            have g1' : ¬ (G.len k : Int) < 1 := by omega
            have g2' : ¬ 255 < (G.len k : Int) := by omega
            have g3' : ((G.len k : Int) != (G.len 0 : Int)) = true := by simp; omega
            clear g g3
            go_wp2
            go_ret
            exact ⟨ret_int (by rw [Hno.out]; rfl), Below.refl _ _⟩
    · have hok : G.okB = true := okB_yes ⟨by omega, by omega, fun i hi => Hg.out i (by omega)⟩
      have Hno := Lib.hid hok
      clear hok
      go_wp2
      go_ret
      exact ⟨ret_int (by rw [Hno.out]; rfl), Below.refl _ _⟩


set_option maxHeartbeats 2000000 in
theorem right_q (G : Grid) (w : World) (h : G.In w.heap.size w) : Calls Try.prog 17 #[G.v] w fun e w' => e = .returned (.bool G.okB) ∧ ∃ m, w' = w.drewN m := by
  have hbig := h.big
  unfold Grid.v
  by_cases h1 : G.n < 1
  · rw [not_okB (fun e => by have := e.1; have := e.2.1; omega)]
    have h1' : (G.n : Int) < 1 := by omega
    go_enter Try.func17, Try.ntmps17
    go_wp2
    go_ret
    exact ⟨rfl, 0, rfl⟩
  by_cases h2 : 255 < G.n
  · rw [not_okB (fun e => by have := e.1; have := e.2.1; omega)]
    have h1' : ¬ (G.n : Int) < 1 := by omega
    have h2' : 255 < (G.n : Int) := by omega
    go_enter Try.func17, Try.ntmps17
    go_wp2
    go_ret
    exact ⟨rfl, 0, rfl⟩
  obtain ⟨b, off, ea, hb, hc⟩ := h.rows (by omega)
  have c0 := hc 0 (by omega)
  simp only [Nat.add_zero] at c0
  rw [ea]
  have Hc := Lib.hid hc
  have Hl := Lib.hid h.lens
  have l0 := h.lens 0 (by omega)
  clear hc h ea
  go_enter Try.func17, Try.ntmps17
  go_wp2
  go_loopw [3] (fun i wr => ∃ k : Nat, k ≤ G.n ∧ i = .int .i64 k ∧ (∀ j, j < k → G.good j) ∧ ∃ nq, wr = w.drewN nq) (fun i _ => G.n - (intOf i).toNat)
  case atStart => exact ⟨0, Nat.zero_le _, rfl, fun j hj => absurd hj (by omega), 0, rfl⟩
  case round =>
    obtain ⟨k, hk, rfl, hg, nq0, rfl⟩ := hrel
    have Hg := Lib.hid hg
    clear hg
    by_cases hlt : k < G.n
    · have ck := Hc.out k hlt
      have lk := Hl.out k hlt
      have q0 : (0 : Int) < (G.n : Int) := by omega
      have q1 : (k : Int) < (G.n : Int) := by omega
      by_cases g : G.good k
      · obtain ⟨g1, g2, g3⟩ := g
        have g1' : decide ((G.len k : Int) < 1) = false := by simp; omega
        have g2' : decide (255 < (G.len k : Int)) = false := by simp; omega
        have g3' : ((G.len k : Int) != (G.len 0 : Int)) = false := by simp; omega
        have G3 := Lib.hid g3
        clear g3
        go_wp2_with fail
        go_quiet (fail)
        go_wp2
        go_roundw
        case rel => exact ⟨k + 1, by omega, by go_num, fun j hj => by
          by_cases e : j < k
          · exact Hg.out j e
          · obtain rfl : j = k := by omega
            exact ⟨g1, g2, G3.out⟩, _, rfl⟩
        case measure => simp [intOf]; omega
      · have Hno := Lib.hid (not_okB (G := G) fun e => g (e.2.2 k hlt))
        by_cases g1 : G.len k < 1
        · have g1' : decide ((G.len k : Int) < 1) = true := by simp; omega
          go_wp2_with fail
          go_quiet (fail)
          go_wp2
          go_ret
          exact ⟨ret_bool (by rw [Hno.out]), _, by first | rfl | rw [World.drewN_drewN]⟩
        · have g1' : decide ((G.len k : Int) < 1) = false := by simp; omega
          by_cases g2 : 255 < G.len k
          · have g2' : decide (255 < (G.len k : Int)) = true := by simp; omega
            go_wp2_with fail
            go_quiet (fail)
            go_wp2
            go_ret
            exact ⟨ret_bool (by rw [Hno.out]), _, by first | rfl | rw [World.drewN_drewN]⟩
          · have g3 : ¬ G.len k = G.len 0 := fun e => g ⟨by omega, by omega, e⟩
            have g2' : decide (255 < (G.len k : Int)) = false := by simp; omega
            have g3' : ((G.len k : Int) != (G.len 0 : Int)) = true := by simp; omega
            clear g g3
            go_wp2_with fail
            go_quiet (fail)
            go_wp2
            go_ret
            exact ⟨ret_bool (by rw [Hno.out]), _, by first | rfl | rw [World.drewN_drewN]⟩
    · have Hno := Lib.hid (okB_yes (G := G) ⟨by omega, by omega, fun i hi => Hg.out i (by omega)⟩)
      go_wp2
      go_ret
      exact ⟨ret_bool (by rw [Hno.out]), _, by first | rfl | rw [World.drewN_drewN]⟩

theorem right_any (G : Grid) (w : World) (h : G.In w.heap.size w) : Fn w 17 #[G.v] (.bool G.okB) :=
  (right_q G w h).mono fun e w' ⟨he, m, hm⟩ => ⟨he, by rw [hm]; exact bel_drewN (Below.refl _ _) _⟩

/-- Rows are not too many, nor too long, for what is asked. -/
def Grid.Few (G : Grid) : Prop := G.n ≤ 30 ∧ ∀ i, i < G.n → G.len i ≤ 40
open Classical in
noncomputable def Grid.fewB (G : Grid) : Bool := decide G.Few
theorem fewB_yes {G : Grid} (h : G.Few) : G.fewB = true := by simp [Grid.fewB, h]
theorem not_fewB {G : Grid} (h : ¬ G.Few) : G.fewB = false := by simp [Grid.fewB, h]
theorem few_any (G : Grid) (w : World) (h : G.In w.heap.size w) : Fn w 9 #[G.v] (.bool G.fewB) := by
  have hbig := h.big
  unfold Fn Grid.v
  by_cases h1 : G.n = 0
  · have Hn := Lib.hid (fewB_yes (G := G) ⟨by omega, fun i hi => absurd hi (by omega)⟩)
    rw [h1]
    go_enter Try.func9, Try.ntmps9
    go_wp2
    refine wp_loop_once ?_
    go_wp2
    go_ret
    exact ⟨ret_bool (by rw [Hn.out]), Below.refl _ _⟩
  obtain ⟨b, off, ea, hb, hc⟩ := h.rows (by omega)
  rw [ea]
  have Hc := Lib.hid hc
  have Hl := Lib.hid h.lens
  clear hc h ea
  go_enter Try.func9, Try.ntmps9
  go_wp2
  go_loop [3] (fun i => ∃ k : Nat, k ≤ G.n ∧ i = .int .i64 k ∧ (∀ j, j < k → G.len j ≤ 40)) (fun i => G.n - (intOf i).toNat)
  case atStart => exact ⟨0, Nat.zero_le _, rfl, fun j hj => absurd hj (by omega)⟩
  case round =>
    obtain ⟨k, hk, rfl, hg⟩ := hrel
    have Hg := Lib.hid hg
    clear hg
    by_cases hlt : k < G.n
    · have ck := Hc.out k hlt
      have lk := Hl.out k hlt
      by_cases g : 40 < G.len k
      · have Hn := Lib.hid (not_fewB (G := G) fun e => absurd (e.2 k hlt) (by omega))
        have g' : 40 < (G.len k : Int) := by omega
        go_wp2
        go_ret
        exact ⟨ret_bool (by rw [Hn.out]), Below.refl _ _⟩
      · have g' : ¬ 40 < (G.len k : Int) := by omega
        go_wp2
        go_round
        case rel => exact ⟨k + 1, by omega, by go_num, fun j hj => by
          by_cases e : j < k
          · exact Hg.out j e
          · obtain rfl : j = k := by omega
            omega⟩
        case measure => simp [intOf]; omega
    · by_cases h3 : G.n ≤ 30
      · have Hn := Lib.hid (fewB_yes (G := G) ⟨h3, fun i hi => Hg.out i (by omega)⟩)
        have h3' : decide ((G.n : Int) ≤ 30) = true := by simp <;> omega
        go_wp2
        go_ret
        exact ⟨ret_bool (by rw [Hn.out]; try exact h3'), Below.refl _ _⟩
      · have Hn := Lib.hid (not_fewB (G := G) fun e => h3 e.1)
        have h3' : decide ((G.n : Int) ≤ 30) = false := by simp <;> omega
        go_wp2
        go_ret
        exact ⟨ret_bool (by rw [Hn.out]; try exact h3'), Below.refl _ _⟩
end Go.Proofs.Ytooikmialpfdkaa
