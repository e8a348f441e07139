/- The contracts of the small functions of package keys. -/
import Derived.Test.YtkenihkfjepdfaaRows
import Derived.WalkKit
import Derived.WalkSpells
import Derived.WalkLawsBesides
import Derived.RowKit3
import Derived.Below
import Derived.Laws.BytesArg
namespace Go.Proofs.Ytkenihkfjepdfaa
open Go.RowKit

/-- A function that answers v and writes nothing that was there. -/
def Fn (f : FuncId) (args : Array Value) (v : Value) : Prop :=
  ∀ w : World, Calls Try.prog f args w fun e w' => e = .returned v ∧ Below w.heap.size w w'

theorem bcell {W w1 : World} (hb : Below W.heap.size W w1) : (∀ b o, b < W.heap.size → w1.cell? ⟨b, o, none⟩ = W.cell? ⟨b, o, none⟩) ∧ (∀ b o, b < W.heap.size → w1.frozen? ⟨b, o, none⟩ = W.frozen? ⟨b, o, none⟩) :=
  ⟨fun b o h => hb.cell (p := ⟨b, o, none⟩) h, fun b o h => hb.frozen (p := ⟨b, o, none⟩) h⟩
theorem bel_alloc {w W : World} (h : Below w.heap.size w W) (o : Obj) : Below w.heap.size w (W.alloc o) := h.alloc h.size o
theorem bel_call {w W W' : World} (h : Below w.heap.size w W) (k : Below W.heap.size W W') : Below w.heap.size w W' := h.trans (k.mono h.size)
theorem bel_set {w W : World} (h : Below w.heap.size w W) {p : Addr} (hp : w.heap.size ≤ p.block) (u : Value) : Below w.heap.size w (W.setCell p u) := h.setCell hp u
theorem ret_str {a b : ByteArray} (h : a = b) : Ending.returned (.string a) = .returned (.string b) := by rw [h]
theorem ret_nums {a b : List Int} (h : a = b) : Ending.returned (.string (strOfNums a)) = .returned (.string (strOfNums b)) := by rw [h]
theorem ret_int {k : IntKind} {a b : Int} (h : a = b) : Ending.returned (.int k a) = .returned (.int k b) := by rw [h]
theorem ret_bool {a b : Bool} (h : a = b) : Ending.returned (.bool a) = .returned (.bool b) := by rw [h]

theorem conv1 (W : World) (B : Nat) (x : Int) (hB : W.heap.size = B) : (convert 34 9 (.slice (some ⟨B, 0, none⟩) 1 1)).run Try.prog (W.alloc (.cells #[.int .u8 x] 5)) = .ok (.string (strOfNums [x])) (W.alloc (.cells #[.int .u8 x] 5)) := by
  subst hB
  refine run_convert_bytes_arg _ 34 5 Try.underlying34 Try.underlying5 _ 0 1 1 [x] rfl ?_ 9 Try.underlying9
  intro i hi
  obtain rfl : i = 0 := by omega
  simp [go_sem]
theorem conv3 (W : World) (B : Nat) (x y z : Int) (hB : W.heap.size = B) : (convert 34 9 (.slice (some ⟨B, 0, none⟩) 3 3)).run Try.prog (W.alloc (.cells #[.int .u8 x, .int .u8 y, .int .u8 z] 5)) = .ok (.string (strOfNums [x, y, z])) (W.alloc (.cells #[.int .u8 x, .int .u8 y, .int .u8 z] 5)) := by
  subst hB
  refine run_convert_bytes_arg _ 34 5 Try.underlying34 Try.underlying5 _ 0 3 3 [x, y, z] rfl ?_ 9 Try.underlying9
  intro i hi
  obtain rfl | rfl | rfl : i = 0 ∨ i = 1 ∨ i = 2 := by omega
  all_goals simp [go_sem]
attribute [local go_sem] conv1 conv3

def lowOf (k : Int) : Int := if k = 1 then 32 else if k = 4 then 1 else 0
def highOf (k : Int) : Int := if k = 1 then 126 else if k = 2 then 4 else if k = 3 then 13 else if k = 4 then 12 else 4
def checkOf (k c : Int) : Int := if k < 1 ∨ 5 < k then 12 else if c < lowOf k ∨ highOf k < c then 1 else 0

/-- What a Char is. -/
def charOf (c : Int) (shift ctrl : Bool) : Int :=
  let b := if shift = true ∧ 97 ≤ c ∧ c ≤ 122 then c - 32 else c
  if ctrl = true ∧ 64 ≤ b ∧ b ≤ 95 then b - 64 else if ctrl = true ∧ 97 ≤ b ∧ b ≤ 122 then b - 96 else b
def keyv (k c : Int) (s t : Bool) : Value := .agg #[.int .i64 k, .int .i64 c, .bool s, .bool t]

theorem has_int (a b x : Int) : Fn 20 #[.agg #[.int .i64 a, .int .i64 b], .int .i64 x] (.bool (decide (a ≤ x) && decide (x ≤ b))) := by
  intro w
  by_cases h : a ≤ x
  all_goals
    go_enter Try.func20, Try.ntmps20
    go_wp2
    go_ret
    exact ⟨ret_bool (by simp; omega), bel_alloc (Below.refl _ _) _⟩

theorem codes_no (k : Int) (h : k < 1 ∨ 5 < k) : Fn 19 #[.int .i64 k] (.tuple #[.agg #[.int .i64 0, .int .i64 0], .bool false]) := by
  intro w
  rcases h with h | h
  · go_enter Try.func19, Try.ntmps19
    go_wp2
    exact bodyPost_ret (v := .tuple #[.agg #[.int .i64 0, .int .i64 0], .bool false]) (by simp [results, Try.results19, go_sem]) rfl ⟨rfl, bel_alloc (bel_alloc (Below.refl _ _) _) _⟩
  · have h' : ¬ k < 1 := by omega
    go_enter Try.func19, Try.ntmps19
    go_wp2
    exact bodyPost_ret (v := .tuple #[.agg #[.int .i64 0, .int .i64 0], .bool false]) (by simp [results, Try.results19, go_sem]) rfl ⟨rfl, bel_alloc (bel_alloc (Below.refl _ _) _) _⟩

set_option maxHeartbeats 2000000 in
theorem codes_yes (k : Int) (h1 : 1 ≤ k) (h5 : k ≤ 5) : Fn 19 #[.int .i64 k] (.tuple #[.agg #[.int .i64 (lowOf k), .int .i64 (highOf k)], .bool true]) := by
  intro w
  obtain rfl | rfl | rfl | rfl | rfl : k = 1 ∨ k = 2 ∨ k = 3 ∨ k = 4 ∨ k = 5 := by omega
  all_goals
    go_enter Try.func19, Try.ntmps19
    go_wp2
  · exact bodyPost_ret (v := .tuple #[.agg #[.int .i64 32, .int .i64 126], .bool true]) (by simp [results, Try.results19, go_sem]) rfl ⟨rfl, bel_alloc (bel_alloc (Below.refl _ _) _) _⟩
  · exact bodyPost_ret (v := .tuple #[.agg #[.int .i64 0, .int .i64 4], .bool true]) (by simp [results, Try.results19, go_sem]) rfl ⟨rfl, bel_alloc (bel_alloc (Below.refl _ _) _) _⟩
  · exact bodyPost_ret (v := .tuple #[.agg #[.int .i64 0, .int .i64 13], .bool true]) (by simp [results, Try.results19, go_sem]) rfl ⟨rfl, bel_alloc (bel_alloc (Below.refl _ _) _) _⟩
  · exact bodyPost_ret (v := .tuple #[.agg #[.int .i64 1, .int .i64 12], .bool true]) (by simp [results, Try.results19, go_sem]) rfl ⟨rfl, bel_alloc (bel_alloc (Below.refl _ _) _) _⟩
  · exact bodyPost_ret (v := .tuple #[.agg #[.int .i64 0, .int .i64 4], .bool true]) (by simp [results, Try.results19, go_sem]) rfl ⟨rfl, bel_alloc (bel_alloc (Below.refl _ _) _) _⟩

set_option maxHeartbeats 4000000 in
theorem char_any (c : Int) (s t : Bool) (h0 : 32 ≤ c) (h1 : c ≤ 126) : Fn 36 #[keyv 1 c s t] (.string (strOfNums [charOf c s t])) := by
  intro w
  unfold keyv
  by_cases h2 : 97 ≤ c
  all_goals by_cases h3 : c ≤ 122
  all_goals by_cases h4 : 64 ≤ c
  all_goals by_cases h5 : c ≤ 95
  all_goals first | (exfalso; omega) | skip
  all_goals cases s
  all_goals cases t
  all_goals
    go_enter Try.func36, Try.ntmps36
    go_wp2
    go_ret
    exact ⟨ret_nums (by simp [charOf] <;> omega), by repeat (first | exact Below.refl _ _ | refine bel_alloc ?_ _)⟩

end Go.Proofs.Ytkenihkfjepdfaa
