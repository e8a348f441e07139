/- The contract of awake. -/
import Derived.Test.YtooikmialpfdkaaF8
import Derived.Test.YtooikmialpfdkaaF5
namespace Go.Proofs.Ytooikmialpfdkaa
open Go.RowKit
set_option linter.unusedVariables false

/-- The chapter's example: a, b (protected), c. -/
def exG (b0 : Nat) : Grid := { n := 1, a := some ⟨b0 + 1, 0, none⟩, cap := 1, ra := fun _ => some ⟨b0, 0, none⟩, len := fun _ => 3, rc := fun _ => 3, gl := fun _ j => if j = 0 then 97 else if j = 1 then 98 else 99, tr := fun _ _ => 0, gd := fun _ j => decide (j = 1), ma := fun _ _ => 0 }
theorem exG_ok (b0 : Nat) : (exG b0).Ok := by
  refine ⟨Nat.le_refl 1, (by show 1 ≤ 255; decide), fun i hi => ⟨?_, ?_, rfl⟩⟩
  · show 1 ≤ 3; decide
  · show 3 ≤ 255; decide
def exCells : Obj := .cells #[.int .i32 97, .int .i64 0, .bool false, .int .i64 0, .int .i32 98, .int .i64 0, .bool true, .int .i64 0, .int .i32 99, .int .i64 0, .bool false, .int .i64 0] 44
theorem exG_in (w : World) : (exG w.heap.size).In (w.heap.size + 2) ((w.alloc exCells).alloc (.cells #[.slice (some ⟨w.heap.size, 0, none⟩) 3 3] 28)) := by
  refine ⟨by simp [exG], fun _ => ⟨w.heap.size + 1, 0, rfl, by omega, fun i hi => ?_⟩, fun i hi => by simp [exG], fun i hi _ => ⟨w.heap.size, 0, rfl, by omega, fun j hj => ?_⟩, fun i hi j hj => ?_⟩
  · obtain rfl : i = 0 := by simp [exG] at hi; omega
    simp [exG, go_sem]
  · simp [exG] at hj
    obtain rfl : i = 0 := by simp [exG] at hi; omega
    obtain rfl | rfl | rfl : j = 0 ∨ j = 1 ∨ j = 2 := by omega
    all_goals simp [exG, exCells, go_sem]
  · simp only [exG]
    split
    · omega
    · split <;> omega
theorem ex_send (b0 : Nat) : strOfNums (sendOut (exG b0) 0 0 0 2) = { data := #[97, 28, 99] } := by rfl
theorem ex_there (b0 : Nat) (c : Int) (h0 : 0 ≤ c) (h1 : c < 3) : (exG b0).thereP 0 c := ⟨by omega, by simp [exG], h0, by simp [exG]; omega⟩
theorem ex_num (b0 : Nat) (c : Int) (h0 : 0 ≤ c) (h1 : c < 3) : (exG b0).num 0 c 0 = c := by
  simp [Grid.num, thereB_iff.2 (ex_there b0 c h0 h1)]
theorem ex_next (b0 : Nat) : foundPos (exG b0) (nextOf (exG b0) 1 0 0 1) = .tuple #[.agg #[.int .i64 0, .int .i64 2], .bool true] := by
  have e : nextOf (exG b0) 1 0 0 1 = some 2 := by
    unfold nextOf
    rw [okB_yes (exG_ok b0), if_pos rfl, ex_num b0 1 (by decide) (by decide)]
    show (orbit ((3 : Nat) : Int) 1 1 3).find? (openN (exG b0)) = some 2
    rw [show orbit ((3 : Nat) : Int) 1 1 3 = [1, 2, 0] by decide]
    simp [openN, exG]
  rw [e]
  simp [foundPos, exG]
set_option maxHeartbeats 1000000 in
theorem awake_any (w : World) : Fn w 11 #[] (.bool true) := by
  have HI := exG_in w
  have hok := exG_ok w.heap.size
  have BA : Below w.heap.size w ((w.alloc exCells).alloc (.cells #[.slice (some ⟨w.heap.size, 0, none⟩) 3 3] 28)) := bel_alloc (bel_alloc (Below.refl _ _) _) _
  have HS := send_ok (exG w.heap.size) 0 0 0 2 ((w.alloc exCells).alloc (.cells #[.slice (some ⟨w.heap.size, 0, none⟩) 3 3] 28)) (by simpa using HI) hok (ex_there _ 0 (by decide) (by decide)) (ex_there _ 2 (by decide) (by decide))
    (by have a := ex_num w.heap.size 2 (by decide) (by decide); have b := ex_num w.heap.size 0 (by decide) (by decide); rw [show (((0 : Nat) : Int)) = 0 from rfl, show (((2 : Nat) : Int)) = 2 from rfl, a, b]; decide)
  rw [ex_send] at HS
  have HN : ∀ W, Below (w.heap.size + 2) ((w.alloc exCells).alloc (.cells #[.slice (some ⟨w.heap.size, 0, none⟩) 3 3] 28)) W → w.heap.size + 2 ≤ W.heap.size → Fn W 18 #[(exG w.heap.size).v, .agg #[.int .i64 0, .int .i64 1]] (.tuple #[.agg #[.int .i64 0, .int .i64 2], .bool true]) := fun W hW hs => by
    rw [← ex_next w.heap.size]
    exact next_any _ 0 1 W (HI.later hW hs)
  unfold Fn at *
  unfold Grid.v exG at *
  unfold exCells at *
  have HS' := Lib.hid HS
  have HN' := Lib.hid HN
  clear HS HN HI hok
  go_enter Try.func11, Try.ntmps11
  go_wp2_with fail
  refine HS'.out.mono ?_
  rintro e w1 ⟨rfl, hb1⟩
  go_wp2_with fail
  refine (HN'.out _ (by simpa using hb1) (by have := hb1.size; simpa using this)).mono ?_
  rintro e w2 ⟨rfl, hb2⟩
  go_wp2
  go_ret
  exact ⟨rfl, by repeat (first | exact BA | refine bel_alloc ?_ _ | refine bel_call ?_ hb2 | refine bel_call ?_ hb1)⟩
end Go.Proofs.Ytooikmialpfdkaa
