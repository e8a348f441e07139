/- The walk of FieldParts: both places are there. -/
import Derived.Test.YtooikmialpfdkaaP1
namespace Go.Proofs.Ytooikmialpfdkaa
open Go.RowKit
set_option linter.unusedVariables false
set_option maxRecDepth 100000
set_option maxHeartbeats 8000000

theorem parts_last (G : Grid) (r c : Nat) (W : World) (h : G.In W.heap.size W) (hf : G.Few) (hok : G.Ok) (hp : G.thereP r c) (hq : G.thereP r (c + 1)) :
    Fn W 3 #[G.v, .agg #[.int .i64 r, .int .i64 c]] (.bool true) := by
  have hn : 1 ≤ G.n := hok.1
  have hn2 := hok.2.1
  have hm := (hok.2.2 0 hok.1).1
  have hm2 := (hok.2.2 0 hok.1).2.1
  have p0 : G.thereP ((0 : Nat) : Int) ((0 : Nat) : Int) := ⟨by omega, by omega, by omega, by omega⟩
  have pl : G.thereP ((G.n - 1 : Nat) : Int) ((G.len 0 - 1 : Nat) : Int) := ⟨by omega, by omega, by omega, by omega⟩
  have n0 : G.num ((0 : Nat) : Int) ((0 : Nat) : Int) 0 = 0 := by simp [Grid.num, thereB_iff.2 p0]
  have nl : G.num ((G.n - 1 : Nat) : Int) ((G.len 0 - 1 : Nat) : Int) 0 = ((G.n - 1 : Nat) : Int) * G.len 0 + ((G.len 0 - 1 : Nat) : Int) := by simp [Grid.num, thereB_iff.2 pl]
  have np : G.num r c 0 = (r : Int) * G.len 0 + c := by simp [Grid.num, thereB_iff.2 hp]
  have nq : G.num r (c + 1) 0 = (r : Int) * G.len 0 + (c + 1) := by simp [Grid.num, thereB_iff.2 hq]
  have hrn : r < G.n := by have := hp.2.1; omega
  have hcn : c + 1 < G.len 0 := by have := hq.2.2.2; omega
  have l1 : (r : Int) * G.len 0 ≤ ((G.n - 1 : Nat) : Int) * G.len 0 := Int.mul_le_mul_of_nonneg_right (by omega) (by omega)
  have l0 : 0 ≤ (r : Int) * G.len 0 := Int.mul_nonneg (by omega) (by omega)
  obtain ⟨sep, hsep, hcat⟩ := parts_law G r c hrn hcn
  have HF : ∀ w, Below W.heap.size W w → Fn w 9 #[G.v] (.bool true) := fun w hw => by
    have := few_any G w (h.later hw hw.size)
    rwa [fewB_yes hf] at this
  have HT : ∀ w, Below W.heap.size W w → Fn w 10 #[G.v, .agg #[.int .i64 r, .int .i64 c]] (.bool true) := fun w hw => by
    have := rthere_any G r c w (h.later hw hw.size)
    rwa [okB_yes hok, thereB_iff.2 hp] at this
  have HQ : ∀ w, Below W.heap.size W w → Fn w 10 #[G.v, .agg #[.int .i64 r, .int .i64 (c + 1)]] (.bool true) := fun w hw => by
    have := rthere_any G r (c + 1) w (h.later hw hw.size)
    rwa [okB_yes hok, thereB_iff.2 hq] at this
  have HA : ∀ w, Fn w 11 #[] (.bool true) := awake_any
  have en : ((G.n - 1 : Nat) : Int) = (G.n : Int) - 1 := by omega
  have em : ((G.len 0 - 1 : Nat) : Int) = (G.len 0 : Int) - 1 := by omega
  have HS1 : ∀ w, Below W.heap.size W w → Fn w 12 #[G.v, .agg #[.int .i64 0, .int .i64 0], .agg #[.int .i64 r, .int .i64 c], .func (.func 13) #[] #[]] (.tuple #[.string (strOfNums (sendOut G 0 0 r c)), .int .i64 0]) := fun w hw => by
    have := send_ok G 0 0 r c w (h.later hw hw.size) hok p0 hp (by rw [n0, np]; omega)
    exact this
  have HS2 : ∀ w, Below W.heap.size W w → Fn w 12 #[G.v, .agg #[.int .i64 r, .int .i64 (c + 1)], .agg #[.int .i64 (G.n - 1), .int .i64 (G.len 0 - 1)], .func (.func 13) #[] #[]] (.tuple #[.string (strOfNums (sendOut G r (c + 1) (G.n - 1) (G.len 0 - 1))), .int .i64 0]) := fun w hw => by
    have := send_ok G r (c + 1) (G.n - 1) (G.len 0 - 1) w (h.later hw hw.size) hok (by exact_mod_cast hq) pl (by push_cast; rw [nl, nq]; omega)
    rw [en, em] at this
    push_cast at this
    exact this
  have HS3 : ∀ w, Below W.heap.size W w → Fn w 12 #[G.v, .agg #[.int .i64 0, .int .i64 0], .agg #[.int .i64 (G.n - 1), .int .i64 (G.len 0 - 1)], .func (.func 13) #[] #[]] (.tuple #[.string (strOfNums (sendOut G 0 0 (G.n - 1) (G.len 0 - 1))), .int .i64 0]) := fun w hw => by
    have := send_ok G 0 0 (G.n - 1) (G.len 0 - 1) w (h.later hw hw.size) hok p0 pl (by rw [nl, n0]; omega)
    rw [en, em] at this
    exact this
  have z1 : (strOfNums (sendOut G 0 0 r c)).size ≤ 1000 * 256 := by
    rw [strOfNums_size]
    exact Nat.le_trans (sendRows_len G 0 0 r c hm2 (by omega) _) (by omega)
  have z2 : (strOfNums (sendOut G r (c + 1) (G.n - 1) (G.len 0 - 1))).size ≤ 1000 * 256 := by
    rw [strOfNums_size]
    exact Nat.le_trans (sendRows_len G r (c + 1) (G.n - 1) (G.len 0 - 1) hm2 (by omega) _) (by omega)
  have hcat' : strOfNums (sendOut G 0 0 (G.n - 1) (G.len 0 - 1)) = strOfNums (sendOut G 0 0 r c) ++ strOfNums sep ++ strOfNums (sendOut G r (c + 1) (G.n - 1) (G.len 0 - 1)) := by
    rw [hcat]; apply ByteArray.ext; simp [strOfNums]
  rw [hcat'] at HS3
  generalize strOfNums (sendOut G 0 0 r c) = A at *
  generalize strOfNums (sendOut G r (c + 1) (G.n - 1) (G.len 0 - 1)) = B at *
  obtain ⟨b, off, ea, hb, hc⟩ := h.rows (by omega)
  have hc0 := hc 0 (by omega)
  rw [Nat.add_zero] at hc0
  unfold Fn at *
  unfold Grid.v at *
  rw [ea] at HF HT HQ HS1 HS2 HS3 ⊢
  have Z := Lib.hid (And.intro z1 z2)
  have S := Lib.hid hsep
  clear z1 z2 hsep
  have HF' := Lib.hid HF
  have HA' := Lib.hid HA
  have HT' := Lib.hid HT
  have HQ' := Lib.hid HQ
  have H1 := Lib.hid HS1
  have H2 := Lib.hid HS2
  have H3 := Lib.hid HS3
  clear HF HA HT HQ HS1 HS2 HS3 hc h hcat hcat' p0 pl n0 nl np nq hrn l1 l0 en em hp hq hok hf
  have hcN : (c : Int) + 1 ≤ 9223372036854775807 := by omega
  go_enter Try.func3, Try.ntmps3
  go_wp2_with fail
  refine (HF'.out _ (bel_alloc (bel_alloc (Below.refl _ _) _) _)).mono ?_
  rintro e w1 ⟨rfl, hb1⟩
  have k0 := hb1.cell (p := ⟨W.heap.size, 0, none⟩) (by simp; omega)
  have k1 := hb1.cell (p := ⟨W.heap.size, 1, none⟩) (by simp; omega)
  have k2 := hb1.cell (p := ⟨W.heap.size + 1, 0, none⟩) (by simp)
  have k3 := hb1.cell (p := ⟨W.heap.size + 1, 1, none⟩) (by simp)
  simp [go_sem] at k0 k1 k2 k3
  have hz : W.heap.size + 1 < w1.heap.size := by have := hb1.size; simp at this; omega
  have B1 : Below W.heap.size W w1 := bel_call (bel_alloc (bel_alloc (Below.refl _ _) _) _) hb1
  clear hb1
  go_wp2_with fail
  refine (HT'.out _ B1).mono ?_
  rintro e w2 ⟨rfl, hb2⟩
  have q0 := (hb2.cell (p := ⟨W.heap.size, 0, none⟩) (Nat.lt_of_succ_lt hz)).trans k0
  have q1 := (hb2.cell (p := ⟨W.heap.size, 1, none⟩) (Nat.lt_of_succ_lt hz)).trans k1
  have q2 := (hb2.cell (p := ⟨W.heap.size + 1, 0, none⟩) hz).trans k2
  have q3 := (hb2.cell (p := ⟨W.heap.size + 1, 1, none⟩) hz).trans k3
  have hz2 : W.heap.size + 1 < w2.heap.size := Nat.lt_of_lt_of_le hz hb2.size
  have B2 : Below W.heap.size W w2 := bel_call B1 hb2
  clear hb2 k0 k1 k2 k3 hz B1
  go_wp2_with fail
  refine (HQ'.out _ B2).mono ?_
  rintro e w3 ⟨rfl, hb3⟩
  have k0 := (hb3.cell (p := ⟨W.heap.size, 0, none⟩) (Nat.lt_of_succ_lt hz2)).trans q0
  have k1 := (hb3.cell (p := ⟨W.heap.size, 1, none⟩) (Nat.lt_of_succ_lt hz2)).trans q1
  have k2 := (hb3.cell (p := ⟨W.heap.size + 1, 0, none⟩) hz2).trans q2
  have k3 := (hb3.cell (p := ⟨W.heap.size + 1, 1, none⟩) hz2).trans q3
  have hz3 : W.heap.size + 1 < w3.heap.size := Nat.lt_of_lt_of_le hz2 hb3.size
  have B3 : Below W.heap.size W w3 := bel_call B2 hb3
  have hcA := (B3.cell (p := ⟨b, off, none⟩) hb).trans hc0
  clear hb3 q0 q1 q2 q3 hz2 B2
  have hw3 : W.heap.size < w3.heap.size := Nat.lt_of_succ_lt hz3
  clear hcN
  go_wp2_with fail
  refine (H1.out _ (bel_alloc B3 _)).mono ?_
  rintro e w4 ⟨rfl, hb4⟩
  have hz4 : w3.heap.size < w4.heap.size := by have := hb4.size; simp at this; omega
  have B4 : Below W.heap.size W w4 := bel_call (bel_alloc B3 _) hb4
  have b4 : Below w3.heap.size w3 w4 := bel_call (bel_alloc (Below.refl _ _) _) hb4
  have y2 := (b4.cell (p := ⟨W.heap.size + 1, 0, none⟩) hz3).trans k2
  have y3 := (b4.cell (p := ⟨W.heap.size + 1, 1, none⟩) hz3).trans k3
  have y4 := hb4.cell (p := ⟨w3.heap.size, 0, none⟩) (by simp)
  have y5 := hb4.cell (p := ⟨w3.heap.size, 1, none⟩) (by simp)
  have hne : ¬ W.heap.size + 1 = w3.heap.size := by omega
  simp [go_sem] at y4 y5
  clear hb4 b4 k0 k1 k2 k3 hcA
  go_wp2_with fail
  refine (H2.out _ B4).mono ?_
  rintro e w5 ⟨rfl, hb5⟩
  have x4 := (hb5.cell (p := ⟨w3.heap.size, 0, none⟩) hz4).trans y4
  have x5 := (hb5.cell (p := ⟨w3.heap.size, 1, none⟩) hz4).trans y5
  have B5 : Below W.heap.size W w5 := bel_call B4 hb5
  clear hb5 y2 y3 y4 y5
  go_wp2_with fail
  refine (H3.out _ B5).mono ?_
  rintro e w6 ⟨rfl, hb6⟩
  have B6 : Below W.heap.size W w6 := bel_call B5 hb6
  have BE : ∀ w7, Below w6.heap.size w6 w7 → Below W.heap.size W w7 := fun w7 h7 => bel_call B6 h7
  obtain ⟨z1, z2⟩ := Z.out
  clear Z
  rcases S.out with rfl | rfl
  · have e1 : A ++ strOfNums [] ++ B = A ++ B := by apply ByteArray.ext; simp [strOfNums]
    have hs : ¬ 9223372036854775807 < A.size + B.size := by omega
    rw [e1]
    clear z1 z2 hb6 B5 H1 H2 H3 HF' HT' HQ' S
    go_wp2_with fail
    refine (HA'.out _).mono ?_
    rintro e w7 ⟨rfl, hb7⟩
    go_wp2
    go_ret
    exact ⟨rfl, BE _ hb7⟩
  · have e1 : strOfNums [28] = ({ data := #[28] } : ByteArray) := rfl
    have e2 : (({ data := #[28] } : ByteArray)).size = 1 := rfl
    have hs : ¬ 9223372036854775807 < A.size + B.size := by omega
    have hs1 : ¬ 9223372036854775807 < A.size + 1 := by omega
    have hs2 : ¬ 9223372036854775807 < A.size + 1 + B.size := by omega
    rw [e1]
    clear z1 z2 hb6 B5 H1 H2 H3 HF' HT' HQ' S
    by_cases heq : (A ++ ({ data := #[28] } : ByteArray) ++ B).toList = (A ++ B).toList
    · go_wp2_with fail
      refine (HA'.out _).mono ?_
      rintro e w7 ⟨rfl, hb7⟩
      go_wp2
      go_ret
      exact ⟨rfl, BE _ hb7⟩
    · go_wp2_with fail
      refine (HA'.out _).mono ?_
      rintro e w7 ⟨rfl, hb7⟩
      go_wp2
      go_ret
      exact ⟨rfl, BE _ hb7⟩
end Go.Proofs.Ytooikmialpfdkaa
