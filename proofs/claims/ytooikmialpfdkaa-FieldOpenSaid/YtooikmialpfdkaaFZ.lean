/- FieldAsks: the law's walk. -/
import Derived.Test.YtooikmialpfdkaaFX
import Derived.Test.YtooikmialpfdkaaFY
import Derived.Test.YtooikmialpfdkaaFJ
import Derived.Test.YtooikmialpfdkaaFW
namespace Go.Proofs.Ytooikmialpfdkaa
open Go.RowKit
set_option linter.unusedVariables false
set_option linter.unusedSimpArgs false
set_option maxRecDepth 100000
theorem cellB {W W' : World} (hb : Below W.heap.size W W') {b o : Nat} {v : Value} (h : W.cell? ⟨b, o, none⟩ = some v) : W'.cell? ⟨b, o, none⟩ = some v :=
  (hb.cell (p := ⟨b, o, none⟩) (World.block_lt_of_cell? W ⟨b, o, none⟩ h)).trans h
theorem find_congr {P Q : Fd → Bool} {L : List Fd} (h : ∀ f ∈ L, P f = Q f) : L.find? P = L.find? Q := by
  induction L with
  | nil => rfl
  | cons x l ih =>
    rw [List.find?_cons, List.find?_cons, h x (by simp), ih (fun f hf => h f (by simp [hf]))]
theorem tab_same (G : Grid) (r c : Int) : refTabOf G r c = tabOf G r c := by
  by_cases hok : G.Ok
  · unfold refTabOf tabOf
    rw [okB_yes hok, Bool.true_and]
    dsimp only
    have hm := (hok.2.2 0 hok.1).1
    have hf : fieldsOf G = allF G G.n := by simp [fieldsOf, okB_yes hok]
    have hmem : ∀ f ∈ fieldsOf G, f.1 < G.n ∧ f.2.1 < G.len 0 := by rw [hf]; exact allF_mem
    congr 1
    refine find_congr fun f hfm => ?_
    obtain ⟨h1, h2⟩ := hmem f hfm
    unfold behind
    rw [num_there h1 h2]
    cases ht : G.thereB r c with
    | true =>
      obtain ⟨a, b, c', d⟩ := thereB_iff.1 ht
      obtain ⟨r0, rfl⟩ := Int.eq_ofNat_of_zero_le a
      obtain ⟨c0, rfl⟩ := Int.eq_ofNat_of_zero_le c'
      have hn : G.num r0 c0 (-1) = ((r0 * G.len 0 + c0 : Nat) : Int) := num_there (by omega) (by omega) _
      rw [hn]
      simp only [if_true]
      unfold refBehind
      have hl := lex (m := G.len 0) (fr := f.1) (fc := f.2.1) (tr := r0) (tc := c0) (by omega) (by omega)
      rw [← Int.natCast_mul, ← Int.natCast_mul] at hl
      have e : (decide ((r0 : Int) < f.1) || (decide ((f.1 : Int) = (r0 : Int)) && decide ((c0 : Int) < f.2.1))) = decide (r0 < f.1 ∨ (r0 = f.1 ∧ c0 < f.2.1)) := by
        by_cases e1 : r0 < f.1
        · simp [e1]
        · by_cases e2 : f.1 = r0
          · simp [e2]
          · have e3 : ¬ r0 = f.1 := fun h => e2 h.symm
            have e4 : ¬ (f.1 : Int) = (r0 : Int) := by omega
            simp [e1, e3, e4]
      rw [e]
      congr 1
      refine propext (hl.symm.trans ?_)
      push_cast
      exact Iff.rfl
    | false =>
      have hn : G.num r c (-1) = -1 := by unfold Grid.num; rw [if_neg (by rw [ht]; simp)]
      rw [hn]
      simp only [Bool.false_eq_true, if_false]
      unfold refBehind
      have e1 : (-1 : Int) < (f.1 : Int) := by omega
      have e2 : (-1 : Int) < ((f.1 * G.len 0 + f.2.1 : Nat) : Int) := by omega
      simp only [e1, e2, decide_true, Bool.true_or]
  · have e : fieldsOf G = [] := by simp [fieldsOf, not_okB hok]
    unfold refTabOf tabOf
    rw [e]
    simp
theorem tabV_form (o : Option Fd) : ∃ (x y : Int) (f : Bool), tabV o = .tuple #[.agg #[.int .i64 x, .int .i64 y], .bool f] := by
  cases o with
  | none => exact ⟨_, _, _, rfl⟩
  | some p => exact ⟨_, _, _, rfl⟩
theorem open_both (G : Grid) (r c : Int) (w : World) (h : G.In w.heap.size w) : ∃ b : Bool, (∀ W, Below w.heap.size w W → Fn W 20 #[G.v, posV r c] (.bool b)) ∧ (∀ W, Below w.heap.size w W → Fn W 25 #[G.v, posV r c] (.bool b)) := by
  by_cases hok : G.Ok
  · cases ht : G.thereB r c with
    | false => exact ⟨false, fun W hW => open_off G r c W (h.later hW hW.size) hok ht, fun W hW => ropen_no G r c W (h.later hW hW.size) (by rw [ht]; simp)⟩
    | true =>
      have hh := thereB_iff.1 ht
      obtain ⟨r0, rfl⟩ := Int.eq_ofNat_of_zero_le hh.1
      obtain ⟨c0, rfl⟩ := Int.eq_ofNat_of_zero_le hh.2.2.1
      exact ⟨_, fun W hW => open_yes G r0 c0 W (h.later hW hW.size) hok hh, fun W hW => ropen_yes G r0 c0 W (h.later hW hW.size) hok hh⟩
  · exact ⟨false, fun W hW => open_not G r c W (h.later hW hW.size) hok, fun W hW => ropen_no G r c W (h.later hW hW.size) (by rw [not_okB hok]; simp)⟩
theorem asks_few (G : Grid) (r c : Int) (W : World) (h : G.In W.heap.size W) (hf : ¬ G.Few) : Fn W 8 #[G.v, posV r c] (.bool true) := by
  have HF : ∀ w, Below W.heap.size W w → Fn w 9 #[G.v] (.bool false) := fun w hw => by
    have := few_any G w (h.later hw hw.size)
    rwa [not_fewB hf] at this
  have HA : ∀ w, Fn w 11 #[] (.bool true) := awake_any
  unfold Fn posV at *
  unfold Grid.v at *
  have HF' := Lib.hid HF
  have HA' := Lib.hid HA
  clear HF HA h hf
  go_enter Try.func8, Try.ntmps8
  go_wp2_with fail
  refine (HF'.out _ (by repeat (first | exact Below.refl _ _ | refine bel_alloc ?_ _))).mono ?_
  rintro e w1 ⟨rfl, hb1⟩
  go_wp2_with fail
  refine (HA'.out _).mono ?_
  rintro e w2 ⟨rfl, hb2⟩
  go_wp2
  go_ret
  exact ⟨rfl, by repeat (first | exact Below.refl _ _ | refine bel_alloc ?_ _ | refine bel_call ?_ hb2 | refine bel_call ?_ hb1)⟩
set_option maxHeartbeats 2000000 in
theorem asks_main (G : Grid) (r c : Int) (w : World) (h : G.In w.heap.size w) (hf : G.Few) : Fn w 8 #[G.v, posV r c] (.bool true) := by
  have HF : ∀ W, Below w.heap.size w W → Fn W 9 #[G.v] (.bool true) := fun W hW => by
    have := few_any G W (h.later hW hW.size)
    rwa [fewB_yes hf] at this
  have HA : ∀ W, Fn W 11 #[] (.bool true) := awake_any
  have H1 : ∀ W, Below w.heap.size w W → Fn W 18 #[G.v, posV r c] (foundPos G (nextOf G 1 0 r c)) := fun W hW => next_any G r c W (h.later hW hW.size)
  have H2 : ∀ W, Below w.heap.size w W → Fn W 22 #[G.v, posV r c, .bool false] (foundPos G (nextOf G 1 0 r c)) := fun W hW => rnext_any G r c false W (h.later hW hW.size)
  have H3 : ∀ W, Below w.heap.size w W → Fn W 19 #[G.v, posV r c] (foundPos G (nextOf G (-1) ((G.n * G.len 0 : Nat) - 1) r c)) := fun W hW => back_any G r c W (h.later hW hW.size)
  have H4 : ∀ W, Below w.heap.size w W → Fn W 22 #[G.v, posV r c, .bool true] (foundPos G (nextOf G (-1) ((G.n * G.len 0 : Nat) - 1) r c)) := fun W hW => rnext_any G r c true W (h.later hW hW.size)
  have H5 : ∀ W, Below w.heap.size w W → Fn W 21 #[G.v, posV r c] (tabV (tabOf G r c)) := fun W hW => tab_any G r c W (h.later hW hW.size)
  have H6 : ∀ W, Below w.heap.size w W → Fn W 23 #[G.v, posV r c] (tabV (tabOf G r c)) := fun W hW => by
    have := rtab_any G r c W (h.later hW hW.size)
    rwa [tab_same] at this
  have H7 : ∀ W, Below w.heap.size w W → Fn W 17 #[G.v] (.bool G.okB) := fun W hW => right_any G W (h.later hW hW.size)
  have H8 : ∀ W, Below w.heap.size w W → Fn W 24 #[G.v] (.int .i64 (errOf G.okB)) := fun W hW => check_any G W (h.later hW hW.size)
  obtain ⟨ob, H9, H10⟩ := open_both G r c w h
  obtain ⟨x1, y1, f1, e1⟩ := foundPos_form G (nextOf G 1 0 r c)
  obtain ⟨x2, y2, f2, e2⟩ := foundPos_form G (nextOf G (-1) ((G.n * G.len 0 : Nat) - 1) r c)
  obtain ⟨x3, y3, f3, e3⟩ := tabV_form (tabOf G r c)
  rw [e1] at H1 H2
  rw [e2] at H3 H4
  rw [e3] at H5 H6
  generalize G.okB = ok at *
  unfold Fn posV at *
  unfold Grid.v at *
  have HF' := Lib.hid HF
  have HA' := Lib.hid HA
  have H1' := Lib.hid H1
  have H2' := Lib.hid H2
  have H3' := Lib.hid H3
  have H4' := Lib.hid H4
  have H5' := Lib.hid H5
  have H6' := Lib.hid H6
  have H7' := Lib.hid H7
  have H8' := Lib.hid H8
  have H9' := Lib.hid H9
  have H10' := Lib.hid H10
  clear HF HA H1 H2 H3 H4 H5 H6 H7 H8 H9 H10 e1 e2 e3 h hf
  go_enter Try.func8, Try.ntmps8
  go_wp2_with fail
  have B0 : Below w.heap.size w (w.alloc (.cells #[.int .i64 r, .int .i64 c] 24)) := bel_alloc (Below.refl _ _) _
  have a0_0 : (w.alloc (.cells #[.int .i64 r, .int .i64 c] 24)).cell? ⟨w.heap.size, 0, none⟩ = some (.int .i64 r) := by simp [go_sem]
  have a0_1 : (w.alloc (.cells #[.int .i64 r, .int .i64 c] 24)).cell? ⟨w.heap.size, 1, none⟩ = some (.int .i64 c) := by simp [go_sem]
  refine (HF'.out _ B0).mono ?_
  rintro e v1 ⟨rfl, hb1⟩
  have B1 := bel_call B0 hb1
  have a1_0 := cellB hb1 a0_0
  have a1_1 := cellB hb1 a0_1
  clear a0_0 a0_1 hb1
  go_wp2_with fail
  refine (H1'.out _ B1).mono ?_
  rintro e v2 ⟨rfl, hb2⟩
  have B2 := bel_call B1 hb2
  have c2_0 := cellB hb2 a1_0
  have c2_1 := cellB hb2 a1_1
  have P2 := Lib.hid (show (fun W : World => W.cell? ⟨v2.heap.size, 0, none⟩ = some (.int .i64 x1) ∧ W.cell? ⟨v2.heap.size, 1, none⟩ = some (.int .i64 y1)) (v2.alloc (.cells #[.int .i64 x1, .int .i64 y1] 24)) from ⟨by simp [go_sem], by simp [go_sem]⟩)
  have d2_0 := cellB (bel_alloc (Below.refl _ v2) (.cells #[.int .i64 x1, .int .i64 y1] 24)) c2_0
  have d2_1 := cellB (bel_alloc (Below.refl _ v2) (.cells #[.int .i64 x1, .int .i64 y1] 24)) c2_1
  have D2 := bel_alloc B2 (.cells #[.int .i64 x1, .int .i64 y1] 24)
  clear a1_0 a1_1 c2_0 c2_1 hb2 
  go_wp2_with fail
  refine (H2'.out _ D2).mono ?_
  rintro e v3 ⟨rfl, hb3⟩
  have B3 := bel_call D2 hb3
  have c3_0 := cellB hb3 d2_0
  have c3_1 := cellB hb3 d2_1
  obtain ⟨q0, q1⟩ := P2.out
  have P3 := Lib.hid (show (fun W : World => W.cell? ⟨v2.heap.size, 0, none⟩ = some (.int .i64 x1) ∧ W.cell? ⟨v2.heap.size, 1, none⟩ = some (.int .i64 y1) ∧ W.cell? ⟨v3.heap.size, 0, none⟩ = some (.int .i64 x1) ∧ W.cell? ⟨v3.heap.size, 1, none⟩ = some (.int .i64 y1)) (v3.alloc (.cells #[.int .i64 x1, .int .i64 y1] 24)) from ⟨cellB (bel_alloc (Below.refl _ v3) (.cells #[.int .i64 x1, .int .i64 y1] 24)) (cellB hb3 q0), cellB (bel_alloc (Below.refl _ v3) (.cells #[.int .i64 x1, .int .i64 y1] 24)) (cellB hb3 q1), by simp [go_sem], by simp [go_sem]⟩)
  have d3_0 := cellB (bel_alloc (Below.refl _ v3) (.cells #[.int .i64 x1, .int .i64 y1] 24)) c3_0
  have d3_1 := cellB (bel_alloc (Below.refl _ v3) (.cells #[.int .i64 x1, .int .i64 y1] 24)) c3_1
  have D3 := bel_alloc B3 (.cells #[.int .i64 x1, .int .i64 y1] 24)
  clear d2_0 d2_1 c3_0 c3_1 hb3 q0 q1
  go_wp2_with fail
  refine (H3'.out _ D3).mono ?_
  rintro e v4 ⟨rfl, hb4⟩
  have B4 := bel_call D3 hb4
  have c4_0 := cellB hb4 d3_0
  have c4_1 := cellB hb4 d3_1
  obtain ⟨q0, q1, q2, q3⟩ := P3.out
  have P4 := Lib.hid (show (fun W : World => W.cell? ⟨v2.heap.size, 0, none⟩ = some (.int .i64 x1) ∧ W.cell? ⟨v2.heap.size, 1, none⟩ = some (.int .i64 y1) ∧ W.cell? ⟨v3.heap.size, 0, none⟩ = some (.int .i64 x1) ∧ W.cell? ⟨v3.heap.size, 1, none⟩ = some (.int .i64 y1) ∧ W.cell? ⟨v4.heap.size, 0, none⟩ = some (.int .i64 x2) ∧ W.cell? ⟨v4.heap.size, 1, none⟩ = some (.int .i64 y2)) (v4.alloc (.cells #[.int .i64 x2, .int .i64 y2] 24)) from ⟨cellB (bel_alloc (Below.refl _ v4) (.cells #[.int .i64 x2, .int .i64 y2] 24)) (cellB hb4 q0), cellB (bel_alloc (Below.refl _ v4) (.cells #[.int .i64 x2, .int .i64 y2] 24)) (cellB hb4 q1), cellB (bel_alloc (Below.refl _ v4) (.cells #[.int .i64 x2, .int .i64 y2] 24)) (cellB hb4 q2), cellB (bel_alloc (Below.refl _ v4) (.cells #[.int .i64 x2, .int .i64 y2] 24)) (cellB hb4 q3), by simp [go_sem], by simp [go_sem]⟩)
  have d4_0 := cellB (bel_alloc (Below.refl _ v4) (.cells #[.int .i64 x2, .int .i64 y2] 24)) c4_0
  have d4_1 := cellB (bel_alloc (Below.refl _ v4) (.cells #[.int .i64 x2, .int .i64 y2] 24)) c4_1
  have D4 := bel_alloc B4 (.cells #[.int .i64 x2, .int .i64 y2] 24)
  clear d3_0 d3_1 c4_0 c4_1 hb4 q0 q1 q2 q3
  go_wp2_with fail
  refine (H4'.out _ D4).mono ?_
  rintro e v5 ⟨rfl, hb5⟩
  have B5 := bel_call D4 hb5
  have c5_0 := cellB hb5 d4_0
  have c5_1 := cellB hb5 d4_1
  obtain ⟨q0, q1, q2, q3, q4, q5⟩ := P4.out
  have P5 := Lib.hid (show (fun W : World => W.cell? ⟨v2.heap.size, 0, none⟩ = some (.int .i64 x1) ∧ W.cell? ⟨v2.heap.size, 1, none⟩ = some (.int .i64 y1) ∧ W.cell? ⟨v3.heap.size, 0, none⟩ = some (.int .i64 x1) ∧ W.cell? ⟨v3.heap.size, 1, none⟩ = some (.int .i64 y1) ∧ W.cell? ⟨v4.heap.size, 0, none⟩ = some (.int .i64 x2) ∧ W.cell? ⟨v4.heap.size, 1, none⟩ = some (.int .i64 y2) ∧ W.cell? ⟨v5.heap.size, 0, none⟩ = some (.int .i64 x2) ∧ W.cell? ⟨v5.heap.size, 1, none⟩ = some (.int .i64 y2)) (v5.alloc (.cells #[.int .i64 x2, .int .i64 y2] 24)) from ⟨cellB (bel_alloc (Below.refl _ v5) (.cells #[.int .i64 x2, .int .i64 y2] 24)) (cellB hb5 q0), cellB (bel_alloc (Below.refl _ v5) (.cells #[.int .i64 x2, .int .i64 y2] 24)) (cellB hb5 q1), cellB (bel_alloc (Below.refl _ v5) (.cells #[.int .i64 x2, .int .i64 y2] 24)) (cellB hb5 q2), cellB (bel_alloc (Below.refl _ v5) (.cells #[.int .i64 x2, .int .i64 y2] 24)) (cellB hb5 q3), cellB (bel_alloc (Below.refl _ v5) (.cells #[.int .i64 x2, .int .i64 y2] 24)) (cellB hb5 q4), cellB (bel_alloc (Below.refl _ v5) (.cells #[.int .i64 x2, .int .i64 y2] 24)) (cellB hb5 q5), by simp [go_sem], by simp [go_sem]⟩)
  have d5_0 := cellB (bel_alloc (Below.refl _ v5) (.cells #[.int .i64 x2, .int .i64 y2] 24)) c5_0
  have d5_1 := cellB (bel_alloc (Below.refl _ v5) (.cells #[.int .i64 x2, .int .i64 y2] 24)) c5_1
  have D5 := bel_alloc B5 (.cells #[.int .i64 x2, .int .i64 y2] 24)
  clear d4_0 d4_1 c5_0 c5_1 hb5 q0 q1 q2 q3 q4 q5
  go_wp2_with fail
  refine (H5'.out _ D5).mono ?_
  rintro e v6 ⟨rfl, hb6⟩
  have B6 := bel_call D5 hb6
  have c6_0 := cellB hb6 d5_0
  have c6_1 := cellB hb6 d5_1
  obtain ⟨q0, q1, q2, q3, q4, q5, q6, q7⟩ := P5.out
  have P6 := Lib.hid (show (fun W : World => W.cell? ⟨v2.heap.size, 0, none⟩ = some (.int .i64 x1) ∧ W.cell? ⟨v2.heap.size, 1, none⟩ = some (.int .i64 y1) ∧ W.cell? ⟨v3.heap.size, 0, none⟩ = some (.int .i64 x1) ∧ W.cell? ⟨v3.heap.size, 1, none⟩ = some (.int .i64 y1) ∧ W.cell? ⟨v4.heap.size, 0, none⟩ = some (.int .i64 x2) ∧ W.cell? ⟨v4.heap.size, 1, none⟩ = some (.int .i64 y2) ∧ W.cell? ⟨v5.heap.size, 0, none⟩ = some (.int .i64 x2) ∧ W.cell? ⟨v5.heap.size, 1, none⟩ = some (.int .i64 y2) ∧ W.cell? ⟨v6.heap.size, 0, none⟩ = some (.int .i64 x3) ∧ W.cell? ⟨v6.heap.size, 1, none⟩ = some (.int .i64 y3)) (v6.alloc (.cells #[.int .i64 x3, .int .i64 y3] 24)) from ⟨cellB (bel_alloc (Below.refl _ v6) (.cells #[.int .i64 x3, .int .i64 y3] 24)) (cellB hb6 q0), cellB (bel_alloc (Below.refl _ v6) (.cells #[.int .i64 x3, .int .i64 y3] 24)) (cellB hb6 q1), cellB (bel_alloc (Below.refl _ v6) (.cells #[.int .i64 x3, .int .i64 y3] 24)) (cellB hb6 q2), cellB (bel_alloc (Below.refl _ v6) (.cells #[.int .i64 x3, .int .i64 y3] 24)) (cellB hb6 q3), cellB (bel_alloc (Below.refl _ v6) (.cells #[.int .i64 x3, .int .i64 y3] 24)) (cellB hb6 q4), cellB (bel_alloc (Below.refl _ v6) (.cells #[.int .i64 x3, .int .i64 y3] 24)) (cellB hb6 q5), cellB (bel_alloc (Below.refl _ v6) (.cells #[.int .i64 x3, .int .i64 y3] 24)) (cellB hb6 q6), cellB (bel_alloc (Below.refl _ v6) (.cells #[.int .i64 x3, .int .i64 y3] 24)) (cellB hb6 q7), by simp [go_sem], by simp [go_sem]⟩)
  have d6_0 := cellB (bel_alloc (Below.refl _ v6) (.cells #[.int .i64 x3, .int .i64 y3] 24)) c6_0
  have d6_1 := cellB (bel_alloc (Below.refl _ v6) (.cells #[.int .i64 x3, .int .i64 y3] 24)) c6_1
  have D6 := bel_alloc B6 (.cells #[.int .i64 x3, .int .i64 y3] 24)
  clear d5_0 d5_1 c6_0 c6_1 hb6 q0 q1 q2 q3 q4 q5 q6 q7
  go_wp2_with fail
  refine (H6'.out _ D6).mono ?_
  rintro e v7 ⟨rfl, hb7⟩
  have B7 := bel_call D6 hb7
  have c7_0 := cellB hb7 d6_0
  have c7_1 := cellB hb7 d6_1
  obtain ⟨q0, q1, q2, q3, q4, q5, q6, q7, q8, q9⟩ := P6.out
  have P7 := Lib.hid (show (fun W : World => W.cell? ⟨v2.heap.size, 0, none⟩ = some (.int .i64 x1) ∧ W.cell? ⟨v2.heap.size, 1, none⟩ = some (.int .i64 y1) ∧ W.cell? ⟨v3.heap.size, 0, none⟩ = some (.int .i64 x1) ∧ W.cell? ⟨v3.heap.size, 1, none⟩ = some (.int .i64 y1) ∧ W.cell? ⟨v4.heap.size, 0, none⟩ = some (.int .i64 x2) ∧ W.cell? ⟨v4.heap.size, 1, none⟩ = some (.int .i64 y2) ∧ W.cell? ⟨v5.heap.size, 0, none⟩ = some (.int .i64 x2) ∧ W.cell? ⟨v5.heap.size, 1, none⟩ = some (.int .i64 y2) ∧ W.cell? ⟨v6.heap.size, 0, none⟩ = some (.int .i64 x3) ∧ W.cell? ⟨v6.heap.size, 1, none⟩ = some (.int .i64 y3) ∧ W.cell? ⟨v7.heap.size, 0, none⟩ = some (.int .i64 x3) ∧ W.cell? ⟨v7.heap.size, 1, none⟩ = some (.int .i64 y3)) (v7.alloc (.cells #[.int .i64 x3, .int .i64 y3] 24)) from ⟨cellB (bel_alloc (Below.refl _ v7) (.cells #[.int .i64 x3, .int .i64 y3] 24)) (cellB hb7 q0), cellB (bel_alloc (Below.refl _ v7) (.cells #[.int .i64 x3, .int .i64 y3] 24)) (cellB hb7 q1), cellB (bel_alloc (Below.refl _ v7) (.cells #[.int .i64 x3, .int .i64 y3] 24)) (cellB hb7 q2), cellB (bel_alloc (Below.refl _ v7) (.cells #[.int .i64 x3, .int .i64 y3] 24)) (cellB hb7 q3), cellB (bel_alloc (Below.refl _ v7) (.cells #[.int .i64 x3, .int .i64 y3] 24)) (cellB hb7 q4), cellB (bel_alloc (Below.refl _ v7) (.cells #[.int .i64 x3, .int .i64 y3] 24)) (cellB hb7 q5), cellB (bel_alloc (Below.refl _ v7) (.cells #[.int .i64 x3, .int .i64 y3] 24)) (cellB hb7 q6), cellB (bel_alloc (Below.refl _ v7) (.cells #[.int .i64 x3, .int .i64 y3] 24)) (cellB hb7 q7), cellB (bel_alloc (Below.refl _ v7) (.cells #[.int .i64 x3, .int .i64 y3] 24)) (cellB hb7 q8), cellB (bel_alloc (Below.refl _ v7) (.cells #[.int .i64 x3, .int .i64 y3] 24)) (cellB hb7 q9), by simp [go_sem], by simp [go_sem]⟩)
  have d7_0 := cellB (bel_alloc (Below.refl _ v7) (.cells #[.int .i64 x3, .int .i64 y3] 24)) c7_0
  have d7_1 := cellB (bel_alloc (Below.refl _ v7) (.cells #[.int .i64 x3, .int .i64 y3] 24)) c7_1
  have D7 := bel_alloc B7 (.cells #[.int .i64 x3, .int .i64 y3] 24)
  clear d6_0 d6_1 c7_0 c7_1 hb7 q0 q1 q2 q3 q4 q5 q6 q7 q8 q9
  go_wp2_with fail
  refine (H7'.out _ D7).mono ?_
  rintro e v9 ⟨rfl, hb9⟩
  have B9 := bel_call D7 hb9
  obtain ⟨q0, q1, q2, q3, q4, q5, q6, q7, q8, q9, q10, q11⟩ := P7.out
  have S9 := Lib.hid (show (fun W : World => (W.cell? ⟨w.heap.size, 0, none⟩ = some (.int .i64 r) ∧ W.cell? ⟨w.heap.size, 1, none⟩ = some (.int .i64 c) ∧ W.cell? ⟨v2.heap.size, 0, none⟩ = some (.int .i64 x1) ∧ W.cell? ⟨v2.heap.size, 1, none⟩ = some (.int .i64 y1) ∧ W.cell? ⟨v3.heap.size, 0, none⟩ = some (.int .i64 x1) ∧ W.cell? ⟨v3.heap.size, 1, none⟩ = some (.int .i64 y1) ∧ W.cell? ⟨v4.heap.size, 0, none⟩ = some (.int .i64 x2) ∧ W.cell? ⟨v4.heap.size, 1, none⟩ = some (.int .i64 y2) ∧ W.cell? ⟨v5.heap.size, 0, none⟩ = some (.int .i64 x2) ∧ W.cell? ⟨v5.heap.size, 1, none⟩ = some (.int .i64 y2) ∧ W.cell? ⟨v6.heap.size, 0, none⟩ = some (.int .i64 x3) ∧ W.cell? ⟨v6.heap.size, 1, none⟩ = some (.int .i64 y3) ∧ W.cell? ⟨v7.heap.size, 0, none⟩ = some (.int .i64 x3) ∧ W.cell? ⟨v7.heap.size, 1, none⟩ = some (.int .i64 y3)) ∧ Below w.heap.size w W) v9 from ⟨⟨cellB hb9 d7_0, cellB hb9 d7_1, cellB hb9 q0, cellB hb9 q1, cellB hb9 q2, cellB hb9 q3, cellB hb9 q4, cellB hb9 q5, cellB hb9 q6, cellB hb9 q7, cellB hb9 q8, cellB hb9 q9, cellB hb9 q10, cellB hb9 q11⟩, B9⟩)
  have KB := Lib.hid (show ∀ W W' : World, ((fun W : World => (W.cell? ⟨w.heap.size, 0, none⟩ = some (.int .i64 r) ∧ W.cell? ⟨w.heap.size, 1, none⟩ = some (.int .i64 c) ∧ W.cell? ⟨v2.heap.size, 0, none⟩ = some (.int .i64 x1) ∧ W.cell? ⟨v2.heap.size, 1, none⟩ = some (.int .i64 y1) ∧ W.cell? ⟨v3.heap.size, 0, none⟩ = some (.int .i64 x1) ∧ W.cell? ⟨v3.heap.size, 1, none⟩ = some (.int .i64 y1) ∧ W.cell? ⟨v4.heap.size, 0, none⟩ = some (.int .i64 x2) ∧ W.cell? ⟨v4.heap.size, 1, none⟩ = some (.int .i64 y2) ∧ W.cell? ⟨v5.heap.size, 0, none⟩ = some (.int .i64 x2) ∧ W.cell? ⟨v5.heap.size, 1, none⟩ = some (.int .i64 y2) ∧ W.cell? ⟨v6.heap.size, 0, none⟩ = some (.int .i64 x3) ∧ W.cell? ⟨v6.heap.size, 1, none⟩ = some (.int .i64 y3) ∧ W.cell? ⟨v7.heap.size, 0, none⟩ = some (.int .i64 x3) ∧ W.cell? ⟨v7.heap.size, 1, none⟩ = some (.int .i64 y3)) ∧ Below w.heap.size w W) W) → Below W.heap.size W W' → (fun W : World => (W.cell? ⟨w.heap.size, 0, none⟩ = some (.int .i64 r) ∧ W.cell? ⟨w.heap.size, 1, none⟩ = some (.int .i64 c) ∧ W.cell? ⟨v2.heap.size, 0, none⟩ = some (.int .i64 x1) ∧ W.cell? ⟨v2.heap.size, 1, none⟩ = some (.int .i64 y1) ∧ W.cell? ⟨v3.heap.size, 0, none⟩ = some (.int .i64 x1) ∧ W.cell? ⟨v3.heap.size, 1, none⟩ = some (.int .i64 y1) ∧ W.cell? ⟨v4.heap.size, 0, none⟩ = some (.int .i64 x2) ∧ W.cell? ⟨v4.heap.size, 1, none⟩ = some (.int .i64 y2) ∧ W.cell? ⟨v5.heap.size, 0, none⟩ = some (.int .i64 x2) ∧ W.cell? ⟨v5.heap.size, 1, none⟩ = some (.int .i64 y2) ∧ W.cell? ⟨v6.heap.size, 0, none⟩ = some (.int .i64 x3) ∧ W.cell? ⟨v6.heap.size, 1, none⟩ = some (.int .i64 y3) ∧ W.cell? ⟨v7.heap.size, 0, none⟩ = some (.int .i64 x3) ∧ W.cell? ⟨v7.heap.size, 1, none⟩ = some (.int .i64 y3)) ∧ Below w.heap.size w W) W' from by
    rintro W W' ⟨⟨s0, s1, s2, s3, s4, s5, s6, s7, s8, s9, s10, s11, s12, s13⟩, B⟩ hb
    exact ⟨⟨cellB hb s0, cellB hb s1, cellB hb s2, cellB hb s3, cellB hb s4, cellB hb s5, cellB hb s6, cellB hb s7, cellB hb s8, cellB hb s9, cellB hb s10, cellB hb s11, cellB hb s12, cellB hb s13⟩, bel_call B hb⟩)
  clear d7_0 d7_1 q0 q1 q2 q3 q4 q5 q6 q7 q8 q9 q10 q11
  cases ok with
  | true =>
    have H8' : Hid _ := H8'
    have eo : errOf true = 0 := rfl
    rw [eo] at H8'
    go_wp2_with fail
    refine wp_region_held_drew (S := fun W => (W.cell? ⟨w.heap.size, 0, none⟩ = some (.int .i64 r) ∧ W.cell? ⟨w.heap.size, 1, none⟩ = some (.int .i64 c) ∧ W.cell? ⟨v2.heap.size, 0, none⟩ = some (.int .i64 x1) ∧ W.cell? ⟨v2.heap.size, 1, none⟩ = some (.int .i64 y1) ∧ W.cell? ⟨v3.heap.size, 0, none⟩ = some (.int .i64 x1) ∧ W.cell? ⟨v3.heap.size, 1, none⟩ = some (.int .i64 y1) ∧ W.cell? ⟨v4.heap.size, 0, none⟩ = some (.int .i64 x2) ∧ W.cell? ⟨v4.heap.size, 1, none⟩ = some (.int .i64 y2) ∧ W.cell? ⟨v5.heap.size, 0, none⟩ = some (.int .i64 x2) ∧ W.cell? ⟨v5.heap.size, 1, none⟩ = some (.int .i64 y2) ∧ W.cell? ⟨v6.heap.size, 0, none⟩ = some (.int .i64 x3) ∧ W.cell? ⟨v6.heap.size, 1, none⟩ = some (.int .i64 y3) ∧ W.cell? ⟨v7.heap.size, 0, none⟩ = some (.int .i64 x3) ∧ W.cell? ⟨v7.heap.size, 1, none⟩ = some (.int .i64 y3)) ∧ Below w.heap.size w W) (by kernel_rfl) (KB.out _ _ S9.out (Below.refl _ _).drew) (fun hHeld => ?_)
    refine wpAnyH_step (i := 0) (d := some 61) (v := ?_) rfl rfl (by kernel_rfl) (by kernel_rfl) (by kernel_rfl) (fun _ _ _ h => h) (Or.inl ⟨by rfl, ?_⟩) (by assumption) ?_
    rotate_left
    · intro w hSw; (try dsimp only at hSw); go_simp; (try with_reducible rfl)
    try simp only [Act.put, List.setIfInBounds_toArray, List.set_cons_zero, List.set_cons_succ]
    refine wpAnyH_step (i := 2) (d := some 63) (v := ?_) rfl rfl (by kernel_rfl) (by kernel_rfl) (by kernel_rfl) (fun _ _ _ h => h) (Or.inl ⟨by rfl, ?_⟩) (by assumption) ?_
    rotate_left
    · intro w hSw; (try dsimp only at hSw); go_simp; (try with_reducible rfl)
    try simp only [Act.put, List.setIfInBounds_toArray, List.set_cons_zero, List.set_cons_succ]
    refine wpAnyH_ready (rs := [1]) (by kernel_rfl) (by simp) ?_
    refine AllReadyH.cons rfl (fun K hK => ?_) AllReadyH.nil
    go_simp
    refine (H8'.out _ hHeld.2).mono ?_
    rintro e u ⟨rfl, hb⟩
    (try go_wp2_with fail)
    refine hK.out _ _ ?_ (fun hHeld => ?_)
    · exact KB.out _ _ hHeld hb
    clear hK K
    try simp only [Act.put, List.setIfInBounds_toArray, List.set_cons_zero, List.set_cons_succ]
    refine wpAnyH_step (i := 3) (d := some 64) (v := ?_) rfl rfl (by kernel_rfl) (by kernel_rfl) (by kernel_rfl) (fun _ _ _ h => h) (Or.inl ⟨by rfl, ?_⟩) (by assumption) ?_
    rotate_left
    · intro w hSw; (try dsimp only at hSw); go_simp; (try with_reducible rfl)
    try simp only [Act.put, List.setIfInBounds_toArray, List.set_cons_zero, List.set_cons_succ]
    refine wpAnyH_step (i := 4) (d := some 65) (v := ?_) rfl rfl (by kernel_rfl) (by kernel_rfl) (by kernel_rfl) (fun _ _ _ h => h) (Or.inl ⟨by rfl, ?_⟩) (by assumption) ?_
    rotate_left
    · intro w hSw; (try dsimp only at hSw); go_simp; (try with_reducible rfl)
    try simp only [Act.put, List.setIfInBounds_toArray, List.set_cons_zero, List.set_cons_succ]
    refine wpAnyH_step (i := 5) (d := some 66) (v := ?_) rfl rfl (by kernel_rfl) (by kernel_rfl) (by kernel_rfl) (fun _ _ _ h => h) (Or.inl ⟨by rfl, ?_⟩) (by assumption) ?_
    rotate_left
    · intro w hSw; (try dsimp only at hSw); go_simp; (try with_reducible rfl)
    try simp only [Act.put, List.setIfInBounds_toArray, List.set_cons_zero, List.set_cons_succ]
    refine wpAnyH_step (i := 6) (d := some 67) (v := ?_) rfl rfl (by kernel_rfl) (by kernel_rfl) (by kernel_rfl) (fun _ _ _ h => h) (Or.inl ⟨by rfl, ?_⟩) (by assumption) ?_
    rotate_left
    · intro w hSw; (try dsimp only at hSw); go_simp; (try with_reducible rfl)
    try simp only [Act.put, List.setIfInBounds_toArray, List.set_cons_zero, List.set_cons_succ]
    refine wpAnyH_step (i := 8) (d := some 69) (v := ?_) rfl rfl (by kernel_rfl) (by kernel_rfl) (by kernel_rfl) (fun _ _ _ h => h) (Or.inl ⟨by rfl, ?_⟩) (by assumption) ?_
    rotate_left
    · intro w hSw; (try dsimp only at hSw); go_simp; (try with_reducible rfl)
    try simp only [Act.put, List.setIfInBounds_toArray, List.set_cons_zero, List.set_cons_succ]
    refine wpAnyH_step (i := 9) (d := some 70) (v := ?_) rfl rfl (by kernel_rfl) (by kernel_rfl) (by kernel_rfl) (fun _ _ _ h => h) (Or.inl ⟨by rfl, ?_⟩) (by assumption) ?_
    rotate_left
    · intro w hSw; (try dsimp only at hSw); go_simp; (try with_reducible rfl)
    try simp only [Act.put, List.setIfInBounds_toArray, List.set_cons_zero, List.set_cons_succ]
    refine wpAnyH_ready (rs := [7]) (by kernel_rfl) (by simp) ?_
    refine AllReadyH.cons rfl (fun K hK => ?_) AllReadyH.nil
    go_simp
    refine (H9'.out _ hHeld.2).mono ?_
    rintro e u ⟨rfl, hb⟩
    (try go_wp2_with fail)
    refine hK.out _ _ ?_ (fun hHeld => ?_)
    · exact KB.out _ _ hHeld hb
    clear hK K
    try simp only [Act.put, List.setIfInBounds_toArray, List.set_cons_zero, List.set_cons_succ]
    refine wpAnyH_ready (rs := [10]) (by kernel_rfl) (by simp) ?_
    refine AllReadyH.cons rfl (fun K hK => ?_) AllReadyH.nil
    go_simp
    refine (H10'.out _ hHeld.2).mono ?_
    rintro e u ⟨rfl, hb⟩
    (try go_wp2_with fail)
    refine hK.out _ _ ?_ (fun hHeld => ?_)
    · exact KB.out _ _ hHeld hb
    clear hK K
    try simp only [Act.put, List.setIfInBounds_toArray, List.set_cons_zero, List.set_cons_succ]
    refine wpAnyH_step (i := 11) (d := some 72) (v := ?_) rfl rfl (by kernel_rfl) (by kernel_rfl) (by kernel_rfl) (fun _ _ _ h => h) (Or.inl ⟨by rfl, ?_⟩) (by assumption) ?_
    rotate_left
    · intro w hSw; (try dsimp only at hSw); go_simp; (try with_reducible rfl)
    try simp only [Act.put, List.setIfInBounds_toArray, List.set_cons_zero, List.set_cons_succ]
    refine wpAnyH_step (i := 12) (d := some 73) (v := ?_) rfl rfl (by kernel_rfl) (by kernel_rfl) (by kernel_rfl) (fun _ _ _ h => h) (Or.inl ⟨by rfl, ?_⟩) (by assumption) ?_
    rotate_left
    · intro w hSw; (try dsimp only at hSw); go_simp; (try with_reducible rfl)
    try simp only [Act.put, List.setIfInBounds_toArray, List.set_cons_zero, List.set_cons_succ]
    refine wpAnyH_step (i := 13) (d := some 74) (v := ?_) rfl rfl (by kernel_rfl) (by kernel_rfl) (by kernel_rfl) (fun _ _ _ h => h) (Or.inl ⟨by rfl, ?_⟩) (by assumption) ?_
    rotate_left
    · intro w hSw; (try dsimp only at hSw); go_simp; (try with_reducible rfl)
    try simp only [Act.put, List.setIfInBounds_toArray, List.set_cons_zero, List.set_cons_succ]
    refine wpAnyH_step (i := 14) (d := some 75) (v := ?_) rfl rfl (by kernel_rfl) (by kernel_rfl) (by kernel_rfl) (fun _ _ _ h => h) (Or.inl ⟨by rfl, ?_⟩) (by assumption) ?_
    rotate_left
    · intro w hSw; (try dsimp only at hSw); go_simp; (try with_reducible rfl)
    try simp only [Act.put, List.setIfInBounds_toArray, List.set_cons_zero, List.set_cons_succ]
    refine wpAnyH_step (i := 15) (d := some 76) (v := ?_) rfl rfl (by kernel_rfl) (by kernel_rfl) (by kernel_rfl) (fun _ _ _ h => h) (Or.inl ⟨by rfl, ?_⟩) (by assumption) ?_
    rotate_left
    · intro w hSw; (try dsimp only at hSw); go_simp; (try with_reducible rfl)
    try simp only [Act.put, List.setIfInBounds_toArray, List.set_cons_zero, List.set_cons_succ]
    refine wpAnyH_step (i := 16) (d := some 77) (v := ?_) rfl rfl (by kernel_rfl) (by kernel_rfl) (by kernel_rfl) (fun _ _ _ h => h) (Or.inl ⟨by rfl, ?_⟩) (by assumption) ?_
    rotate_left
    · intro w hSw; (try dsimp only at hSw); go_simp; (try with_reducible rfl)
    try simp only [Act.put, List.setIfInBounds_toArray, List.set_cons_zero, List.set_cons_succ]
    refine wpAnyH_step (i := 17) (d := some 78) (v := ?_) rfl rfl (by kernel_rfl) (by kernel_rfl) (by kernel_rfl) (fun _ _ _ h => h) (Or.inl ⟨by rfl, ?_⟩) (by assumption) ?_
    rotate_left
    · intro w hSw; (try dsimp only at hSw); go_simp; (try with_reducible rfl)
    try simp only [Act.put, List.setIfInBounds_toArray, List.set_cons_zero, List.set_cons_succ]
    refine wpAnyH_step (i := 18) (d := some 79) (v := ?_) rfl rfl (by kernel_rfl) (by kernel_rfl) (by kernel_rfl) (fun _ _ _ h => h) (Or.inl ⟨by rfl, ?_⟩) (by assumption) ?_
    rotate_left
    · intro w hSw; (try dsimp only at hSw); go_simp; (try with_reducible rfl)
    try simp only [Act.put, List.setIfInBounds_toArray, List.set_cons_zero, List.set_cons_succ]
    refine wpAnyH_step (i := 19) (d := some 80) (v := ?_) rfl rfl (by kernel_rfl) (by kernel_rfl) (by kernel_rfl) (fun _ _ _ h => h) (Or.inl ⟨by rfl, ?_⟩) (by assumption) ?_
    rotate_left
    · intro w hSw; (try dsimp only at hSw); go_simp; (try with_reducible rfl)
    try simp only [Act.put, List.setIfInBounds_toArray, List.set_cons_zero, List.set_cons_succ]
    refine wpAnyH_step (i := 20) (d := some 81) (v := ?_) rfl rfl (by kernel_rfl) (by kernel_rfl) (by kernel_rfl) (fun _ _ _ h => h) (Or.inl ⟨by rfl, ?_⟩) (by assumption) ?_
    rotate_left
    · intro w hSw; (try dsimp only at hSw); go_simp; (try with_reducible rfl)
    try simp only [Act.put, List.setIfInBounds_toArray, List.set_cons_zero, List.set_cons_succ]
    refine wpAnyH_step (i := 21) (d := some 82) (v := ?_) rfl rfl (by kernel_rfl) (by kernel_rfl) (by kernel_rfl) (fun _ _ _ h => h) (Or.inl ⟨by rfl, ?_⟩) (by assumption) ?_
    rotate_left
    · intro w hSw; (try dsimp only at hSw); go_simp; (try with_reducible rfl)
    try simp only [Act.put, List.setIfInBounds_toArray, List.set_cons_zero, List.set_cons_succ]
    refine wpAnyH_step (i := 22) (d := some 83) (v := ?_) rfl rfl (by kernel_rfl) (by kernel_rfl) (by kernel_rfl) (fun _ _ _ h => h) (Or.inl ⟨by rfl, ?_⟩) (by assumption) ?_
    rotate_left
    · intro w hSw; (try dsimp only at hSw); go_simp; (try with_reducible rfl)
    try simp only [Act.put, List.setIfInBounds_toArray, List.set_cons_zero, List.set_cons_succ]
    refine wpAnyH_step (i := 23) (d := some 84) (v := ?_) rfl rfl (by kernel_rfl) (by kernel_rfl) (by kernel_rfl) (fun _ _ _ h => h) (Or.inl ⟨by rfl, ?_⟩) (by assumption) ?_
    rotate_left
    · intro w hSw; (try dsimp only at hSw); go_simp; (try with_reducible rfl)
    try simp only [Act.put, List.setIfInBounds_toArray, List.set_cons_zero, List.set_cons_succ]
    refine wpAnyH_step (i := 24) (d := some 85) (v := ?_) rfl rfl (by kernel_rfl) (by kernel_rfl) (by kernel_rfl) (fun _ _ _ h => h) (Or.inl ⟨by rfl, ?_⟩) (by assumption) ?_
    rotate_left
    · intro w hSw; (try dsimp only at hSw); go_simp; (try with_reducible rfl)
    try simp only [Act.put, List.setIfInBounds_toArray, List.set_cons_zero, List.set_cons_succ]
    refine wpAnyH_step (i := 25) (d := some 86) (v := ?_) rfl rfl (by kernel_rfl) (by kernel_rfl) (by kernel_rfl) (fun _ _ _ h => h) (Or.inl ⟨by rfl, ?_⟩) (by assumption) ?_
    rotate_left
    · intro w hSw; (try dsimp only at hSw); go_simp; (try with_reducible rfl)
    try simp only [Act.put, List.setIfInBounds_toArray, List.set_cons_zero, List.set_cons_succ]
    refine wpAnyH_step (i := 26) (d := some 87) (v := ?_) rfl rfl (by kernel_rfl) (by kernel_rfl) (by kernel_rfl) (fun _ _ _ h => h) (Or.inl ⟨by rfl, ?_⟩) (by assumption) ?_
    rotate_left
    · intro w hSw; (try dsimp only at hSw); go_simp; (try with_reducible rfl)
    try simp only [Act.put, List.setIfInBounds_toArray, List.set_cons_zero, List.set_cons_succ]
    refine wpAnyH_step (i := 27) (d := some 88) (v := ?_) rfl rfl (by kernel_rfl) (by kernel_rfl) (by kernel_rfl) (fun _ _ _ h => h) (Or.inl ⟨by rfl, ?_⟩) (by assumption) ?_
    rotate_left
    · intro w hSw; (try dsimp only at hSw); go_simp; (try with_reducible rfl)
    try simp only [Act.put, List.setIfInBounds_toArray, List.set_cons_zero, List.set_cons_succ]
    refine wpAnyH_step (i := 28) (d := some 89) (v := ?_) rfl rfl (by kernel_rfl) (by kernel_rfl) (by kernel_rfl) (fun _ _ _ h => h) (Or.inl ⟨by rfl, ?_⟩) (by assumption) ?_
    rotate_left
    · intro w hSw; (try dsimp only at hSw); go_simp; (try with_reducible rfl)
    try simp only [Act.put, List.setIfInBounds_toArray, List.set_cons_zero, List.set_cons_succ]
    refine wpAnyH_step (i := 29) (d := some 90) (v := ?_) rfl rfl (by kernel_rfl) (by kernel_rfl) (by kernel_rfl) (fun _ _ _ h => h) (Or.inl ⟨by rfl, ?_⟩) (by assumption) ?_
    rotate_left
    · intro w hSw; (try dsimp only at hSw); go_simp; (try with_reducible rfl)
    try simp only [Act.put, List.setIfInBounds_toArray, List.set_cons_zero, List.set_cons_succ]
    refine wpAnyH_step (i := 30) (d := some 91) (v := ?_) rfl rfl (by kernel_rfl) (by kernel_rfl) (by kernel_rfl) (fun _ _ _ h => h) (Or.inl ⟨by rfl, ?_⟩) (by assumption) ?_
    rotate_left
    · intro w hSw; (try dsimp only at hSw); go_simp; (try with_reducible rfl)
    try simp only [Act.put, List.setIfInBounds_toArray, List.set_cons_zero, List.set_cons_succ]
    refine wpAnyH_step (i := 31) (d := some 92) (v := ?_) rfl rfl (by kernel_rfl) (by kernel_rfl) (by kernel_rfl) (fun _ _ _ h => h) (Or.inl ⟨by rfl, ?_⟩) (by assumption) ?_
    rotate_left
    · intro w hSw; (try dsimp only at hSw); go_simp; (try with_reducible rfl)
    try simp only [Act.put, List.setIfInBounds_toArray, List.set_cons_zero, List.set_cons_succ]
    refine wpAnyH_step (i := 32) (d := some 93) (v := ?_) rfl rfl (by kernel_rfl) (by kernel_rfl) (by kernel_rfl) (fun _ _ _ h => h) (Or.inl ⟨by rfl, ?_⟩) (by assumption) ?_
    rotate_left
    · intro w hSw; (try dsimp only at hSw); go_simp; (try with_reducible rfl)
    try simp only [Act.put, List.setIfInBounds_toArray, List.set_cons_zero, List.set_cons_succ]
    refine wpAnyH_step (i := 33) (d := some 94) (v := ?_) rfl rfl (by kernel_rfl) (by kernel_rfl) (by kernel_rfl) (fun _ _ _ h => h) (Or.inl ⟨by rfl, ?_⟩) (by assumption) ?_
    rotate_left
    · intro w hSw; (try dsimp only at hSw); go_simp; (try with_reducible rfl)
    try simp only [Act.put, List.setIfInBounds_toArray, List.set_cons_zero, List.set_cons_succ]
    refine wpAnyH_step (i := 34) (d := some 95) (v := ?_) rfl rfl (by kernel_rfl) (by kernel_rfl) (by kernel_rfl) (fun _ _ _ h => h) (Or.inl ⟨by rfl, ?_⟩) (by assumption) ?_
    rotate_left
    · intro w hSw; (try dsimp only at hSw); go_simp; (try with_reducible rfl)
    try simp only [Act.put, List.setIfInBounds_toArray, List.set_cons_zero, List.set_cons_succ]
    refine wpAnyH_step (i := 35) (d := some 96) (v := ?_) rfl rfl (by kernel_rfl) (by kernel_rfl) (by kernel_rfl) (fun _ _ _ h => h) (Or.inl ⟨by rfl, ?_⟩) (by assumption) ?_
    rotate_left
    · intro w hSw; (try dsimp only at hSw); go_simp; (try with_reducible rfl)
    try simp only [Act.put, List.setIfInBounds_toArray, List.set_cons_zero, List.set_cons_succ]
    refine wpAnyH_step (i := 36) (d := some 97) (v := ?_) rfl rfl (by kernel_rfl) (by kernel_rfl) (by kernel_rfl) (fun _ _ _ h => h) (Or.inl ⟨by rfl, ?_⟩) (by assumption) ?_
    rotate_left
    · intro w hSw; (try dsimp only at hSw); go_simp; (try with_reducible rfl)
    try simp only [Act.put, List.setIfInBounds_toArray, List.set_cons_zero, List.set_cons_succ]
    refine wpAnyH_step (i := 37) (d := some 98) (v := ?_) rfl rfl (by kernel_rfl) (by kernel_rfl) (by kernel_rfl) (fun _ _ _ h => h) (Or.inl ⟨by rfl, ?_⟩) (by assumption) ?_
    rotate_left
    · intro w hSw; (try dsimp only at hSw); go_simp; (try with_reducible rfl)
    try simp only [Act.put, List.setIfInBounds_toArray, List.set_cons_zero, List.set_cons_succ]
    refine wpAnyH_step (i := 38) (d := some 99) (v := ?_) rfl rfl (by kernel_rfl) (by kernel_rfl) (by kernel_rfl) (fun _ _ _ h => h) (Or.inl ⟨by rfl, ?_⟩) (by assumption) ?_
    rotate_left
    · intro w hSw; (try dsimp only at hSw); go_simp; (try with_reducible rfl)
    try simp only [Act.put, List.setIfInBounds_toArray, List.set_cons_zero, List.set_cons_succ]
    refine wpAnyH_step (i := 39) (d := some 100) (v := ?_) rfl rfl (by kernel_rfl) (by kernel_rfl) (by kernel_rfl) (fun _ _ _ h => h) (Or.inl ⟨by rfl, ?_⟩) (by assumption) ?_
    rotate_left
    · intro w hSw; (try dsimp only at hSw); go_simp; (try with_reducible rfl)
    try simp only [Act.put, List.setIfInBounds_toArray, List.set_cons_zero, List.set_cons_succ]
    refine wpAnyH_step (i := 40) (d := some 101) (v := ?_) rfl rfl (by kernel_rfl) (by kernel_rfl) (by kernel_rfl) (fun _ _ _ h => h) (Or.inl ⟨by rfl, ?_⟩) (by assumption) ?_
    rotate_left
    · intro w hSw; (try dsimp only at hSw); go_simp; (try with_reducible rfl)
    try simp only [Act.put, List.setIfInBounds_toArray, List.set_cons_zero, List.set_cons_succ]
    refine wpAnyH_step (i := 41) (d := some 102) (v := ?_) rfl rfl (by kernel_rfl) (by kernel_rfl) (by kernel_rfl) (fun _ _ _ h => h) (Or.inl ⟨by rfl, ?_⟩) (by assumption) ?_
    rotate_left
    · intro w hSw; (try dsimp only at hSw); go_simp; (try with_reducible rfl)
    try simp only [Act.put, List.setIfInBounds_toArray, List.set_cons_zero, List.set_cons_succ]
    refine wpAnyH_step (i := 42) (d := some 103) (v := ?_) rfl rfl (by kernel_rfl) (by kernel_rfl) (by kernel_rfl) (fun _ _ _ h => h) (Or.inl ⟨by rfl, ?_⟩) (by assumption) ?_
    rotate_left
    · intro w hSw; (try dsimp only at hSw); go_simp; (try with_reducible rfl)
    try simp only [Act.put, List.setIfInBounds_toArray, List.set_cons_zero, List.set_cons_succ]
    refine wpAnyH_step (i := 43) (d := some 104) (v := ?_) rfl rfl (by kernel_rfl) (by kernel_rfl) (by kernel_rfl) (fun _ _ _ h => h) (Or.inl ⟨by rfl, ?_⟩) (by assumption) ?_
    rotate_left
    · intro w hSw; (try dsimp only at hSw); go_simp; (try with_reducible rfl)
    try simp only [Act.put, List.setIfInBounds_toArray, List.set_cons_zero, List.set_cons_succ]
    refine wpAnyH_ready (rs := [44]) (by kernel_rfl) (by simp) ?_
    refine AllReadyH.cons rfl (fun K hK => ?_) AllReadyH.nil
    go_simp
    refine (HA'.out _).mono ?_
    rintro e u ⟨rfl, hb⟩
    (try go_wp2_with fail)
    refine hK.out _ _ ?_ (fun hHeld => ?_)
    · exact KB.out _ _ hHeld hb
    clear hK K
    try simp only [Act.put, List.setIfInBounds_toArray, List.set_cons_zero, List.set_cons_succ]
    refine wpAnyH_step (i := 45) (d := some 106) (v := ?_) rfl rfl (by kernel_rfl) (by kernel_rfl) (by kernel_rfl) (fun _ _ _ h => h) (Or.inl ⟨by rfl, ?_⟩) (by assumption) ?_
    rotate_left
    · intro w hSw; (try dsimp only at hSw); go_simp; (try with_reducible rfl)
    try simp only [Act.put, List.setIfInBounds_toArray, List.set_cons_zero, List.set_cons_succ]
    refine wpAnyH_step (i := 46) (d := some 4) (v := ?_) rfl rfl (by kernel_rfl) (by kernel_rfl) (by kernel_rfl) (fun _ _ _ h => h) (Or.inl ⟨by rfl, ?_⟩) (by assumption) ?_
    rotate_left
    · intro w hSw; (try dsimp only at hSw); go_simp; (try with_reducible rfl)
    try simp only [Act.put, List.setIfInBounds_toArray, List.set_cons_zero, List.set_cons_succ]
    refine wpAnyH_done (by kernel_rfl) ?_ _
    have B2 := hHeld.2
    go_wp2_with fail
    go_ret
    exact ⟨rfl, B2⟩
  | false =>
    have eo : errOf false = 10 := rfl
    rw [eo] at H8'
    go_wp2_with fail
    refine wp_region_held_drew (S := fun W => (W.cell? ⟨w.heap.size, 0, none⟩ = some (.int .i64 r) ∧ W.cell? ⟨w.heap.size, 1, none⟩ = some (.int .i64 c) ∧ W.cell? ⟨v2.heap.size, 0, none⟩ = some (.int .i64 x1) ∧ W.cell? ⟨v2.heap.size, 1, none⟩ = some (.int .i64 y1) ∧ W.cell? ⟨v3.heap.size, 0, none⟩ = some (.int .i64 x1) ∧ W.cell? ⟨v3.heap.size, 1, none⟩ = some (.int .i64 y1) ∧ W.cell? ⟨v4.heap.size, 0, none⟩ = some (.int .i64 x2) ∧ W.cell? ⟨v4.heap.size, 1, none⟩ = some (.int .i64 y2) ∧ W.cell? ⟨v5.heap.size, 0, none⟩ = some (.int .i64 x2) ∧ W.cell? ⟨v5.heap.size, 1, none⟩ = some (.int .i64 y2) ∧ W.cell? ⟨v6.heap.size, 0, none⟩ = some (.int .i64 x3) ∧ W.cell? ⟨v6.heap.size, 1, none⟩ = some (.int .i64 y3) ∧ W.cell? ⟨v7.heap.size, 0, none⟩ = some (.int .i64 x3) ∧ W.cell? ⟨v7.heap.size, 1, none⟩ = some (.int .i64 y3)) ∧ Below w.heap.size w W) (by kernel_rfl) (KB.out _ _ S9.out (Below.refl _ _).drew) (fun hHeld => ?_)
    refine wpAnyH_step (i := 0) (d := some 61) (v := ?_) rfl rfl (by kernel_rfl) (by kernel_rfl) (by kernel_rfl) (fun _ _ _ h => h) (Or.inl ⟨by rfl, ?_⟩) (by assumption) ?_
    rotate_left
    · intro w hSw; (try dsimp only at hSw); go_simp; (try with_reducible rfl)
    try simp only [Act.put, List.setIfInBounds_toArray, List.set_cons_zero, List.set_cons_succ]
    refine wpAnyH_step (i := 2) (d := some 63) (v := ?_) rfl rfl (by kernel_rfl) (by kernel_rfl) (by kernel_rfl) (fun _ _ _ h => h) (Or.inl ⟨by rfl, ?_⟩) (by assumption) ?_
    rotate_left
    · intro w hSw; (try dsimp only at hSw); go_simp; (try with_reducible rfl)
    try simp only [Act.put, List.setIfInBounds_toArray, List.set_cons_zero, List.set_cons_succ]
    refine wpAnyH_ready (rs := [1]) (by kernel_rfl) (by simp) ?_
    refine AllReadyH.cons rfl (fun K hK => ?_) AllReadyH.nil
    go_simp
    refine (H8'.out _ hHeld.2).mono ?_
    rintro e u ⟨rfl, hb⟩
    (try go_wp2_with fail)
    refine hK.out _ _ ?_ (fun hHeld => ?_)
    · exact KB.out _ _ hHeld hb
    clear hK K
    try simp only [Act.put, List.setIfInBounds_toArray, List.set_cons_zero, List.set_cons_succ]
    refine wpAnyH_step (i := 3) (d := some 64) (v := ?_) rfl rfl (by kernel_rfl) (by kernel_rfl) (by kernel_rfl) (fun _ _ _ h => h) (Or.inl ⟨by rfl, ?_⟩) (by assumption) ?_
    rotate_left
    · intro w hSw; (try dsimp only at hSw); go_simp; (try with_reducible rfl)
    try simp only [Act.put, List.setIfInBounds_toArray, List.set_cons_zero, List.set_cons_succ]
    refine wpAnyH_step (i := 4) (d := some 65) (v := ?_) rfl rfl (by kernel_rfl) (by kernel_rfl) (by kernel_rfl) (fun _ _ _ h => h) (Or.inl ⟨by rfl, ?_⟩) (by assumption) ?_
    rotate_left
    · intro w hSw; (try dsimp only at hSw); go_simp; (try with_reducible rfl)
    try simp only [Act.put, List.setIfInBounds_toArray, List.set_cons_zero, List.set_cons_succ]
    refine wpAnyH_step (i := 5) (d := some 66) (v := ?_) rfl rfl (by kernel_rfl) (by kernel_rfl) (by kernel_rfl) (fun _ _ _ h => h) (Or.inl ⟨by rfl, ?_⟩) (by assumption) ?_
    rotate_left
    · intro w hSw; (try dsimp only at hSw); go_simp; (try with_reducible rfl)
    try simp only [Act.put, List.setIfInBounds_toArray, List.set_cons_zero, List.set_cons_succ]
    refine wpAnyH_step (i := 6) (d := some 67) (v := ?_) rfl rfl (by kernel_rfl) (by kernel_rfl) (by kernel_rfl) (fun _ _ _ h => h) (Or.inl ⟨by rfl, ?_⟩) (by assumption) ?_
    rotate_left
    · intro w hSw; (try dsimp only at hSw); go_simp; (try with_reducible rfl)
    try simp only [Act.put, List.setIfInBounds_toArray, List.set_cons_zero, List.set_cons_succ]
    refine wpAnyH_step (i := 8) (d := some 69) (v := ?_) rfl rfl (by kernel_rfl) (by kernel_rfl) (by kernel_rfl) (fun _ _ _ h => h) (Or.inl ⟨by rfl, ?_⟩) (by assumption) ?_
    rotate_left
    · intro w hSw; (try dsimp only at hSw); go_simp; (try with_reducible rfl)
    try simp only [Act.put, List.setIfInBounds_toArray, List.set_cons_zero, List.set_cons_succ]
    refine wpAnyH_step (i := 9) (d := some 70) (v := ?_) rfl rfl (by kernel_rfl) (by kernel_rfl) (by kernel_rfl) (fun _ _ _ h => h) (Or.inl ⟨by rfl, ?_⟩) (by assumption) ?_
    rotate_left
    · intro w hSw; (try dsimp only at hSw); go_simp; (try with_reducible rfl)
    try simp only [Act.put, List.setIfInBounds_toArray, List.set_cons_zero, List.set_cons_succ]
    refine wpAnyH_ready (rs := [7]) (by kernel_rfl) (by simp) ?_
    refine AllReadyH.cons rfl (fun K hK => ?_) AllReadyH.nil
    go_simp
    refine (H9'.out _ hHeld.2).mono ?_
    rintro e u ⟨rfl, hb⟩
    (try go_wp2_with fail)
    refine hK.out _ _ ?_ (fun hHeld => ?_)
    · exact KB.out _ _ hHeld hb
    clear hK K
    try simp only [Act.put, List.setIfInBounds_toArray, List.set_cons_zero, List.set_cons_succ]
    refine wpAnyH_ready (rs := [10]) (by kernel_rfl) (by simp) ?_
    refine AllReadyH.cons rfl (fun K hK => ?_) AllReadyH.nil
    go_simp
    refine (H10'.out _ hHeld.2).mono ?_
    rintro e u ⟨rfl, hb⟩
    (try go_wp2_with fail)
    refine hK.out _ _ ?_ (fun hHeld => ?_)
    · exact KB.out _ _ hHeld hb
    clear hK K
    try simp only [Act.put, List.setIfInBounds_toArray, List.set_cons_zero, List.set_cons_succ]
    refine wpAnyH_step (i := 11) (d := some 72) (v := ?_) rfl rfl (by kernel_rfl) (by kernel_rfl) (by kernel_rfl) (fun _ _ _ h => h) (Or.inl ⟨by rfl, ?_⟩) (by assumption) ?_
    rotate_left
    · intro w hSw; (try dsimp only at hSw); go_simp; (try with_reducible rfl)
    try simp only [Act.put, List.setIfInBounds_toArray, List.set_cons_zero, List.set_cons_succ]
    refine wpAnyH_step (i := 12) (d := some 73) (v := ?_) rfl rfl (by kernel_rfl) (by kernel_rfl) (by kernel_rfl) (fun _ _ _ h => h) (Or.inl ⟨by rfl, ?_⟩) (by assumption) ?_
    rotate_left
    · intro w hSw; (try dsimp only at hSw); go_simp; (try with_reducible rfl)
    try simp only [Act.put, List.setIfInBounds_toArray, List.set_cons_zero, List.set_cons_succ]
    refine wpAnyH_step (i := 13) (d := some 74) (v := ?_) rfl rfl (by kernel_rfl) (by kernel_rfl) (by kernel_rfl) (fun _ _ _ h => h) (Or.inl ⟨by rfl, ?_⟩) (by assumption) ?_
    rotate_left
    · intro w hSw; (try dsimp only at hSw); go_simp; (try with_reducible rfl)
    try simp only [Act.put, List.setIfInBounds_toArray, List.set_cons_zero, List.set_cons_succ]
    refine wpAnyH_step (i := 14) (d := some 75) (v := ?_) rfl rfl (by kernel_rfl) (by kernel_rfl) (by kernel_rfl) (fun _ _ _ h => h) (Or.inl ⟨by rfl, ?_⟩) (by assumption) ?_
    rotate_left
    · intro w hSw; (try dsimp only at hSw); go_simp; (try with_reducible rfl)
    try simp only [Act.put, List.setIfInBounds_toArray, List.set_cons_zero, List.set_cons_succ]
    refine wpAnyH_step (i := 15) (d := some 76) (v := ?_) rfl rfl (by kernel_rfl) (by kernel_rfl) (by kernel_rfl) (fun _ _ _ h => h) (Or.inl ⟨by rfl, ?_⟩) (by assumption) ?_
    rotate_left
    · intro w hSw; (try dsimp only at hSw); go_simp; (try with_reducible rfl)
    try simp only [Act.put, List.setIfInBounds_toArray, List.set_cons_zero, List.set_cons_succ]
    refine wpAnyH_step (i := 16) (d := some 77) (v := ?_) rfl rfl (by kernel_rfl) (by kernel_rfl) (by kernel_rfl) (fun _ _ _ h => h) (Or.inl ⟨by rfl, ?_⟩) (by assumption) ?_
    rotate_left
    · intro w hSw; (try dsimp only at hSw); go_simp; (try with_reducible rfl)
    try simp only [Act.put, List.setIfInBounds_toArray, List.set_cons_zero, List.set_cons_succ]
    refine wpAnyH_step (i := 17) (d := some 78) (v := ?_) rfl rfl (by kernel_rfl) (by kernel_rfl) (by kernel_rfl) (fun _ _ _ h => h) (Or.inl ⟨by rfl, ?_⟩) (by assumption) ?_
    rotate_left
    · intro w hSw; (try dsimp only at hSw); go_simp; (try with_reducible rfl)
    try simp only [Act.put, List.setIfInBounds_toArray, List.set_cons_zero, List.set_cons_succ]
    refine wpAnyH_step (i := 18) (d := some 79) (v := ?_) rfl rfl (by kernel_rfl) (by kernel_rfl) (by kernel_rfl) (fun _ _ _ h => h) (Or.inl ⟨by rfl, ?_⟩) (by assumption) ?_
    rotate_left
    · intro w hSw; (try dsimp only at hSw); go_simp; (try with_reducible rfl)
    try simp only [Act.put, List.setIfInBounds_toArray, List.set_cons_zero, List.set_cons_succ]
    refine wpAnyH_step (i := 19) (d := some 80) (v := ?_) rfl rfl (by kernel_rfl) (by kernel_rfl) (by kernel_rfl) (fun _ _ _ h => h) (Or.inl ⟨by rfl, ?_⟩) (by assumption) ?_
    rotate_left
    · intro w hSw; (try dsimp only at hSw); go_simp; (try with_reducible rfl)
    try simp only [Act.put, List.setIfInBounds_toArray, List.set_cons_zero, List.set_cons_succ]
    refine wpAnyH_step (i := 20) (d := some 81) (v := ?_) rfl rfl (by kernel_rfl) (by kernel_rfl) (by kernel_rfl) (fun _ _ _ h => h) (Or.inl ⟨by rfl, ?_⟩) (by assumption) ?_
    rotate_left
    · intro w hSw; (try dsimp only at hSw); go_simp; (try with_reducible rfl)
    try simp only [Act.put, List.setIfInBounds_toArray, List.set_cons_zero, List.set_cons_succ]
    refine wpAnyH_step (i := 21) (d := some 82) (v := ?_) rfl rfl (by kernel_rfl) (by kernel_rfl) (by kernel_rfl) (fun _ _ _ h => h) (Or.inl ⟨by rfl, ?_⟩) (by assumption) ?_
    rotate_left
    · intro w hSw; (try dsimp only at hSw); go_simp; (try with_reducible rfl)
    try simp only [Act.put, List.setIfInBounds_toArray, List.set_cons_zero, List.set_cons_succ]
    refine wpAnyH_step (i := 22) (d := some 83) (v := ?_) rfl rfl (by kernel_rfl) (by kernel_rfl) (by kernel_rfl) (fun _ _ _ h => h) (Or.inl ⟨by rfl, ?_⟩) (by assumption) ?_
    rotate_left
    · intro w hSw; (try dsimp only at hSw); go_simp; (try with_reducible rfl)
    try simp only [Act.put, List.setIfInBounds_toArray, List.set_cons_zero, List.set_cons_succ]
    refine wpAnyH_step (i := 23) (d := some 84) (v := ?_) rfl rfl (by kernel_rfl) (by kernel_rfl) (by kernel_rfl) (fun _ _ _ h => h) (Or.inl ⟨by rfl, ?_⟩) (by assumption) ?_
    rotate_left
    · intro w hSw; (try dsimp only at hSw); go_simp; (try with_reducible rfl)
    try simp only [Act.put, List.setIfInBounds_toArray, List.set_cons_zero, List.set_cons_succ]
    refine wpAnyH_step (i := 24) (d := some 85) (v := ?_) rfl rfl (by kernel_rfl) (by kernel_rfl) (by kernel_rfl) (fun _ _ _ h => h) (Or.inl ⟨by rfl, ?_⟩) (by assumption) ?_
    rotate_left
    · intro w hSw; (try dsimp only at hSw); go_simp; (try with_reducible rfl)
    try simp only [Act.put, List.setIfInBounds_toArray, List.set_cons_zero, List.set_cons_succ]
    refine wpAnyH_step (i := 25) (d := some 86) (v := ?_) rfl rfl (by kernel_rfl) (by kernel_rfl) (by kernel_rfl) (fun _ _ _ h => h) (Or.inl ⟨by rfl, ?_⟩) (by assumption) ?_
    rotate_left
    · intro w hSw; (try dsimp only at hSw); go_simp; (try with_reducible rfl)
    try simp only [Act.put, List.setIfInBounds_toArray, List.set_cons_zero, List.set_cons_succ]
    refine wpAnyH_step (i := 26) (d := some 87) (v := ?_) rfl rfl (by kernel_rfl) (by kernel_rfl) (by kernel_rfl) (fun _ _ _ h => h) (Or.inl ⟨by rfl, ?_⟩) (by assumption) ?_
    rotate_left
    · intro w hSw; (try dsimp only at hSw); go_simp; (try with_reducible rfl)
    try simp only [Act.put, List.setIfInBounds_toArray, List.set_cons_zero, List.set_cons_succ]
    refine wpAnyH_step (i := 27) (d := some 88) (v := ?_) rfl rfl (by kernel_rfl) (by kernel_rfl) (by kernel_rfl) (fun _ _ _ h => h) (Or.inl ⟨by rfl, ?_⟩) (by assumption) ?_
    rotate_left
    · intro w hSw; (try dsimp only at hSw); go_simp; (try with_reducible rfl)
    try simp only [Act.put, List.setIfInBounds_toArray, List.set_cons_zero, List.set_cons_succ]
    refine wpAnyH_step (i := 28) (d := some 89) (v := ?_) rfl rfl (by kernel_rfl) (by kernel_rfl) (by kernel_rfl) (fun _ _ _ h => h) (Or.inl ⟨by rfl, ?_⟩) (by assumption) ?_
    rotate_left
    · intro w hSw; (try dsimp only at hSw); go_simp; (try with_reducible rfl)
    try simp only [Act.put, List.setIfInBounds_toArray, List.set_cons_zero, List.set_cons_succ]
    refine wpAnyH_step (i := 29) (d := some 90) (v := ?_) rfl rfl (by kernel_rfl) (by kernel_rfl) (by kernel_rfl) (fun _ _ _ h => h) (Or.inl ⟨by rfl, ?_⟩) (by assumption) ?_
    rotate_left
    · intro w hSw; (try dsimp only at hSw); go_simp; (try with_reducible rfl)
    try simp only [Act.put, List.setIfInBounds_toArray, List.set_cons_zero, List.set_cons_succ]
    refine wpAnyH_step (i := 30) (d := some 91) (v := ?_) rfl rfl (by kernel_rfl) (by kernel_rfl) (by kernel_rfl) (fun _ _ _ h => h) (Or.inl ⟨by rfl, ?_⟩) (by assumption) ?_
    rotate_left
    · intro w hSw; (try dsimp only at hSw); go_simp; (try with_reducible rfl)
    try simp only [Act.put, List.setIfInBounds_toArray, List.set_cons_zero, List.set_cons_succ]
    refine wpAnyH_step (i := 31) (d := some 92) (v := ?_) rfl rfl (by kernel_rfl) (by kernel_rfl) (by kernel_rfl) (fun _ _ _ h => h) (Or.inl ⟨by rfl, ?_⟩) (by assumption) ?_
    rotate_left
    · intro w hSw; (try dsimp only at hSw); go_simp; (try with_reducible rfl)
    try simp only [Act.put, List.setIfInBounds_toArray, List.set_cons_zero, List.set_cons_succ]
    refine wpAnyH_step (i := 32) (d := some 93) (v := ?_) rfl rfl (by kernel_rfl) (by kernel_rfl) (by kernel_rfl) (fun _ _ _ h => h) (Or.inl ⟨by rfl, ?_⟩) (by assumption) ?_
    rotate_left
    · intro w hSw; (try dsimp only at hSw); go_simp; (try with_reducible rfl)
    try simp only [Act.put, List.setIfInBounds_toArray, List.set_cons_zero, List.set_cons_succ]
    refine wpAnyH_step (i := 33) (d := some 94) (v := ?_) rfl rfl (by kernel_rfl) (by kernel_rfl) (by kernel_rfl) (fun _ _ _ h => h) (Or.inl ⟨by rfl, ?_⟩) (by assumption) ?_
    rotate_left
    · intro w hSw; (try dsimp only at hSw); go_simp; (try with_reducible rfl)
    try simp only [Act.put, List.setIfInBounds_toArray, List.set_cons_zero, List.set_cons_succ]
    refine wpAnyH_step (i := 34) (d := some 95) (v := ?_) rfl rfl (by kernel_rfl) (by kernel_rfl) (by kernel_rfl) (fun _ _ _ h => h) (Or.inl ⟨by rfl, ?_⟩) (by assumption) ?_
    rotate_left
    · intro w hSw; (try dsimp only at hSw); go_simp; (try with_reducible rfl)
    try simp only [Act.put, List.setIfInBounds_toArray, List.set_cons_zero, List.set_cons_succ]
    refine wpAnyH_step (i := 35) (d := some 96) (v := ?_) rfl rfl (by kernel_rfl) (by kernel_rfl) (by kernel_rfl) (fun _ _ _ h => h) (Or.inl ⟨by rfl, ?_⟩) (by assumption) ?_
    rotate_left
    · intro w hSw; (try dsimp only at hSw); go_simp; (try with_reducible rfl)
    try simp only [Act.put, List.setIfInBounds_toArray, List.set_cons_zero, List.set_cons_succ]
    refine wpAnyH_step (i := 36) (d := some 97) (v := ?_) rfl rfl (by kernel_rfl) (by kernel_rfl) (by kernel_rfl) (fun _ _ _ h => h) (Or.inl ⟨by rfl, ?_⟩) (by assumption) ?_
    rotate_left
    · intro w hSw; (try dsimp only at hSw); go_simp; (try with_reducible rfl)
    try simp only [Act.put, List.setIfInBounds_toArray, List.set_cons_zero, List.set_cons_succ]
    refine wpAnyH_step (i := 37) (d := some 98) (v := ?_) rfl rfl (by kernel_rfl) (by kernel_rfl) (by kernel_rfl) (fun _ _ _ h => h) (Or.inl ⟨by rfl, ?_⟩) (by assumption) ?_
    rotate_left
    · intro w hSw; (try dsimp only at hSw); go_simp; (try with_reducible rfl)
    try simp only [Act.put, List.setIfInBounds_toArray, List.set_cons_zero, List.set_cons_succ]
    refine wpAnyH_step (i := 38) (d := some 99) (v := ?_) rfl rfl (by kernel_rfl) (by kernel_rfl) (by kernel_rfl) (fun _ _ _ h => h) (Or.inl ⟨by rfl, ?_⟩) (by assumption) ?_
    rotate_left
    · intro w hSw; (try dsimp only at hSw); go_simp; (try with_reducible rfl)
    try simp only [Act.put, List.setIfInBounds_toArray, List.set_cons_zero, List.set_cons_succ]
    refine wpAnyH_step (i := 39) (d := some 100) (v := ?_) rfl rfl (by kernel_rfl) (by kernel_rfl) (by kernel_rfl) (fun _ _ _ h => h) (Or.inl ⟨by rfl, ?_⟩) (by assumption) ?_
    rotate_left
    · intro w hSw; (try dsimp only at hSw); go_simp; (try with_reducible rfl)
    try simp only [Act.put, List.setIfInBounds_toArray, List.set_cons_zero, List.set_cons_succ]
    refine wpAnyH_step (i := 40) (d := some 101) (v := ?_) rfl rfl (by kernel_rfl) (by kernel_rfl) (by kernel_rfl) (fun _ _ _ h => h) (Or.inl ⟨by rfl, ?_⟩) (by assumption) ?_
    rotate_left
    · intro w hSw; (try dsimp only at hSw); go_simp; (try with_reducible rfl)
    try simp only [Act.put, List.setIfInBounds_toArray, List.set_cons_zero, List.set_cons_succ]
    refine wpAnyH_step (i := 41) (d := some 102) (v := ?_) rfl rfl (by kernel_rfl) (by kernel_rfl) (by kernel_rfl) (fun _ _ _ h => h) (Or.inl ⟨by rfl, ?_⟩) (by assumption) ?_
    rotate_left
    · intro w hSw; (try dsimp only at hSw); go_simp; (try with_reducible rfl)
    try simp only [Act.put, List.setIfInBounds_toArray, List.set_cons_zero, List.set_cons_succ]
    refine wpAnyH_step (i := 42) (d := some 103) (v := ?_) rfl rfl (by kernel_rfl) (by kernel_rfl) (by kernel_rfl) (fun _ _ _ h => h) (Or.inl ⟨by rfl, ?_⟩) (by assumption) ?_
    rotate_left
    · intro w hSw; (try dsimp only at hSw); go_simp; (try with_reducible rfl)
    try simp only [Act.put, List.setIfInBounds_toArray, List.set_cons_zero, List.set_cons_succ]
    refine wpAnyH_step (i := 43) (d := some 104) (v := ?_) rfl rfl (by kernel_rfl) (by kernel_rfl) (by kernel_rfl) (fun _ _ _ h => h) (Or.inl ⟨by rfl, ?_⟩) (by assumption) ?_
    rotate_left
    · intro w hSw; (try dsimp only at hSw); go_simp; (try with_reducible rfl)
    try simp only [Act.put, List.setIfInBounds_toArray, List.set_cons_zero, List.set_cons_succ]
    refine wpAnyH_ready (rs := [44]) (by kernel_rfl) (by simp) ?_
    refine AllReadyH.cons rfl (fun K hK => ?_) AllReadyH.nil
    go_simp
    refine (HA'.out _).mono ?_
    rintro e u ⟨rfl, hb⟩
    (try go_wp2_with fail)
    refine hK.out _ _ ?_ (fun hHeld => ?_)
    · exact KB.out _ _ hHeld hb
    clear hK K
    try simp only [Act.put, List.setIfInBounds_toArray, List.set_cons_zero, List.set_cons_succ]
    refine wpAnyH_step (i := 45) (d := some 106) (v := ?_) rfl rfl (by kernel_rfl) (by kernel_rfl) (by kernel_rfl) (fun _ _ _ h => h) (Or.inl ⟨by rfl, ?_⟩) (by assumption) ?_
    rotate_left
    · intro w hSw; (try dsimp only at hSw); go_simp; (try with_reducible rfl)
    try simp only [Act.put, List.setIfInBounds_toArray, List.set_cons_zero, List.set_cons_succ]
    refine wpAnyH_step (i := 46) (d := some 4) (v := ?_) rfl rfl (by kernel_rfl) (by kernel_rfl) (by kernel_rfl) (fun _ _ _ h => h) (Or.inl ⟨by rfl, ?_⟩) (by assumption) ?_
    rotate_left
    · intro w hSw; (try dsimp only at hSw); go_simp; (try with_reducible rfl)
    try simp only [Act.put, List.setIfInBounds_toArray, List.set_cons_zero, List.set_cons_succ]
    refine wpAnyH_done (by kernel_rfl) ?_ _
    have B2 := hHeld.2
    go_wp2_with fail
    go_ret
    exact ⟨rfl, B2⟩
theorem asks_walk (G : Grid) (r c : Int) (W : World) (h : G.In W.heap.size W) : Fn W 8 #[G.v, posV r c] (.bool true) := by
  by_cases hf : G.Few
  · exact asks_main G r c W h hf
  · exact asks_few G r c W h hf
end Go.Proofs.Ytooikmialpfdkaa
