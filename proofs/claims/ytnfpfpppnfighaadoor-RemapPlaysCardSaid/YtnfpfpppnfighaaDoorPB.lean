/- remap: the document's map as it lies there; ahead, Used, Find. -/
import Derived.Test.YtnfpfpppnfighaaDoorPA
import Derived.Deep.AppendLies
import Derived.Deep.RegionLaw
namespace Go.Proofs.YtnfpfpppnfighaaDoor
open Go.Shelf Go.RowKit Go.Maps Go.Lib
set_option linter.unusedVariables false
set_option linter.unusedSimpArgs false
set_option maxRecDepth 100000
def dcells (x : EntD) : List Value := [.bool x.num, .int .i64 x.n, .string (st x.text)]
def EntD.val (x : EntD) : Value := .agg #[.bool x.num, .int .i64 x.n, .string (st x.text)]
/-- A slice of entries of the call's own. -/
def OwnD (w : World) (base : Nat) (v : Value) (L : List EntD) : Prop := w.ownsRow base 29 3 v L.length (L.flatMap dcells)
theorem info29 : (Tryd.prog.info? 29).map (fun i => (i.zero, i.size, i.bytes)) = some (some (.agg #[.bool false, .int .i64 0, .string ⟨#[]⟩]), 3, 32) := by kernel_rfl
theorem dcells_get {L : List EntD} {i : Nat} (h : i < L.length) :
    (L.flatMap dcells)[i * 3]? = some (.bool L[i].num) ∧ (L.flatMap dcells)[i * 3 + 1]? = some (.int .i64 L[i].n) ∧ (L.flatMap dcells)[i * 3 + 2]? = some (.string (st L[i].text)) := by
  induction L generalizing i with
  | nil => simp at h
  | cons x l ih =>
    cases i with
    | zero => simp [dcells]
    | succ i =>
      have := ih (i := i) (by simpa using h)
      simp only [List.flatMap_cons, dcells, List.getElem_cons_succ]
      rw [show (i + 1) * 3 = i * 3 + 3 by omega]
      simpa using this
theorem OwnD.nil (w : World) (base : Nat) : OwnD w base (.slice none 0 0) [] := World.ownsRow_nil _ _ _ _
theorem OwnD.own {w : World} {base : Nat} {v : Value} {L : List EntD} (h : OwnD w base v L) {k : Nat} (hk : v.ownBlock = some k) : base ≤ k ∧ ∃ cs, w.heap[k]? = some (.cells cs 29 (0, 0)) := by
  rcases h.2 with ⟨rfl, _⟩ | ⟨g, cap, cur, rfl, hg, hgb, _⟩
  · simp [Value.ownBlock] at hk
  · simp [Value.ownBlock] at hk
    subst hk
    exact ⟨hg, _, hgb⟩
theorem OwnD.blocks {w w' : World} {base : Nat} {v : Value} {L : List EntD} (h : OwnD w base v L) (hb : ∀ k, v.ownBlock = some k → w'.heap[k]? = w.heap[k]?) : OwnD w' base v L := by
  obtain ⟨h1, h2⟩ := h
  refine ⟨h1, ?_⟩
  rcases h2 with h2 | ⟨g, cap, cur, hv, hg, hh, r⟩
  · exact .inl h2
  · exact .inr ⟨g, cap, cur, hv, hg, (hb g (by rw [hv]; rfl)).trans hh, r⟩
theorem OwnD.call {w w' : World} {base : Nat} {v : Value} {L : List EntD} (h : OwnD w base v L) (hb : Below w.heap.size w w') : OwnD w' base v L :=
  h.blocks fun k hk => by
    obtain ⟨_, cs, hc⟩ := h.own hk
    exact hb.block k (Array.getElem?_eq_some_iff.1 hc).1
theorem OwnD.low {w : World} {base base' : Nat} {v : Value} {L : List EntD} (h : OwnD w base v L) (hb : base' ≤ base) : OwnD w base' v L := by
  obtain ⟨h1, h2⟩ := h
  refine ⟨h1, ?_⟩
  rcases h2 with h2 | ⟨g, cap, cur, hv, hg, r⟩
  · exact .inl h2
  · exact .inr ⟨g, cap, cur, hv, Nat.le_trans hb hg, r⟩
theorem OwnD.form {w : World} {base : Nat} {v : Value} {L : List EntD} (h : OwnD w base v L) : ∃ ad cap, v = .slice ad L.length cap ∧ (0 < L.length → ∃ g, ad = some ⟨g, 0, none⟩ ∧ base ≤ g ∧
    ∀ i (hi : i < L.length), w.cell? ⟨g, i * 3, none⟩ = some (.bool L[i].num) ∧ w.cell? ⟨g, i * 3 + 1, none⟩ = some (.int .i64 L[i].n) ∧ w.cell? ⟨g, i * 3 + 2, none⟩ = some (.string (st L[i].text))) := by
  obtain ⟨h1, h2⟩ := h
  rcases h2 with ⟨rfl, h0⟩ | ⟨g, cap, cur, hv, hg, hh, hc, hm, hsz, ht⟩
  · exact ⟨none, 0, by rw [h0], by omega⟩
  · refine ⟨_, cap, hv, fun h0 => ⟨g, rfl, hg, fun i hi => ?_⟩⟩
    obtain ⟨k0, k1, k2⟩ := dcells_get hi
    rw [← ht] at k0 k1 k2
    rw [List.getElem?_take] at k0 k1 k2
    rw [if_pos (by omega)] at k0 k1 k2
    simp only [Array.getElem?_toList] at k0 k1 k2
    exact ⟨by simp [World.cell?, hh, k0], by simp [World.cell?, hh, k1], by simp [World.cell?, hh, k2]⟩
theorem ahead_any (w : World) (x y : EntD) : Calls Tryd.prog 36 #[x.val, y.val] w fun e w' => e = .returned (.bool (aheadB (cd x) (cd y))) ∧ Below w.heap.size w w' := by
  obtain ⟨e1, n1, t1⟩ := x
  obtain ⟨e2, n2, t2⟩ := y
  unfold EntD.val aheadB cd
  simp only
  generalize st t1 = S1
  generalize st t2 = S2
  cases e1 <;> cases e2
  all_goals (
    simp only [ne_eq, not_true_eq_false, if_false, reduceCtorEq, not_false_eq_true, if_true]
    go_enter Tryd.func36, Tryd.ntmps36
    go_wp2_with fail
    go_ret
    exact ⟨rfl, bel_alloc (bel_alloc (Below.refl _ _) _) _⟩)
theorem usedS_take (L : List EntD) (k : Nat) (hk : k < L.length) : usedS (L.take (k + 1)) = usedS (L.take k) + (3 + L[k].text.length) := by
  rw [List.take_add_one, List.getElem?_eq_getElem hk, usedS_append]
  simp [usedS]
theorem usedS_mono (L : List EntD) (k : Nat) : usedS (L.take k) ≤ usedS L := by
  conv => rhs; rw [← List.take_append_drop k L]
  rw [usedS_append]
  exact Nat.le_add_right _ _
set_option maxHeartbeats 1000000 in
theorem usedD_any (w : World) (base : Nat) (v : Value) (L : List EntD) (most : Int) (over : Bool) (h : OwnD w base v L) (hu : usedS L ≤ 1000000000) (hl : L.length ≤ 1000000) :
    Calls Tryd.prog 37 #[.agg #[v, .int .i64 most, .bool over]] w fun e w' => e = .returned (.int .i64 (usedS L)) ∧ Below w.heap.size w w' := by
  have hb0 : Below w.heap.size w (w.alloc (.cells #[v, .int .i64 most, .bool over] 54)) := bel_alloc (Below.refl _ _) _
  have HO := Lib.hid (h.call hb0)
  obtain ⟨ad, cap, rfl, -⟩ := h.form
  have HB := Lib.hid hb0
  obtain ⟨N, hN⟩ : ∃ N, L.length = N := ⟨_, rfl⟩
  have HN := Lib.hid hN
  rw [hN] at HO HB hl ⊢
  obtain ⟨U, hU⟩ : ∃ U, usedS L = U := ⟨_, rfl⟩
  have HU := Lib.hid hU
  have HMo := Lib.hid (fun k => usedS_mono L k)
  rw [hU] at hu ⊢
  clear h hb0 hN hU
  go_enter Tryd.func37, Tryd.ntmps37
  go_wp2_with fail
  have k0 : (w.alloc (.cells #[.slice ad N cap, .int .i64 most, .bool over] 54)).cell? ⟨w.heap.size, 0, none⟩ = some (.slice ad N cap) := by simp [go_sem]
  obtain ⟨w0, hw0⟩ : ∃ w0, w.alloc (.cells #[.slice ad N cap, .int .i64 most, .bool over] 54) = w0 := ⟨_, rfl⟩
  rw [hw0] at HO HB k0 ⊢
  clear hw0
  obtain ⟨B, hBB⟩ : ∃ B, w.heap.size = B := ⟨_, rfl⟩
  have HBB := Lib.hid hBB
  rw [hBB] at k0 ⊢
  clear hBB
  go_loopw [3, 4] (fun s i wr => ∃ k : Nat, k ≤ N ∧ i = .int .i64 (k : Int) ∧ s = .int .i64 (usedS (L.take k) : Int) ∧ wr = w0) (fun _ i _ => N - (intOf i).toNat)
  case atStart => exact ⟨0, Nat.zero_le _, rfl, rfl, rfl⟩
  case round =>
    obtain ⟨k, hk, rfl, rfl, hwr⟩ := hrel
    have hst := HMo.out k
    have HWr := Lib.hid hwr
    rw [← hwr] at k0
    clear hwr
    by_cases hlt : k < N
    · have q1 : (k : Int) < (N : Int) := by omega
      have hkL : k < L.length := by rw [HN.out]; exact hlt
      obtain ⟨ad', cap', hv', hx⟩ := HO.out.form
      rw [HN.out] at hv'
      simp only [Value.slice.injEq] at hv'
      obtain ⟨rfl, -, rfl⟩ := hv'
      obtain ⟨g, rfl, -, hc⟩ := hx (by rw [HN.out]; omega)
      obtain ⟨-, -, d2⟩ := hc k hkL
      rw [← HWr.out] at d2
      have HT := Lib.hid (usedS_take L k hkL)
      have hst2 := HMo.out (k + 1)
      rw [HT.out] at hst2
      have hz : (st L[k].text).size = L[k].text.length := st_size _
      rw [HU.out] at hst hst2
      obtain ⟨S, hS⟩ : ∃ S, st L[k].text = S := ⟨_, rfl⟩
      obtain ⟨T, hT⟩ : ∃ T, L[k].text.length = T := ⟨_, rfl⟩
      rw [hS] at d2 hz
      rw [hT] at hz HT hst2
      obtain ⟨X, hX⟩ : ∃ X, usedS (L.take k) = X := ⟨_, rfl⟩
      rw [hX] at HT hst hst2 ⊢
      have v1 : IntKind.i64.wrap ((X : Int) + 3) = (X : Int) + 3 := IntWalk.i64_in _ (by omega)
      have v2 : IntKind.i64.wrap ((X : Int) + 3 + (T : Int)) = ((X + (3 + T) : Nat) : Int) := by rw [IntWalk.i64_in _ (by omega)]; omega
      clear hx hc hS hT hX
      go_wp2_with fail
      go_roundw
      case rel => exact ⟨k + 1, by omega, by go_num, by rw [HT.out]; simp, HWr.out⟩
      case measure => simp [intOf]; omega
    · have q1 : ¬ (k : Int) < (N : Int) := by omega
      obtain rfl : k = N := by omega
      have e1 : usedS (L.take k) = U := by rw [← HN.out, List.take_length, HU.out]
      rw [e1]
      go_wp2_with fail
      go_ret
      exact ⟨rfl, by rw [HWr.out]; exact HB.out⟩
set_option maxHeartbeats 1000000 in
theorem find_any (w : World) (base : Nat) (v : Value) (L : List EntD) (most : Int) (over : Bool) (h : OwnD w base v L) (hl : L.length ≤ 1000000) (e : Bool) (n : Int) :
    Calls Tryd.prog 24 #[.agg #[v, .int .i64 most, .bool over], .bool e, .int .i64 n] w fun r w' => (∃ a : Int, r = .returned (.int .i64 a) ∧ ((a = -1 ∧ ∀ x ∈ L, ¬ (x.num = e ∧ x.n = n)) ∨ ∃ (k : Nat) (x : EntD), L[k]? = some x ∧ a = (k : Int) ∧ x.num = e ∧ x.n = n)) ∧ Below w.heap.size w w' := by
  have hb0 : Below w.heap.size w (w.alloc (.cells #[v, .int .i64 most, .bool over] 54)) := bel_alloc (Below.refl _ _) _
  have HO := Lib.hid (h.call hb0)
  obtain ⟨ad, cap, rfl, -⟩ := h.form
  have HB := Lib.hid hb0
  obtain ⟨N, hN⟩ : ∃ N, L.length = N := ⟨_, rfl⟩
  have HN := Lib.hid hN
  rw [hN] at HO HB hl ⊢
  clear h hb0 hN
  go_enter Tryd.func24, Tryd.ntmps24
  go_wp2_with fail
  have k0 : (w.alloc (.cells #[.slice ad N cap, .int .i64 most, .bool over] 54)).cell? ⟨w.heap.size, 0, none⟩ = some (.slice ad N cap) := by simp [go_sem]
  obtain ⟨w0, hw0⟩ : ∃ w0, w.alloc (.cells #[.slice ad N cap, .int .i64 most, .bool over] 54) = w0 := ⟨_, rfl⟩
  rw [hw0] at HO HB k0 ⊢
  clear hw0
  obtain ⟨B, hBB⟩ : ∃ B, w.heap.size = B := ⟨_, rfl⟩
  have HBB := Lib.hid hBB
  rw [hBB] at k0 ⊢
  clear hBB
  go_loopw [7] (fun i wr => ∃ k : Nat, k ≤ N ∧ i = .int .i64 (k : Int) ∧ (∀ j (hj : j < L.length), j < k → ¬ (L[j].num = e ∧ L[j].n = n)) ∧ wr = w0) (fun i _ => N - (intOf i).toNat)
  case atStart => exact ⟨0, Nat.zero_le _, rfl, fun j hj h => by omega, rfl⟩
  case round =>
    obtain ⟨k, hk, rfl, hno, hwr⟩ := hrel
    have HNo := Lib.hid hno
    have HWr := Lib.hid hwr
    rw [← hwr] at k0
    clear hwr hno
    by_cases hlt : k < N
    · have q1 : (k : Int) < (N : Int) := by omega
      have hkL : k < L.length := by rw [HN.out]; exact hlt
      obtain ⟨ad', cap', hv', hx⟩ := HO.out.form
      rw [HN.out] at hv'
      simp only [Value.slice.injEq] at hv'
      obtain ⟨rfl, -, rfl⟩ := hv'
      obtain ⟨g, rfl, -, hc⟩ := hx (by rw [HN.out]; omega)
      obtain ⟨d0, d1, -⟩ := hc k hkL
      rw [← HWr.out] at d0 d1
      have HX := Lib.hid (show (∃ E R, L[k].num = E ∧ L[k].n = R) from ⟨_, _, rfl, rfl⟩)
      by_cases hs : L[k].num = e ∧ L[k].n = n
      · have HS := Lib.hid hs
        rw [hs.1] at d0
        rw [hs.2] at d1
        clear hx hc hs HX
        go_wp2_with fail
        go_ret
        exact ⟨⟨_, rfl, .inr ⟨k, _, List.getElem?_eq_getElem hkL, rfl, HS.out.1, HS.out.2⟩⟩, by rw [HWr.out]; exact HB.out⟩
      · have HS := Lib.hid (show ∀ j (hj : j < L.length), j < k + 1 → ¬ (L[j].num = e ∧ L[j].n = n) from fun j hj h => by
          by_cases hjk : j = k
          · subst hjk; exact hs
          · exact HNo.out j hj (by omega))
        have hs' : (L[k].num = !e) ∨ (L[k].num = e ∧ (L[k].n == n) = false) := by
          by_cases he : L[k].num = e
          · exact .inr ⟨he, by simpa using fun h => hs ⟨he, h⟩⟩
          · exact .inl (by revert he; cases L[k].num <;> cases e <;> simp)
        obtain ⟨E, hE⟩ : ∃ E, L[k].num = E := ⟨_, rfl⟩
        obtain ⟨R, hR⟩ : ∃ R, L[k].n = R := ⟨_, rfl⟩
        rw [hE] at d0 hs'
        rw [hR] at d1 hs'
        clear hx hc hs HX hE hR
        rcases hs' with rfl | ⟨rfl, hR⟩
        · cases e
          all_goals (
            simp only [Bool.not_true, Bool.not_false] at d0
            go_wp2_with fail
            go_roundw
            case rel => exact ⟨k + 1, by omega, by go_num, HS.out, HWr.out⟩
            case measure => simp [intOf]; omega)
        · go_wp2_with fail
          go_roundw
          case rel => exact ⟨k + 1, by omega, by go_num, HS.out, HWr.out⟩
          case measure => simp [intOf]; omega
    · have q1 : ¬ (k : Int) < (N : Int) := by omega
      go_wp2_with fail
      go_ret
      refine ⟨⟨_, rfl, .inl ⟨rfl, fun x hx => ?_⟩⟩, by rw [HWr.out]; exact HB.out⟩
      obtain ⟨j, hj, rfl⟩ := List.getElem_of_mem hx
      have h := HNo.out j hj (by rw [HN.out] at hj; omega)
      first | exact h | exact fun a b => h ⟨a, b⟩
end Go.Proofs.YtnfpfpppnfighaaDoor
