/- remap: the calls, as they come in; Few. -/
import Derived.Test.YtnfpfpppnfighaaDoorRL
namespace Go.Proofs.YtnfpfpppnfighaaDoor
open Go.Shelf Go.RowKit Go.Maps
set_option linter.unusedVariables false
set_option linter.unusedSimpArgs false
set_option maxRecDepth 100000
/-- A call. -/
structure OpD where
  a : Int
  e : Bool
  n : Int
  t : List UInt8
def OpD.ok (x : OpD) : Prop := (-9223372036854775808 ≤ x.n ∧ x.n ≤ 9223372036854775807) ∧ x.t.length ≤ 140737488351232
def OpAt (W : World) (g o : Nat) (x : OpD) : Prop := W.cell? ⟨g, o, none⟩ = some (.int .i64 x.a) ∧ W.cell? ⟨g, o + 1, none⟩ = some (.bool x.e) ∧ W.cell? ⟨g, o + 2, none⟩ = some (.int .i64 x.n) ∧ W.cell? ⟨g, o + 3, none⟩ = some (.string (st x.t))
def OpsAt (W : World) (v : Value) (l : List OpD) : Prop := ∃ ad cap, v = .slice ad l.length cap ∧ (0 < l.length → ∃ g off, ad = some ⟨g, off, none⟩ ∧ g < W.heap.size ∧ ∀ i (hi : i < l.length), OpAt W g (off + i * 4) l[i]) ∧ (∀ o ∈ l, o.ok) ∧ l.length ≤ 140737488351232
theorem OpsAt.later {W W' : World} {v : Value} {l : List OpD} (h : OpsAt W v l) (hb : Below W.heap.size W W') : OpsAt W' v l := by
  obtain ⟨ad, cap, hv, hx, ho⟩ := h
  refine ⟨ad, cap, hv, fun h0 => ?_, ho⟩
  obtain ⟨g, off, ha, hg, hc⟩ := hx h0
  exact ⟨g, off, ha, Nat.lt_of_lt_of_le hg hb.size, fun i hi => by obtain ⟨a1, a2, a3, a4⟩ := hc i hi; exact ⟨cellB hb a1, cellB hb a2, cellB hb a3, cellB hb a4⟩⟩
theorem OpsAt.base {W W' : World} {B : Nat} {v : Value} {l : List OpD} (h : OpsAt W v l) (hB : W.heap.size ≤ B) (hb : Below B W W') : OpsAt W' v l :=
  h.later (hb.mono hB)
/-- What the texts take, the first k. -/
def lens (l : List OpD) : Nat → Nat
  | 0 => 0
  | k + 1 => lens l k + (match l[k]? with | some o => o.t.length | none => 0)
def fewB (l : List OpD) : Bool := decide (l.length ≤ 60) && decide (lens l l.length ≤ 10000)
theorem lens_le (l : List OpD) (ho : ∀ o ∈ l, o.ok) (k : Nat) : lens l k ≤ k * 140737488351232 := by
  induction k with
  | zero => unfold lens; exact Nat.zero_le _
  | succ k ih =>
    unfold lens
    cases hk : l[k]? with
    | none => exact Nat.le_trans ih (Nat.mul_le_mul_right _ (Nat.le_succ k))
    | some o =>
      have h2 := (ho o (List.mem_of_getElem? hk)).2
      show lens l k + o.t.length ≤ (k + 1) * 140737488351232
      rw [Nat.succ_mul]
      exact Nat.add_le_add ih h2
theorem few_any (w : World) (v : Value) (l : List OpD) (h : OpsAt w v l) : Calls Tryd.prog 17 #[v] w fun e w' => e = .returned (.bool (fewB l)) ∧ w' = w := by
  obtain ⟨ad, cap, rfl, hx, ho, hll⟩ := h
  have HX := Lib.hid hx
  have HO := Lib.hid ho
  obtain ⟨F, hF⟩ : ∃ F, fewB l = F := ⟨_, rfl⟩
  have HF := Lib.hid hF
  rw [hF]
  obtain ⟨N, hN⟩ : ∃ N, l.length = N := ⟨_, rfl⟩
  have HN := Lib.hid hN
  rw [hN] at hll ⊢
  clear hx ho hF hN
  obtain ⟨wz, hwz⟩ : ∃ wz, wz = w := ⟨_, rfl⟩
  have HW := Lib.hid hwz
  rw [← hwz]
  clear hwz
  go_enter Tryd.func17, Tryd.ntmps17
  go_wp2_with fail
  go_loopw [3, 4] (fun s i wr => ∃ (k : Nat) (x : Int), k ≤ N ∧ i = .int .i64 (k : Int) ∧ s = .int .i64 x ∧ (N ≤ 60 → x = (lens l k : Int)) ∧ wr = wz) (fun _ i _ => N - (intOf i).toNat)
  case atStart => exact ⟨0, 0, by omega, rfl, rfl, fun _ => rfl, rfl⟩
  case round =>
    obtain ⟨k, x, hk, rfl, rfl, hxx, hwr⟩ := hrel
    have Hxx := Lib.hid hxx
    have HWr := Lib.hid hwr
    clear hxx hwr
    by_cases hlt : k < N
    · have q1 : (k : Int) < (N : Int) := by omega
      obtain ⟨g, off, rfl, hg, hc⟩ := HX.out (by rw [HN.out]; omega)
      have hkl : k < l.length := by rw [HN.out]; exact hlt
      obtain ⟨-, -, -, k3⟩ := hc k hkl
      rw [← HW.out, ← HWr.out] at k3
      have hz : (st l[k].t).size = l[k].t.length := st_size _
      have hok := (HO.out l[k] (List.getElem_mem hkl)).2
      have HSt := Lib.hid (show lens l (k + 1) = lens l k + l[k].t.length from by simp only [lens]; rw [List.getElem?_eq_getElem hkl])
      have HLe := Lib.hid (lens_le l HO.out k)
      obtain ⟨S, hS⟩ : ∃ S, st l[k].t = S := ⟨_, rfl⟩
      rw [hS] at k3 hz
      obtain ⟨L, hL⟩ : ∃ L, l[k].t.length = L := ⟨_, rfl⟩
      rw [hL] at hz hok HSt
      clear hc hS hL hg
      go_wp2_with fail
      go_roundw
      case rel => exact ⟨k + 1, _, by omega, by go_num, rfl, fun h60 => by (have h1 := Hxx.out h60; have h2 := HSt.out; have h3 := HLe.out; rw [h1, h2]; unfold wrap64; omega), HWr.out⟩
      case measure => simp [intOf]; omega
    · have q1 : ¬ (k : Int) < (N : Int) := by omega
      obtain rfl : k = N := by omega
      by_cases h60 : k ≤ 60
      · have q2 : (k : Int) ≤ 60 := by omega
        have hx2 := Hxx.out h60
        by_cases h10 : lens l k ≤ 10000
        · have q3 : x ≤ 10000 := by omega
          have HR := Lib.hid (show F = true from by rw [← HF.out]; unfold fewB; rw [HN.out]; simp [h60, h10])
          clear hx2
          go_wp2_with fail
          go_ret
          exact ⟨by rw [HR.out] <;> rfl, by rw [HWr.out, HW.out]⟩
        · have q3 : ¬ x ≤ 10000 := by omega
          have HR := Lib.hid (show F = false from by rw [← HF.out]; unfold fewB; rw [HN.out]; simp [h60, h10])
          clear hx2
          go_wp2_with fail
          go_ret
          exact ⟨by rw [HR.out] <;> rfl, by rw [HWr.out, HW.out]⟩
      · have q2 : ¬ (k : Int) ≤ 60 := by omega
        have HR := Lib.hid (show F = false from by rw [← HF.out]; unfold fewB; rw [HN.out]; simp [h60])
        go_wp2_with fail
        go_ret
        exact ⟨by rw [HR.out] <;> rfl, by rw [HWr.out, HW.out]⟩
end Go.Proofs.YtnfpfpppnfighaaDoor
