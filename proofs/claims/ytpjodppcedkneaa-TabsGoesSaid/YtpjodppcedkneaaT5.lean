/- tabs: the iterator of slices.Backward. -/
import Derived.Test.YtpjodppcedkneaaT4
import Derived.Test.YtpjodppcedkneaaRF
import Derived.Laws.EntriesVeiled
namespace Go.Proofs.Ytpjodppcedkneaa
open Go.RowKit Go.Maps Go.Sort Go.Shelf
set_option linter.unusedVariables false
set_option linter.unusedSimpArgs false
set_option maxRecDepth 100000
attribute [local go_sem] Oper.semAt_some
theorem roundIn_any {n m : Nat} {P : Program} {l : Nat} {f : FuncId} {tmps : Array Value} {assign body : Code} {w : World} {R : Ending → World → Prop}
    (h : RoundIn Fence.wide n P l f tmps assign body w R) : RoundIn Fence.wide m P l f tmps assign body w R :=
  ⟨h.1, fun c cs _ => h.2 c cs (room_wide _)⟩
theorem keepsB {B : Nat} {W W' : World} (h : Below W.heap.size W W') : KeepsFrom B W W' :=
  ⟨h.size, fun k o _ hk _ => (h.block k (Array.getElem?_eq_some_iff.1 hk).1).trans hk⟩
/-- The last k, from the end on: where, and what. -/
def backs (L : List Int) (k : Nat) : List (Int × Int) := (List.range k).map fun j => (((L.length - 1 - j : Nat) : Int), L.getD (L.length - 1 - j) 0)
theorem backs_succ (L : List Int) (k : Nat) : backs L (k + 1) = backs L k ++ [(((L.length - 1 - k : Nat) : Int), L.getD (L.length - 1 - k) 0)] := by simp [backs, List.range_succ]
theorem backs_pre (L : List Int) {k n : Nat} (h : k ≤ n) : ∃ t, backs L n = backs L k ++ t := by
  obtain ⟨d, rfl⟩ := Nat.exists_eq_add_of_le h
  clear h
  induction d with
  | zero => exact ⟨[], by simp⟩
  | succ d ih =>
    obtain ⟨t, ht⟩ := ih
    exact ⟨t ++ [(((L.length - 1 - (k + d) : Nat) : Int), L.getD (L.length - 1 - (k + d)) 0)], by rw [← Nat.add_assoc, backs_succ, ht, List.append_assoc]⟩
def encB (x : Int × Int) : Array Value := #[.int .i64 x.1, .int .i64 x.2]
set_option maxHeartbeats 2000000 in
theorem back_iter (v : Value) (L : List Int) (hlen : L.length ≤ 100000) (n : Nat) (hn1 : 1 ≤ n) (Bx B : Nat) (I : List (Int × Int) → World → Prop) (Kp : World → World → Prop)
    (hIc : ∀ pre W, I pre W → W.cell? ⟨Bx, 0, none⟩ = some v ∧ IntsAt W v L) (W0 : World) :
    Iterates Try.prog n (n - 1) 43 #[.pointer (some ⟨Bx, 0, none⟩)] encB (fun ys => ys = backs L L.length) (fun pre => ∃ t, backs L L.length = pre ++ t)
      (fun pre x => ∃ t, backs L L.length = pre ++ x :: t) L.length B I Kp W0 := by
  intro l J Jx hJ0 hJk hJI hY
  have hJc : ∀ s X, J s X → X.cell? ⟨Bx, 0, none⟩ = some v ∧ IntsAt X v L := fun s X h => hIc _ _ (hJI _ _ h)
  have hY' : ∀ k X, k < L.length → J (backs L k) X → YieldAt Fence.wide (n - 1) Try.prog l (encB (((L.length - 1 - k : Nat) : Int), L.getD (L.length - 1 - k) 0)) X fun e X' => (e = .returned (.bool true) ∧ J (backs L (k + 1)) X') ∨ (e = .returned (.bool false) ∧ Jx (backs L (k + 1)) X') := by
    intro k X hk h
    obtain ⟨t, ht⟩ := backs_pre L (show k + 1 ≤ L.length by omega)
    rw [backs_succ] at ht
    obtain ⟨fn, tmps, assign, body, hy, hR⟩ := hY (backs L k) (((L.length - 1 - k : Nat) : Int), L.getD (L.length - 1 - k) 0) X h (by simp [backs]; exact hk) ⟨t, by rw [ht]; simp⟩
    refine ⟨fn, tmps, assign, body, hy, hR.mono fun e X' h => ?_⟩
    rw [backs_succ]
    rcases h with ⟨a, b, _⟩ | h
    · exact .inl ⟨a, b⟩
    · exact .inr h
  clear hY hJI hJk hIc
  obtain ⟨cx, hat⟩ := hJc _ _ hJ0
  obtain ⟨ad, cap, rfl, _⟩ := hat
  have HJ := Lib.hid hJ0
  have HJc := Lib.hid hJc
  have HY := Lib.hid hY'
  clear hJ0 hJc hY'
  obtain ⟨nn, hnn⟩ : ∃ nn, L.length = nn := ⟨_, rfl⟩
  have HN := Lib.hid hnn
  rw [hnn] at cx hlen HJc ⊢
  clear hnn
  have hw1 : IntKind.i64.wrap ((nn : Int) - 1) = (nn : Int) - 1 := IntWalk.i64_in _ (by omega)
  refine callsIn_of_wp Try.func43 rfl trivial ?_ rfl
  simp only [Try.ntmps43, List.size_toArray, List.length_cons, List.length_nil, Nat.reduceAdd, Nat.reduceSub, Array.replicate_succ, Array.replicate_zero, List.push_toArray, List.append_toArray, List.nil_append, List.cons_append]
  gi_wp2_with fail
  gi_loopw [3] (fun i wr => ∃ k : Nat, k ≤ nn ∧ i = .int .i64 ((nn : Int) - 1 - (k : Int)) ∧ J (backs L k) wr) (fun i _ => (intOf i + 1).toNat)
  case atStart => exact ⟨0, Nat.zero_le _, by simp, HJ.out⟩
  case round =>
    obtain ⟨k, hk, rfl, hJ⟩ := hrel
    obtain ⟨cx1, hat⟩ := HJc.out _ _ hJ
    have HJr := Lib.hid hJ
    clear hJ cx
    by_cases hlt : k < nn
    · obtain ⟨m, hm⟩ : ∃ m : Nat, (nn : Int) - 1 - (k : Int) = (m : Int) := ⟨nn - 1 - k, by omega⟩
      rw [hm]
      have hmk : L.length - 1 - k = m := by rw [HN.out]; omega
      have hml : m < L.length := by rw [HN.out]; omega
      obtain ⟨fn, tmps, assign, body, hy, hR⟩ := HY.out k wr (by rw [HN.out]; exact hlt) HJr.out
      obtain ⟨_, _, e0, hc⟩ := hat
      simp only [Value.slice.injEq] at e0
      obtain ⟨rfl, -, rfl⟩ := e0
      obtain ⟨g, off, rfl, hg, hcc⟩ := hc (by omega)
      have d1 := hcc m hml
      rw [hmk] at hy
      have hgd : L.getD m 0 = L[m] := by simp [List.getD, List.getElem?_eq_getElem hml]
      rw [hgd] at hy
      simp only [encB] at hy
      generalize L[m] = x at *
      have hR' := (roundIn_any (m := n - 1) hR).mono (R' := fun e X' => ∃ r : Bool, e = .returned (.bool r) ∧ Hid ((r = true ∧ J (backs L (k + 1)) X') ∨ (r = false ∧ Jx (backs L (k + 1)) X'))) (fun e X' h => by
        rcases h with ⟨rfl, a⟩ | ⟨rfl, a⟩
        · exact ⟨true, rfl, .inl ⟨rfl, a⟩⟩
        · exact ⟨false, rfl, .inr ⟨rfl, a⟩⟩)
      have HM := Lib.hid hm
      have q1 : (0 : Int) ≤ (m : Int) := by omega
      have q2 : m < nn := by omega
      have q3 : (m : Int) < (nn : Int) := by omega
      have HPre := Lib.hid (backs_pre L (show k + 1 ≤ nn by omega))
      clear hR hcc hg hc hm hmk hgd hml
      gi_wp2_with (refine hR'.mono ?_; rintro e W' ⟨y, rfl, hpost⟩; cases y)
      all_goals rcases hpost with ⟨hy', hJ'⟩ | ⟨hy', hJx'⟩
      all_goals first | cases hy' | skip
      · refine bodyPost_ret (results_none rfl _ _ _) rfl ?_
        exact ⟨⟨_, rfl⟩, .inr ⟨_, HPre.out, hJx'⟩⟩
      · go_roundw
        case rel => exact ⟨k + 1, by omega, congrArg (Value.int .i64) (by have := HM.out; omega), hJ'⟩
        case measure => have := HM.out; simp [intOf] <;> omega
    · have q1 : ¬ (0 : Int) ≤ (nn : Int) - 1 - (k : Int) := by omega
      have hkn : k = nn := by omega
      subst hkn
      gi_wp2_with fail
      go_end0
      exact ⟨⟨_, rfl⟩, .inl HJr.out⟩
end Go.Proofs.Ytpjodppcedkneaa
