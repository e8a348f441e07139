/- The plain law of FieldTabs: fields begin in rising order, and Tab goes from each to the next one. -/
import Derived.Test.YtooikmialpfdkaaFO
import Derived.Test.YtooikmialpfdkaaFS
namespace Go.Proofs.Ytooikmialpfdkaa
open Go.RowKit
set_option linter.unusedVariables false
set_option linter.unusedSimpArgs false
theorem fdone_mem {gd : Nat → Bool} {k : Nat} : ∀ p ∈ fdone gd k, p.1 ≤ p.2 ∧ p.2 < fstart gd k := by
  induction k with
  | zero => simp [fdone]
  | succ k ih =>
    intro p hp
    have hs := fstart_le gd k
    rw [fdone_succ] at hp
    rw [fstart_succ]
    split at hp
    · next h =>
      rw [if_pos h.1]
      rcases List.mem_append.1 hp with hp | hp
      · have := ih p hp; omega
      · simp at hp; subst hp; simp; omega
    · have := ih p hp
      split <;> omega
theorem fdone_sorted (gd : Nat → Bool) (k : Nat) : (fdone gd k).Pairwise (fun a b => a.1 < b.1) := by
  induction k with
  | zero => exact List.Pairwise.nil
  | succ k ih =>
    rw [fdone_succ]
    split
    · refine List.pairwise_append.2 ⟨ih, by simp, fun a ha b hb => ?_⟩
      simp at hb; subst hb
      have := fdone_mem a ha
      simp; omega
    · exact ih
theorem rowF_mem {gd : Nat → Bool} {k : Nat} : ∀ p ∈ rowF gd k, p.1 < k := by
  intro p hp
  have hs := fstart_le gd k
  unfold rowF at hp
  split at hp
  · rcases List.mem_append.1 hp with hp | hp
    · have := fdone_mem p hp; omega
    · simp at hp; subst hp; simpa
  · have := fdone_mem p hp; omega
theorem rowF_sorted (gd : Nat → Bool) (k : Nat) : (rowF gd k).Pairwise (fun a b => a.1 < b.1) := by
  unfold rowF
  split
  · refine List.pairwise_append.2 ⟨fdone_sorted gd k, by simp, fun a ha b hb => ?_⟩
    simp at hb; subst hb
    have := fdone_mem a ha
    simp; omega
  · exact fdone_sorted gd k
theorem allF_mem {G : Grid} {n : Nat} : ∀ f ∈ allF G n, f.1 < n ∧ f.2.1 < G.len 0 := by
  induction n with
  | zero => simp [allF]
  | succ n ih =>
    intro f hf
    rw [allF] at hf
    rcases List.mem_append.1 hf with hf | hf
    · have := ih f hf; omega
    · unfold inRow at hf
      obtain ⟨p, hp, rfl⟩ := List.mem_map.1 hf
      have := rowF_mem p hp
      simp; omega
def bnum (M : Nat) (f : Fd) : Nat := f.1 * M + f.2.1
theorem allF_sorted (G : Grid) (n : Nat) : (allF G n).Pairwise (fun a b => bnum (G.len 0) a < bnum (G.len 0) b) := by
  induction n with
  | zero => exact List.Pairwise.nil
  | succ n ih =>
    rw [allF]
    refine List.pairwise_append.2 ⟨ih, ?_, fun a ha b hb => ?_⟩
    · unfold inRow
      rw [List.pairwise_map]
      exact (rowF_sorted _ _).imp (fun h => by unfold bnum; simp; omega)
    · obtain ⟨h1, h2⟩ := allF_mem a ha
      unfold inRow at hb
      obtain ⟨p, hp, rfl⟩ := List.mem_map.1 hb
      have h3 := Nat.mul_le_mul_right (G.len 0) (show a.1 + 1 ≤ n by omega)
      rw [Nat.add_mul] at h3
      unfold bnum
      simp
      omega
theorem num_there {G : Grid} {r c : Nat} (hr : r < G.n) (hc : c < G.len 0) (o : Int) : G.num r c o = ((r * G.len 0 + c : Nat) : Int) := by
  unfold Grid.num
  rw [if_pos (thereB_iff.2 ⟨by omega, by omega, by omega, by omega⟩)]
  simp
/-- Where Tab stands ahead of the k-th call. -/
def tabPos (G : Grid) (L : List Fd) (k : Nat) : Nat × Nat := if k = 0 then (G.n - 1, G.len 0 - 1) else match L[(k - 1) % L.length]? with
  | some f => (f.1, f.2.1)
  | none => (0, 0)
theorem tab_pos {G : Grid} (hok : G.Ok) {L : List Fd} (hL : fieldsOf G = L) (h0 : 0 < L.length) {k : Nat} (hk : k ≤ L.length) :
    tabOf G (tabPos G L k).1 (tabPos G L k).2 = some (L[k % L.length]'(Nat.mod_lt _ h0)) := by
  have hn := hok.1
  have hm := (hok.2.2 0 hok.1).1
  have hf : L = allF G G.n := by rw [← hL]; simp [fieldsOf, okB_yes hok]
  have hmem : ∀ f ∈ L, f.1 < G.n ∧ f.2.1 < G.len 0 := by rw [hf]; exact allF_mem
  have hsort : L.Pairwise (fun a b => bnum (G.len 0) a < bnum (G.len 0) b) := by rw [hf]; exact allF_sorted G G.n
  have hget : ∀ i j (hi : i < L.length) (hj : j < L.length), i < j → bnum (G.len 0) L[i] < bnum (G.len 0) L[j] := fun i j hi hj h => List.pairwise_iff_getElem.1 hsort i j hi hj h
  have hb : ∀ f ∈ L, ∀ a : Int, behind G a f = decide (a < (bnum (G.len 0) f : Int)) := fun f hfm a => by
    obtain ⟨h1, h2⟩ := hmem f hfm
    unfold behind
    rw [num_there h1 h2]
    rfl
  have hhead : L.find? (fun _ => true) = some (L[0]'h0) := by
    cases L with
    | nil => simp at h0
    | cons x l => simp
  have hlast : ∀ f ∈ L, bnum (G.len 0) f ≤ (G.n - 1) * G.len 0 + (G.len 0 - 1) := fun f hfm => by
    obtain ⟨h1, h2⟩ := hmem f hfm
    have := Nat.mul_le_mul_right (G.len 0) (show f.1 ≤ G.n - 1 by omega)
    unfold bnum
    omega
  unfold tabOf
  rw [hL, hhead]
  by_cases k0 : k = 0
  · subst k0
    have e1 : tabPos G L 0 = (G.n - 1, G.len 0 - 1) := by simp [tabPos]
    rw [e1]
    dsimp only
    rw [num_there (by omega) (by omega)]
    have hnone : L.find? (behind G (((G.n - 1) * G.len 0 + (G.len 0 - 1) : Nat) : Int)) = none := by
      refine List.find?_eq_none.2 fun f hfm => ?_
      rw [hb f hfm]
      have := hlast f hfm
      simp only [decide_eq_true_eq]
      omega
    rw [hnone]
    simp
  · have hk1 : k - 1 < L.length := by omega
    have e0 : (k - 1) % L.length = k - 1 := Nat.mod_eq_of_lt hk1
    have e1 : tabPos G L k = ((L[k - 1]).1, (L[k - 1]).2.1) := by
      unfold tabPos
      rw [if_neg k0, e0, List.getElem?_eq_getElem hk1]
    obtain ⟨h1, h2⟩ := hmem L[k - 1] (List.getElem_mem _)
    rw [e1]
    dsimp only
    rw [num_there h1 h2]
    change (List.find? (behind G (bnum (G.len 0) L[k - 1] : Int)) L).or _ = _
    by_cases hkl : k < L.length
    · have e2 : k % L.length = k := Nat.mod_eq_of_lt hkl
      have hsome : L.find? (behind G (bnum (G.len 0) L[k - 1] : Int)) = some L[k] := by
        rw [List.find?_eq_some_iff_getElem]
        refine ⟨?_, k, hkl, rfl, fun j hj => ?_⟩
        · rw [hb _ (List.getElem_mem _)]
          have := hget (k - 1) k hk1 hkl (by omega)
          simp; omega
        · rw [hb _ (List.getElem_mem _)]
          by_cases e : j = k - 1
          · subst e; simp
          · have := hget j (k - 1) (by omega) hk1 (by omega)
            simp; omega
      rw [hsome]
      simp [e2]
    · have e2 : k = L.length := by omega
      have hnone : L.find? (behind G (bnum (G.len 0) L[k - 1] : Int)) = none := by
        refine List.find?_eq_none.2 fun f hfm => ?_
        rw [hb f hfm]
        obtain ⟨j, hj, rfl⟩ := List.getElem_of_mem hfm
        simp only [decide_eq_true_eq]
        by_cases e : j = k - 1
        · subst e; omega
        · have := hget j (k - 1) hj hk1 (by omega)
          omega
      rw [hnone]
      simp [e2]
theorem tab_nil {G : Grid} {L : List Fd} (hL : fieldsOf G = L) (h0 : L.length = 0) (r c : Int) : tabOf G r c = none := by
  have : L = [] := List.length_eq_zero_iff.1 h0
  unfold tabOf
  rw [hL, this]
  simp
end Go.Proofs.Ytooikmialpfdkaa
