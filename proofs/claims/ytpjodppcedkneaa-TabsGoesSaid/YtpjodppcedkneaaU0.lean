/- tabs: Next, Prev, Go by the columns that are stops: plain facts. -/
import Derived.Test.YtpjodppcedkneaaTG
namespace Go.Proofs.Ytpjodppcedkneaa
open Go.RowKit Go.Maps Go.Sort Go.Shelf
set_option linter.unusedVariables false
set_option linter.unusedSimpArgs false
theorem rise_succ (k : Nat) (S : Int → Bool) : rise (k + 1) S = rise k S ++ (if S (k : Int) then [(k : Int)] else []) := by
  unfold rise
  rw [List.range_succ, List.map_append, List.filter_append]
  congr 1
  cases h : S (k : Int) <;> simp [h]
theorem next_is {L : List Int} (hL : L.Pairwise (· < ·)) {cols col x : Int} (hx : x ∈ L) (hc : col < x) (hm : ∀ y ∈ L, col < y → x ≤ y) : nextIn L cols col = x := by
  unfold nextIn
  cases hf : L.find? (fun x => decide (col < x)) with
  | none => exact absurd (List.find?_eq_none.1 hf x hx) (by simpa using hc)
  | some y =>
    show y = x
    rw [List.find?_eq_some_iff_append] at hf
    obtain ⟨hy, ls, rs, rfl, hb⟩ := hf
    have hxy : x ≤ y := hm y (by simp) (by simpa using hy)
    rw [List.mem_append, List.mem_cons] at hx
    rcases hx with hx | hx | hx
    · have := hb x hx; simp at this; omega
    · exact hx.symm
    · rw [List.pairwise_append] at hL
      have := (List.pairwise_cons.1 hL.2.1).1 x hx
      omega
theorem next_no {L : List Int} {cols col : Int} (hm : ∀ y ∈ L, ¬ col < y) : nextIn L cols col = max (cols - 1) 0 := by
  unfold nextIn
  have : L.find? (fun x => decide (col < x)) = none := List.find?_eq_none.2 fun f hf => by simpa using hm f hf
  rw [this]; rfl
theorem prev_snoc (L : List Int) (x col : Int) : prevIn (L ++ [x]) col = if x < col then x else prevIn L col := by
  have hb : backs (L ++ [x]) (L ++ [x]).length = (((L.length : Nat) : Int), x) :: (backs L L.length) := by
    unfold backs
    rw [List.length_append, List.length_cons, List.length_nil, Nat.zero_add, List.range_succ_eq_map, List.map_cons, List.map_map]
    congr 1
    · simp
    · refine List.map_congr_left fun j hj => ?_
      rw [List.mem_range] at hj
      simp only [Function.comp]
      rw [show L.length + 1 - 1 - Nat.succ j = L.length - 1 - j by omega]
      congr 1
      rw [List.getD_eq_getElem?_getD, List.getD_eq_getElem?_getD, List.getElem?_append_left (by omega)]
  unfold prevIn
  rw [hb, List.find?_cons]
  by_cases h : x < col
  · simp [h]
  · simp [h]
theorem prev_rise (k : Nat) (S : Int → Bool) (col : Int) : prevIn (rise (k + 1) S) col = if (k : Int) < col ∧ S (k : Int) = true then (k : Int) else prevIn (rise k S) col := by
  rw [rise_succ]
  cases hs : S (k : Int) with
  | true => simp only [if_true, prev_snoc, and_true]
  | false => simp
theorem prev_spec (c : Nat) (S : Int → Bool) (col : Int) :
    (prevIn (rise c S) col = 0 ∧ ∀ y, 0 ≤ y → y < (c : Int) → S y = true → ¬ y < col) ∨
    (0 ≤ prevIn (rise c S) col ∧ prevIn (rise c S) col < (c : Int) ∧ S (prevIn (rise c S) col) = true ∧ prevIn (rise c S) col < col ∧ ∀ y, 0 ≤ y → y < (c : Int) → S y = true → y < col → y ≤ prevIn (rise c S) col) := by
  induction c with
  | zero => exact .inl ⟨rfl, fun y h1 h2 => by simp at h2; omega⟩
  | succ k ih =>
    rw [prev_rise]
    by_cases h : (k : Int) < col ∧ S (k : Int) = true
    · rw [if_pos h]
      exact .inr ⟨by omega, by omega, h.2, h.1, fun y h1 h2 h3 h4 => by omega⟩
    · rw [if_neg h]
      rcases ih with ⟨h1, h2⟩ | ⟨h1, h2, h3, h4, h5⟩
      · refine .inl ⟨h1, fun y a1 a2 a3 a4 => ?_⟩
        by_cases e : y = (k : Int)
        · subst e; exact h ⟨a4, a3⟩
        · exact h2 y a1 (by omega) a3 a4
      · refine .inr ⟨h1, by omega, h3, h4, fun y a1 a2 a3 a4 => ?_⟩
        by_cases e : y = (k : Int)
        · subst e; exact absurd ⟨a4, a3⟩ h
        · exact h5 y a1 (by omega) a3 a4
theorem next_spec (c : Nat) (S : Int → Bool) (col : Int) (hc : 1 ≤ c) :
    (nextIn (rise c S) c col = (c : Int) - 1 ∧ ∀ y, 0 ≤ y → y < (c : Int) → S y = true → ¬ col < y) ∨
    (0 ≤ nextIn (rise c S) c col ∧ nextIn (rise c S) c col < (c : Int) ∧ S (nextIn (rise c S) c col) = true ∧ col < nextIn (rise c S) c col ∧ ∀ y, 0 ≤ y → y < (c : Int) → S y = true → col < y → nextIn (rise c S) c col ≤ y) := by
  cases hf : (rise c S).find? (fun x => decide (col < x)) with
  | none =>
    have h := List.find?_eq_none.1 hf
    refine .inl ⟨?_, fun y h1 h2 h3 => by simpa using h y (mem_rise.2 ⟨⟨h1, h2⟩, h3⟩)⟩
    rw [next_no (fun y hy => by simpa using h y hy)]
    omega
  | some x =>
    have hx := hf
    rw [List.find?_eq_some_iff_append] at hx
    obtain ⟨h1, ls, rs, e, hb⟩ := hx
    have hm : x ∈ rise c S := by rw [e]; simp
    have hlt := rise_lt c S
    have hmin : ∀ y ∈ rise c S, col < y → x ≤ y := by
      intro y hy hcy
      rw [e, List.mem_append, List.mem_cons] at hy
      rcases hy with hy | hy | hy
      · have := hb y hy; simp at this; omega
      · omega
      · rw [e, List.pairwise_append] at hlt
        have := (List.pairwise_cons.1 hlt.2.1).1 y hy
        omega
    have hc' : col < x := by simpa using h1
    rw [next_is hlt hm hc' hmin]
    obtain ⟨⟨a, b⟩, d⟩ := mem_rise.1 hm
    exact .inr ⟨a, b, d, hc', fun y h1 h2 h3 h4 => hmin y (mem_rise.2 ⟨⟨h1, h2⟩, h3⟩) h4⟩
/-- A step that stands still goes no further. -/
theorem iter_fix (f : Int → Int) (x : Int) (k : Nat) (h : f (iter f k x) = iter f k x) (d : Nat) : iter f (k + d) x = iter f k x := by
  induction d with
  | zero => rfl
  | succ d ih => show f (iter f (k + d) x) = _; rw [ih, h]
theorem next_end (c : Nat) (S : Int → Bool) (hc : 1 ≤ c) : nextIn (rise c S) c ((c : Int) - 1) = (c : Int) - 1 := by
  rcases next_spec c S ((c : Int) - 1) hc with ⟨h1, h2⟩ | ⟨h1, h2, h3, h4, h5⟩
  · exact h1
  · omega
theorem prev_end (c : Nat) (S : Int → Bool) : prevIn (rise c S) 0 = 0 := by
  rcases prev_spec c S 0 with ⟨h1, h2⟩ | ⟨h1, h2, h3, h4, h5⟩
  · exact h1
  · omega
theorem next_iter (c : Nat) (S : Int → Bool) (hc : 1 ≤ c) (col : Int) (k : Nat) : (k : Int) ≤ iter (nextIn (rise c S) c) (k + 1) col ∨ iter (nextIn (rise c S) c) (k + 1) col = (c : Int) - 1 := by
  induction k with
  | zero =>
    show _ ≤ nextIn (rise c S) c col ∨ nextIn (rise c S) c col = _
    rcases next_spec c S col hc with ⟨h1, h2⟩ | ⟨h1, h2, h3, h4, h5⟩
    · exact .inr h1
    · left; omega
  | succ k ih =>
    show _ ≤ nextIn (rise c S) c (iter (nextIn (rise c S) c) (k + 1) col) ∨ nextIn (rise c S) c (iter (nextIn (rise c S) c) (k + 1) col) = _
    rcases next_spec c S (iter (nextIn (rise c S) c) (k + 1) col) hc with ⟨h1, h2⟩ | ⟨h1, h2, h3, h4, h5⟩
    · exact .inr h1
    · left; omega
theorem prev_iter (c : Nat) (S : Int → Bool) (hc : 1 ≤ c) (col : Int) (k : Nat) : (0 ≤ iter (prevIn (rise c S)) (k + 1) col ∧ iter (prevIn (rise c S)) (k + 1) col ≤ (c : Int) - 1 - k) ∨ iter (prevIn (rise c S)) (k + 1) col = 0 := by
  induction k with
  | zero =>
    show (0 ≤ prevIn (rise c S) col ∧ prevIn (rise c S) col ≤ _) ∨ prevIn (rise c S) col = 0
    rcases prev_spec c S col with ⟨h1, h2⟩ | ⟨h1, h2, h3, h4, h5⟩
    · exact .inr h1
    · left; omega
  | succ k ih =>
    show (0 ≤ prevIn (rise c S) (iter (prevIn (rise c S)) (k + 1) col) ∧ prevIn (rise c S) (iter (prevIn (rise c S)) (k + 1) col) ≤ _) ∨ prevIn (rise c S) (iter (prevIn (rise c S)) (k + 1) col) = 0
    rcases prev_spec c S (iter (prevIn (rise c S)) (k + 1) col) with ⟨h1, h2⟩ | ⟨h1, h2, h3, h4, h5⟩
    · exact .inr h1
    · left; omega
theorem next_300 (c : Nat) (S : Int → Bool) (hc : 1 ≤ c) (h2 : c ≤ 255) (col n : Int) (hn : 0 < n) : iter (nextIn (rise c S) c) (min n 300).toNat col = iter (nextIn (rise c S) c) (min n 255).toNat col := by
  by_cases h : n ≤ 255
  · rw [show min n 300 = min n 255 by omega]
  · obtain ⟨d, hd⟩ : ∃ d, (min n 300).toNat = 255 + d := ⟨(min n 300).toNat - 255, by omega⟩
    rw [hd, show (min n 255).toNat = 255 by omega]
    refine iter_fix _ _ _ ?_ d
    have hi : iter (nextIn (rise c S) c) 255 col = (c : Int) - 1 := by
      have := next_iter c S hc col 254
      have hle : iter (nextIn (rise c S) c) (254 + 1) col ≤ (c : Int) - 1 := by
        show nextIn (rise c S) c (iter (nextIn (rise c S) c) 254 col) ≤ _
        rcases next_spec c S (iter (nextIn (rise c S) c) 254 col) hc with ⟨h1, h2⟩ | ⟨h1, h2, h3, h4, h5⟩ <;> omega
      simp only [Nat.reduceAdd] at this hle
      omega
    rw [hi]; exact next_end c S hc
theorem prev_300 (c : Nat) (S : Int → Bool) (hc : 1 ≤ c) (h2 : c ≤ 255) (col n : Int) (hn : n < 0) : iter (prevIn (rise c S)) (min (-n) 300).toNat col = iter (prevIn (rise c S)) (min (-(max n (-255))) 255).toNat col := by
  by_cases h : -255 ≤ n
  · rw [show min (-n) 300 = min (-(max n (-255))) 255 by omega]
  · obtain ⟨d, hd⟩ : ∃ d, (min (-n) 300).toNat = 255 + d := ⟨(min (-n) 300).toNat - 255, by omega⟩
    rw [hd, show (min (-(max n (-255))) 255).toNat = 255 by omega]
    refine iter_fix _ _ _ ?_ d
    have hi : iter (prevIn (rise c S)) 255 col = 0 := by
      have := prev_iter c S hc col 254
      simp only [Nat.reduceAdd] at this
      omega
    rw [hi]; exact prev_end c S
/-- What the document's Go answers. -/
def goR (nx pv : Int → Int) (c col n : Int) : Int := if n = 0 then (if col < 0 then 0 else if c ≤ col then c - 1 else col) else if 0 < n then iter nx (min n 300).toNat col else iter pv (min (-n) 300).toNat col
theorem goR_eq (c : Nat) (S : Int → Bool) (hc : 1 ≤ c) (h2 : c ≤ 255) (col n : Int) : goR (nextIn (rise c S) c) (prevIn (rise c S)) c col n = goIn (nextIn (rise c S) c) (prevIn (rise c S)) c col n := by
  unfold goR goIn
  by_cases h0 : n = 0
  · rw [if_pos h0, if_pos h0]
    split
    · omega
    · split <;> omega
  · rw [if_neg h0, if_neg h0]
    by_cases hp : 0 < n
    · rw [if_pos hp, if_pos hp]; exact next_300 c S hc h2 col n hp
    · rw [if_neg hp, if_neg hp]; exact prev_300 c S hc h2 col n (by omega)
end Go.Proofs.Ytpjodppcedkneaa
