/- The plain law of FieldWhole: the fields cover the open places, each once; how many bytes are sent; Next and Back find what is open. -/
import Derived.Test.YtooikmialpfdkaaFS
namespace Go.Proofs.Ytooikmialpfdkaa
open Go.RowKit
set_option linter.unusedVariables false
set_option linter.unusedSimpArgs false
/-- How many of the first k columns are open. -/
def oc (gd : Nat → Bool) : Nat → Nat
  | 0 => 0
  | k + 1 => oc gd k + (if gd k then 0 else 1)
/-- How many places of the first r rows are open. -/
def oa (G : Grid) : Nat → Nat
  | 0 => 0
  | r + 1 => oa G r + oc (G.gd r) (G.len 0)
def covR (c : Nat) (p : Nat × Nat) : Bool := decide (p.1 ≤ c ∧ c ≤ p.2)
def covF (r c : Nat) (f : Fd) : Bool := decide (f.1 = r ∧ f.2.1 ≤ c ∧ c ≤ f.2.2)
theorem cov_row (gd : Nat → Bool) (c k : Nat) : (rowF gd k).countP (covR c) = if c < k ∧ gd c = false then 1 else 0 := by
  induction k with
  | zero => simp [rowF, fdone, fstart]
  | succ k ih =>
    cases h : gd k with
    | true =>
      rw [rowF_guard h, ih]
      by_cases e : c = k
      · subst e; simp [h]
      · have : c < k ↔ c < k + 1 := by omega
        simp only [this]
    | false =>
      by_cases h1 : k = 0 ∨ gd (k - 1) = true
      · rw [rowF_new h h1, List.countP_append, ih]
        by_cases e : c = k
        · subst e; simp [covR, h]
        · have : c < k ↔ c < k + 1 := by omega
          have e2 : covR c (k, k) = false := by simp [covR]; omega
          simp only [this, List.countP_cons, List.countP_nil, e2]
          simp
      · have h0 : k ≠ 0 := fun e => h1 (.inl e)
        have h2 : gd (k - 1) = false := by
          cases e : gd (k - 1)
          · rfl
          · exact absurd (.inr e) h1
        obtain ⟨r1, r2⟩ := rowF_more h h0 h2
        have hs := fstart_more h0 h2
        rw [r1, List.countP_append] at ih
        rw [r2, List.countP_append]
        simp only [List.countP_cons, List.countP_nil] at ih ⊢
        by_cases e : c = k
        · subst e
          have e1 : covR c (fstart gd c, c) = true := by simp [covR]; omega
          have e2 : covR c (fstart gd c, c - 1) = false := by simp [covR]; omega
          rw [e2] at ih
          rw [e1]
          simp [h] at ih ⊢
          simpa using ih
        · have : c < k ↔ c < k + 1 := by omega
          have e1 : covR c (fstart gd k, k) = covR c (fstart gd k, k - 1) := by
            unfold covR
            congr 1
            apply propext
            omega
          rw [e1, ih]
          simp only [this]
theorem cov_in (r c k : Nat) (l : List (Nat × Nat)) : (inRow k l).countP (covF r c) = if k = r then l.countP (covR c) else 0 := by
  induction l with
  | nil => simp [inRow]
  | cons x l ih =>
    unfold inRow at ih ⊢
    rw [List.map_cons, List.countP_cons, List.countP_cons, ih]
    by_cases e : k = r
    · subst e; simp [covF, covR]
    · have : covF r c (k, x.1, x.2) = false := by simp [covF, e]
      simp [e, this]
theorem cov_all (G : Grid) (r c n : Nat) (hc : c < G.len 0) : (allF G n).countP (covF r c) = if r < n ∧ G.gd r c = false then 1 else 0 := by
  induction n with
  | zero => simp [allF]
  | succ n ih =>
    rw [allF, List.countP_append, ih, cov_in]
    by_cases e : n = r
    · subst e; rw [if_pos rfl, cov_row]; simp [hc]
    · rw [if_neg e]
      have : r < n ↔ r < n + 1 := by omega
      simp only [this, Nat.add_zero]
/-- The law's count of fields that are not the first ones of their rows. -/
def lstep (s : Nat × Option Nat) (f : Fd) : Nat × Option Nat := (s.1 + (if s.2 = some f.1 then 1 else 0), some f.1)
def lat (L : List Fd) : Nat × Option Nat := L.foldl lstep (0, none)
theorem lat_snoc (L : List Fd) (x : Fd) : lat (L ++ [x]) = lstep (lat L) x := by simp [lat]
theorem lfold_in (r : Nat) (l : List (Nat × Nat)) : ∀ s : Nat × Option Nat, s.2 = some r → (inRow r l).foldl lstep s = (s.1 + l.length, some r) := by
  induction l with
  | nil => intro s h; simp [inRow]; exact Prod.ext rfl h
  | cons x l ih =>
    intro s h
    have := ih (lstep s (r, x.1, x.2)) rfl
    unfold inRow at this ⊢
    rw [List.map_cons, List.foldl_cons, this]
    simp [lstep, h]
    omega
theorem lfold_new (r : Nat) (l : List (Nat × Nat)) (s : Nat × Option Nat) (h : s.2 ≠ some r) : ((inRow r l).foldl lstep s).1 = s.1 + (l.length - 1) ∧ (((inRow r l).foldl lstep s).2 = s.2 ∨ ((inRow r l).foldl lstep s).2 = some r) := by
  cases l with
  | nil => simp [inRow]
  | cons x l =>
    have := lfold_in r l (lstep s (r, x.1, x.2)) rfl
    unfold inRow at this ⊢
    rw [List.map_cons, List.foldl_cons, this]
    simp [lstep, h]
/-- How many fields of the first r rows are not the first ones of their rows. -/
def la (G : Grid) : Nat → Nat
  | 0 => 0
  | r + 1 => la G r + ((rowF (G.gd r) (G.len 0)).length - 1)
theorem lat_all (G : Grid) (n : Nat) : (lat (allF G n)).1 = la G n ∧ ∀ r, (lat (allF G n)).2 = some r → r < n := by
  induction n with
  | zero => simp [allF, lat, la]
  | succ n ih =>
    have h0 : (lat (allF G n)).2 ≠ some n := fun e => by have := ih.2 n e; omega
    obtain ⟨h1, h2⟩ := lfold_new n (rowF (G.gd n) (G.len 0)) (lat (allF G n)) h0
    have e : lat (allF G (n + 1)) = (inRow n (rowF (G.gd n) (G.len 0))).foldl lstep (lat (allF G n)) := by simp [lat, allF]
    rw [e, la, h1, ih.1]
    refine ⟨rfl, fun r hr => ?_⟩
    rcases h2 with h2 | h2
    · rw [h2] at hr; have := ih.2 r hr; omega
    · rw [h2] at hr; cases hr; omega
theorem rowOut_count (gd : Nat → Bool) (gl : Nat → Int) (k : Nat) :
    (rowOut gd gl 0 k).1.length + (if (rowOut gd gl 0 k).2 then 1 else 0) = oc gd k + (rowF gd k).length ∧ ((rowOut gd gl 0 k).2 = true ↔ 0 < (rowF gd k).length) ∧ ((rowOut gd gl 0 k).2 = false → ∀ c, c < k → gd c = true) := by
  induction k with
  | zero => simp [rowOut, oc, rowF, fdone, fstart]
  | succ k ih =>
    obtain ⟨h1, h2, h3⟩ := ih
    cases h : gd k with
    | true =>
      rw [rowOut_skip gd gl 0 k (by simpa using h), rowF_guard h]
      refine ⟨by simpa [oc, h] using h1, h2, fun e c hc => ?_⟩
      by_cases e2 : c = k
      · rw [e2]; exact h
      · exact h3 e c (by omega)
    | false =>
      by_cases hs : (rowOut gd gl 0 k).2 = true
      · have hp := h2.1 hs
        have hk : k ≠ 0 := by rintro rfl; simp [rowF, fdone, fstart] at hp
        by_cases hg : gd (k - 1) = true
        · rw [rowOut_sep gd gl 0 k (by simpa using h) hs (by simpa using hg), rowF_new h (.inr hg)]
          simp [oc, h, hs] at h1 ⊢
          omega
        · have hg' : gd (k - 1) = false := by simpa using hg
          rw [rowOut_add gd gl 0 k (by simpa using h) (fun _ => by simpa using hg')]
          obtain ⟨r1, r2⟩ := rowF_more h hk hg'
          rw [r1] at h1
          rw [r2]
          simp [oc, h, hs] at h1 ⊢
          omega
      · have hs' : (rowOut gd gl 0 k).2 = false := by simpa using hs
        have h0 : (rowF gd k).length = 0 := by
          have : ¬ 0 < (rowF gd k).length := fun e => hs (h2.2 e)
          omega
        rw [rowOut_add gd gl 0 k (by simpa using h) (fun e => absurd e hs)]
        have hn : k = 0 ∨ gd (k - 1) = true := by
          by_cases e : k = 0
          · exact .inl e
          · exact .inr (h3 hs' (k - 1) (by omega))
        rw [rowF_new h hn]
        simp [oc, h, hs', h0] at h1 ⊢
        omega
theorem rowOut_length (gd : Nat → Bool) (gl : Nat → Int) (k : Nat) : (rowOut gd gl 0 k).1.length = oc gd k + ((rowF gd k).length - 1) := by
  obtain ⟨h1, h2, _⟩ := rowOut_count gd gl k
  by_cases hs : (rowOut gd gl 0 k).2 = true
  · have := h2.1 hs
    rw [if_pos hs] at h1
    omega
  · rw [if_neg hs] at h1
    have : ¬ 0 < (rowF gd k).length := fun e => hs (h2.2 e)
    omega
theorem sendRows_count (G : Grid) (tr tc : Nat) (hm : 1 ≤ G.len 0) (htc : tc = G.len 0 - 1) (k : Nat) (hk : k ≤ tr + 1) : (sendRows G 0 0 tr tc k).length = oa G k + la G k + min k tr := by
  induction k with
  | zero => simp [sendRows, oa, la]
  | succ k ih =>
    have e1 : beginOf 0 0 (0 + k) = 0 := by unfold beginOf; split <;> rfl
    have e2 : endOf (G.len 0) tr tc (0 + k) + 1 - 0 = G.len 0 := by unfold endOf; split <;> omega
    rw [sendRows, e1, e2, List.length_append, List.length_append, ih (by omega), rowOut_length, oa, la]
    simp only [Nat.zero_add]
    split <;> simp <;> omega
theorem sendOut_count (G : Grid) (hok : G.Ok) : (sendOut G 0 0 (G.n - 1) (G.len 0 - 1)).length = oa G G.n + la G G.n + (G.n - 1) := by
  have h1 := hok.1
  have h2 := (hok.2.2 0 hok.1).1
  unfold sendOut
  rw [sendRows_count G _ _ h2 rfl _ (by omega)]
  rw [show G.n - 1 + 1 - 0 = G.n by omega]
  omega
theorem oc_pos {gd : Nat → Bool} {k : Nat} : 0 < oc gd k ↔ ∃ c, c < k ∧ gd c = false := by
  induction k with
  | zero => simp [oc]
  | succ k ih =>
    rw [oc]
    constructor
    · intro h
      cases e : gd k
      · exact ⟨k, by omega, e⟩
      · rw [e] at h
        obtain ⟨c, h1, h2⟩ := ih.1 (by simpa using h)
        exact ⟨c, by omega, h2⟩
    · rintro ⟨c, h1, h2⟩
      by_cases e : c = k
      · subst e; simp [h2]
      · have := ih.2 ⟨c, by omega, h2⟩; omega
theorem oa_pos {G : Grid} {n : Nat} : 0 < oa G n ↔ ∃ r c, r < n ∧ c < G.len 0 ∧ G.gd r c = false := by
  induction n with
  | zero => simp [oa]
  | succ n ih =>
    rw [oa]
    constructor
    · intro h
      by_cases e : 0 < oa G n
      · obtain ⟨r, c, h1, h2, h3⟩ := ih.1 e
        exact ⟨r, c, by omega, h2, h3⟩
      · obtain ⟨c, h1, h2⟩ := oc_pos.1 (show 0 < oc (G.gd n) (G.len 0) by omega)
        exact ⟨n, c, by omega, h1, h2⟩
    · rintro ⟨r, c, h1, h2, h3⟩
      by_cases e : r = n
      · subst e
        have := oc_pos.2 ⟨c, h2, h3⟩
        omega
      · have := ih.2 ⟨r, c, by omega, h2, h3⟩; omega
theorem oc_le (gd : Nat → Bool) (k : Nat) : oc gd k ≤ k := by
  induction k with
  | zero => exact Nat.le_refl _
  | succ k ih => rw [oc]; split <;> omega
theorem oa_le (G : Grid) (n : Nat) : oa G n ≤ n * G.len 0 := by
  induction n with
  | zero => simp [oa]
  | succ n ih => have := oc_le (G.gd n) (G.len 0); rw [oa, Nat.add_mul]; omega
theorem posOf_eq {A st s : Int} (h0 : 0 ≤ s) (h1 : s < A) (hs : -1 ≤ st) (k : Nat) : posOf A st s k = (s + st * k) % A := by
  induction k with
  | zero => simp [posOf]; exact (Int.emod_eq_of_lt h0 h1).symm
  | succ k ih =>
    have hb := posOf_bd h0 h1 hs k
    unfold posOf
    rw [Int.tmod_eq_emod_of_nonneg (by omega), ih]
    rw [Int.add_emod_right, Int.emod_add_emod]
    congr 1
    push_cast
    rw [Int.mul_add]
    omega
theorem orbit_all {A : Nat} {st s : Int} (hst : st = 1 ∨ st = -1) (h0 : 0 ≤ s) (h1 : s < A) {x : Int} (hx0 : 0 ≤ x) (hx1 : x < A) : x ∈ orbit A st s A := by
  unfold orbit
  rw [List.mem_map]
  have hA : (0 : Int) < A := by omega
  refine ⟨((st * (x - s)) % A).toNat, ?_, ?_⟩
  · rw [List.mem_range]
    have := Int.emod_lt_of_pos (st * (x - s)) hA
    have := Int.emod_nonneg (st * (x - s)) (by omega : (A : Int) ≠ 0)
    omega
  · rw [posOf_eq h0 h1 (by omega)]
    have h2 := Int.emod_nonneg (st * (x - s)) (by omega : (A : Int) ≠ 0)
    rw [Int.toNat_of_nonneg h2]
    rw [Int.add_emod, Int.mul_emod, Int.emod_emod, ← Int.mul_emod, ← Int.add_emod]
    rw [show s + st * (st * (x - s)) = x by rcases hst with rfl | rfl <;> omega]
    exact Int.emod_eq_of_lt hx0 hx1
theorem place_of {G : Grid} {A : Nat} (hA : G.n * G.len 0 = A) (hm : 1 ≤ G.len 0) {x : Int} (h0 : 0 ≤ x) (h1 : x < A) : ∃ r c : Nat, x / (G.len 0 : Int) = r ∧ x % (G.len 0 : Int) = c ∧ r < G.n ∧ c < G.len 0 ∧ openN G x = !G.gd r c := by
  obtain ⟨x, rfl⟩ := Int.eq_ofNat_of_zero_le h0
  refine ⟨x / G.len 0, x % G.len 0, by simp, by simp, ?_, Nat.mod_lt _ (by omega), ?_⟩
  · refine Nat.div_lt_of_lt_mul ?_
    rw [Nat.mul_comm, hA]; omega
  · unfold openN
    rw [← Int.natCast_ediv, ← Int.natCast_emod, Int.toNat_natCast, Int.toNat_natCast]
theorem next_found (G : Grid) (hok : G.Ok) (st o r c : Int) (hst : st = 1 ∨ st = -1) (h0 : 0 ≤ o) (h1 : o < (G.n * G.len 0 : Nat)) :
    (0 < oa G G.n → ∃ x : Int, ∃ r' c' : Nat, nextOf G st o r c = some x ∧ x / (G.len 0 : Int) = r' ∧ x % (G.len 0 : Int) = c' ∧ r' < G.n ∧ c' < G.len 0 ∧ G.gd r' c' = false) ∧ (oa G G.n = 0 → nextOf G st o r c = none) := by
  have hm := (hok.2.2 0 hok.1).1
  obtain ⟨b0, b1⟩ := num_bd G hok _ rfl r c o h0 h1
  have e : nextOf G st o r c = (orbit (G.n * G.len 0 : Nat) st (G.num r c o) (G.n * G.len 0)).find? (openN G) := by simp [nextOf, okB_yes hok]
  rw [e]
  constructor
  · intro hp
    obtain ⟨r1, c1, q1, q2, q3⟩ := oa_pos.1 hp
    have hx1 : ((r1 * G.len 0 + c1 : Nat) : Int) < (G.n * G.len 0 : Nat) := by
      have := Nat.mul_le_mul_right (G.len 0) (show r1 + 1 ≤ G.n by omega)
      rw [Nat.add_mul] at this
      omega
    have hmem := orbit_all hst b0 b1 (x := ((r1 * G.len 0 + c1 : Nat) : Int)) (by omega) hx1
    obtain ⟨r2, c2, p1, p2, p3, p4, p5⟩ := place_of (G := G) rfl hm (x := ((r1 * G.len 0 + c1 : Nat) : Int)) (by omega) hx1
    have d1 : (r1 * G.len 0 + c1) / G.len 0 = r1 := by
      rw [Nat.mul_comm, Nat.mul_add_div (by omega), Nat.div_eq_of_lt q2]; omega
    have d2 : (r1 * G.len 0 + c1) % G.len 0 = c1 := by
      rw [Nat.mul_comm, Nat.mul_add_mod, Nat.mod_eq_of_lt q2]
    rw [← Int.natCast_ediv, d1] at p1
    rw [← Int.natCast_emod, d2] at p2
    have p1' : r1 = r2 := by omega
    have p2' : c1 = c2 := by omega
    subst p1' p2'
    cases hf : (orbit (G.n * G.len 0 : Nat) st (G.num r c o) (G.n * G.len 0)).find? (openN G) with
    | none =>
      have := List.find?_eq_none.1 hf _ hmem
      rw [p5, q3] at this
      exact absurd rfl this
    | some x =>
      have hx := List.find?_some hf
      have hxm := List.mem_of_find?_eq_some hf
      obtain ⟨k, _, hk⟩ := List.mem_map.1 hxm
      have hb := posOf_bd b0 b1 (by omega : -1 ≤ st) k
      rw [hk] at hb
      obtain ⟨r3, c3, w1, w2, w3, w4, w5⟩ := place_of (G := G) rfl hm (x := x) hb.1 hb.2
      rw [w5] at hx
      exact ⟨x, r3, c3, rfl, w1, w2, w3, w4, by simpa using hx⟩
  · intro hz
    refine List.find?_eq_none.2 fun x hx => ?_
    obtain ⟨k, _, hk⟩ := List.mem_map.1 hx
    have hb := posOf_bd b0 b1 (by omega : -1 ≤ st) k
    rw [hk] at hb
    obtain ⟨r3, c3, w1, w2, w3, w4, w5⟩ := place_of (G := G) rfl hm (x := x) hb.1 hb.2
    rw [w5]
    intro hh
    have := oa_pos.2 ⟨r3, c3, w3, w4, by simpa using hh⟩
    omega
end Go.Proofs.Ytooikmialpfdkaa
