/- The plain law of FieldParts: what is sent in two parts is what is sent at once, but for a byte. -/
import Derived.Test.YtooikmialpfdkaaF4
namespace Go.Proofs.Ytooikmialpfdkaa
set_option linter.unusedVariables false

theorem rowOut_split (gd : Nat → Bool) (gl : Nat → Int) (b k1 k2 : Nat) :
    ((rowOut gd gl (b + k1) k2).2 = false ∧ (rowOut gd gl (b + k1) k2).1 = [] ∧ rowOut gd gl b (k1 + k2) = rowOut gd gl b k1) ∨
    ((rowOut gd gl (b + k1) k2).2 = true ∧ (rowOut gd gl b (k1 + k2)).2 = true ∧ ∃ sep, (sep = [] ∨ sep = [28]) ∧ (rowOut gd gl b (k1 + k2)).1 = (rowOut gd gl b k1).1 ++ sep ++ (rowOut gd gl (b + k1) k2).1) := by
  induction k2 with
  | zero => exact .inl ⟨rfl, rfl, rfl⟩
  | succ k2 ih =>
    have e : k1 + (k2 + 1) = (k1 + k2) + 1 := by omega
    rw [e]
    by_cases g : gd (b + k1 + k2) = true
    · rw [rowOut_skip _ _ (b + k1) k2 g, rowOut_skip _ _ b (k1 + k2) (by rw [← Nat.add_assoc]; exact g)]
      exact ih
    · have gf : gd (b + k1 + k2) = false := by simpa using g
      have gf' : gd (b + (k1 + k2)) = false := by rw [← Nat.add_assoc]; exact gf
      refine .inr ?_
      rcases ih with ⟨i1, i2, i3⟩ | ⟨i1, i2, sep, hs, i3⟩
      · have hr := rowOut_add gd gl (b + k1) k2 gf (fun e => by rw [i1] at e; cases e)
        refine ⟨by rw [hr], ?_, ?_⟩
        · by_cases q : (rowOut gd gl b (k1 + k2)).2 = true ∧ gd (b + (k1 + k2) - 1) = true
          · rw [rowOut_sep _ _ _ _ gf' q.1 q.2]
          · rw [rowOut_add _ _ _ _ gf' (fun e => by
              cases h : gd (b + (k1 + k2) - 1)
              · rfl
              · exact absurd ⟨e, h⟩ q)]
        · rw [hr, i2]
          by_cases q : (rowOut gd gl b (k1 + k2)).2 = true ∧ gd (b + (k1 + k2) - 1) = true
          · refine ⟨[28], .inr rfl, ?_⟩
            rw [rowOut_sep _ _ _ _ gf' q.1 q.2, i3]
            simp [Nat.add_assoc]
          · refine ⟨[], .inl rfl, ?_⟩
            rw [rowOut_add _ _ _ _ gf' (fun e => by
              cases h : gd (b + (k1 + k2) - 1)
              · rfl
              · exact absurd ⟨e, h⟩ q), i3]
            simp [Nat.add_assoc]
      · by_cases q : gd (b + k1 + k2 - 1) = true
        · have hr := rowOut_sep gd gl (b + k1) k2 gf i1 q
          have hr' := rowOut_sep gd gl b (k1 + k2) gf' i2 (by rw [← Nat.add_assoc]; exact q)
          exact ⟨by rw [hr], by rw [hr'], sep, hs, by rw [hr, hr', i3]; simp [Nat.add_assoc]⟩
        · have qf : gd (b + k1 + k2 - 1) = false := by simpa using q
          have hr := rowOut_add gd gl (b + k1) k2 gf (fun _ => qf)
          have hr' := rowOut_add gd gl b (k1 + k2) gf' (fun _ => by rw [← Nat.add_assoc]; exact qf)
          exact ⟨by rw [hr], by rw [hr'], sep, hs, by rw [hr, hr', i3]; simp [Nat.add_assoc]⟩
/-- The first parts are the same. -/
theorem sendRows_head (G : Grid) (r c tr tc k : Nat) (htr : r ≤ tr) (htc : tc = G.len 0 - 1) (hk : k ≤ r) : sendRows G 0 0 r c k = sendRows G 0 0 tr tc k := by
  induction k with
  | zero => rfl
  | succ k ih =>
    have e1 : endOf (G.len 0) r c (0 + k) = G.len 0 - 1 := by unfold endOf; rw [if_neg (by omega)]
    have e2 : endOf (G.len 0) tr tc (0 + k) = G.len 0 - 1 := by unfold endOf; rw [if_neg (by omega)]
    simp only [sendRows]
    rw [ih (by omega), e1, e2, if_pos (by omega), if_pos (by omega)]
/-- The last parts are the same. -/
theorem sendRows_tail (G : Grid) (r c tr tc j : Nat) : ∃ T, sendRows G 0 0 tr tc (r + 1 + j) = sendRows G 0 0 tr tc (r + 1) ++ T ∧ sendRows G r c tr tc (1 + j) = sendRows G r c tr tc 1 ++ T := by
  induction j with
  | zero => exact ⟨[], by simp, by simp⟩
  | succ j ih =>
    obtain ⟨T, h1, h2⟩ := ih
    have e1 : 0 + (r + 1 + j) = r + (1 + j) := by omega
    have b1 : beginOf 0 0 (r + (1 + j)) = 0 := by unfold beginOf; split <;> rfl
    have b2 : beginOf r c (r + (1 + j)) = 0 := by unfold beginOf; rw [if_neg (by omega)]
    refine ⟨T ++ ((rowOut (G.gd (r + (1 + j))) (G.gl (r + (1 + j))) 0 (endOf (G.len 0) tr tc (r + (1 + j)) + 1 - 0)).1 ++ (if r + (1 + j) < tr then [31] else [])), ?_, ?_⟩
    · rw [← Nat.add_assoc (r + 1) j 1, sendRows, h1, e1, b1]; simp
    · rw [← Nat.add_assoc 1 j 1, sendRows, h2, b2]; simp
theorem parts_law (G : Grid) (r c : Nat) (hr : r < G.n) (hc : c + 1 < G.len 0) : ∃ sep, (sep = [] ∨ sep = [28]) ∧
    sendOut G 0 0 (G.n - 1) (G.len 0 - 1) = sendOut G 0 0 r c ++ sep ++ sendOut G r (c + 1) (G.n - 1) (G.len 0 - 1) := by
  unfold sendOut
  obtain ⟨T, h1, h2⟩ := sendRows_tail G r (c + 1) (G.n - 1) (G.len 0 - 1) (G.n - 1 - r)
  rw [show G.n - 1 + 1 - 0 = r + 1 + (G.n - 1 - r) by omega, show G.n - 1 + 1 - r = 1 + (G.n - 1 - r) by omega, h1, h2, show r + 1 - 0 = r + 1 by omega]
  have b0 : beginOf 0 0 (0 + r) = 0 := by unfold beginOf; split <;> rfl
  have b1 : beginOf r (c + 1) (r + 0) = c + 1 := by unfold beginOf; rw [if_pos (by omega)]
  have e0 : endOf (G.len 0) (G.n - 1) (G.len 0 - 1) (0 + r) = G.len 0 - 1 := by unfold endOf; split <;> rfl
  have e1 : endOf (G.len 0) r c (0 + r) = c := by unfold endOf; rw [if_pos (by omega)]
  have e2 : endOf (G.len 0) (G.n - 1) (G.len 0 - 1) (r + 0) = G.len 0 - 1 := by unfold endOf; split <;> rfl
  simp only [sendRows, b0, b1, e0, e1, e2]
  rw [sendRows_head G r c (G.n - 1) (G.len 0 - 1) r (by omega) rfl (Nat.le_refl _), if_neg (show ¬ 0 + r < r by omega)]
  simp only [Nat.zero_add, Nat.add_zero, Nat.sub_zero, List.nil_append, List.append_nil]
  have hs := rowOut_split (G.gd r) (G.gl r) 0 (c + 1) (G.len 0 - 1 + 1 - (c + 1))
  rw [show c + 1 + (G.len 0 - 1 + 1 - (c + 1)) = G.len 0 - 1 + 1 by omega, Nat.zero_add] at hs
  rcases hs with ⟨_, i2, i3⟩ | ⟨_, _, sep, hsep, i3⟩
  · exact ⟨[], .inl rfl, by rw [i2, i3]; simp⟩
  · exact ⟨sep, hsep, by rw [i3]; simp⟩
end Go.Proofs.Ytooikmialpfdkaa
