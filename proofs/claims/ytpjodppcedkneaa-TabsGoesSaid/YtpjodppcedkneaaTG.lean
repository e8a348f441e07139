/- TabsEvery: the plain law, the law's walk. -/
import Derived.Test.YtpjodppcedkneaaTF
import Derived.Laws.AppendOwn
namespace Go.Proofs.Ytpjodppcedkneaa
open Go.RowKit Go.Maps Go.Sort Go.Shelf
set_option linter.unusedVariables false
set_option linter.unusedSimpArgs false
set_option maxRecDepth 100000
theorem info3 : (Try.prog.info? 3).map (fun i => (i.zero, i.size, i.bytes)) = some (some (.int .i64 0), 1, 8) := by kernel_rfl
theorem OwnI.nil (w : World) (base : Nat) : OwnI w base (.slice none 0 0) [] := World.ownsRow_nil _ _ _ _
theorem OwnI.alloc {w : World} {base : Nat} {v : Value} {L : List Int} (h : OwnI w base v L) (o : Obj) : OwnI (w.alloc o) base v L := World.ownsRow.alloc h o
theorem OwnI.drewN {w : World} {base : Nat} {v : Value} {L : List Int} (h : OwnI w base v L) (n : Nat) : OwnI (w.drewN n) base v L := h
theorem OwnI.call {w w' : World} {base : Nat} {v : Value} {L : List Int} (h : OwnI w base v L) (hb : Below w.heap.size w w') : OwnI w' base v L := by
  obtain ⟨h1, h2⟩ := h
  refine ⟨h1, ?_⟩
  rcases h2 with h2 | ⟨g, cap, cur, hv, hg, hh, r⟩
  · exact .inl h2
  · exact .inr ⟨g, cap, cur, hv, hg, (hb.block g (Array.getElem?_eq_some_iff.1 hh).1).trans hh, r⟩
theorem wp_appI {ops : Array Oper} {rest : List Oper} {o : Oper} {a : Act} {Q : Exit → Act → World → Prop} (hgd : o.guard = none) (s x : Operand)
    (ho : o.op = .call { callee := .builtin .append, args := #[s, x], argTypes := #[22, 22] }) (base : Nat) (v : Value) (L : List Int) (W : World) (y : Int) (B : Nat)
    (hs : a.eval s = v) (hx : a.eval x = .slice (some ⟨B, 0, none⟩) 1 1) (hB : W.heap.size = B) (hown : OwnI W base v L) (hbase : base ≤ W.heap.size) (hn : L.length ≤ 1000000000)
    (h : ∀ v' w', OwnI w' base v' (L ++ [y]) → Below base W w' → wpList Try.prog ops Q rest (a.put o.dst v') w') : wpList Try.prog ops Q (o :: rest) a (W.alloc (.cells #[.int .i64 y] 3)) := by
  obtain ⟨i0, hi, hz0, hz1, hz2⟩ := info_parts info3
  subst hB
  refine wpList_append_own _ hgd s x 22 ho base 3 i0 (.int .i64 0) 1 8 Try.underlying22 hi hz0 hz1 hz2 rfl (by decide) v L.length _ hs (hown.alloc _) ⟨W.heap.size, 0, none⟩ 1 1 [.int .i64 y] hx rfl ?_ (by simp [Value.oneCell']) (by unfold maxLen; omega) (by omega) (by simp; omega) ?_
  · intro j u hj
    have : j = 0 := by
      have := (List.getElem?_eq_some_iff.1 hj).1
      simpa using this
    subst this
    simp at hj
    subst hj
    simp [go_sem, Addr.add]
  · intro v' w' h1 h2 _
    refine h v' w' (by unfold OwnI; simpa [encZ] using h1) ?_
    have b1 : Below base W (W.alloc (.cells #[.int .i64 y] 3)) := (Below.refl _ _).alloc hbase _
    exact b1.grown h2 (by simp; omega) (fun k hk => by
      have := World.ownsRow.lt hown k hk
      omega)
theorem pairwise_eq {a b : List Int} (ha : a.Pairwise (· < ·)) (hb : b.Pairwise (· < ·)) (h : ∀ x, x ∈ a ↔ x ∈ b) : a = b := by
  refine List.Perm.eq_of_pairwise (le := fun x y => x < y) (fun x y _ _ h1 h2 => by omega) ha hb ?_
  exact (List.perm_ext_iff_of_nodup (ha.imp (fun h => by omega)) (hb.imp (fun h => by omega))).2 h
theorem every_rise {c : Nat} {n : Int} (hn : 1 ≤ n) (hc : 1 ≤ c) : rise c (everyS c n) = (List.range ((c - 1) / n.toNat)).map fun (i : Nat) => ((i : Int) + 1) * n := by
  obtain ⟨N, rfl⟩ : ∃ N : Nat, n = (N : Int) := ⟨n.toNat, by omega⟩
  have hN : 0 < N := by omega
  rw [Int.toNat_natCast]
  refine pairwise_eq (rise_lt _ _) ?_ fun x => ?_
  · rw [List.pairwise_map]
    refine List.pairwise_lt_range.imp fun {i j} h => ?_
    exact Int.mul_lt_mul_of_pos_right (by omega) (by omega)
  · rw [mem_rise, List.mem_map]
    unfold everyS
    rw [decide_eq_true_iff]
    constructor
    · rintro ⟨⟨a0, a1⟩, a2, a3, a4, a5⟩
      obtain ⟨q, hq⟩ := Int.dvd_of_emod_eq_zero a5
      have q1 : 0 < q := by
        refine Int.not_le.1 fun h => ?_
        have := Int.mul_le_mul_of_nonneg_left h (show (0 : Int) ≤ (N : Int) by omega)
        omega
      obtain ⟨Q, rfl⟩ : ∃ Q : Nat, q = (Q : Int) + 1 := ⟨(q - 1).toNat, by omega⟩
      refine ⟨Q, ?_, by rw [hq, Int.mul_comm]⟩
      rw [List.mem_range]
      have : (Q + 1) * N ≤ c - 1 := by
        have e : x = (((Q + 1) * N : Nat) : Int) := by rw [hq, Int.mul_comm]; push_cast; rfl
        omega
      have := (Nat.le_div_iff_mul_le hN).2 this
      omega
    · rintro ⟨i, hi, rfl⟩
      rw [List.mem_range] at hi
      have h1 : (i + 1) * N ≤ c - 1 := (Nat.le_div_iff_mul_le hN).1 hi
      have e : ((i : Int) + 1) * (N : Int) = (((i + 1) * N : Nat) : Int) := by push_cast; rfl
      have h2 : 0 < (i + 1) * N := Nat.mul_pos (by omega) hN
      refine ⟨⟨by omega, by omega⟩, by omega, by omega, by omega, Int.mul_emod_left _ _⟩
theorem every_zeroS (c : Nat) : rise c (everyS c 0) = [] := by
  unfold rise everyS
  simp
theorem every_at {c : Nat} {n : Int} (h0 : 0 ≤ n) (hc : 1 ≤ c) (i : Nat) (hi : i < (rise c (everyS c n)).length) : 1 ≤ n ∧ (rise c (everyS c n))[i] = ((i : Int) + 1) * n := by
  by_cases hn : 1 ≤ n
  · have e := every_rise hn hc
    refine ⟨hn, ?_⟩
    have : (rise c (everyS c n))[i]? = some (((i : Int) + 1) * n) := by
      have hi2 := hi
      rw [e] at hi2 ⊢
      simp at hi2
      simp [hi2]
    rw [List.getElem?_eq_getElem hi] at this
    exact Option.some.inj this
  · have : n = 0 := by omega
    subst this
    rw [every_zeroS] at hi
    simp at hi
theorem every_len {c : Nat} {n : Int} (hn : 1 ≤ n) (hc : 1 ≤ c) : (((rise c (everyS c n)).length : Nat) : Int) = ((c : Int) - 1).tdiv n := by
  rw [every_rise hn hc]
  obtain ⟨N, rfl⟩ : ∃ N : Nat, n = (N : Int) := ⟨n.toNat, by omega⟩
  obtain ⟨C, rfl⟩ : ∃ C : Nat, c = C + 1 := ⟨c - 1, by omega⟩
  simp [Int.tdiv]
end Go.Proofs.Ytpjodppcedkneaa
