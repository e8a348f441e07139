/- tabs: the columns that are stops. -/
import Derived.Test.YtpjodppcedkneaaT9
namespace Go.Proofs.Ytpjodppcedkneaa
open Go.RowKit Go.Maps Go.Sort Go.Shelf
set_option linter.unusedVariables false
set_option linter.unusedSimpArgs false
set_option maxRecDepth 100000
/-- The columns of which S holds, rising. -/
def rise (c : Nat) (S : Int → Bool) : List Int := ((List.range c).map (fun (i : Nat) => (i : Int))).filter S
theorem base_lt (c : Nat) : ((List.range c).map (fun (i : Nat) => (i : Int))).Pairwise (· < ·) := by
  rw [List.pairwise_map]
  exact List.pairwise_lt_range.imp (fun h => by omega)
theorem rise_lt (c : Nat) (S : Int → Bool) : (rise c S).Pairwise (· < ·) := (base_lt c).filter _
theorem mem_rise {c : Nat} {S : Int → Bool} {x : Int} : x ∈ rise c S ↔ (0 ≤ x ∧ x < (c : Int)) ∧ S x = true := by
  unfold rise
  rw [List.mem_filter, List.mem_map]
  constructor
  · rintro ⟨⟨i, hi, rfl⟩, hs⟩
    rw [List.mem_range] at hi
    exact ⟨⟨by omega, by omega⟩, hs⟩
  · rintro ⟨⟨h1, h2⟩, hs⟩
    exact ⟨⟨x.toNat, by rw [List.mem_range]; omega, by omega⟩, hs⟩
theorem rise_len (c : Nat) (S : Int → Bool) : (rise c S).length ≤ c := by
  unfold rise
  exact Nat.le_trans (List.length_filter_le _ _) (by simp)
theorem rise_cong (c : Nat) (S T : Int → Bool) (h : ∀ x, 0 ≤ x → x < (c : Int) → S x = T x) : rise c S = rise c T := by
  unfold rise
  refine List.filter_congr fun x hx => ?_
  rw [List.mem_map] at hx
  obtain ⟨i, hi, rfl⟩ := hx
  rw [List.mem_range] at hi
  exact h _ (by omega) (by omega)
theorem perm_rise {W : World} {b n : Nat} {D : Set3} (h : OwnS W b n D) {c : Nat} {S : Int → Bool} (hS : ∀ x, Maps.has D (.int .i64 x) = S x) (hb : ∀ x, S x = true → 0 ≤ x ∧ x < (c : Int)) : (rise c S).Perm (intKeys D) := by
  refine CollectedI.perm (left := fun _ => false) ⟨?_, fun x => ?_⟩ h (int_keyed Try.underlying3) Try.underlying3 (fun _ => rfl)
  · exact (rise_lt c S).imp (fun h => by omega)
  · rw [mem_rise, hS x]
    constructor
    · rintro ⟨_, h⟩; exact ⟨h, rfl⟩
    · rintro ⟨h, _⟩; exact ⟨hb x h, h⟩
theorem keysOf_rise {W : World} {b n : Nat} {D : Set3} (h : OwnS W b n D) {c : Nat} {S : Int → Bool} (hS : ∀ x, Maps.has D (.int .i64 x) = S x) (hb : ∀ x, S x = true → 0 ≤ x ∧ x < (c : Int)) : keysOf D = rise c S := by
  unfold keysOf
  rw [← sort_perm (perm_rise h hS hb)]
  exact List.mergeSort_of_pairwise ((rise_lt c S).imp (fun h => by simp [leB]; omega))
theorem size_rise {W : World} {b n : Nat} {D : Set3} (h : OwnS W b n D) {c : Nat} {S : Int → Bool} (hS : ∀ x, Maps.has D (.int .i64 x) = S x) (hb : ∀ x, S x = true → 0 ≤ x ∧ x < (c : Int)) : Maps.size D ≤ c := by
  have h1 := (perm_rise h hS hb).length_eq
  have h2 := rise_len c S
  obtain ⟨es, clock, _, F, _, rfl⟩ := h
  simp only [intKeys, List.length_map] at h1
  simp only [Maps.size]
  omega
theorem OwnS.renorm {W : World} {b n : Nat} {D : Set3} (h : OwnS W b n D) {m : Nat} (hm : Maps.size D ≤ m) : OwnS W b m D := by
  obtain ⟨es, clock, hb, F, hs, rfl⟩ := h
  refine ⟨es, clock, hb, F, ?_, rfl⟩
  have := length_read (H := Unit) (P := Try.prog) (k := 3) (R0 := unitElem) es
  simp only [Maps.size] at hm
  omega
/-- Tabs behind a pointer whose stops are the columns of S. -/
structure TS (W : World) (p b c : Nat) (S : Int → Bool) : Prop where
  lo : 1 ≤ c
  hi : c ≤ 255
  bd : ∀ x, S x = true → 0 ≤ x ∧ x < (c : Int)
  blk : W.heap[p]? = some (.cells #[.int .i64 c, .map (some b)] 55)
  ob : ∃ D, TObj W p b (c : Int) 300 D ∧ ∀ x, Maps.has D (.int .i64 x) = S x
theorem TS.lt {W : World} {p b c : Nat} {S : Int → Bool} (h : TS W p b c S) : p < W.heap.size := (Array.getElem?_eq_some_iff.1 h.blk).1
theorem ts_of {W : World} {p b c n : Nat} {S : Int → Bool} {D : Set3} (h : TObj W p b (c : Int) n D) (hS : ∀ x, Maps.has D (.int .i64 x) = S x) (hlo : 1 ≤ c) (hhi : c ≤ 255) (hbd : ∀ x, S x = true → 0 ≤ x ∧ x < (c : Int)) (hblk : W.heap[p]? = some (.cells #[.int .i64 c, .map (some b)] 55)) : TS W p b c S :=
  ⟨hlo, hhi, hbd, hblk, D, ⟨h.c0, h.c1, h.m.renorm (Nat.le_trans (size_rise h.m hS hbd) (by omega))⟩, hS⟩
theorem TS.later {W W' : World} {p b c : Nat} {S : Int → Bool} (h : TS W p b c S) (hb : Below W.heap.size W W') : TS W' p b c S :=
  ⟨h.lo, h.hi, h.bd, (hb.block p h.lt).trans h.blk, by obtain ⟨D, hT, hS⟩ := h.ob; exact ⟨D, hT.later hb, hS⟩⟩
theorem TObj.apart {W : World} {p b n : Nat} {c : Int} {D : Set3} (h : TObj W p b c n D) : p ≠ b := by
  rintro rfl
  obtain ⟨es, clock, hb, _⟩ := h.m
  have := h.c0
  simp [World.cell?, hb] at this
/-- Another block than these two is written. -/
theorem TObj.kept {W W' : World} {p b n g : Nat} {c : Int} {D : Set3} (h : TObj W p b c n D) (hg : W.grownBy W' (some g)) (h1 : p ≠ g) (h2 : b ≠ g) : TObj W' p b c n D :=
  ⟨grown_cell hg h1 h.c0, grown_cell hg h1 h.c1, OwnS.kept h.m (hg.block b (World.ownsMap.lt h.m) (fun e => h2 (by cases e; rfl)))⟩
theorem TS.kept {W W' : World} {p b c g : Nat} {S : Int → Bool} (h : TS W p b c S) (hg : W.grownBy W' (some g)) (h1 : p ≠ g) (h2 : b ≠ g) : TS W' p b c S :=
  ⟨h.lo, h.hi, h.bd, (hg.block p h.lt (fun e => h1 (by cases e; rfl))).trans h.blk, by obtain ⟨D, hT, hS⟩ := h.ob; exact ⟨D, hT.kept hg h1 h2, hS⟩⟩
theorem IntsAt.kept {W W' : World} {v : Value} {L : List Int} {b n : Nat} {D : Set3} (h : IntsAt W v L) (hm : OwnS W b n D) (hg : W.grownBy W' (some b)) : IntsAt W' v L := by
  obtain ⟨ad, cap, hv, hc⟩ := h
  refine ⟨ad, cap, hv, fun h0 => ?_⟩
  obtain ⟨g, off, ha, hgl, hcc⟩ := hc h0
  have hne : g ≠ b := by
    rintro rfl
    obtain ⟨es, clock, hb, _⟩ := hm
    have := hcc 0 h0
    simp [World.cell?, hb] at this
  exact ⟨g, off, ha, Nat.lt_of_lt_of_le hgl hg.size, fun i hi => grown_cell hg hne (hcc i hi)⟩
theorem grown_of_below {W W' : World} {b : Option Nat} (h : Below W.heap.size W W') : W.grownBy W' b := ⟨h.os, h.tape, h.output, h.size, fun k hk _ => h.block k hk⟩
theorem below_of_grown {W W' : World} {b B : Nat} (h : W.grownBy W' (some b)) (hB : B ≤ W.heap.size) (hb : B ≤ b) : Below B W W' := below_grown h hB hb
/-- The methods that only read, in these words. -/
theorem list_ts (w : World) (p b c : Nat) (S : Int → Bool) (h : TS w p b c S) : Calls Try.prog 11 #[.pointer (some ⟨p, 0, none⟩)] w fun e w' => ∃ v, e = .returned v ∧ OwnI w' w.heap.size v (rise c S) ∧ Below w.heap.size w w' := by
  obtain ⟨D, hT, hS⟩ := h.ob
  have hk := keysOf_rise hT.m hS h.bd
  have := size_rise hT.m hS h.bd
  have h255 := h.hi
  rw [← hk]
  exact list_is w p b _ _ D hT (by omega)
theorem next_ts (w : World) (p b c : Nat) (S : Int → Bool) (h : TS w p b c S) (col : Int) : Calls Try.prog 19 #[.pointer (some ⟨p, 0, none⟩), .int .i64 col] w fun e w' => e = .returned (.int .i64 (nextIn (rise c S) c col)) ∧ Below w.heap.size w w' := by
  obtain ⟨D, hT, hS⟩ := h.ob
  have hk := keysOf_rise hT.m hS h.bd
  have := size_rise hT.m hS h.bd
  have h255 := h.hi
  have hlo := h.lo
  have := rise_len c S
  rw [← hk] at this ⊢
  exact next_any w p b _ _ D hT (by omega) (by omega) (by omega) col (by omega)
theorem prev_ts (w : World) (p b c : Nat) (S : Int → Bool) (h : TS w p b c S) (col : Int) : Calls Try.prog 20 #[.pointer (some ⟨p, 0, none⟩), .int .i64 col] w fun e w' => e = .returned (.int .i64 (prevIn (rise c S) col)) ∧ Below w.heap.size w w' := by
  obtain ⟨D, hT, hS⟩ := h.ob
  have hk := keysOf_rise hT.m hS h.bd
  have := size_rise hT.m hS h.bd
  have h255 := h.hi
  have hlo := h.lo
  have := rise_len c S
  rw [← hk] at this ⊢
  exact prev_any w p b _ _ D hT (by omega) (by omega) col
theorem cols_ts (w : World) (p b c : Nat) (S : Int → Bool) (h : TS w p b c S) : Calls Try.prog 18 #[.pointer (some ⟨p, 0, none⟩)] w fun e w' => e = .returned (.int .i64 c) ∧ w' = w := by
  obtain ⟨D, hT, hS⟩ := h.ob
  exact cols_any w p b _ _ D hT
end Go.Proofs.Ytpjodppcedkneaa
