/- tabs: the library's functions: ContainsFunc, maps.Clone, maps.DeleteFunc; Put. -/
import Derived.Test.YtpjodppcedkneaaTA
import Derived.Shelf.SlicesE.IndexFunc
import Derived.Shelf.SlMaps.Clone
import Derived.Shelf.SlMaps.DeleteFunc
import Derived.Ground.SlgfProg
namespace Go.Proofs.Ytpjodppcedkneaa
open Go.RowKit Go.Maps Go.Sort Go.Shelf
set_option linter.unusedVariables false
set_option linter.unusedSimpArgs false
set_option maxRecDepth 100000
def Try.containsA_ren : Go.Shelf.Ren := ⟨fun | 8 => 26 | 6 => 41 | n => n, fun | 22 => 22 | 23 => 3 | 25 => 63 | 4 => 4 | 3 => 3 | 0 => 0 | n => n, fun | n => n⟩
theorem Try.containsA : Go.Proofs.SlLaysH.n8 Try.prog Try.containsA_ren := {
  mixed := by kernel_rfl
  f6 := ⟨Try.f41.name, by decide, Try.func41.trans (congrArg some (by kernel_rfl))⟩
  f8 := ⟨Try.f26.name, by decide, Try.func26.trans (congrArg some (by kernel_rfl))⟩
  t0 := Try.underlying0
  a0 := Try.isAgg0
  z0 := Try.sizeOf0
  v0 := Try.zeroValue0
  t3 := Try.underlying3
  a3 := Try.isAgg3
  z3 := Try.sizeOf3
  v3 := Try.zeroValue3
  t4 := Try.underlying4
  a4 := Try.isAgg4
  z4 := Try.sizeOf4
  v4 := Try.zeroValue4
  t22 := Try.underlying22
  a22 := Try.isAgg22
  z22 := Try.sizeOf22
  v22 := Try.zeroValue22
  a23 := Try.isAgg3
  z23 := Try.sizeOf3
  t25 := Try.underlying63
  a25 := Try.isAgg63
  z25 := Try.sizeOf63
  v25 := Try.zeroValue63 }
def Try.cloneA_ren : Go.Shelf.Ren := ⟨fun | 5 => 35 | 7 => 44 | n => n, fun | 23 => 53 | 25 => 3 | 3 => 57 | 4 => 4 | 20 => 20 | n => n, fun | n => n⟩
theorem Try.cloneA : Go.Proofs.SlLaysW.n5 Try.prog Try.cloneA_ren := {
  mixed := by kernel_rfl
  f5 := ⟨Try.f35.name, by decide, Try.func35.trans (congrArg some (by kernel_rfl))⟩
  f7 := Try.func44.trans (congrArg some (by kernel_rfl))
  t4 := Try.underlying4
  a4 := Try.isAgg4
  z4 := Try.sizeOf4
  v4 := Try.zeroValue4
  t20 := Try.underlying20
  a20 := Try.isAgg20
  z20 := Try.sizeOf20
  v20 := Try.zeroValue20
  t23 := Try.underlying53
  a23 := Try.isAgg53
  z23 := Try.sizeOf53
  v23 := Try.zeroValue53 }
theorem bad_any (w : World) (p b Bx : Nat) (c : Nat) (S : Int → Bool) (h : TS w p b c S) (hx : w.cell? ⟨Bx, 0, none⟩ = some (.pointer (some ⟨p, 0, none⟩))) (x : Int) :
    Calls Try.prog 27 #[.int .i64 x, .pointer (some ⟨Bx, 0, none⟩)] w fun e w' => e = .returned (.bool (decide (x < 0 ∨ (c : Int) ≤ x))) ∧ ∃ q, w' = w.drewN q := by
  obtain ⟨D, hT, _⟩ := h.ob
  have k0 := hT.c0
  clear h hT
  by_cases h1 : x < 0
  · rw [show decide (x < 0 ∨ (c : Int) ≤ x) = true by simp [h1]]
    go_enter Try.func27, Try.ntmps27
    go_wp2_with fail
    go_ret
    exact ⟨rfl, 0, rfl⟩
  · by_cases h2 : (c : Int) ≤ x
    · rw [show decide (x < 0 ∨ (c : Int) ≤ x) = true by simp [h2]]
      go_enter Try.func27, Try.ntmps27
      go_wp2_with fail
      go_ret
      exact ⟨rfl, 0, rfl⟩
    · rw [show decide (x < 0 ∨ (c : Int) ≤ x) = false by simp [h1, h2] <;> omega]
      have h3 : ¬ x < 0 := h1
      have h4 : ¬ (c : Int) ≤ x := h2
      go_enter Try.func27, Try.ntmps27
      go_wp2_with fail
      go_ret
      exact ⟨rfl, 0, rfl⟩
/-- Whether one of the columns is not there. -/
def anyBad (c : Nat) (L : List Int) : Bool := L.any fun x => decide (x < 0 ∨ (c : Int) ≤ x)
theorem contains_any (w : World) (p b Bx : Nat) (c : Nat) (S : Int → Bool) (h : TS w p b c S) (hx : w.cell? ⟨Bx, 0, none⟩ = some (.pointer (some ⟨p, 0, none⟩))) (v : Value) (L : List Int) (hL : IntsAt w v L) (hl : L.length ≤ 100000) :
    Calls Try.prog 26 #[v, .func (.func 27) #[] #[.pointer (some ⟨Bx, 0, none⟩)]] w fun e w' => e = .returned (.bool (anyBad c L)) ∧ ∃ q, w' = w.drewN q := by
  obtain ⟨ad, cap, rfl, hc⟩ := hL
  by_cases h0 : 0 < L.length
  · obtain ⟨g, off, rfl, hg, hcc⟩ := hc h0
    have hcon := AnyE.slices_ContainsFunc Try.containsA (Value.int .i64) (fun x => decide (x < 0 ∨ (c : Int) ≤ x)) 27 #[.pointer (some ⟨Bx, 0, none⟩)] (enters_of Try.func27 (by kernel_rfl) rfl) g off L.length cap L w
      (fun W x hb => bad_any W p b Bx c S (h.later hb) (cellB hb hx) x) (Nat.le_refl _) (by omega) (fun j hj => by rw [hcc j hj, getElem!_pos L j hj])
    rw [List.take_length] at hcon
    exact hcon
  · have : L = [] := List.eq_nil_of_length_eq_zero (by omega)
    subst this
    refine (AnyE.slices_ContainsFunc_empty Try.containsA ad cap _ w).mono ?_
    rintro e w' ⟨rfl, rfl⟩
    exact ⟨rfl, 0, rfl⟩
theorem anyBad_none {c : Nat} {L : List Int} (h : anyBad c L = false) : ∀ x ∈ L, 0 ≤ x ∧ x < (c : Int) := by
  intro x hx
  have := List.any_eq_false.1 h x hx
  simp at this
  omega
theorem mem_take_step (L : List Int) (k : Nat) (h : k < L.length) (x : Int) : x ∈ L.take (k + 1) ↔ x ∈ L.take k ∨ x = L[k] := by
  rw [List.take_succ_eq_append_getElem h, List.mem_append, List.mem_singleton]
/-- S behind a Put. -/
def putS (on : Bool) (L : List Int) (S : Int → Bool) : Int → Bool := fun x => if x ∈ L then on else S x
/-- The map in the midst of a Put. -/
def MS (W : World) (b c : Nat) (S : Int → Bool) : Prop := ∃ D, OwnS W b 300 D ∧ ∀ x, Maps.has D (.int .i64 x) = S x
theorem ms_of {W : World} {b c n : Nat} {S : Int → Bool} {D : Set3} (h : OwnS W b n D) (hS : ∀ x, Maps.has D (.int .i64 x) = S x) (hhi : c ≤ 255) (hbd : ∀ x, S x = true → 0 ≤ x ∧ x < (c : Int)) : MS W b c S :=
  ⟨D, h.renorm (Nat.le_trans (size_rise h hS hbd) (by omega)), hS⟩
theorem ms_put {W W' : World} {b c : Nat} {S : Int → Bool} {D : Set3} {L : List Int} {k : Nat} (hD : Maps.IsMap D) (hS : ∀ x, Maps.has D (.int .i64 x) = putS true (L.take k) S x) (hk : k < L.length) (hhi : c ≤ 255) (hbd : ∀ x, S x = true → 0 ≤ x ∧ x < (c : Int)) (hL : ∀ x ∈ L, 0 ≤ x ∧ x < (c : Int))
    (hown : OwnS W' b 301 (D.put (.int .i64 L[k]) (.agg []))) : MS W' b c (putS true (L.take (k + 1)) S) := by
  refine ms_of hown (fun x => ?_) hhi (fun x hx => ?_)
  · unfold putS
    by_cases e : x = L[k]
    · subst e
      rw [Maps.has_put_same hD (show WideAt.IsKeyLit (.int .i64 L[k]) from trivial), if_pos ((mem_take_step L k hk _).2 (.inr rfl))]
    · rw [Maps.has_put_other (fun h => e (by simpa using h)), hS]
      unfold putS
      by_cases h2 : x ∈ L.take k
      · rw [if_pos h2, if_pos ((mem_take_step L k hk _).2 (.inl h2))]
      · rw [if_neg h2, if_neg (fun h => by rcases (mem_take_step L k hk _).1 h with h | h; exact h2 h; exact e h)]
  · unfold putS at hx
    split at hx
    · rename_i h; exact hL x (List.mem_of_mem_take h)
    · exact hbd x hx
theorem ms_del {W W' : World} {b c : Nat} {S : Int → Bool} {D : Set3} {L : List Int} {k : Nat} (hS : ∀ x, Maps.has D (.int .i64 x) = putS false (L.take k) S x) (hk : k < L.length) (hhi : c ≤ 255) (hbd : ∀ x, S x = true → 0 ≤ x ∧ x < (c : Int))
    (hown : OwnS W' b 300 (D.del (.int .i64 L[k]))) : MS W' b c (putS false (L.take (k + 1)) S) := by
  refine ms_of hown (fun x => ?_) hhi (fun x hx => ?_)
  · unfold putS
    by_cases e : x = L[k]
    · subst e
      rw [Maps.has_del_same, if_pos ((mem_take_step L k hk _).2 (.inr rfl))]
    · rw [Maps.has_del_other (fun h => e (by simpa using h)), hS]
      unfold putS
      by_cases h2 : x ∈ L.take k
      · rw [if_pos h2, if_pos ((mem_take_step L k hk _).2 (.inl h2))]
      · rw [if_neg h2, if_neg (fun h => by rcases (mem_take_step L k hk _).1 h with h | h; exact h2 h; exact e h)]
  · unfold putS at hx
    split at hx
    · cases hx
    · exact hbd x hx
end Go.Proofs.Ytpjodppcedkneaa
