/- A region that draws, in a round of a range over a function: where no operation defers, the round's fence asks no more than the function's. -/
import Derived.Test.YtnfpfpppnfighaaDoorPD
namespace Go.Proofs.YtnfpfpppnfighaaDoor
open Go
set_option linter.unusedVariables false
section
variable {n : Nat} {P : Program} {ops : Array Oper} {Q : Exit → Act → World → Prop} {md : Region.Mode}
def NoDefer (ops : Array Oper) : Prop := ∀ (i : Nat) (o : Oper), ops[i]? = some o → ∀ c, o.op ≠ .defer c
theorem wpOpIn_round {l i : Nat} {a : Act} {w : World} {K K' : Act → World → Prop} (hnd : NoDefer ops) (h : ∀ a w, K a w → K' a w)
    (hh : wpOpIn Fence.wide n P ops Q i K a w) : wpOpIn (Fence.wide.inRound l) n P ops Q i K' a w := by
  unfold wpOpIn at *
  split
  · exact h _ _ (by simpa [*] using hh)
  · rename_i o ho
    simp only [ho] at hh
    split
    · rename_i hw
      simp only [hw, if_true] at hh
      unfold Oper.wpIn at *
      refine ⟨hh.1, ?_⟩
      have hh := hh.2
      have e1 : o.semAt (Fence.wide.inRound l).round a.eval = o.semAt Fence.wide.round a.eval := by
        rw [Oper.semAt_plain _ _ _ (hnd i o ho), Oper.semAt_plain _ _ _ (hnd i o ho)]
      rw [e1]
      generalize (o.semAt Fence.wide.round a.eval).run P w = r at *
      cases r with
      | ok x w' =>
        cases x <;> simp only [Oper.uponIn] at hh ⊢ <;>
          first
            | exact h _ _ hh
            | exact ⟨hh.1, CallsIn.inRound l (CallsIn.mono hh.2 (fun e w'' he => by cases e <;> first | exact h _ _ he | exact he))⟩
            | exact ⟨hh.1, RowsIn.mono hh.2 (fun _ _ he => h _ _ he)⟩
            | exact ⟨hh.1, RoundIn.mono hh.2 (fun e w'' he => by cases e <;> first | exact h _ _ he | exact he)⟩
      | halt x w' => cases x <;> simp only [Oper.uponIn] at hh ⊢ <;> exact hh
    · rename_i hw; simp only [hw] at hh; exact ⟨hh.1, h _ _ hh.2⟩
theorem wpAnyIn_round {l : Nat} (hnd : NoDefer ops) : ∀ (fuel : Nat) (listed : Array Bool) (a : Act) (w : World), wpAnyIn Fence.wide n P md ops Q fuel listed a w → wpAnyIn (Fence.wide.inRound l) n P md ops Q fuel listed a w
  | 0, _, _, _, h => h
  | fuel + 1, _, _, _, h => ⟨h.1, fun i hi => wpOpIn_round hnd (fun a' w' => wpAnyIn_round hnd fuel _ a' w') (h.2 i hi)⟩
theorem noDefer_of {L : List Oper} (h : (L.all fun o => match o.op with | .defer _ => false | _ => true) = true) : NoDefer L.toArray := by
  intro i o ho c hc
  have hm : o ∈ L := List.mem_of_getElem? (by simpa using ho)
  have := List.all_eq_true.1 h o hm
  rw [hc] at this
  cases this
theorem wpIn_region_quiet_round {l id : Nat} {a : Act} {w : World} {L : List Oper} (hm : P.follows .mixedOrders = true) (hB : Region.lexB .any L.toArray = true) (hnd : (L.all fun o => match o.op with | .defer _ => false | _ => true) = true)
    (h : wpQuietIn Fence.wide n P L.toArray (fun w' => ∃ n, w' = w.drewN n) (fun a' => ∀ w', (∃ n, w' = w.drewN n) → Q .normal a' w') L a) : (Code.region id L.toArray true).wpIn (Fence.wide.inRound l) n P Q a w := by
  have hB' := hB
  simp only [Region.lexB, Bool.and_eq_true] at hB'
  refine wpIn_region_any hm (wpAnyIn_round (noDefer_of hnd) _ _ _ _ (wpAnyIn_of_quiet (C := fun w' => ∃ n, w' = w.drewN n) (Q := fun a' => ∀ w', (∃ n, w' = w.drewN n) → Q .normal a' w') rfl (fun _ w' hw' h => h w' hw') _ _ _ _ ⟨1, rfl⟩ ?_))
  have := wpAnyQIn_lex (F := Fence.wide) (n := n) (C := fun w' => ∃ n, w' = w.drewN n) (md := .any) hB'.1 L.toArray.toList 0 (Array.replicate L.toArray.size false) a (by simp) (by simpa using hB'.2) (by simpa using h)
  simpa using this
end
/-- Only the ordinary end. -/
def OnlyNormal (Q : Exit → Act → World → Prop) : Exit → Act → World → Prop
  | .normal, a, w => Q .normal a w
  | _, _, _ => False
theorem wp_only {P : Program} {c : Code} {Q : Exit → Act → World → Prop} {a : Act} {w : World} (h : c.wp P (OnlyNormal Q) a w) : c.wp P Q a w :=
  wpIn_wide (n := 0).1 (wpIn_mono (wpIn_wide.2 h) (fun e a w hq => by cases e <;> first | exact hq | exact hq.elim))
end Go.Proofs.YtnfpfpppnfighaaDoor
