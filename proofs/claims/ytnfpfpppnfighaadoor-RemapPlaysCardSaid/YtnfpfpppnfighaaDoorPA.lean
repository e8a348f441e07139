/- remap: the document's map, plain: a list of entries in the codes' order. -/
import Derived.Test.YtnfpfpppnfighaaDoorSG
namespace Go.Proofs.YtnfpfpppnfighaaDoor
open Go.Shelf Go.RowKit Go.Maps Go.Lib
set_option linter.unusedVariables false
set_option linter.unusedSimpArgs false
structure EntD where
  num : Bool
  n : Int
  text : List UInt8
deriving Inhabited
def entOf (m : MF) (c : CodeD) : Option EntD := (m c.e c.n).map fun t => ⟨c.e, c.n, t⟩
def entsOver (C : List CodeD) (m : MF) : List EntD := C.filterMap (entOf m)
/-- A map's entries, in order. -/
def ents (m : MF) : List EntD := entsOver allC m
def cd (x : EntD) : CodeD := ⟨x.num, x.n⟩
def aheadB (c d : CodeD) : Bool := if c.e ≠ d.e then d.e else decide (c.n < d.n)
def refStep (c : CodeD) (t : List UInt8) (s : List EntD × Bool) (x : EntD) : List EntD × Bool :=
  if x.num = c.e ∧ x.n = c.n then s else if s.2 = false ∧ aheadB c (cd x) = true then (s.1 ++ [⟨c.e, c.n, t⟩] ++ [x], true) else (s.1 ++ [x], s.2)
def refFin (c : CodeD) (t : List UInt8) (s : List EntD × Bool) : List EntD := if s.2 then s.1 else s.1 ++ [⟨c.e, c.n, t⟩]
def refPut (c : CodeD) (t : List UInt8) (L : List EntD) : List EntD := refFin c t (L.foldl (refStep c t) ([], t.isEmpty))
theorem entsOver_nil (m : MF) : entsOver [] m = [] := rfl
theorem entsOver_none {m : MF} {d : CodeD} {C : List CodeD} (h : m d.e d.n = none) : entsOver (d :: C) m = entsOver C m := by
  unfold entsOver; rw [List.filterMap_cons]; simp [entOf, h]
theorem entsOver_some {m : MF} {d : CodeD} {C : List CodeD} {t : List UInt8} (h : m d.e d.n = some t) : entsOver (d :: C) m = ⟨d.e, d.n, t⟩ :: entsOver C m := by
  unfold entsOver; rw [List.filterMap_cons]; simp [entOf, h]
theorem put_same (m : MF) (c : CodeD) (v : Option (List UInt8)) : (m.put c.e c.n v) c.e c.n = v := by unfold MF.put; rw [if_pos ⟨rfl, rfl⟩]
theorem put_other (m : MF) {c d : CodeD} (h : d ≠ c) (v : Option (List UInt8)) : (m.put c.e c.n v) d.e d.n = m d.e d.n := by
  unfold MF.put
  rw [if_neg]
  rintro ⟨h1, h2⟩
  exact h (by cases d; cases c; simp_all)
theorem entsOver_put {C : List CodeD} {c : CodeD} (h : c ∉ C) (m : MF) (v : Option (List UInt8)) : entsOver C (m.put c.e c.n v) = entsOver C m := by
  induction C with
  | nil => rfl
  | cons d C ih =>
    have hd : d ≠ c := fun e => h (by simp [e])
    have hC : c ∉ C := fun e => h (by simp [e])
    cases hv : m d.e d.n with
    | none => rw [entsOver_none hv, entsOver_none ((put_other m hd v).trans hv), ih hC]
    | some t => rw [entsOver_some hv, entsOver_some ((put_other m hd v).trans hv), ih hC]
theorem cd_ne {d c : CodeD} (h : d ≠ c) : ¬ (d.e = c.e ∧ d.n = c.n) := fun ⟨h1, h2⟩ => h (by cases d; cases c; simp_all)
theorem fold_true (c : CodeD) (t : List UInt8) (m : MF) : ∀ (C : List CodeD) (acc : List EntD), (entsOver C m).foldl (refStep c t) (acc, true) = (acc ++ entsOver C (m.put c.e c.n none), true)
  | [], acc => by simp [entsOver_nil]
  | d :: C, acc => by
    by_cases hd : d = c
    · subst hd
      rw [entsOver_none (put_same m d none)]
      cases hv : m d.e d.n with
      | none => rw [entsOver_none hv]; exact fold_true d t m C acc
      | some s =>
        rw [entsOver_some hv, List.foldl_cons, show refStep d t (acc, true) ⟨d.e, d.n, s⟩ = (acc, true) by unfold refStep; rw [if_pos ⟨rfl, rfl⟩]]
        exact fold_true d t m C acc
    · cases hv : m d.e d.n with
      | none => rw [entsOver_none hv, entsOver_none ((put_other m hd none).trans hv)]; exact fold_true c t m C acc
      | some s =>
        rw [entsOver_some hv, entsOver_some ((put_other m hd none).trans hv), List.foldl_cons, show refStep c t (acc, true) ⟨d.e, d.n, s⟩ = (acc ++ [⟨d.e, d.n, s⟩], true) by unfold refStep; rw [if_neg (cd_ne hd), if_neg (by simp)], fold_true c t m C]
        simp
theorem fold_rest (c : CodeD) (t : List UInt8) (m : MF) : ∀ (C : List CodeD) (acc : List EntD), c ∉ C → (∀ d ∈ C, aheadB c d = true) → refFin c t ((entsOver C m).foldl (refStep c t) (acc, false)) = acc ++ ⟨c.e, c.n, t⟩ :: entsOver C m
  | [], acc, _, _ => by simp [entsOver_nil, refFin]
  | d :: C, acc, hc, ha => by
    have hd : d ≠ c := fun e => hc (by simp [e])
    have hC : c ∉ C := fun e => hc (by simp [e])
    cases hv : m d.e d.n with
    | none => rw [entsOver_none hv]; exact fold_rest c t m C acc hC (fun x hx => ha x (by simp [hx]))
    | some s =>
      rw [entsOver_some hv, List.foldl_cons, show refStep c t (acc, false) ⟨d.e, d.n, s⟩ = (acc ++ [⟨c.e, c.n, t⟩] ++ [⟨d.e, d.n, s⟩], true) by unfold refStep; rw [if_neg (cd_ne hd), if_pos ⟨rfl, ha d (by simp)⟩], fold_true, entsOver_put hC]
      simp [refFin]
theorem ahead_asym {c d : CodeD} (h : aheadB d c = true) : aheadB c d = false := by
  unfold aheadB at *
  rcases c with ⟨_ | _, a⟩ <;> rcases d with ⟨_ | _, b⟩ <;> simp_all <;> omega
theorem fold_false (c : CodeD) (t : List UInt8) (m : MF) : ∀ (C : List CodeD) (acc : List EntD), C.Pairwise (fun x y => aheadB x y = true) → C.Nodup → c ∈ C →
    refFin c t ((entsOver C m).foldl (refStep c t) (acc, false)) = acc ++ entsOver C (m.put c.e c.n (some t))
  | [], acc, _, _, hc => by cases hc
  | d :: C, acc, hp, hn, hc => by
    rw [List.pairwise_cons] at hp
    rw [List.nodup_cons] at hn
    by_cases hd : d = c
    · subst hd
      rw [entsOver_some (put_same m d (some t)), entsOver_put hn.1]
      cases hv : m d.e d.n with
      | none => rw [entsOver_none hv]; exact fold_rest d t m C acc hn.1 hp.1
      | some s =>
        rw [entsOver_some hv, List.foldl_cons, show refStep d t (acc, false) ⟨d.e, d.n, s⟩ = (acc, false) by unfold refStep; rw [if_pos ⟨rfl, rfl⟩]]
        exact fold_rest d t m C acc hn.1 hp.1
    · have hcC : c ∈ C := by
        rcases List.mem_cons.1 hc with h | h
        · exact absurd h.symm hd
        · exact h
      have hah := ahead_asym (hp.1 c hcC)
      cases hv : m d.e d.n with
      | none => rw [entsOver_none hv, entsOver_none ((put_other m hd _).trans hv)]; exact fold_false c t m C acc hp.2 hn.2 hcC
      | some s =>
        have hst : refStep c t (acc, false) ⟨d.e, d.n, s⟩ = (acc ++ [⟨d.e, d.n, s⟩], false) := by
          unfold refStep
          rw [if_neg (cd_ne hd), if_neg]
          rintro ⟨_, h⟩
          have : aheadB c (cd ⟨d.e, d.n, s⟩) = aheadB c d := rfl
          rw [this, hah] at h
          cases h
        rw [entsOver_some hv, entsOver_some ((put_other m hd _).trans hv), List.foldl_cons, hst, fold_false c t m C _ hp.2 hn.2 hcC]
        simp
theorem ahead_all : allC.Pairwise (fun x y => aheadB x y = true) := by
  unfold allC
  rw [List.pairwise_map]
  refine List.pairwise_lt_range.imp_of_mem fun {a b} ha hb hlt => ?_
  rw [List.mem_range] at ha hb
  unfold aheadB codeAt
  simp
  by_cases h1 : 256 ≤ a
  · have h2 : 256 ≤ b := by omega
    simp [h1, h2]
    omega
  · by_cases h2 : 256 ≤ b
    · simp [h1, h2]
    · simp [h1, h2]
      omega
/-- What the document's Set leaves. -/
theorem refPut_ents (m : MF) (c : CodeD) (t : List UInt8) (hc : mayB c.e c.n = true) : refPut c t (ents m) = ents (m.put c.e c.n (if t = [] then none else some t)) := by
  unfold refPut ents
  by_cases ht : t = []
  · subst ht
    rw [if_pos rfl, show ([] : List UInt8).isEmpty = true from rfl, fold_true]
    simp [refFin]
  · rw [if_neg ht, show t.isEmpty = false by simpa using ht, fold_false c t m allC [] ahead_all nodup_all (mem_all hc)]
    simp
def usedS : List EntD → Nat
  | [] => 0
  | x :: l => 3 + x.text.length + usedS l
theorem usedS_append (a b : List EntD) : usedS (a ++ b) = usedS a + usedS b := by
  induction a with
  | nil => simp [usedS]
  | cons x a ih => rw [List.cons_append]; simp only [usedS]; rw [ih]; omega
theorem usedS_range (m : MF) (k : Nat) : usedS (entsOver ((List.range k).map codeAt) m) = sumTo (at512 m) k := by
  induction k with
  | zero => rfl
  | succ k ih =>
    rw [List.range_succ, List.map_append]
    have : entsOver ((List.range k).map codeAt ++ [k].map codeAt) m = entsOver ((List.range k).map codeAt) m ++ entsOver ([k].map codeAt) m := by unfold entsOver; rw [List.filterMap_append]
    rw [this, usedS_append, ih]
    simp only [sumTo]
    congr 1
    have hk : at512 m k = costO (m (codeAt k).e (codeAt k).n) := rfl
    rw [hk]
    show usedS (entsOver [codeAt k] m) = _
    cases hv : m (codeAt k).e (codeAt k).n with
    | none => rw [entsOver_none hv, entsOver_nil]; rfl
    | some t => rw [entsOver_some hv, entsOver_nil]; simp [usedS, costO]
theorem usedS_ents (m : MF) : usedS (ents m) = tot m := usedS_range m 512
theorem ents_map (m : MF) : ents m = (ksOf m).map fun c => ⟨c.e, c.n, (m c.e c.n).getD []⟩ := by
  unfold ents ksOf
  generalize allC = C
  induction C with
  | nil => rfl
  | cons d C ih =>
    cases hv : m d.e d.n with
    | none => rw [entsOver_none hv, ih, List.filter_cons_of_neg (by simp [hv])]
    | some t => rw [entsOver_some hv, ih, List.filter_cons_of_pos (by simp [hv]), List.map_cons]; simp [hv]
theorem ents_mem {m : MF} {x : EntD} (h : x ∈ ents m) : m x.num x.n = some x.text := by
  unfold ents entsOver at h
  rw [List.mem_filterMap] at h
  obtain ⟨c, _, hc⟩ := h
  unfold entOf at hc
  cases hv : m c.e c.n with
  | none => rw [hv] at hc; cases hc
  | some t =>
    rw [hv] at hc
    simp at hc
    subst hc
    exact hv
theorem ents_has {m : MF} (hd : Dom m) {c : CodeD} {t : List UInt8} (h : m c.e c.n = some t) : (⟨c.e, c.n, t⟩ : EntD) ∈ ents m := by
  unfold ents entsOver
  rw [List.mem_filterMap]
  exact ⟨c, mem_all (hd _ _ (by rw [h]; rfl)), by unfold entOf; rw [h]; rfl⟩
theorem ents_len (m : MF) : (ents m).length ≤ 512 := by rw [ents_map, List.length_map]; exact len_ks m
theorem ents_none : ents (fun _ _ => none) = [] := by rw [ents_map]; decide +kernel
theorem dom_put {m : MF} (h : Dom m) {e : Bool} {n : Int} (hc : mayB e n = true) (v : Option (List UInt8)) : Dom (m.put e n v) := by
  intro e' n' hs
  unfold MF.put at hs
  by_cases hx : e' = e ∧ n' = n
  · obtain ⟨rfl, rfl⟩ := hx; exact hc
  · rw [if_neg hx] at hs; exact h _ _ hs
theorem setM_dom {most : Int} {m : MF} (h : Dom m) (e : Bool) (n : Int) (s : List UInt8) : Dom (setM most m e n s) := by
  unfold setM
  split
  · next hc =>
    split
    · exact dom_put h hc _
    · split
      · exact h
      · exact dom_put h hc _
  · exact h
end Go.Proofs.YtnfpfpppnfighaaDoor
