/- remap: slices.SortedFunc over maps.Keys: the codes, in their order. -/
import Derived.Test.YtnfpfpppnfighaaDoorSC
namespace Go.Proofs.YtnfpfpppnfighaaDoor
open Go.Shelf Go.RowKit Go.Maps Go.Lib
set_option linter.unusedVariables false
set_option linter.unusedSimpArgs false
set_option maxRecDepth 100000
/-- Codes that lie in a slice. -/
def CodesAt (W : World) (base : Nat) (v : Value) (L : List CodeD) : Prop := ∃ ad cap, v = .slice ad L.length cap ∧ (0 < L.length → ∃ g, ad = some ⟨g, 0, none⟩ ∧ base ≤ g ∧ ∀ i (hi : i < L.length), W.cell? ⟨g, i * 2, none⟩ = some (.bool L[i].e) ∧ W.cell? ⟨g, i * 2 + 1, none⟩ = some (.int .i64 L[i].n))
/-- What keeps the cells from B on keeps them. -/
def KeepsCells (B : Nat) (X X' : World) : Prop := X.heap.size ≤ X'.heap.size ∧ ∀ (k : Nat) (o : Obj), B ≤ k → X.heap[k]? = some o → o.isCells = true → X'.heap[k]? = some o
theorem CodesAt.keep {W W' : World} {B base : Nat} {v : Value} {L : List CodeD} (h : CodesAt W base v L) (hB : B ≤ base) (hk : KeepsCells B W W') : CodesAt W' base v L := by
  obtain ⟨ad, cap, hv, hx⟩ := h
  refine ⟨ad, cap, hv, fun h0 => ?_⟩
  obtain ⟨g, ha, hg, hc⟩ := hx h0
  refine ⟨g, ha, hg, fun i hi => ?_⟩
  obtain ⟨c0, c1⟩ := hc i hi
  obtain ⟨o, ho, hoc⟩ := cells_of_cell c0
  have e : W'.heap[g]? = W.heap[g]? := (hk.2 g o (Nat.le_trans hB hg) ho hoc).trans ho.symm
  exact ⟨(World.cell?_of_block e).trans c0, (World.cell?_of_block e).trans c1⟩
theorem keepsC_below {B : Nat} {W W' : World} (h : Below W.heap.size W W') : KeepsCells B W W' := ⟨h.size, fun k o _ hk _ => (h.block k (Array.getElem?_eq_some_iff.1 hk).1).trans hk⟩
theorem CodesAt.later {W W' : World} {base : Nat} {v : Value} {L : List CodeD} (h : CodesAt W base v L) (hb : Below W.heap.size W W') : CodesAt W' base v L := h.keep (Nat.le_refl _) (keepsC_below hb)
theorem ecells_get {L : List CodeD} {i : Nat} (h : i < L.length) : (L.flatMap enc2)[i * 2]? = some (.bool L[i].e) ∧ (L.flatMap enc2)[i * 2 + 1]? = some (.int .i64 L[i].n) := by
  induction L generalizing i with
  | nil => simp at h
  | cons x l ih =>
    cases i with
    | zero => simp [enc2]
    | succ i =>
      have := ih (i := i) (by simpa using h)
      simp only [List.flatMap_cons, enc2, List.getElem_cons_succ]
      rw [show (i + 1) * 2 = i * 2 + 2 by omega]
      simpa using this
theorem flat_get (L : List CodeD) (i : Nat) (h : i < L.length) : (Go.Sort.flatK enc2 2 L.toArray)[i * 2]! = .bool L[i].e ∧ (Go.Sort.flatK enc2 2 L.toArray)[i * 2 + 1]! = .int .i64 L[i].n := by
  have e1 : i * 2 / 2 = i := by omega
  have e2 : (i * 2 + 1) / 2 = i := by omega
  have e3 : i * 2 % 2 = 0 := by omega
  have e4 : (i * 2 + 1) % 2 = 1 := by omega
  rw [Go.Sort.get_flatK _ _ _ _ (by simp; omega), Go.Sort.get_flatK _ _ _ _ (by simp; omega), e1, e2, e3, e4]
  simp [enc2, h]
/-- What a slice of the call's own holds, for the sort. -/
theorem own_holds {W : World} {base : Nat} {v : Value} {L : List CodeD} (h : OwnC W base v L) (h0 : 0 < L.length) : ∃ g cap, v = .slice (some ⟨g, 0, none⟩) L.length cap ∧ base ≤ g ∧ g < W.heap.size ∧ Go.Sort.HoldsK enc2 2 W g 0 L.toArray := by
  rcases h.2 with ⟨_, h1⟩ | ⟨g, cap, cur, hv, hg, hh, hc, hm, hsz, ht⟩
  · omega
  · refine ⟨g, cap, hv, hg, (Array.getElem?_eq_some_iff.1 hh).1, ?_⟩
    intro j hj
    rw [Go.Sort.size_flatK] at hj
    have hj' : j < L.length * 2 := by simpa using hj
    refine ⟨?_, Lib.frozen_of_heap hh _⟩
    rw [Nat.zero_add]
    have hi : j / 2 < L.length := by omega
    obtain ⟨k0, k1⟩ := ecells_get hi
    obtain ⟨f0, f1⟩ := flat_get L (j / 2) hi
    rw [← ht, List.getElem?_take] at k0 k1
    rw [if_pos (by omega)] at k0 k1
    simp only [Array.getElem?_toList] at k0 k1
    rcases Nat.mod_two_eq_zero_or_one j with h2 | h2
    · have e : j / 2 * 2 = j := by omega
      rw [e] at f0 k0
      simp [World.cell?, hh, k0, f0]
    · have e : j / 2 * 2 + 1 = j := by omega
      rw [e] at f1 k1
      simp [World.cell?, hh, k1, f1]
theorem codes_of_holds {W : World} {g cap : Nat} {L : List CodeD} (h : Go.Sort.HoldsK enc2 2 W g 0 L.toArray) {base : Nat} (hg : base ≤ g) : CodesAt W base (.slice (some ⟨g, 0, none⟩) L.length cap) L := by
  refine ⟨_, cap, rfl, fun h0 => ⟨g, rfl, hg, fun i hi => ?_⟩⟩
  obtain ⟨f0, f1⟩ := flat_get L i hi
  have h1 := (h (i * 2) (by rw [Go.Sort.size_flatK]; simp; omega)).1
  have h2 := (h (i * 2 + 1) (by rw [Go.Sort.size_flatK]; simp; omega)).1
  rw [Nat.zero_add, f0] at h1
  rw [Nat.zero_add, f1] at h2
  exact ⟨h1, h2⟩
theorem sortW_below {B : Nat} {w w3 : World} {g n : Nat} {d : Array CodeD} {os : Array Obj} (hb : Below B w w3) (hB : B ≤ w3.heap.size) (hg : B ≤ g) : Below B w (sortWorldK enc2 2 w3 g 0 n d os) := by
  refine hb.trans ⟨rfl, rfl, rfl, Go.Proofs.size_sortWorldK_c _ _ _ _ _ _ _ _, fun k hk => ?_⟩
  unfold sortWorldK Go.Sort.putRowK Go.Sort.putRow Go.Sort.mapBlock Go.Sort.grow
  simp only [Go.Sort.ahead]
  rw [Array.getElem?_append, if_pos (by rw [Array.size_modify]; omega), Array.getElem?_modify, if_neg (by omega)]
set_option maxHeartbeats 1000000 in
theorem collect_any (w : World) (Bm b nn : Nat) (m : MF) (hd : Dom m) (hm : w.cell? ⟨Bm, 0, none⟩ = some (.map (some b))) (hown : MapT w b nn m) :
    Calls Tryd.prog 47 #[.func (.func 49) #[] #[.pointer (some ⟨Bm, 0, none⟩)]] w fun e w' => ∃ v ss, e = .returned v ∧ ss.Perm (ksOf m) ∧ OwnC w' w.heap.size v ss ∧ Below w.heap.size w w' := by
  have H := Lib.hid (apseq_any w Bm b nn m hd hm hown)
  clear hd hm hown
  go_enter Tryd.func47, Tryd.ntmps47
  go_wp2_with fail
  refine H.out.mono ?_
  rintro e w1 ⟨v, ss, rfl, h1, h2, h3⟩
  have HR := Lib.hid (And.intro h1 (And.intro h2 h3))
  clear h1 h2 h3
  go_wp2_with fail
  go_ret
  exact ⟨v, ss, rfl, HR.out⟩
set_option maxHeartbeats 1000000 in
/-- slices.SortedFunc(maps.Keys(m), order). -/
theorem sortedf_any (w : World) (Bm b nn : Nat) (m : MF) (hd : Dom m) (hm : w.cell? ⟨Bm, 0, none⟩ = some (.map (some b))) (hown : MapT w b nn m) :
    Calls Tryd.prog 39 #[.func (.func 49) #[] #[.pointer (some ⟨Bm, 0, none⟩)], .func (.func 41) #[] #[]] w fun e w' => ∃ v, e = .returned v ∧ CodesAt w' w.heap.size v (ksOf m) ∧ Below w.heap.size w w' := by
  have H := Lib.hid (collect_any w Bm b nn m hd hm hown)
  clear hd hm hown
  go_enter Tryd.func39, Tryd.ntmps39
  go_wp2_with fail
  refine H.out.mono ?_
  rintro e w1 ⟨v, ss, rfl, hp, ho, hb⟩
  by_cases h0 : 0 < ss.length
  · obtain ⟨g, cap, rfl, hg, hgl, hh⟩ := own_holds ho h0
    have HSo := Lib.hid (sortf_any g cap ss m hp w1 hh hgl)
    have HE := Lib.hid (show ∀ n os, CodesAt (sortWorldK enc2 2 w1 g 0 n (ksOf m).toArray os) w.heap.size (.slice (some ⟨g, 0, none⟩) ss.length cap) (ksOf m) ∧ Below w.heap.size w (sortWorldK enc2 2 w1 g 0 n (ksOf m).toArray os) from fun n os => by
      refine ⟨?_, sortW_below hb hb.size hg⟩
      rw [hp.length_eq]
      exact codes_of_holds (Go.Proofs.holdsK_sortWorldK_c _ _ _ _ _ _ _ _ _ hh hgl (by simp [hp.length_eq])) hg)
    clear hp ho hb hg hgl hh h0
    go_wp2_with fail
    refine HSo.out.mono ?_
    rintro e w2 ⟨rfl, n, os, rfl⟩
    go_wp2_with fail
    go_ret
    exact ⟨_, rfl, HE.out n os⟩
  · have h00 : ss = [] := by cases ss with
      | nil => rfl
      | cons x l => simp at h0
    subst h00
    have hks : ksOf m = [] := hp.symm.eq_nil
    have hv : ∃ ad cap, v = .slice ad 0 cap := by
      rcases ho.2 with ⟨rfl, _⟩ | ⟨g, cap, cur, hv, _⟩
      · exact ⟨none, 0, rfl⟩
      · exact ⟨_, cap, hv⟩
    obtain ⟨ad, cap, rfl⟩ := hv
    have HSo := Lib.hid (fun fv => sortf_none ad cap fv w1)
    have HE := Lib.hid (show CodesAt w1 w.heap.size (.slice ad 0 cap) (ksOf m) ∧ Below w.heap.size w w1 from ⟨by rw [hks]; exact ⟨ad, cap, rfl, fun h => by simp at h⟩, hb⟩)
    clear hp ho hb h0 hks
    go_wp2_with fail
    refine (HSo.out _).mono ?_
    rintro e w2 ⟨rfl, rfl⟩
    go_wp2_with fail
    go_ret
    exact ⟨_, rfl, HE.out⟩
end Go.Proofs.YtnfpfpppnfighaaDoor
