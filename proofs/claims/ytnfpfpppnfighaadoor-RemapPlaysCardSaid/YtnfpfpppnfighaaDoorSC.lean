/- remap: slices.AppendSeq, Collect, SortedFunc over maps.Keys. -/
import Derived.Test.YtnfpfpppnfighaaDoorSA
import Derived.Test.YtnfpfpppnfighaaDoorSR
import Derived.Shelf.SlIter.Collect
namespace Go.Proofs.YtnfpfpppnfighaaDoor
open Go.Shelf Go.RowKit Go.Maps Go.Sort Go.Lib
set_option linter.unusedVariables false
set_option linter.unusedSimpArgs false
set_option maxRecDepth 100000
attribute [local go_sem] Oper.semAt_some
/-- A slice of codes of the call's own. -/
def OwnC (w : World) (base : Nat) (v : Value) (L : List CodeD) : Prop := w.ownsRow base 24 2 v L.length (L.flatMap enc2)
theorem info24 : (Tryd.prog.info? 24).map (fun i => (i.zero, i.size, i.bytes)) = some (some (.agg #[.bool false, .int .i64 0]), 2, 16) := by kernel_rfl
theorem OwnC.nil (w : World) (base : Nat) : OwnC w base (.slice none 0 0) [] := World.ownsRow_nil _ _ _ _
theorem OwnC.own {w : World} {base : Nat} {v : Value} {L : List CodeD} (h : OwnC w base v L) {k : Nat} (hk : v.ownBlock = some k) : base ≤ k ∧ ∃ cs, w.heap[k]? = some (.cells cs 24 (0, 0)) := by
  rcases h.2 with ⟨rfl, _⟩ | ⟨g, cap, cur, rfl, hg, hgb, _⟩
  · simp [Value.ownBlock] at hk
  · simp [Value.ownBlock] at hk
    subst hk
    exact ⟨hg, _, hgb⟩
theorem OwnC.blocks {w w' : World} {base : Nat} {v : Value} {L : List CodeD} (h : OwnC w base v L) (hb : ∀ k, v.ownBlock = some k → w'.heap[k]? = w.heap[k]?) : OwnC w' base v L := by
  obtain ⟨h1, h2⟩ := h
  refine ⟨h1, ?_⟩
  rcases h2 with h2 | ⟨g, cap, cur, hv, hg, hh, r⟩
  · exact .inl h2
  · exact .inr ⟨g, cap, cur, hv, hg, (hb g (by rw [hv]; rfl)).trans hh, r⟩
theorem OwnC.call {w w' : World} {base : Nat} {v : Value} {L : List CodeD} (h : OwnC w base v L) (hb : Below w.heap.size w w') : OwnC w' base v L :=
  h.blocks fun k hk => by
    obtain ⟨_, cs, hc⟩ := h.own hk
    exact hb.block k (Array.getElem?_eq_some_iff.1 hc).1
/-- Steps that turn no cells keep it. -/
theorem OwnC.steps {w w' : World} {base : Nat} {v : Value} {L : List CodeD} {row : Option Nat} (h : OwnC w base v L) (hg : w.grownBy w' row) (hr : ∀ r, row = some r → ∃ o : Obj, w.heap[r]? = some o ∧ o.isCells = false) : OwnC w' base v L :=
  h.blocks fun k hk => by
    obtain ⟨_, cs, hc⟩ := h.own hk
    exact grownBy_keeps_cells hg hr hc rfl
/-- What lies in the box of AppendSeq between two rounds. -/
def BoxC (w : World) (Bs : Nat) (L : List CodeD) (W : World) : Prop := (∃ v, W.heap[Bs]? = some (.cells #[v] 89 (0, 0)) ∧ OwnC W w.heap.size v L) ∧ Below w.heap.size w W
theorem BoxC.steps {w W W' : World} {Bs B : Nat} {L : List CodeD} {row : Option Nat} (h : BoxC w Bs L W) (hB : w.heap.size ≤ B) (hg : W.grownBy W' row) (hr : ∀ r, row = some r → B ≤ r ∧ ∃ o : Obj, W.heap[r]? = some o ∧ o.isCells = false) : BoxC w Bs L W' := by
  obtain ⟨⟨v, h1, h2⟩, h3⟩ := h
  exact ⟨⟨v, (grownBy_keeps_cells hg (fun r e => (hr r e).2) h1 rfl).trans h1, h2.steps hg (fun r e => (hr r e).2)⟩, h3.grown hg h3.size (fun k e => Nat.le_trans hB (hr k e).1)⟩
theorem enc2_cells (W : World) (x : CodeD) (j : Nat) (u : Value) (h : (enc2 x)[j]? = some u) : (W.alloc (.cells #[.bool x.e, .int .i64 x.n] 24)).cell? ((⟨W.heap.size, 0, none⟩ : Addr).add j) = some u := by
  have hj2 : j < 2 := by
    have := (List.getElem?_eq_some_iff.1 h).1
    simpa [enc2] using this
  have h3 : j = 0 ∨ j = 1 := by omega
  rcases h3 with rfl | rfl <;> (simp [enc2] at h; subst h; simp [go_sem, Addr.add])
/-- A step that turns cells alone. -/
theorem others_of {W W' : World} {row : Option Nat} (hg : W.grownBy W' row) (hr : ∀ r, row = some r → ∃ cs e, W.heap[r]? = some (.cells cs e (0, 0))) : KeepsOthers W W' :=
  ⟨hg.size, fun k o hk ho => (hg.block k (Array.getElem?_eq_some_iff.1 hk).1 (fun e => by
    obtain ⟨cs, t, hc⟩ := hr k e.symm
    rw [hk] at hc
    cases hc
    cases ho)).trans hk⟩
theorem walks_of {W W' : World} (h : KeepsOthers W W') : KeepsWalks W W' := ⟨h.size, fun k o hk hw => h.same k o hk (walk_no_cells hw)⟩
theorem others_trans {W W1 W2 : World} (h : KeepsOthers W W1) (k : KeepsOthers W1 W2) : KeepsOthers W W2 := ⟨Nat.le_trans h.size k.size, fun i o hi ho => k.same i o (h.same i o hi ho) ho⟩
set_option maxHeartbeats 2000000 in
theorem apseq_any (w : World) (Bm b nn : Nat) (m : MF) (hd : Dom m) (hm : w.cell? ⟨Bm, 0, none⟩ = some (.map (some b))) (hown : MapT w b nn m) :
    Calls Tryd.prog 55 #[.slice none 0 0, .func (.func 49) #[] #[.pointer (some ⟨Bm, 0, none⟩)]] w fun e w' => ∃ v ss, e = .returned v ∧ ss.Perm (ksOf m) ∧ OwnC w' w.heap.size v ss ∧ Below w.heap.size w w' := by
  refine (callsIn_wide (n := 3)).1 (callsIn_of_wp_marks Tryd.func55 rfl trivial ?_ rfl)
  simp only [Tryd.ntmps55, List.size_toArray, List.length_cons, List.length_nil, Nat.reduceAdd, Nat.reduceSub, Array.replicate_succ, Array.replicate_zero, List.push_toArray, List.append_toArray, List.nil_append, List.cons_append]
  have hB0 : Below w.heap.size w (w.alloc (.cells #[.slice none 0 0] 89)) := bel_alloc (Below.refl _ _) _
  have HM := Lib.hid (And.intro hm hown)
  have HD := Lib.hid hd
  clear hm hown hd
  gi_wp2
  obtain ⟨W0, hW0⟩ : ∃ W0, w.alloc (.cells #[.slice none 0 0] 89) = W0 := ⟨_, rfl⟩
  have hs0 : W0.heap.size = w.heap.size + 1 := by rw [← hW0]; simp
  have hv0 : W0.heap[w.heap.size]? = some (.cells #[.slice none 0 0] 89 (0, 0)) := by rw [← hW0]; exact World.alloc_heap_new w _
  rw [hW0] at hB0 ⊢
  clear hW0
  have HB0 := Lib.hid hB0
  have HV0 := Lib.hid hv0
  have HS0 := Lib.hid hs0
  obtain ⟨Bs, hBs⟩ : ∃ Bs, w.heap.size = Bs := ⟨_, rfl⟩
  have HBs := Lib.hid hBs
  clear hB0 hv0 hs0
  rw [hBs] at HV0 HS0 ⊢
  clear hBs
  refine range_law (n := 2) (m := 1) (gf := 49) (lb := #[.pointer (some ⟨Bm, 0, none⟩)]) rfl (enters_of Tryd.func49 (by kernel_rfl) rfl) (encs := fun x => #[encC x]) (fun _ => rfl)
    (S := fun xs => xs.Perm (ksOf m)) (Sp := fun _ => True) (V := fun _ _ => True) (N := 512) (Kp := KeepsWalks) (fun h k => h.trans k) (fun W l o o' _ h1 _ h3 => KeepsWalks.putObj _ h1 h3)
    (fun pre W => BoxC w Bs pre W ∧ pre.length ≤ 512 + 512) (fun _ _ _ => False) ?hI ?hIx ⟨⟨⟨_, HV0.out, OwnC.nil _ _⟩, HB0.out⟩, by simp⟩
    (fun x a' W => ∃ p, a' = { tmps := #[.slice none 0 0, .func (.func 49) #[] #[.pointer (some ⟨Bm, 0, none⟩)], .pointer (some ⟨Bs, 0, none⟩), undef, .slice none 0 0, .pointer (some ⟨p, 0, none⟩), .func (.func 49) #[] #[.pointer (some ⟨Bm, 0, none⟩)], .agg #[.bool x.e, .int .i64 x.n], undef, undef, undef, undef, undef], defers := [] } ∧ W.cell? ⟨p, 0, none⟩ = some (.bool x.e) ∧ W.cell? ⟨p, 1, none⟩ = some (.int .i64 x.n))
    ?hAx ?hit ?assign ?body ?done ?stop
  case hI => exact fun s W W' row h hg hr => ⟨h.1.steps (by rw [HS0.out, HBs.out]; omega) hg hr, h.2⟩
  case hIx => exact fun c s W W' row h hg hr => h
  case hAx =>
    rintro x a' _ W W' row ⟨p, e, k0, k1⟩ hg hr
    exact ⟨p, e, cell_kept k0 hg (fun r e => (hr r e).2), cell_kept k1 hg (fun r e => (hr r e).2)⟩
  case hit =>
    rintro W1 ⟨o, o', _, _, rfl⟩ hI0 l J Jx hJ0 _ hJa hJI hY
    have hb : Below W0.heap.size W0 ((W0.alloc o).alloc o') := bel_alloc (bel_alloc (Below.refl _ _) o) o'
    have hbw : Below w.heap.size w ((W0.alloc o).alloc o') := bel_call HB0.out hb
    refine (keysC_in 2 (by decide) l Bm b nn m HD.out J Jx (fun pre x W hJ hl => ?_) _ (fun s W W' row h hg hr => hJa s W W' row h hg (fun r e => ⟨Nat.le_trans hb.size (hr r e).1, (hr r e).2⟩)) (cellB hbw HM.out.1) (HM.out.2.kept (hbw.block b HM.out.2.lt)) hJ0).mono ?_
    · obtain ⟨fn, tmps, assign, body, hy, hR⟩ := hY pre x W hJ hl trivial
      exact ⟨fn, tmps, assign, body, hy, hR⟩
    · rintro e W' ⟨hv, h⟩
      refine ⟨hv, ?_⟩
      rcases h with ⟨ss, h1, h2⟩ | ⟨pre, h⟩
      · exact .inl ⟨ss, h1, h2⟩
      · exact .inr ⟨pre, trivial, h⟩
  case assign =>
    rintro l pre x W K hI hK
    simp only [encC, codeV]
    have hg := World.grownBy_alloc W (.cells #[.bool x.e, .int .i64 x.n] 24) none
    have hA := hK _ _ (keepsB (bel_alloc (Below.refl W.heap.size W) (.cells #[.bool x.e, .int .i64 x.n] 24))) (KeepsWalks.alloc _ _) ⟨hI.1.steps (Nat.le_refl _) hg (fun r e => by cases e), hI.2⟩ ⟨W.heap.size, rfl, by simp [go_sem], by simp [go_sem]⟩
    gi_wp2
    exact hA
  case body =>
    rintro l pre x a' W hI ⟨p, rfl, k0, k1⟩ hlen _
    obtain ⟨⟨⟨v, hv, hrow⟩, hbl⟩, -⟩ := hI
    obtain ⟨c0, cf⟩ := cell_of_box_a hv
    obtain ⟨i0, hi, hz0, hz1, hz2⟩ := info_parts info24
    have hlt := (Array.getElem?_eq_some_iff.1 hv).1
    have HO := Lib.hid hrow
    have HV := Lib.hid hv
    have Hbl := Lib.hid hbl
    clear hrow hbl
    gi_wp2_with (first
      | (gi_at_builtin; refine wpListIn_append_own _ rfl _ _ 89 rfl w.heap.size 24 i0 (.agg #[.bool false, .int .i64 0]) 2 16 Tryd.underlying89 hi hz0 hz1 hz2 rfl (by decide) _ _ _ rfl (World.ownsRow.alloc HO.out _) ⟨W.heap.size, 0, none⟩ 1 1 (enc2 x) rfl rfl (enc2_cells W x) (by simp [enc2, Value.oneCell']) (by unfold maxLen; omega) (by omega) (by have := Hbl.out.size; simp; omega) ?_
         intro v' w3 hown' hg3 hn3
         have hv3 : w3.heap[Bs]? = some (.cells #[v] 89 (0, 0)) := (hg3.block Bs (by simp; omega) (fun e => by
           obtain ⟨_, cs, hc⟩ := HO.out.own e.symm
           rw [HV.out] at hc
           simp at hc)).trans ((Below.heap_alloc _ _ Bs hlt).trans HV.out)
         obtain ⟨c3, cf3⟩ := cell_of_box_a hv3
         obtain ⟨g', cap', rfl⟩ : ∃ g' cap', v' = .slice (some ⟨g', 0, none⟩) (pre.length + 1) cap' := by
           rcases hown'.2 with ⟨_, h0⟩ | ⟨g, cap, cur, hv, _⟩
           · exact absurd h0 (by omega)
           · exact ⟨g, cap, hv⟩
         have HOwn := Lib.hid hown'
         have HG3 := Lib.hid (show (W.alloc (.cells #[.bool x.e, .int .i64 x.n] 24)).grownBy w3 v.ownBlock from hg3)
         have HV3 := Lib.hid hv3
         clear hown' hg3 hn3 hv3
         go_frame)
      | gi_in)
    obtain ⟨v2, hv2⟩ : ∃ v2, Value.slice (some ⟨g', 0, none⟩) (pre.length + 1) cap' = v2 := ⟨_, rfl⟩
    rw [hv2] at HOwn ⊢
    clear hv2
    have hA : W.grownBy (W.alloc (.cells #[.bool x.e, .int .i64 x.n] 24)) none := World.grownBy_alloc _ _ _
    have hS : w3.grownBy (w3.setCell ⟨Bs, 0, none⟩ v2) (some Bs) := grownBy_setCell0_a _ _ _
    have hKo : KeepsOthers W (w3.setCell ⟨Bs, 0, none⟩ v2) := others_trans (others_trans (others_of hA (fun r e => by cases e)) (others_of HG3.out (fun r e => by
      obtain ⟨_, cs, hc⟩ := HO.out.own e
      exact ⟨cs, 24, (Below.heap_alloc _ _ r (Array.getElem?_eq_some_iff.1 hc).1).trans hc⟩))) (others_of hS (fun r e => by cases e; exact ⟨_, _, HV3.out⟩))
    have hrow4 : OwnC (w3.setCell ⟨Bs, 0, none⟩ v2) w.heap.size v2 (pre ++ [x]) := by
      have h1 : OwnC w3 w.heap.size v2 (pre ++ [x]) := by unfold OwnC; simpa using HOwn.out
      refine h1.blocks fun k hk => Below.heap_setCell _ _ _ _ (fun e => ?_)
      obtain ⟨_, cs, hc⟩ := h1.own hk
      have : k = Bs := e
      subst this
      rw [HV3.out] at hc
      simp at hc
    have hb4 : RowKit.Below w.heap.size w (w3.setCell ⟨Bs, 0, none⟩ v2) := ((Hbl.out.grown hA Hbl.out.size (fun k e => by cases e)).grown HG3.out (by have := Hbl.out.size; simp; omega) (fun k e => (HO.out.own e).1)).setCell (p := ⟨Bs, 0, none⟩) (by rw [HBs.out]; exact Nat.le_refl _) _
    exact ⟨hKo.from _, walks_of hKo, ⟨⟨_, heap_setCell_box_a _ HV3.out, hrow4⟩, hb4⟩, by simp; omega⟩
  case done =>
    rintro D xs W hD hp hI hK
    obtain ⟨⟨⟨v, hv, hrow⟩, hbl⟩, -⟩ := hI
    obtain ⟨c0, cf⟩ := cell_of_box_a hv
    have HO := Lib.hid hrow
    have Hbl := Lib.hid hbl
    have HK := Lib.hid hK
    have HP := Lib.hid hp
    clear hv hrow hbl hK hp
    gi_wp2
    refine ⟨by simp, .inl ⟨_, _, rfl, run_takeDeferred HK.out, ?_⟩⟩
    have hg := grownBy_putObj' W D (.deferred none)
    exact ⟨_, results_tmp rfl _ _ _, v, xs, rfl, HP.out, HO.out.steps hg (fun r e => by cases e; exact ⟨_, HK.out, rfl⟩), Hbl.out.grown hg Hbl.out.size (fun k e => by cases e; have h1 := HS0.out; have h2 := HBs.out; omega)⟩
  case stop =>
    rintro D c pre W hD _ hF hK
    exact hF.elim
end Go.Proofs.YtnfpfpppnfighaaDoor
