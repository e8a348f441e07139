/- FieldTabs: the law's walk. -/
import Derived.Test.YtooikmialpfdkaaFQ
namespace Go.Proofs.Ytooikmialpfdkaa
open Go.RowKit
set_option linter.unusedVariables false
set_option linter.unusedSimpArgs false
set_option maxRecDepth 100000
set_option maxHeartbeats 4000000
theorem tabs_few (G : Grid) (W : World) (h : G.In W.heap.size W) (hf : ¬ G.Few) : Fn W 7 #[G.v] (.bool true) := by
  have HF : ∀ w, Below W.heap.size W w → Fn w 9 #[G.v] (.bool false) := fun w hw => by
    have := few_any G w (h.later hw hw.size)
    rwa [not_fewB hf] at this
  have HA : ∀ w, Fn w 11 #[] (.bool true) := awake_any
  unfold Fn at *
  unfold Grid.v at *
  have HF' := Lib.hid HF
  have HA' := Lib.hid HA
  clear HF HA h hf
  go_enter Try.func7, Try.ntmps7
  go_wp2_with fail
  refine (HF'.out _ (Below.refl _ _)).mono ?_
  rintro e w1 ⟨rfl, hb1⟩
  go_wp2_with fail
  refine (HA'.out _).mono ?_
  rintro e w2 ⟨rfl, hb2⟩
  go_wp2
  go_ret
  exact ⟨rfl, bel_call hb1 hb2⟩
theorem tabs_not (G : Grid) (W : World) (h : G.In W.heap.size W) (hf : G.Few) (hok : ¬ G.Ok) : Fn W 7 #[G.v] (.bool true) := by
  have HF : ∀ w, Below W.heap.size W w → Fn w 9 #[G.v] (.bool true) := fun w hw => by
    have := few_any G w (h.later hw hw.size)
    rwa [fewB_yes hf] at this
  have HR : ∀ w, Below W.heap.size W w → Fn w 17 #[G.v] (.bool false) := fun w hw => by
    have := right_any G w (h.later hw hw.size)
    rwa [not_okB hok] at this
  have HA : ∀ w, Fn w 11 #[] (.bool true) := awake_any
  unfold Fn at *
  unfold Grid.v at *
  have HF' := Lib.hid HF
  have HR' := Lib.hid HR
  have HA' := Lib.hid HA
  clear HF HR HA h hf hok
  go_enter Try.func7, Try.ntmps7
  go_wp2_with fail
  refine (HF'.out _ (Below.refl _ _)).mono ?_
  rintro e w1 ⟨rfl, hb1⟩
  go_wp2_with fail
  refine (HR'.out _ hb1).mono ?_
  rintro e w2 ⟨rfl, hb2⟩
  have B2 := bel_call hb1 hb2
  go_wp2_with fail
  refine (HA'.out _).mono ?_
  rintro e w3 ⟨rfl, hb3⟩
  go_wp2
  go_ret
  exact ⟨rfl, bel_call B2 hb3⟩
set_option maxHeartbeats 16000000 in
theorem tabs_main (G : Grid) (W : World) (h : G.In W.heap.size W) (hf : G.Few) (hok : G.Ok) : Fn W 7 #[G.v] (.bool true) := by
  have HF : ∀ w, Below W.heap.size W w → Fn w 9 #[G.v] (.bool true) := fun w hw => by
    have := few_any G w (h.later hw hw.size)
    rwa [fewB_yes hf] at this
  have HR : ∀ w, Below W.heap.size W w → Fn w 17 #[G.v] (.bool true) := fun w hw => by
    have := right_any G w (h.later hw hw.size)
    rwa [okB_yes hok] at this
  have HA : ∀ w, Fn w 11 #[] (.bool true) := awake_any
  have hl2 := few_len hf
  have H1 : ∀ w, Below W.heap.size W w → Calls Try.prog 14 #[G.v] w fun e w' => ∃ v, e = .returned (.tuple #[v, .bool true]) ∧ OwnF 39 w' w.heap.size v (fieldsOf G) ∧ Below w.heap.size w w' := fun w hw => fields_law G w (h.later hw hw.size) (by omega)
  have H2 : ∀ (r c : Int) w, Below W.heap.size W w → Fn w 21 #[G.v, posV r c] (tabV (tabOf G r c)) := fun r c w hw => tab_any G r c w (h.later hw hw.size)
  obtain ⟨n1, n2, hgood⟩ := id hok
  obtain ⟨m1, m2, _⟩ := hgood 0 n1
  have hp0 : tabPos G (fieldsOf G) 0 = (G.n - 1, G.len 0 - 1) := by simp [tabPos]
  have htab := fun (h0 : 0 < (fieldsOf G).length) (k : Nat) (hk : k ≤ (fieldsOf G).length) => tab_pos hok (L := fieldsOf G) rfl h0 hk
  have hnil := fun (h0 : (fieldsOf G).length = 0) (r c : Int) => tab_nil (G := G) (L := fieldsOf G) rfl h0 r c
  have hpos : ∀ (h0 : 0 < (fieldsOf G).length) (k : Nat), tabPos G (fieldsOf G) (k + 1) = (((fieldsOf G)[k % (fieldsOf G).length]'(Nat.mod_lt _ h0)).1, ((fieldsOf G)[k % (fieldsOf G).length]'(Nat.mod_lt _ h0)).2.1) := fun h0 k => by
    unfold tabPos
    rw [if_neg (by omega), Nat.add_sub_cancel, List.getElem?_eq_getElem (Nat.mod_lt _ h0)]
  unfold Fn posV at *
  unfold Grid.v at *
  obtain ⟨b, off, ea, hb, hc⟩ := h.rows n1
  obtain ⟨rb, ro, er, hrb, hcc⟩ := h.cells 0 n1 (by omega)
  have cr := hc 0 n1
  rw [er, Nat.add_zero] at cr
  have crA := Lib.hid (show ∀ w, Below W.heap.size W w → w.cell? ⟨b, off, none⟩ = some (.slice (some ⟨rb, ro, none⟩) (G.len 0) (G.rc 0)) from fun w hw => (hw.cell (p := ⟨b, off, none⟩) hb).trans cr)
  rw [ea] at HF HR H1 H2 ⊢
  generalize fieldsOf G = L at *
  have HF' := Lib.hid HF
  have HR' := Lib.hid HR
  have HA' := Lib.hid HA
  have H1' := Lib.hid H1
  have H2' := Lib.hid H2
  have Htab := Lib.hid htab
  have Hnil := Lib.hid hnil
  have Hpos := Lib.hid hpos
  have Hp0 := Lib.hid hp0
  clear HF HR HA H1 H2 h hf hok ea hc hgood cr hcc er hrb hb htab hnil hpos hp0
  go_enter Try.func7, Try.ntmps7
  go_wp2_with fail
  refine (HF'.out _ (Below.refl _ _)).mono ?_
  rintro e w1 ⟨rfl, hb1⟩
  go_wp2_with fail
  refine (HR'.out _ hb1).mono ?_
  rintro e w2 ⟨rfl, hb2⟩
  have B2 := bel_call hb1 hb2
  go_wp2_with fail
  refine (H1'.out _ B2).mono ?_
  rintro e w3 ⟨v1, rfl, ho1, hb3⟩
  obtain ⟨a1, c1, rfl, hr1⟩ := ho1.view
  have B3 := Lib.hid (bel_call B2 hb3)
  have HR1 := Lib.hid hr1
  have cr := crA.out _ B3.out
  clear hb1 hb2 hb3 ho1 hr1 B2
  obtain ⟨n, hn⟩ : ∃ n, L.length = n := ⟨_, rfl⟩
  rw [hn] at hl2 ⊢
  have HN1 := Lib.hid hn
  clear hn
  have n0 : 0 < G.n := n1
  have n0' : (0 : Int) < (G.n : Int) := by omega
  have p1 : IntKind.i64.wrap ((G.n : Int) - 1) = (G.n : Int) - 1 := IntWalk.i64_in _ (by omega)
  have p2 : IntKind.i64.wrap ((G.len 0 : Int) - 1) = (G.len 0 : Int) - 1 := IntWalk.i64_in _ (by omega)
  go_wp2_with fail
  go_loopw [6] (fun i wr => ∃ k : Nat, k ≤ n + 1 ∧ i = .int .i64 (k : Int) ∧ (n = 0 → k = 0) ∧ (wr.cell? ⟨w3.heap.size, 0, none⟩ = some (.int .i64 ((tabPos G L k).1 : Int)) ∧ wr.cell? ⟨w3.heap.size, 1, none⟩ = some (.int .i64 ((tabPos G L k).2 : Int)) ∧ wr.frozen? ⟨w3.heap.size, 0, none⟩ = false ∧ wr.frozen? ⟨w3.heap.size, 1, none⟩ = false) ∧ Below w3.heap.size w3 wr ∧ w3.heap.size < wr.heap.size) (fun i _ => n + 1 - (intOf i).toNat)
  case atStart =>
    refine ⟨0, by omega, rfl, fun _ => rfl, ?_, bel_alloc (Below.refl _ _) _, by simp⟩
    rw [Hp0.out]
    rw [show ((G.n - 1 : Nat) : Int) = (G.n : Int) - 1 by omega, show ((G.len 0 - 1 : Nat) : Int) = (G.len 0 : Int) - 1 by omega]
    simp [go_sem]
  case round =>
    obtain ⟨k, hk, rfl, hk0, ⟨k0, k1, k2, k3⟩, hbr, hlt⟩ := hrel
    clear cr
    have Br := B3.out.trans (hbr.mono B3.out.size)
    have Hbr := Lib.hid hbr
    have HBr := Lib.hid Br
    have Hlt := Lib.hid hlt
    clear hbr Br hlt
    by_cases hkn : k ≤ n
    · have q0 : (k : Int) ≤ (n : Int) := by omega
      by_cases hn0 : n = 0
      · have hk00 := hk0 hn0
        subst hk00
        have e := Hnil.out (by rw [HN1.out]; exact hn0) ((tabPos G L 0).1 : Int) ((tabPos G L 0).2 : Int)
        have H2c := H2'.out ((tabPos G L 0).1 : Int) ((tabPos G L 0).2 : Int) wr HBr.out
        rw [e] at H2c
        unfold tabV posV at H2c
        have H2d := Lib.hid H2c
        subst hn0
        clear e H2c
        go_wp2_with fail
        refine H2d.out.mono ?_
        rintro e w4 ⟨rfl, hb4⟩
        have B4 := bel_call HBr.out hb4
        go_wp2_with fail
        refine (HA'.out _).mono ?_
        rintro e w5 ⟨rfl, hb5⟩
        go_wp2_with fail
        go_ret
        exact ⟨rfl, bel_call (bel_alloc B4 _) hb5⟩
      · have hL0 : 0 < L.length := by rw [HN1.out]; omega
        have e := Htab.out hL0 k (by rw [HN1.out]; exact hkn)
        have hps := Hpos.out hL0 k
        have H2c := H2'.out ((tabPos G L k).1 : Int) ((tabPos G L k).2 : Int) wr HBr.out
        rw [e] at H2c
        unfold tabV posV at H2c
        obtain ⟨g1, rfl, _, hg1, hc1⟩ := HR1.out hL0
        obtain ⟨d0, d1, d2⟩ := hc1 (k % L.length) (Nat.mod_lt _ hL0)
        have hmod : k % L.length < n := by rw [← HN1.out]; exact Nat.mod_lt _ hL0
        have ht : (k : Int).tmod (n : Int) = ((k % L.length : Nat) : Int) := by rw [HN1.out]; rfl
        simp only at H2c
        have d0' := (Hbr.out.cell (p := ⟨g1, (k % L.length) * 3, none⟩) hg1).trans d0
        have d1' := (Hbr.out.cell (p := ⟨g1, (k % L.length) * 3 + 1, none⟩) hg1).trans d1
        have d2' := (Hbr.out.cell (p := ⟨g1, (k % L.length) * 3 + 2, none⟩) hg1).trans d2
        clear d0 d1 d2 hc1 e
        generalize ((L[k % L.length]'(Nat.mod_lt _ hL0)).1) = x0 at *
        generalize ((L[k % L.length]'(Nat.mod_lt _ hL0)).2.1) = x1 at *
        generalize ((L[k % L.length]'(Nat.mod_lt _ hL0)).2.2) = x2 at *
        generalize k % L.length = m at *
        have H2d := Lib.hid H2c
        have Hps := Lib.hid hps
        clear H2c hps
        have hn3 : ¬ (n : Int) = 0 := by omega
        have hm1 : (m : Int) < (n : Int) := by omega
        go_wp2_with fail
        refine H2d.out.mono ?_
        rintro e w4 ⟨rfl, hb4⟩
        have B4 := bel_call HBr.out hb4
        have b4 := Hbr.out.trans (hb4.mono Hbr.out.size)
        have hs4 : w3.heap.size < w4.heap.size := Nat.lt_of_lt_of_le Hlt.out hb4.size
        have z0 := (hb4.cell (p := ⟨w3.heap.size, 0, none⟩) Hlt.out).trans k0
        have z1 := (hb4.cell (p := ⟨w3.heap.size, 1, none⟩) Hlt.out).trans k1
        have z2 := (hb4.frozen (p := ⟨w3.heap.size, 0, none⟩) Hlt.out).trans k2
        have z3 := (hb4.frozen (p := ⟨w3.heap.size, 1, none⟩) Hlt.out).trans k3
        have e0 := (hb4.cell (p := ⟨g1, m * 3, none⟩) (Nat.lt_of_lt_of_le hg1 Hbr.out.size)).trans d0'
        have e1 := (hb4.cell (p := ⟨g1, m * 3 + 1, none⟩) (Nat.lt_of_lt_of_le hg1 Hbr.out.size)).trans d1'
        have e2 := (hb4.cell (p := ⟨g1, m * 3 + 2, none⟩) (Nat.lt_of_lt_of_le hg1 Hbr.out.size)).trans d2'
        have hg4 : g1 < w4.heap.size := Nat.lt_of_lt_of_le (Nat.lt_of_lt_of_le hg1 Hbr.out.size) hb4.size
        obtain ⟨y0, y1⟩ := res2 (W := w4) (b := w3.heap.size) (.int .i64 (x0 : Int)) (.int .i64 (x1 : Int)) z0 z1
        obtain ⟨w5, hw5⟩ : ∃ w5, (w4.setCell ⟨w3.heap.size, 0, none⟩ (.int .i64 (x0 : Int))).setCell ⟨w3.heap.size, 1, none⟩ (.int .i64 (x1 : Int)) = w5 := ⟨_, rfl⟩
        have b5 : Below w3.heap.size w3 w5 := by rw [← hw5]; exact (b4.setCell (p := ⟨w3.heap.size, 0, none⟩) (Nat.le_refl _) _).setCell (p := ⟨w3.heap.size, 1, none⟩) (Nat.le_refl _) _
        have y2 : w5.frozen? ⟨w3.heap.size, 0, none⟩ = false := by rw [← hw5]; simp [go_sem, z2]
        have y3 : w5.frozen? ⟨w3.heap.size, 1, none⟩ = false := by rw [← hw5]; simp [go_sem, z3]
        have hs5 : w5.heap.size = w4.heap.size := by rw [← hw5]; simp [World.setCell]
        rw [hw5] at y0 y1
        have hl5 : w3.heap.size < w5.heap.size := by omega
        have R := Lib.hid (show (w5.cell? ⟨w3.heap.size, 0, none⟩ = some (.int .i64 (x0 : Int)) ∧ w5.cell? ⟨w3.heap.size, 1, none⟩ = some (.int .i64 (x1 : Int)) ∧ w5.frozen? ⟨w3.heap.size, 0, none⟩ = false ∧ w5.frozen? ⟨w3.heap.size, 1, none⟩ = false) ∧ Below w3.heap.size w3 w5 ∧ w3.heap.size < w5.heap.size from ⟨⟨y0, y1, y2, y3⟩, b5, hl5⟩)
        have HW5 := Lib.hid hw5
        clear y0 y1 y2 y3 b5 hl5 hs5 hw5
        go_wp2_with fail
        go_roundw
        case rel =>
          rw [HW5.out]
          obtain ⟨⟨y0, y1, y2, y3⟩, b5, hl5⟩ := R.out
          refine ⟨k + 1, by omega, by go_num, fun h => absurd h hn0, ?_, (b5.alloc b5.size _).alloc ((b5.alloc b5.size _).size) _, by simp; omega⟩
          rw [Hps.out]
          have A := fun (o o' : Obj) (i : Nat) => (World.cell?_alloc_lt (w5.alloc o) o' ⟨w3.heap.size, i, none⟩ (by simp; omega)).trans (World.cell?_alloc_lt w5 o ⟨w3.heap.size, i, none⟩ hl5)
          have Af := fun (o o' : Obj) (i : Nat) => (bel_alloc (bel_alloc (Below.refl _ w5) o) o').frozen (p := ⟨w3.heap.size, i, none⟩) hl5
          exact ⟨(A _ _ 0).trans y0, (A _ _ 1).trans y1, (Af _ _ 0).trans y2, (Af _ _ 1).trans y3⟩
        case measure => simp [intOf]; omega
    · have q0 : ¬ (k : Int) ≤ (n : Int) := by omega
      go_wp2_with fail
      refine (HA'.out _).mono ?_
      rintro e w5 ⟨rfl, hb5⟩
      go_wp2_with fail
      go_ret
      exact ⟨rfl, bel_call HBr.out hb5⟩
theorem tabs_walk (G : Grid) (W : World) (h : G.In W.heap.size W) : Fn W 7 #[G.v] (.bool true) := by
  by_cases hf : G.Few
  · by_cases hok : G.Ok
    · exact tabs_main G W h hf hok
    · exact tabs_not G W h hf hok
  · exact tabs_few G W h hf
end Go.Proofs.Ytooikmialpfdkaa
