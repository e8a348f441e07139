/- RemapNil: the law's walk. -/
import Derived.Test.YtnfpfpppnfighaaDoorSF
import Derived.Test.YtnfpfpppnfighaaDoorRP
namespace Go.Proofs.YtnfpfpppnfighaaDoor
open Go.Shelf Go.RowKit Go.Maps Go.Lib
set_option linter.unusedVariables false
set_option linter.unusedSimpArgs false
set_option maxRecDepth 100000
attribute [local go_sem] Oper.semAt_some
theorem Chg.steps {w W W' : World} {X : List Nat} {row : Option Nat} (h : Chg w W X) (hg : W.grownBy W' row) (hr : ∀ r, row = some r → w.heap.size ≤ r) : Chg w W' X :=
  ⟨hg.os.trans h.os, hg.tape.trans h.tape, hg.output.trans h.output, Nat.le_trans h.size hg.size, fun k hk hX => (hg.block k (Nat.lt_of_lt_of_le hk h.size) (fun e => by have := hr k e.symm; omega)).trans (h.block k hk hX)⟩
theorem gen_tmps {c : Code} {F : Fence} {n : Nat} {P : Program} {Q : Exit → Act → World → Prop} {a : Act} {w : World} (h : ∀ T, T = a.tmps → c.wpIn F n P Q { tmps := T, defers := a.defers } w) : c.wpIn F n P Q a w := h a.tmps rfl
theorem Chg.cellsB {w W W' : World} {X : List Nat} (h : Chg w W X) (hb : Below W.heap.size W W') : Chg w W' X := h.trans (Chg.of_below hb)
def mOne : MF := MF.put (fun _ _ => none) false 1 (some [97])
theorem tot_none : tot (fun _ _ => none) = 0 := by decide +kernel
theorem set_one (W : World) (base p b : Nat) (h : MObj W base p b 0 4096 (fun _ _ => none) false) :
    Calls Tryd.prog 18 #[.pointer (some ⟨p, 0, none⟩), .agg #[.bool false, .int .i64 1], .string ⟨#[97]⟩] W fun r w' => (∃ v, r = .returned (.int .i64 v)) ∧ (∃ N', N' ≤ 1 ∧ MObj w' base p b N' 4096 mOne false) ∧ TO p b W w' := by
  obtain ⟨e1, e2, e3⟩ := set_roomy (fun _ _ => none) false ⟨0, false, 1, [97]⟩ 0 (by omega) (by rw [tot_none]; omega) (by decide)
  have hs := set_to W base p b 0 4096 (fun _ _ => none) false h (by omega) (by rw [tot_none]; omega) (by omega) false 1 (by omega) (by omega) [97] (by decide)
  simp only at e1 e2
  rw [e1, e2] at hs
  refine hs.mono ?_
  rintro r w' ⟨rfl, ⟨N', h1, h2⟩, h3⟩
  exact ⟨⟨_, rfl⟩, ⟨N', by omega, h2⟩, h3⟩
theorem set_two (W : World) (base p b N : Nat) (hN : N ≤ 1) (h : MObj W base p b N 4096 mOne false) :
    Calls Tryd.prog 18 #[.pointer (some ⟨p, 0, none⟩), .agg #[.bool false, .int .i64 2], .string ⟨#[98]⟩] W fun r w' => (∃ v, r = .returned (.int .i64 v)) ∧ (∃ N', N' ≤ 2 ∧ MObj w' base p b N' 4096 mTwo false) ∧ TO p b W w' := by
  have ht : tot mOne ≤ 103 * 1 := by decide +kernel
  obtain ⟨e1, e2, e3⟩ := set_roomy mOne false ⟨0, false, 2, [98]⟩ 1 (by omega) ht (by decide)
  have hs := set_to W base p b N 4096 mOne false h (by omega) (by omega) (by omega) false 2 (by omega) (by omega) [98] (by decide)
  simp only at e1 e2
  rw [e1, e2] at hs
  refine hs.mono ?_
  rintro r w' ⟨rfl, ⟨N', h1, h2⟩, h3⟩
  exact ⟨⟨_, rfl⟩, ⟨N', by omega, h2⟩, h3⟩
set_option maxHeartbeats 4000000 in
theorem nil_walk (w : World) (htab : Tab w) (e : Bool) (n : Int) (t : List UInt8) (hn : -9223372036854775808 ≤ n ∧ n ≤ 9223372036854775807) :
    Calls Tryd.prog 9 #[.agg #[.bool e, .int .i64 n], .string (st t)] w fun r w' => r = .returned (.bool true) ∧ Below w.heap.size w w' := by
  have HA := Lib.hid (fun W (hb : Below w.heap.size w W) => awake_any W (tab_below htab W hb))
  obtain ⟨S, hS⟩ : ∃ S, st t = S := ⟨_, rfl⟩
  have zS : S.size = t.length := by rw [← hS, st_size]
  rw [hS]
  obtain ⟨L, hL⟩ : ∃ L, t.length = L := ⟨_, rfl⟩
  rw [hL] at zS
  clear htab hS hL
  obtain ⟨w0, hw0⟩ : ∃ w0, (w.alloc (.cells #[.bool e, .int .i64 n] 24)).alloc (.cells #[.bool false] 4) = w0 := ⟨_, rfl⟩
  have hb0 : Below w.heap.size w w0 := by rw [← hw0]; exact bel_alloc (bel_alloc (Below.refl _ _) _) _
  have hz0 : w0.heap.size = w.heap.size + 2 := by rw [← hw0]; simp
  have k0 : w0.cell? ⟨w.heap.size, 0, none⟩ = some (.bool e) ∧ w0.cell? ⟨w.heap.size, 1, none⟩ = some (.int .i64 n) ∧ w0.heap[w.heap.size + 1]? = some (.cells #[.bool false] 4 (0, 0)) := by
    rw [← hw0]
    exact ⟨by simp [go_sem], by simp [go_sem], by have := World.alloc_heap_new (w.alloc (.cells #[.bool e, .int .i64 n] 24)) (.cells #[.bool false] 4); rwa [World.size_alloc] at this⟩
  have HW0 := Lib.hid hw0
  have Hb0 := Lib.hid hb0
  have Hz0 := Lib.hid hz0
  have HK0 := Lib.hid k0
  clear hw0 hb0 hz0 k0
  refine (callsIn_wide (n := 3)).1 (callsIn_of_wp_marks Tryd.func9 rfl trivial ?_ rfl)
  simp only [Tryd.ntmps9, List.size_toArray, List.length_cons, List.length_nil, Nat.reduceAdd, Nat.reduceSub, Array.replicate_succ, Array.replicate_zero, List.push_toArray, List.append_toArray, List.nil_append, List.cons_append]
  by_cases h3 : 300 < L
  · have q3 : (300 : Int) < (L : Int) := by omega
    gi_wp2_with fail
    refine ⟨trivial, ?_⟩
    rw [HW0.out]
    refine (callsIn_wide.2 (HA.out _ Hb0.out)).mono ?_
    rintro r w1 ⟨rfl, hb1⟩
    have hr1 : w1.heap[w.heap.size + 1]? = some (.cells #[.bool false] 4 (0, 0)) := (hb1.block _ (by rw [Hz0.out]; omega)).trans HK0.out.2.2
    obtain ⟨c1, f1⟩ := cell_of_box_a hr1
    have HB1 := Lib.hid ((bel_call Hb0.out hb1).setCell (p := ⟨w.heap.size + 1, 0, none⟩) (by simp) (.bool true))
    have z0 : (w1.setCell ⟨w.heap.size + 1, 0, none⟩ (.bool true)).cell? ⟨w.heap.size + 1, 0, none⟩ = some (.bool true) := World.cell?_setCell_same' _ _ _ (by rw [c1]; rfl)
    clear hb1 hr1
    gi_wp2_with fail
    refine ⟨.bool true, ?_, rfl, HB1.out⟩
    simp [results, Tryd.results9, go_sem, z0]
  · have q3 : ¬ (300 : Int) < (L : Int) := by omega
    have hfe := func_eq 38
    gi_wp2_with (first
      | (refine ⟨trivial, ?_⟩; gi_at_call 19; rw [HW0.out]; refine (callsIn_wide.2 (get_nil _ _ _)).mono ?_; rintro r w1 ⟨rfl, hb1⟩)
      | (refine ⟨trivial, ?_⟩; gi_at_call 23; refine (callsIn_wide.2 (clear_nil _)).mono ?_; rintro r w2 ⟨rfl, rfl⟩)
      | (refine ⟨trivial, ?_⟩; gi_at_call 26; refine (callsIn_wide.2 (all_any _ (.inl rfl) _)).mono ?_; rintro r w3 ⟨rfl, rfl⟩)
      | (refine ⟨trivial, ?_⟩; gi_at_call 16; refine (callsIn_wide.2 (new_any _ 4096 (by omega) (by omega))).mono ?_; rintro r w4 ⟨rfl, hmo4, hb4⟩))
    have HB2 := Lib.hid (bel_call Hb0.out hb1)
    have HB4 := Lib.hid (bel_call HB2.out (bel_call (bel_alloc (Below.refl _ _) (.cells #[.pointer none] 42)) hb4))
    have HC4 := Lib.hid (show w4.cell? ⟨w2.heap.size, 0, none⟩ = some (.pointer none) from cellB hb4 (by simp [go_sem]))
    have HM4 := Lib.hid (show MObj w4 w.heap.size (w2.heap.size + 1 + 1) (w2.heap.size + 1) 0 4096 (fun _ _ => none) false from by
      have h := hmo4.low (base' := w.heap.size) (by have := HB2.out.size; simp; omega)
      simpa using h)
    have HZ2 := Lib.hid (show w.heap.size + 2 ≤ w2.heap.size ∧ w2.heap.size + 1 + 1 < w4.heap.size from ⟨by rw [← Hz0.out]; exact hb1.size, by have := hmo4.lt; simpa using this⟩)
    have HK4 := Lib.hid (show w4.cell? ⟨w.heap.size, 0, none⟩ = some (.bool e) ∧ w4.cell? ⟨w.heap.size, 1, none⟩ = some (.int .i64 n) ∧ w4.heap[w.heap.size + 1]? = some (.cells #[.bool false] 4 (0, 0)) from by
      have hB : Below w0.heap.size w0 w4 := bel_call hb1 (bel_call (bel_alloc (Below.refl _ _) (.cells #[.pointer none] 42)) hb4)
      obtain ⟨x0, x1, x2⟩ := HK0.out
      exact ⟨cellB hB x0, cellB hB x1, (hB.block _ (by rw [Hz0.out]; omega)).trans x2⟩)
    obtain ⟨p, hp⟩ : ∃ p, w2.heap.size + 1 + 1 = p := ⟨_, rfl⟩
    obtain ⟨b, hb⟩ : ∃ b, w2.heap.size + 1 = b := ⟨_, rfl⟩
    obtain ⟨Bn, hBn⟩ : ∃ Bn, w2.heap.size = Bn := ⟨_, rfl⟩
    obtain ⟨Z, hZ⟩ : ∃ Z, w.heap.size = Z := ⟨_, rfl⟩
    have HZ := Lib.hid hZ
    have HP := Lib.hid (show Z + 2 ≤ b ∧ Z + 2 ≤ p ∧ p < w4.heap.size ∧ b < w4.heap.size ∧ Bn < w4.heap.size ∧ Z + 2 ≤ Bn from by have := HZ2.out; omega)
    rw [hp, hb] at HM4
    rw [hp, hBn]
    rw [hBn] at HC4
    rw [hZ] at HK4 ⊢
    clear hb1 hmo4 hb4 hp hb hBn hZ HZ2 HK0 Hz0 HB2 Hb0 HW0
    refine range_law (n := 2) (m := 1) (gf := 38) (lb := #[.pointer (some ⟨Bn, 0, none⟩)]) rfl (enters_of Tryd.func38 (by kernel_rfl) rfl) (encs := encA (fun _ _ => none)) (fun _ => rfl)
      (S := fun ys => ys = []) (Sp := fun _ => False) (V := fun _ _ => False) (N := 512) (Kp := fun _ _ => True) (fun _ _ => trivial) (fun _ _ _ _ _ _ _ _ => trivial)
      (fun pre W => Below w4.heap.size w4 W) (fun _ _ _ => False) ?hI ?hIx (Below.refl _ _) (fun _ _ _ => True) ?hAx ?hit ?assign ?body ?done ?stop
    case hI => exact ownFrom_below (Nat.le_refl _) (Nat.le_refl _)
    case hIx => exact fun c s W W' row h hg hr => h
    case hAx => exact fun x a' _ W W' row e _ _ => e
    case hit =>
      rintro W0 ⟨o, o', _, _, rfl⟩ hI0
      exact all_none 2 Bn w4.heap.size _ _ _ _ (cellB (bel_alloc (bel_alloc (Below.refl _ _) o) o') HC4.out)
    case assign =>
      rintro l pre x W K hI hK
      have HKk := Lib.hid (fun (a : Act) => hK a W (keepsB (Below.refl _ _)) trivial hI trivial)
      gi_wp2
      exact HKk.out _
    case body =>
      rintro l pre x a' W hI _ _ hv
      exact hv.elim
    case stop =>
      rintro D c pre W hD hF _ hK
      exact hF.elim
    case done =>
      rintro D ys W hD rfl hI hK
      have HD := Lib.hid hK
      have HDl := Lib.hid hD
      have HI := Lib.hid hI
      clear hK hD hI HC4
      have HM := Lib.hid (HM4.out.later HI.out)
      have HKe := Lib.hid (show ∀ W', TO p b W W' → (W'.cell? ⟨Z, 0, none⟩ = some (.bool e) ∧ W'.cell? ⟨Z, 1, none⟩ = some (.int .i64 n) ∧ W'.heap[Z + 1]? = some (.cells #[.bool false] 4 (0, 0))) ∧ W'.heap[D]? = some (.deferred (some [])) ∧ Below w.heap.size w W' ∧ w4.heap.size ≤ W'.heap.size from fun W' h => by
        have h1 := HP.out
        have h2 := HZ.out
        have hI := HI.out
        obtain ⟨x0, x1, x2⟩ := HK4.out
        have hDW : D < W.heap.size := (Array.getElem?_eq_some_iff.1 HD.out).1
        refine ⟨⟨h.cell (by omega) (by omega) (cellB hI x0), h.cell (by omega) (by omega) (cellB hI x1), (h.block _ (by have := hI.size; omega) (by omega) (by omega)).trans ((hI.block _ (by omega)).trans x2)⟩, (h.block D hDW (by have := HDl.out; omega) (by have := HDl.out; omega)).trans HD.out, ?_, Nat.le_trans hI.size h.size⟩
        exact (HB4.out.trans (hI.mono HB4.out.size)).trans (h.below (by omega) (by omega) (Nat.le_trans HB4.out.size hI.size)))
      gi_wp2_with fail
      refine ⟨trivial, ?_⟩
      refine (callsIn_wide.2 (set_one W _ p b HM.out)).mono ?_
      rintro r w5 ⟨⟨v5, rfl⟩, ⟨N5, hN5, hmo5⟩, hto5⟩
      have HM5 := Lib.hid hmo5
      have HT5 := Lib.hid hto5
      clear hmo5 hto5
      gi_wp2_with fail
      refine ⟨trivial, ?_⟩
      refine (callsIn_wide.2 (set_two w5 _ p b N5 hN5 HM5.out)).mono ?_
      rintro r w6 ⟨⟨v6, rfl⟩, ⟨N6, hN6, hmo6⟩, hto6⟩
      have HM6 := Lib.hid hmo6
      have HT6 := Lib.hid (show TO p b W w6 from ⟨hto6.os.trans HT5.out.os, hto6.tape.trans HT5.out.tape, hto6.output.trans HT5.out.output, Nat.le_trans HT5.out.size hto6.size, fun k hk h1 h2 => (hto6.block k (Nat.lt_of_lt_of_le hk HT5.out.size) h1 h2).trans (HT5.out.block k hk h1 h2)⟩)
      clear hmo6 hto6
      gi_wp2_with (refine ⟨trivial, ?_⟩; gi_at_call 26; refine (callsIn_wide.2 (all_any _ (.inr ⟨_, rfl⟩) _)).mono ?_; rintro r w7 ⟨rfl, rfl⟩)
      have HT8 := Lib.hid (show TO p b W ((w6.alloc (.cells #[.int .i64 0] 3)).alloc (.cells #[.pointer (some ⟨p, 0, none⟩)] 42)) ∧ Below w6.heap.size w6 ((w6.alloc (.cells #[.int .i64 0] 3)).alloc (.cells #[.pointer (some ⟨p, 0, none⟩)] 42)) from by
        have hb := bel_alloc (bel_alloc (Below.refl w6.heap.size w6) (.cells #[.int .i64 0] 3)) (.cells #[.pointer (some ⟨p, 0, none⟩)] 42)
        refine ⟨⟨hb.os.trans HT6.out.os, hb.tape.trans HT6.out.tape, hb.output.trans HT6.out.output, Nat.le_trans HT6.out.size hb.size, fun k hk h1 h2 => (hb.block k (Nat.lt_of_lt_of_le hk HT6.out.size)).trans (HT6.out.block k hk h1 h2)⟩, hb⟩)
      have HC8 := Lib.hid (show ((w6.alloc (.cells #[.int .i64 0] 3)).alloc (.cells #[.pointer (some ⟨p, 0, none⟩)] 42)).heap[w6.heap.size]? = some (.cells #[.int .i64 0] 3 (0, 0)) ∧ ((w6.alloc (.cells #[.int .i64 0] 3)).alloc (.cells #[.pointer (some ⟨p, 0, none⟩)] 42)).cell? ⟨w6.heap.size + 1, 0, none⟩ = some (.pointer (some ⟨p, 0, none⟩)) from
        ⟨(Below.heap_alloc _ _ _ (by simp)).trans (World.alloc_heap_new w6 _), by simp [go_sem]⟩)
      obtain ⟨w8, hw8⟩ : ∃ w8, ((w6.alloc (.cells #[.int .i64 0] 3)).alloc (.cells #[.pointer (some ⟨p, 0, none⟩)] 42)) = w8 := ⟨_, rfl⟩
      rw [hw8] at HT8 HC8 ⊢
      clear hw8
      have HM8 := Lib.hid (HM6.out.later HT8.out.2)
      obtain ⟨Bx, hBx⟩ : ∃ Bx, w6.heap.size + 1 = Bx := ⟨_, rfl⟩
      obtain ⟨Bs, hBs⟩ : ∃ Bs, w6.heap.size = Bs := ⟨_, rfl⟩
      rw [hBx, hBs] at HC8
      rw [hBx, hBs]
      have HQ := Lib.hid (show Z + 2 ≤ Bs ∧ D < Bs ∧ p ≠ Bs ∧ b ≠ Bs from by
        have h1 := HP.out
        have h2 := HT6.out.size
        have h3 := HI.out.size
        have hDW : D < W.heap.size := (Array.getElem?_eq_some_iff.1 HD.out).1
        omega)
      have hBs8 : Bs < w8.heap.size := (Array.getElem?_eq_some_iff.1 HC8.out.1).1
      have HBs8 := Lib.hid hBs8
      clear hBx hBs hBs8
      refine gen_tmps ?_
      intro T hT
      simp only at hT
      have HTt := Lib.hid hT
      refine range_law (n := 2) (m := 1) (gf := 38) (lb := #[.pointer (some ⟨Bx, 0, none⟩)]) (by rw [hT]; rfl) (enters_of Tryd.func38 (by kernel_rfl) rfl) (encs := encA mTwo) (fun _ => rfl)
        (S := fun ys => ys = ksOf mTwo) (Sp := fun pre => ∃ t, ksOf mTwo = pre ++ t) (V := fun pre x => ∃ t, ksOf mTwo = pre ++ x :: t) (N := 512) (Kp := KeepsCells w8.heap.size) (fun h k => ⟨Nat.le_trans h.1 k.1, fun i o hB hi ho => k.2 i o hB (h.2 i o hB hi ho) ho⟩)
        (fun W l o o' _ h1 h2 _ => ⟨by simp [World.putObj], fun k o1 _ hk ho1 => (World.putObj_heap_other (fun e => by subst e; rw [h1] at hk; cases hk; rw [h2] at ho1; cases ho1)).trans hk⟩)
        (fun pre W => pre = [] ∧ Below w8.heap.size w8 W) (fun c pre W => (c = .exit 2 ∧ W.cell? ⟨Bs, 0, none⟩ = some (.int .i64 1)) ∧ Chg w8 W [Bs]) ?hI ?hIx ⟨rfl, Below.refl _ _⟩
        (fun x a' W => ∃ q, a' = { tmps := ((T.setIfInBounds 56 (codeV x.e x.n)).setIfInBounds 57 (.string (st ((mTwo x.e x.n).getD [])))).setIfInBounds 13 (.pointer (some ⟨q, 0, none⟩)), defers := [] } ∧ W.cell? ⟨q, 1, none⟩ = some (.int .i64 x.n)) ?hAx ?hit ?assign ?body ?done ?stop
      case hI => exact fun s W W' row h hg hr => ⟨h.1, ownFrom_below (β := Unit) (B := w8.heap.size) (w₀ := w8) (Nat.le_refl _) (Nat.le_refl _) () W W' row h.2 hg hr⟩
      case hIx =>
        rintro c pre W W' row ⟨⟨rfl, k0⟩, hc⟩ hg hr
        exact ⟨⟨rfl, cell_kept k0 hg (fun r e => (hr r e).2)⟩, hc.steps hg (fun r e => (hr r e).1)⟩
      case hAx =>
        rintro x a' _ W W' row ⟨q, rfl, k1⟩ hg hr
        exact ⟨q, rfl, cell_kept k1 hg (fun r e => (hr r e).2)⟩
      case hit =>
        rintro W0 ⟨o, o', _, _, rfl⟩ hI0
        refine all_iter 2 (by decide) Bx w8.heap.size p b N6 w.heap.size 4096 mTwo false dom_two _ _ _ (by simp; omega) (fun pre X X' h hb => ⟨h.1, bel_call h.2 hb⟩) (fun pre X h => ⟨cellB h.2 HC8.out.2, HM8.out.later h.2⟩) (fun X X' h => h)
      case assign =>
        rintro l pre x W K hI hK
        have HKk := Lib.hid (fun (a : Act) h => hK a (W.alloc (.cells #[.bool x.e, .int .i64 x.n] 24)) (keepsB (bel_alloc (Below.refl W.heap.size W) _)) (keepsC_below (bel_alloc (Below.refl W.heap.size W) _)) ⟨hI.1, bel_call hI.2 (bel_alloc (Below.refl W.heap.size W) _)⟩ ⟨W.heap.size, h, by simp [go_sem]⟩)
        clear hK hI
        subst hT
        simp only [encA, codeV]
        gi_wp2
        exact HKk.out _ rfl
      case body =>
        rintro l pre x a' W ⟨rfl, hW⟩ ⟨q, rfl, k1⟩ _ hv
        obtain ⟨t', ht'⟩ := hv
        rw [ks_two] at ht'
        simp only [List.nil_append, List.cons.injEq] at ht'
        obtain ⟨rfl, -⟩ := ht'
        have hbs : W.heap[Bs]? = some (.cells #[.int .i64 0] 3 (0, 0)) := (hW.block Bs HBs8.out).trans HC8.out.1
        obtain ⟨b0, bf⟩ := cell_of_box_a hbs
        have k1' : W.cell? ⟨q, 1, none⟩ = some (.int .i64 1) := k1
        have z0 : (W.setCell ⟨Bs, 0, none⟩ (.int .i64 1)).cell? ⟨Bs, 0, none⟩ = some (.int .i64 1) := World.cell?_setCell_same' _ _ _ (by rw [b0]; rfl)
        have HE := Lib.hid (show KeepsFrom w8.heap.size W (W.setCell ⟨Bs, 0, none⟩ (.int .i64 1)) ∧ Chg w8 (W.setCell ⟨Bs, 0, none⟩ (.int .i64 1)) [Bs] from ⟨(KeepsOthers.setCell _ _ _).from _, (Chg.of_below hW).trans (chg_set _ _ _ _)⟩)
        clear hW hbs k1
        subst hT
        simp only [codeV, List.setIfInBounds_toArray, List.set_cons_zero, List.set_cons_succ]
        gi_wp2_with fail
        exact ⟨HE.out.1, ⟨rfl, z0⟩, HE.out.2⟩
      case done =>
        rintro D2 ys W hD2 rfl hI hK
        have := hI.1
        rw [ks_two] at this
        cases this
      case stop =>
        rintro D2 c pre W9 hD2 _ ⟨⟨rfl, k0⟩, hc⟩ hK
        have HK9 := Lib.hid (show ∀ W', Below W9.heap.size W9 W' → (W'.cell? ⟨Z, 0, none⟩ = some (.bool e) ∧ W'.cell? ⟨Z, 1, none⟩ = some (.int .i64 n) ∧ W'.heap[Z + 1]? = some (.cells #[.bool false] 4 (0, 0))) ∧ W'.heap[D]? = some (.deferred (some [])) ∧ W'.heap[D2]? = some (.deferred (some [])) ∧ W'.cell? ⟨Bs, 0, none⟩ = some (.int .i64 1) ∧ Below w.heap.size w W' from fun W' h => by
          obtain ⟨⟨x0, x1, x2⟩, xD, xB, xz⟩ := HKe.out w8 HT8.out.1
          have h1 := HP.out
          have h2 := HQ.out
          have h3 := HZ.out
          have hbs := HBs8.out
          have h9 : Below w.heap.size w W9 := xB.trans (hc.below xB.size (fun x hx => by simp at hx; omega))
          refine ⟨⟨cellB h (hc.cell (by simp; omega) x0), cellB h (hc.cell (by simp; omega) x1), ?_⟩, ?_, (h.block D2 (Array.getElem?_eq_some_iff.1 hK).1).trans hK, cellB h k0, h9.trans (h.mono h9.size)⟩
          · have e9 := (hc.block (Z + 1) (by omega) (by simp; omega)).trans x2
            exact (h.block _ (Array.getElem?_eq_some_iff.1 e9).1).trans e9
          · have e9 := (hc.block D (by omega) (by simp; omega)).trans xD
            exact (h.block _ (Array.getElem?_eq_some_iff.1 e9).1).trans e9)
        have HZ1 := Lib.hid (show D2 ≠ Z + 1 ∧ D ≠ Z + 1 ∧ D2 ≠ D ∧ w.heap.size ≤ D ∧ w.heap.size ≤ D2 ∧ w.heap.size ≤ Z + 1 from by
          have h1 := HP.out
          have h2 := HQ.out
          have h3 := HZ.out
          have hbs := HBs8.out
          have h5 := HDl.out
          omega)
        obtain ⟨⟨x0, x1, -⟩, -, -, -, -⟩ := HK9.out W9 (Below.refl _ _)
        clear hc hK k0 HTt HKe HC8 HM8 HT8 HT6 HM6 HT5 HM5 HM HM4 HK4
        subst hT
        gi_wp2_with fail
        refine ⟨trivial, ?_⟩
        refine (callsIn_wide.2 (set_nil W9 e n S)).mono ?_
        rintro r w10 ⟨rfl, hb10⟩
        obtain ⟨⟨-, -, y2⟩, yD, yD2, ys, yB⟩ := HK9.out w10 hb10
        have HB10 := Lib.hid hb10
        have Haw := Lib.hid (HA.out w10 yB)
        clear hb10 y2 yD yD2 yB x0 x1
        gi_wp2_with (first
          | (refine ⟨trivial, ?_⟩; gi_at_call 20; refine (callsIn_wide.2 (used_nil _)).mono ?_; rintro r w11 ⟨rfl, rfl⟩)
          | (refine ⟨trivial, ?_⟩; gi_at_call 21; refine (callsIn_wide.2 (over_nil _)).mono ?_; rintro r w12 ⟨rfl, rfl⟩))
        refine ⟨trivial, ?_⟩
        refine (callsIn_wide.2 Haw.out).mono ?_
        rintro r w13 ⟨rfl, hb13⟩
        obtain ⟨⟨-, -, y2⟩, yD, yD2, -, yB⟩ := HK9.out w13 (bel_call HB10.out hb13)
        obtain ⟨r0, rf⟩ := cell_of_box_a y2
        have z1 := HZ1.out
        have e2 : (w13.setCell ⟨Z + 1, 0, none⟩ (.bool true)).heap[D2]? = some (.deferred (some [])) := (Below.heap_setCell _ _ _ _ z1.1).trans yD2
        have e3 : ((w13.setCell ⟨Z + 1, 0, none⟩ (.bool true)).putObj D2 (.deferred none)).heap[D]? = some (.deferred (some [])) := (World.putObj_heap_other (fun h => z1.2.2.1 h.symm)).trans ((Below.heap_setCell _ _ _ _ z1.2.1).trans yD)
        have z0 : (w13.setCell ⟨Z + 1, 0, none⟩ (.bool true)).cell? ⟨Z + 1, 0, none⟩ = some (.bool true) := World.cell?_setCell_same' _ _ _ (by rw [r0]; rfl)
        have g2 := grownBy_putObj' (w13.setCell ⟨Z + 1, 0, none⟩ (.bool true)) D2 (.deferred none)
        have g3 := grownBy_putObj' ((w13.setCell ⟨Z + 1, 0, none⟩ (.bool true)).putObj D2 (.deferred none)) D (.deferred none)
        have z2 := cell_kept (cell_kept z0 g2 (fun r e => by cases e; exact ⟨_, e2, rfl⟩)) g3 (fun r e => by cases e; exact ⟨_, e3, rfl⟩)
        have b1 : Below w.heap.size w (w13.setCell ⟨Z + 1, 0, none⟩ (.bool true)) := yB.setCell (p := ⟨Z + 1, 0, none⟩) z1.2.2.2.2.2 _
        have b2 := b1.grown g2 b1.size (fun k e => by cases e; exact z1.2.2.2.2.1)
        have HEn := Lib.hid (b2.grown g3 b2.size (fun k e => by cases e; exact z1.2.2.2.1))
        have HE2 := Lib.hid e2
        have HE3 := Lib.hid e3
        have HZ2 := Lib.hid z2
        clear b1 b2 g2 g3 z0 z2 e2 e3 yD yD2 yB y2 hb13 z1
        gi_wp2_with fail
        refine ⟨by simp, .inl ⟨_, _, rfl, run_takeDeferred HE2.out, ?_⟩⟩
        refine ⟨by simp, .inl ⟨_, _, rfl, run_takeDeferred HE3.out, ?_⟩⟩
        have z2 := HZ2.out
        refine ⟨.bool true, ?_, rfl, HEn.out⟩
        simp [results, Tryd.results9, go_sem, z2]
end Go.Proofs.YtnfpfpppnfighaaDoor
