/- TopLooks and TopSends, helper 21 of 27. It holds: a Wyse 60: rows as the fields' grid; tab; The walk of Send at places that are there, in order; wyse: told, send; Top, plain: what is sent of all: the open places, each a byte that is shown; a line's end behind each row but the last; wyse: send. Each theorem states its own conditions. -/
import Derived.Test.YtpjooboohelffaaGreatDoorM18
import Derived.Test.YtpjooboohelffaaGreatDoorM19
import Derived.Test.YtpjooboohelffaaGreatDoorM16
import Derived.Deep.RegionHeld3
import Derived.Deep.QuietTactic
import Derived.BigQuiet
import Derived.Deep.DeepCutAuto
import Derived.Test.YtpjooboohelffaaGreatDoorM17
/- Top: a Wyse 60: rows as the fields' grid; tab. -/
namespace Go.Proofs.YtpjooboohelffaaGreatDoor
open Go.RowKit Go.Shelf T05
set_option linter.unusedVariables false
set_option linter.unusedSimpArgs false
set_option maxRecDepth 100000
theorem wglyph_bd {g : Int} (h : WGlyph g) : -2147483648 ≤ g ∧ g ≤ 2147483647 := by
 have k1 : ∀ b, b < 127 → 0 ≤ asciiT b ∧ asciiT b ≤ 65535 := by decide +kernel
 have k2 : ∀ b, b < 127 → 0 ≤ wyseT b ∧ wyseT b ≤ 65535 := by decide +kernel
 rcases h with h | h
 ·obtain ⟨b, hb⟩ := Option.isSome_iff_exists.1 h
  have h1 := gets_shown (.inl rfl) hb
  have h2 := List.find?_some hb
  simp at h2
  have := k1 b (by omega)
  omega
 ·obtain ⟨b, hb⟩ := Option.isSome_iff_exists.1 h
  have h1 := gets_shown (.inr rfl) hb
  have h2 := List.find?_some hb
  simp at h2
  have := k2 b (by omega)
  omega
/-- Rows, as the fields' own. -/
structure GridR (G : F16.Grid) (v : Value) (R C : Nat) (cell : Nat → Nat → Cl) : Prop where
 v : G.v = v
 n : G.n = R
 len : ∀ i, i < R → G.len i = C
 gl : ∀ i j, G.gl i j = (cell i j).g
 gd : ∀ i j, G.gd i j = (cell i j).d
 ok : G.Ok
theorem grid_of {W : World} {lo R C : Nat} {v : Value} {cell : Nat → Nat → Cl} (h : RowsAt W lo v R C cell) (h1 : 1 ≤ R) (h2 : R ≤ 255) (h3 : 1 ≤ C) (h4 : C ≤ 255) (ha : AllW R C cell) : ∃ G : F16.Grid, GridR G v R C cell ∧ G.In W.heap.size W := by
 obtain ⟨ob, rfl, hlo, hr⟩ := h
 have hr' : ∀ i, ∃ b cap, i < R → W.cell? ⟨ob, i, none⟩ = some (.slice (some ⟨b, 0, none⟩) C cap) ∧ (lo ≤ b ∧ C ≤ cap) ∧ CellsAt W b C (cell i) := fun i => by
  by_cases hi : i < R
  ·obtain ⟨b, cap, hb⟩ := hr i hi; exact ⟨b, cap, fun _ => hb⟩
  ·exact ⟨0, 0, fun hh => absurd hh hi⟩
 obtain ⟨bf, hbf⟩ := Classical.axiomOfChoice hr'
 obtain ⟨cf, hcf⟩ := Classical.axiomOfChoice hbf
 refine ⟨⟨R, some ⟨ob, 0, none⟩, R, fun i => some ⟨bf i, 0, none⟩, fun _ => C, cf, fun i j => (cell i j).g, fun i j => (cell i j).a, fun i j => (cell i j).d, fun i j => (cell i j).m⟩, ⟨rfl, rfl, fun _ _ => rfl, fun _ _ => rfl, fun _ _ => rfl, ⟨h1, h2, fun i hi => ⟨h3, h4, rfl⟩⟩⟩, ?_⟩
 refine ⟨by simp only; omega, fun _ => ⟨ob, 0, rfl, ?_, fun i hi => ?_⟩, fun i hi => by simp only; omega, fun i hi hj => ⟨bf i, 0, rfl, ?_, fun j hj => ?_⟩, fun i hi j hj => wglyph_bd (ha i j hi hj).g⟩
 ·exact blt (hcf 0 (by omega)).1
 ·simpa using (hcf i hi).1
 ·exact blt ((hcf i hi).2.2 0 h3).1
 ·simpa using (hcf i hi).2.2 j hj
theorem tab_weak (G : F16.Grid) (r c : Int) : ∃ a b i, F16.tabV (F16.tabOf G r c) = .tuple #[pr a b, .bool i] := by
 cases F16.tabOf G r c with
 | none => exact ⟨_, _, _, rfl⟩
 | some f => exact ⟨_, _, _, rfl⟩
section
variable {K : Nat → Prop} {L : Lay} {tm qb lb : Nat} {t : Tm} {f : Nat} {Q : List Int} {ov : Bool}
set_option maxHeartbeats 4000000 in
theorem y_tab (w : World) (hK : KB K w) (h : WyA K L tm qb lb w t f Q ov) :
  Calls Tryz.prog 76 #[.pointer (some ⟨tm, 0, none⟩)] w fun e w' => e = .returned (.tuple #[]) ∧ WyA K L tm qb lb w' t f Q ov ∧ Kept K w w' := by
 obtain ⟨rs, cell, r, c, S, h, ha⟩ := h
 have HC := Lib.hid (s_cursor w h.scr)
 have HR := Lib.hid (fun W (hb : Below w.heap.size w W) => s_rows W (h.scr.later hb))
 have HG := Lib.hid (fun W v lo (hr : RowsAt W lo v L.R L.C cell) => (show ∀ W', Below W.heap.size W W' → Calls Tryz.prog 108 #[v, pr r c] W' (fun e w' => (∃ a b i, e = .returned (.tuple #[pr a b, .bool i])) ∧ Below W'.heap.size W' w') from fun W' hb => by
  obtain ⟨G, hg, hin⟩ := grid_of hr h.scr.gr.r1 h.scr.gr.r2 h.scr.gr.c1 h.scr.gr.c2 ha
  rw [← hg.v]
  refine (F16.tab_any G r c W' (hin.later hb hb.size)).mono ?_
  rintro e w' ⟨rfl, hb2⟩
  obtain ⟨a, b, i, he⟩ := tab_weak G r c
  exact ⟨⟨a, b, i, by rw [he]⟩, hb2⟩))
 have HM := Lib.hid (fun W (hb : Below w.heap.size w W) a b => w_move h ha hK hb a b)
 have HF := Lib.hid (fun W (hb : Below w.heap.size w W) => w_tab h ha hK hb 1 (.inl rfl))
 have HE := Lib.hid (fun W (hb : Below w.heap.size w W) => (show WyA K L tm qb lb W t f Q ov ∧ Kept K w W from ⟨⟨_, _, _, _, _, h.later hb, ha⟩, Kept.ofBelow hb hK⟩))
 have k0 := h.ti.t0
 have k3 := h.ti.t3
 have hgk := h.gk
 clear h ha hK
 cases hp : t.pt with
 | false =>
  rw [hp] at k3
  clear hp
  go_enter Tryz.func76, Tryz.ntmps76
  go_wp2_with fail
  refine (HF.out _ (Below.refl _ _)).mono ?_
  rintro e w2 ⟨rfl, h1, h2, h3⟩
  have Z := Lib.hid (And.intro h1 h3)
  clear h1 h2 h3
  go_wp2_with fail
  (try simp only [Exit.inBlock, Exit.then])
  refine bodyPost_ret (results_none rfl _ _ _) rfl ?_
  exact ⟨rfl, Z.out⟩
 | true =>
  rw [hp] at k3
  clear hp
  go_enter Tryz.func76, Tryz.ntmps76
  go_wp2_with fail
  refine HC.out.mono ?_
  rintro e w1 ⟨rfl, c1⟩
  have k0' := cellB c1 k0
  have hsz1 := c1.size
  have hlt1 := blt k0'
  have C1 := Lib.hid c1
  clear c1
  go_wp2_with fail
  refine gen_wp ?_
  intro u hu0
  have FB : Below w.heap.size w u := by rw [hu0]; (repeat first | exact C1.out | refine bel_alloc ?_ _ | refine bel_set ?_ (by simp <;> omega) _)
  have hsw := FB.size
  have HFB := Lib.hid FB
  have hb0 : Below w1.heap.size w1 u := by rw [hu0]; exact bel_alloc (Below.refl _ _) _
  have hs1u : w1.heap.size < u.heap.size := by rw [hu0]; simp <;> omega
  have HBW := Lib.hid (fun W (hb : Below w1.heap.size w1 W) => bel_call C1.out hb)
  have KFu : ∀ W, Below u.heap.size u W → (W.cell? ⟨tm, 0, none⟩ = some (.pointer (some ⟨L.sb, 0, none⟩)) ∧ W.cell? ⟨w1.heap.size, 0, none⟩ = some (.int .i64 r) ∧ W.cell? ⟨w1.heap.size, 1, none⟩ = some (.int .i64 c)) ∧ True ∧ Below w1.heap.size w1 W := by
   intro W hu
   refine ⟨⟨?_, ?_, ?_⟩, trivial, ?_⟩
   ·exact cellB (bel_call (by rw [hu0]; (repeat first | exact Below.refl _ _ | refine bel_alloc ?_ _)) hu) (k0')
   ·exact (hu.cell (by rw [hu0]; simp <;> omega)).trans (by rw [hu0]; simp [go_sem])
   ·exact (hu.cell (by rw [hu0]; simp <;> omega)).trans (by rw [hu0]; simp [go_sem])
   ·exact bel_call (by rw [hu0]; (repeat first | exact Below.refl _ _ | refine bel_alloc ?_ _)) hu
  clear hu0 k0 k0' k3
  have hsu := hb0.size
  go_cut [4, 5] from 6 (fun s t wx => ∃ p a b i, s = .pointer (some ⟨p, 0, none⟩) ∧ t = .bool i ∧ Hid (At2 wx p (.int .i64 a) (.int .i64 b) ∧ wx.cell? ⟨tm, 0, none⟩ = some (.pointer (some ⟨L.sb, 0, none⟩)) ∧ Below w1.heap.size w1 wx))
  case first =>
   refine wp_region_held_drew (S := fun W => (W.cell? ⟨tm, 0, none⟩ = some (.pointer (some ⟨L.sb, 0, none⟩)) ∧ W.cell? ⟨w1.heap.size, 0, none⟩ = some (.int .i64 r) ∧ W.cell? ⟨w1.heap.size, 1, none⟩ = some (.int .i64 c)) ∧ True ∧ Below w1.heap.size w1 W) (by kernel_rfl) (KFu _ (Below.refl _ _).drew) (fun hHeld => ?_)
   refine sY 0 26 ?_
   refine sY 1 27 ?_
   refine sY 2 28 ?_
   refine sY 3 29 ?_
   refine sY 5 31 ?_
   refine wpAnyH_ready (rs := [4, 10]) (by kernel_rfl) (by simp) ?_
   refine AllReadyH.cons rfl (fun K hK => ?_) (AllReadyH.cons rfl (fun K hK => ?_) (AllReadyH.nil))
   ·obtain ⟨⟨fc0, fc1, fc2⟩, _, fb⟩ := hHeld
    go_simp
    refine (HR.out _ (HBW.out _ fb)).mono ?_
    rintro e wR ⟨v, rfl, hrows, b1⟩
    have HT := Lib.hid (HG.out _ _ _ hrows)
    clear hrows
    (try go_wp2_with fail)
    refine hK.out _ _ ?_ (fun hHeld => ?_)
    ·exact ⟨⟨cellB b1 fc0, cellB b1 fc1, cellB b1 fc2⟩, trivial, bel_call fb b1⟩
    clear hK K
    refine wpAnyH_name ?_
    intro W4 hW4
    rw [← hW4] at hHeld
    have bx : Below wR.heap.size wR W4 := by (first | (rw [hW4]; exact Below.refl _ _) | (rw [hW4]; exact (Below.refl _ _).drew))
    clear hW4
    try simp only [Act.put, List.setIfInBounds_toArray, List.set_cons_zero, List.set_cons_succ]
    refine wpAnyH_ready (rs := [6, 10]) (by kernel_rfl) (by simp) ?_
    refine AllReadyH.cons rfl (fun K hK => ?_) (AllReadyH.cons rfl (fun K hK => ?_) (AllReadyH.nil))
    ·obtain ⟨⟨fc0, fc1, fc2⟩, _, fb⟩ := hHeld
     go_simp
     refine (HT.out _ bx).mono ?_
     rintro e w3 ⟨⟨a, b, i, rfl⟩, b3⟩
     (try go_wp2_with fail)
     refine hK.out _ _ ?_ (fun hHeld => ?_)
     ·exact ⟨⟨cellB b3 fc0, cellB b3 fc1, cellB b3 fc2⟩, trivial, bel_call fb b3⟩
     clear hK K
     refine wpAnyH_name ?_
     intro W6 hW6
     rw [← hW6] at hHeld
     clear hW6
     try simp only [Act.put, List.setIfInBounds_toArray, List.set_cons_zero, List.set_cons_succ]
     refine sY 7 25 ?_
     refine sY 8 33 ?_
     refine sY 9 34 ?_
     refine sO 10 fun K hK => ?_
     obtain ⟨⟨fc0, fc1, fc2⟩, _, fb⟩ := hHeld
     go_simp
     (try go_wp2_with fail)
     refine hK.out _ _ ?_ (fun hHeld => ?_)
     ·exact ⟨⟨cellB (bel_alloc (Below.refl _ _) _) fc0, cellB (bel_alloc (Below.refl _ _) _) fc1, cellB (bel_alloc (Below.refl _ _) _) fc2⟩, trivial, bel_alloc fb _⟩
     clear hK K
     refine wpAnyH_name ?_
     intro W10 hW10
     rw [← hW10] at hHeld
     first | (have xb10 := blk_named hW10 (n := 2) rfl) | (have xb10 := blk_named' hW10 (n := 2) rfl)
     have hw10 := fb.size
     have hz10_0 := blt fc0
     have hz10_1 := blt fc1
     try (have bx : Below wR.heap.size wR W10 := by (first | (rw [hW10]; exact bel_alloc bx _) | (rw [hW10]; exact (bel_alloc bx _).drew) | (rw [hW10]; exact bel_alloc bx.drew _)))
     clear hW10
     try simp only [Act.put, List.setIfInBounds_toArray, List.set_cons_zero, List.set_cons_succ]
     refine sO 11 fun K hK => ?_
     obtain ⟨⟨fc0, fc1, fc2⟩, _, fb⟩ := hHeld
     obtain ⟨x0, e0, z0⟩ := xb10.get 0 (by decide)
     obtain ⟨x1, e1, z1⟩ := xb10.get 1 (by decide)
     have hlx := blt e0
     have hfb := fb.size
     have hwx10 := hw10
     go_simp
     (try go_wp2_with fail)
     refine hK.out _ _ ?_ (fun hHeld => ?_)
     ·exact ⟨⟨(cs_other (cs_other fc0 (by simp <;> omega)) (by simp <;> omega)), (cs_other (cs_other fc1 (by simp <;> omega)) (by simp <;> omega)), (cs_other (cs_other fc2 (by simp <;> omega)) (by simp <;> omega))⟩, trivial, (bel_set (bel_set fb (by first | omega | (simp <;> omega)) _) (by first | omega | (simp <;> omega)) _)⟩
     clear hK K
     refine wpAnyH_name ?_
     intro W11 hW11
     rw [← hW11] at hHeld
     have y10 := at2_set hW11 xb10
     have xb10 := xb10.set2 hW11
     clear hW11
     try simp only [Act.put, List.setIfInBounds_toArray, List.set_cons_zero, List.set_cons_succ]
     refine sY 12 5 ?_
     refine wpAnyH_done (by kernel_rfl) ?_ _
     go_wp2_with fail
     go_meet
     exact ⟨_, _, _, _, rfl, rfl, Lib.hid ⟨y10, hHeld.1.1, hHeld.2.2⟩⟩
    ·obtain ⟨⟨fc0, fc1, fc2⟩, _, fb⟩ := hHeld
     go_simp
     (try go_wp2_with fail)
     refine hK.out _ _ ?_ (fun hHeld => ?_)
     ·exact ⟨⟨cellB (bel_alloc (Below.refl _ _) _) fc0, cellB (bel_alloc (Below.refl _ _) _) fc1, cellB (bel_alloc (Below.refl _ _) _) fc2⟩, trivial, bel_alloc fb _⟩
     clear hK K
     refine wpAnyH_name ?_
     intro W10 hW10
     rw [← hW10] at hHeld
     first | (have xb10 := blk_named hW10 (n := 2) rfl) | (have xb10 := blk_named' hW10 (n := 2) rfl)
     have hw10 := fb.size
     have hz10_0 := blt fc0
     have hz10_1 := blt fc1
     try (have bx : Below wR.heap.size wR W10 := by (first | (rw [hW10]; exact bel_alloc bx _) | (rw [hW10]; exact (bel_alloc bx _).drew) | (rw [hW10]; exact bel_alloc bx.drew _)))
     clear hW10
     try simp only [Act.put, List.setIfInBounds_toArray, List.set_cons_zero, List.set_cons_succ]
     refine sO 6 fun K hK => ?_
     obtain ⟨⟨fc0, fc1, fc2⟩, _, fb⟩ := hHeld
     go_simp
     refine (HT.out _ bx).mono ?_
     rintro e w3 ⟨⟨a, b, i, rfl⟩, b3⟩
     (try go_wp2_with fail)
     refine hK.out _ _ ?_ (fun hHeld => ?_)
     ·exact ⟨⟨cellB b3 fc0, cellB b3 fc1, cellB b3 fc2⟩, trivial, bel_call fb b3⟩
     clear hK K
     refine wpAnyH_name ?_
     intro W6 hW6
     rw [← hW6] at hHeld
     have xb10 := xb10.later2 hW6 b3
     clear hW6
     try simp only [Act.put, List.setIfInBounds_toArray, List.set_cons_zero, List.set_cons_succ]
     refine sY 7 25 ?_
     refine sY 8 33 ?_
     refine sY 9 34 ?_
     refine sO 11 fun K hK => ?_
     obtain ⟨⟨fc0, fc1, fc2⟩, _, fb⟩ := hHeld
     obtain ⟨x0, e0, z0⟩ := xb10.get 0 (by decide)
     obtain ⟨x1, e1, z1⟩ := xb10.get 1 (by decide)
     have hlx := blt e0
     have hfb := fb.size
     have hwx10 := hw10
     go_simp
     (try go_wp2_with fail)
     refine hK.out _ _ ?_ (fun hHeld => ?_)
     ·exact ⟨⟨(cs_other (cs_other fc0 (by simp <;> omega)) (by simp <;> omega)), (cs_other (cs_other fc1 (by simp <;> omega)) (by simp <;> omega)), (cs_other (cs_other fc2 (by simp <;> omega)) (by simp <;> omega))⟩, trivial, (bel_set (bel_set fb (by first | omega | (simp <;> omega)) _) (by first | omega | (simp <;> omega)) _)⟩
     clear hK K
     refine wpAnyH_name ?_
     intro W11 hW11
     rw [← hW11] at hHeld
     have y10 := at2_set hW11 xb10
     have xb10 := xb10.set2 hW11
     clear hW11
     try simp only [Act.put, List.setIfInBounds_toArray, List.set_cons_zero, List.set_cons_succ]
     refine sY 12 5 ?_
     refine wpAnyH_done (by kernel_rfl) ?_ _
     go_wp2_with fail
     go_meet
     exact ⟨_, _, _, _, rfl, rfl, Lib.hid ⟨y10, hHeld.1.1, hHeld.2.2⟩⟩
   ·obtain ⟨⟨fc0, fc1, fc2⟩, _, fb⟩ := hHeld
    go_simp
    (try go_wp2_with fail)
    refine hK.out _ _ ?_ (fun hHeld => ?_)
    ·exact ⟨⟨cellB (bel_alloc (Below.refl _ _) _) fc0, cellB (bel_alloc (Below.refl _ _) _) fc1, cellB (bel_alloc (Below.refl _ _) _) fc2⟩, trivial, bel_alloc fb _⟩
    clear hK K
    refine wpAnyH_name ?_
    intro W10 hW10
    rw [← hW10] at hHeld
    first | (have xb10 := blk_named hW10 (n := 2) rfl) | (have xb10 := blk_named' hW10 (n := 2) rfl)
    have hw10 := fb.size
    have hz10_0 := blt fc0
    have hz10_1 := blt fc1
    try (have bx : Below wR.heap.size wR W10 := by (first | (rw [hW10]; exact bel_alloc bx _) | (rw [hW10]; exact (bel_alloc bx _).drew) | (rw [hW10]; exact bel_alloc bx.drew _)))
    clear hW10
    try simp only [Act.put, List.setIfInBounds_toArray, List.set_cons_zero, List.set_cons_succ]
    refine sO 4 fun K hK => ?_
    obtain ⟨⟨fc0, fc1, fc2⟩, _, fb⟩ := hHeld
    go_simp
    refine (HR.out _ (HBW.out _ fb)).mono ?_
    rintro e wR ⟨v, rfl, hrows, b1⟩
    have HT := Lib.hid (HG.out _ _ _ hrows)
    clear hrows
    (try go_wp2_with fail)
    refine hK.out _ _ ?_ (fun hHeld => ?_)
    ·exact ⟨⟨cellB b1 fc0, cellB b1 fc1, cellB b1 fc2⟩, trivial, bel_call fb b1⟩
    clear hK K
    refine wpAnyH_name ?_
    intro W4 hW4
    rw [← hW4] at hHeld
    have xb10 := xb10.later2 hW4 b1
    have bx : Below wR.heap.size wR W4 := by (first | (rw [hW4]; exact Below.refl _ _) | (rw [hW4]; exact (Below.refl _ _).drew))
    clear hW4
    try simp only [Act.put, List.setIfInBounds_toArray, List.set_cons_zero, List.set_cons_succ]
    refine sO 6 fun K hK => ?_
    obtain ⟨⟨fc0, fc1, fc2⟩, _, fb⟩ := hHeld
    go_simp
    refine (HT.out _ bx).mono ?_
    rintro e w3 ⟨⟨a, b, i, rfl⟩, b3⟩
    (try go_wp2_with fail)
    refine hK.out _ _ ?_ (fun hHeld => ?_)
    ·exact ⟨⟨cellB b3 fc0, cellB b3 fc1, cellB b3 fc2⟩, trivial, bel_call fb b3⟩
    clear hK K
    refine wpAnyH_name ?_
    intro W6 hW6
    rw [← hW6] at hHeld
    have xb10 := xb10.later2 hW6 b3
    clear hW6
    try simp only [Act.put, List.setIfInBounds_toArray, List.set_cons_zero, List.set_cons_succ]
    refine sY 7 25 ?_
    refine sY 8 33 ?_
    refine sY 9 34 ?_
    refine sO 11 fun K hK => ?_
    obtain ⟨⟨fc0, fc1, fc2⟩, _, fb⟩ := hHeld
    obtain ⟨x0, e0, z0⟩ := xb10.get 0 (by decide)
    obtain ⟨x1, e1, z1⟩ := xb10.get 1 (by decide)
    have hlx := blt e0
    have hfb := fb.size
    have hwx10 := hw10
    go_simp
    (try go_wp2_with fail)
    refine hK.out _ _ ?_ (fun hHeld => ?_)
    ·exact ⟨⟨(cs_other (cs_other fc0 (by simp <;> omega)) (by simp <;> omega)), (cs_other (cs_other fc1 (by simp <;> omega)) (by simp <;> omega)), (cs_other (cs_other fc2 (by simp <;> omega)) (by simp <;> omega))⟩, trivial, (bel_set (bel_set fb (by first | omega | (simp <;> omega)) _) (by first | omega | (simp <;> omega)) _)⟩
    clear hK K
    refine wpAnyH_name ?_
    intro W11 hW11
    rw [← hW11] at hHeld
    have y10 := at2_set hW11 xb10
    have xb10 := xb10.set2 hW11
    clear hW11
    try simp only [Act.put, List.setIfInBounds_toArray, List.set_cons_zero, List.set_cons_succ]
    refine sY 12 5 ?_
    refine wpAnyH_done (by kernel_rfl) ?_ _
    go_wp2_with fail
    go_meet
    exact ⟨_, _, _, _, rfl, rfl, Lib.hid ⟨y10, hHeld.1.1, hHeld.2.2⟩⟩
  case rest =>
   obtain ⟨p, a, b, i, rfl, rfl, HH⟩ := hcut
   obtain ⟨⟨m0, m1⟩, q0, fb⟩ := HH.out
   have hlp := blt m0
   have FB := HBW.out _ fb
   have Fb := Lib.hid FB
   clear HH fb
   cases i with
   | true =>
    go_wp2_with fail
    refine gen_wp ?_
    intro v hv0
    have FB2 : Below w.heap.size w v := by rw [hv0]; exact FB
    rw [← hv0] at m0 m1 q0
    clear hv0 KFu FB
    have FB := FB2
    clear FB2
    have KFv : ∀ W, Below v.heap.size v W → True ∧ True ∧ True := by
     intro W hv
     refine ⟨trivial, trivial, ?_⟩
     ·trivial
    refine wp_region_held_drew (S := fun W => True ∧ True ∧ True) (by kernel_rfl) (KFv _ (Below.refl _ _).drew) (fun hHeld => ?_)
    have FB := FB.drew
    refine sY 0 36 ?_
    refine sY 1 37 ?_
    refine sY 2 38 ?_
    refine wpAnyH_ready (rs := [3, 4]) (by kernel_rfl) (by simp) ?_
    refine AllReadyH.cons rfl (fun K hK => ?_) (AllReadyH.cons rfl (fun K hK => ?_) (AllReadyH.nil))
    ·have p0 := q0
     go_simp
     (try go_wp2_with fail)
     refine hK.out _ _ ?_ (fun hHeld => ?_)
     ·exact hHeld
     clear hK K
     try simp only [Act.put, List.setIfInBounds_toArray, List.set_cons_zero, List.set_cons_succ]
     refine sO 4 fun K hK => ?_
     have p0 := m0
     have p1 := m1
     go_simp
     (try go_wp2_with fail)
     refine hK.out _ _ ?_ (fun hHeld => ?_)
     ·exact hHeld
     clear hK K
     try simp only [Act.put, List.setIfInBounds_toArray, List.set_cons_zero, List.set_cons_succ]
     refine sO 5 fun K hK => ?_
     go_simp
     refine (HM.out _ FB _ _).mono ?_
     rintro e w3 ⟨rfl, h1, h2, h3⟩
     (try go_wp2_with fail)
     refine hK.out _ _ ?_ (fun hHeld => ?_)
     ·exact ⟨trivial, trivial, trivial⟩
     clear hK K
     try simp only [Act.put, List.setIfInBounds_toArray, List.set_cons_zero, List.set_cons_succ]
     refine wpAnyH_done (by kernel_rfl) ?_ _
     go_wp2_with fail
     go_end0
     exact ⟨rfl, h1, h3⟩
    ·have p0 := m0
     have p1 := m1
     go_simp
     (try go_wp2_with fail)
     refine hK.out _ _ ?_ (fun hHeld => ?_)
     ·exact hHeld
     clear hK K
     try simp only [Act.put, List.setIfInBounds_toArray, List.set_cons_zero, List.set_cons_succ]
     refine sO 3 fun K hK => ?_
     have p0 := q0
     go_simp
     (try go_wp2_with fail)
     refine hK.out _ _ ?_ (fun hHeld => ?_)
     ·exact hHeld
     clear hK K
     try simp only [Act.put, List.setIfInBounds_toArray, List.set_cons_zero, List.set_cons_succ]
     refine sO 5 fun K hK => ?_
     go_simp
     refine (HM.out _ FB _ _).mono ?_
     rintro e w3 ⟨rfl, h1, h2, h3⟩
     (try go_wp2_with fail)
     refine hK.out _ _ ?_ (fun hHeld => ?_)
     ·exact ⟨trivial, trivial, trivial⟩
     clear hK K
     try simp only [Act.put, List.setIfInBounds_toArray, List.set_cons_zero, List.set_cons_succ]
     refine wpAnyH_done (by kernel_rfl) ?_ _
     go_wp2_with fail
     go_end0
     exact ⟨rfl, h1, h3⟩
   | false =>
    go_wp2_with fail
    go_end0
    exact ⟨rfl, HE.out _ Fb.out⟩
end
end Go.Proofs.YtpjooboohelffaaGreatDoor
/- The walk of Send at places that are there, in order. -/
namespace Go.Proofs.YtpjooboohelffaaGreatDoor.F16
open Go.RowKit
set_option linter.unusedVariables false
theorem ret2_nums {a b : List Int} {x : Value} (h : a = b) : Ending.returned (.tuple #[.string (strOfNums a), x]) = .returned (.tuple #[.string (strOfNums b), x]) := by rw [h]
set_option maxRecDepth 100000 in
set_option maxHeartbeats 8000000 in
theorem send_ok (G : Grid) (fr fc tr tc : Nat) (w : World) (h : G.In w.heap.size w) (hok : G.Ok) (hf : G.thereP fr fc) (ht : G.thereP tr tc)
  (hle : ¬ G.num tr tc 0 < G.num fr fc 0) :
  Fn w 169 #[G.v, .agg #[.int .i64 fr, .int .i64 fc], .agg #[.int .i64 tr, .int .i64 tc], .func (.func 170) #[] #[]] (.tuple #[.string (strOfNums (sendOut G fr fc tr tc)), .int .i64 0]) := by
 have hn : 0 < G.n := hok.1
 have hfn : ∀ w, (binOp .eql 247 (.func (.func 170) #[] #[]) .nilFunc).run Tryz.prog w = .ok (.bool false) w := fun _ => by kernel_rfl
 have HC : ∀ W, Below w.heap.size w W → Fn W 37 #[G.v] (.int .i64 0) := fun W hW => by
  have := check_any G W (h.later hW hW.size)
  rwa [okB_yes hok] at this
 have HT : ∀ W, Below w.heap.size w W → ∀ r c, Fn W 38 #[G.v, .agg #[.int .i64 r, .int .i64 c]] (.bool (G.thereB r c)) := fun W hW r c => there_any G r c W (h.later hW hW.size) hn
 have HN : ∀ W, Below w.heap.size w W → ∀ r c, Fn W 141 #[G.v, .agg #[.int .i64 r, .int .i64 c], .int .i64 0] (.int .i64 (G.num r c 0)) := fun W hW r c => number_any G r c 0 W (h.later hW hW.size) hok
 have hBE := Lib.hid (show ∀ r', fr ≤ r' → r' ≤ tr → beginOf fr fc r' ≤ endOf (G.len 0) tr tc r' by
  intro r' h1 h2
  have hnf : G.num fr fc 0 = fr * (G.len 0 : Int) + fc := by simp [Grid.num, thereB_iff.2 hf]
  have hnt : G.num tr tc 0 = tr * (G.len 0 : Int) + tc := by simp [Grid.num, thereB_iff.2 ht]
  obtain ⟨_, _, _, f3⟩ := hf
  obtain ⟨_, _, _, t3⟩ := ht
  rw [hnf, hnt] at hle
  unfold beginOf endOf
  split
  ·split
   ·subst_vars; omega
   ·omega
  ·omega)
 have hft := Lib.hid (show fr ≤ tr by
  have hnf : G.num fr fc 0 = fr * (G.len 0 : Int) + fc := by simp [Grid.num, thereB_iff.2 hf]
  have hnt : G.num tr tc 0 = tr * (G.len 0 : Int) + tc := by simp [Grid.num, thereB_iff.2 ht]
  obtain ⟨_, _, _, t3⟩ := ht
  rw [hnf, hnt] at hle
  rcases Nat.lt_or_ge tr fr with h1 | h1
  ·exfalso
   have h2 : (tr + 1) * G.len 0 ≤ fr * G.len 0 := Nat.mul_le_mul_right _ h1
   rw [Nat.add_mul] at h2
   have h3 : ((tr * G.len 0 : Nat) : Int) + G.len 0 ≤ ((fr * G.len 0 : Nat) : Int) := by omega
   rw [Int.natCast_mul, Int.natCast_mul] at h3
   omega
  ·exact h1)
 have bf := thereB_iff.2 hf
 have bt := thereB_iff.2 ht
 have le : decide (G.num tr tc 0 < G.num fr fc 0) = false := by simpa using hle
 unfold Fn at *
 obtain ⟨b, off, ea, hb, hc⟩ := h.rows hn
 unfold Grid.v at *
 rw [ea] at HC HT HN ⊢
 have HC' := Lib.hid HC
 have HT' := Lib.hid HT
 have HN' := Lib.hid HN
 have H := Lib.hid h
 have Hok := Lib.hid hok
 have Hc := Lib.hid hc
 have Hf := Lib.hid hf
 have Ht := Lib.hid ht
 clear HC HT HN h hc ea hle hok hf ht
 go_enter Tryz.func169, Tryz.ntmps169
 go_wp2_with (go_at_call 37; refine (HC'.out _ (bel_alloc (bel_alloc (Below.refl _ _) _) _)).mono ?_; rintro e w1 ⟨rfl, hb1⟩)
 have B1 : Below w.heap.size w w1 := bel_call (bel_alloc (bel_alloc (Below.refl _ _) _) _) hb1
 have hz := hb1.size
 simp at hz
 have k0 := hb1.cell (p := ⟨w.heap.size, 0, none⟩) (by simp; omega)
 have k1 := hb1.cell (p := ⟨w.heap.size, 1, none⟩) (by simp; omega)
 have k2 := hb1.cell (p := ⟨w.heap.size + 1, 0, none⟩) (by simp)
 have k3 := hb1.cell (p := ⟨w.heap.size + 1, 1, none⟩) (by simp)
 simp [go_sem] at k0 k1 k2 k3
 have hz1 : w.heap.size + 1 < w1.heap.size := by omega
 clear hz
 have KB : ∀ W : World, Below w1.heap.size w1 W → (W.cell? ⟨w.heap.size, 0, none⟩ = some (.int .i64 fr) ∧ W.cell? ⟨w.heap.size, 1, none⟩ = some (.int .i64 fc) ∧ W.cell? ⟨w.heap.size + 1, 0, none⟩ = some (.int .i64 tr) ∧ W.cell? ⟨w.heap.size + 1, 1, none⟩ = some (.int .i64 tc)) ∧ Below w1.heap.size w1 W := fun W hW =>
  ⟨⟨(hW.cell (p := ⟨w.heap.size, 0, none⟩) (by simp; omega)).trans k0, (hW.cell (p := ⟨w.heap.size, 1, none⟩) (by simp; omega)).trans k1, (hW.cell (p := ⟨w.heap.size + 1, 0, none⟩) (by simp; omega)).trans k2, (hW.cell (p := ⟨w.heap.size + 1, 1, none⟩) (by simp; omega)).trans k3⟩, hW⟩
 go_region_held3 (fun W => (W.cell? ⟨w.heap.size, 0, none⟩ = some (.int .i64 fr) ∧ W.cell? ⟨w.heap.size, 1, none⟩ = some (.int .i64 fc) ∧ W.cell? ⟨w.heap.size + 1, 0, none⟩ = some (.int .i64 tr) ∧ W.cell? ⟨w.heap.size + 1, 1, none⟩ = some (.int .i64 tc)) ∧ Below w1.heap.size w1 W)
  (first | exact KB _ (Below.refl _ _).drew | exact KB _ (bel_call (‹(_ ∧ _ ∧ _ ∧ _) ∧ Below w1.heap.size w1 _›).2 hb2))
  (first | (go_at_call 38; refine (HT'.out _ (bel_call B1 (‹(_ ∧ _ ∧ _ ∧ _) ∧ Below w1.heap.size w1 _›).2) _ _).mono ?_; rintro e w2 ⟨rfl, hb2⟩) | (go_at_call 141; refine (HN'.out _ (bel_call B1 (‹(_ ∧ _ ∧ _ ∧ _) ∧ Below w1.heap.size w1 _›).2) _ _).mono ?_; rintro e w2 ⟨rfl, hb2⟩))
 obtain ⟨⟨k0', k1', k2', k3'⟩, B2⟩ := ‹(_ ∧ _ ∧ _ ∧ _) ∧ Below w1.heap.size w1 _›
 have B0 : Below w.heap.size w w2 := bel_call B1 B2
 have hz2 : w.heap.size + 1 < w2.heap.size := by have := B2.size; omega
 clear KB k0 k1 k2 k3 HC' HT' HN'
 go_wp2_with fail
 go_loopw [10, 11, 12, 13, 14, 15] (fun o r _ _ _ _ wr => ∃ r' : Nat, fr ≤ r' ∧ r' ≤ tr + 1 ∧ r = .int .i64 (r' : Int) ∧ OwnB wr w2.heap.size o (sendRows G fr fc tr tc (r' - fr)) ∧ Below w2.heap.size w2 wr) (fun _ r _ _ _ _ _ => (tr + 1) - (intOf r).toNat)
 case atStart => 
  refine ⟨fr, by omega, ?_, rfl, ?_, Below.refl _ _⟩
  ·have := hft.out; omega
  ·rw [Nat.sub_self]; exact OwnB.nil _ _
 case round =>
  obtain ⟨r', hr1, hr2, rfl, hown, hbr⟩ := hrel
  have BR : Below w.heap.size w wr := bel_call B0 hbr
  have c0 := (hbr.cell (p := ⟨w.heap.size, 0, none⟩) (by simp; omega)).trans k0'
  have c1 := (hbr.cell (p := ⟨w.heap.size, 1, none⟩) (by simp; omega)).trans k1'
  have c2 := (hbr.cell (p := ⟨w.heap.size + 1, 0, none⟩) (by simp; omega)).trans k2'
  have c3 := (hbr.cell (p := ⟨w.heap.size + 1, 1, none⟩) (by simp; omega)).trans k3'
  by_cases hlt : r' ≤ tr
  ·obtain ⟨n1, n2, hg⟩ := Hok.out
   obtain ⟨_, t1, _, t3⟩ := Ht.out
   obtain ⟨_, _, _, f3⟩ := Hf.out
   have hrn : r' < G.n := by omega
   obtain ⟨m1, m2, m3⟩ := hg r' hrn
   have crw := Hc.out r' hrn
   obtain ⟨rb, ro, er, hrb, hcc⟩ := H.out.cells r' hrn (by omega)
   rw [er, m3] at crw
   have cr := (BR.cell (p := ⟨b, off + r', none⟩) hb).trans crw
   have Crw := Lib.hid crw
   clear crw
   rw [m3] at m1 m2 hcc
   have q0 : (r' : Int) < (G.n : Int) := by omega
   have Hcc := Lib.hid hcc
   have Er := Lib.hid er
   have M3 := Lib.hid m3
   clear hg hcc er m3
   have Hn1 := Lib.hid n1
   have Hm := Lib.hid (show 1 ≤ G.len 0 from m1)
   go_upto_if 60 with (go_quiet (fail))
   go_cut [12] (fun s wx => s = .int .i64 ((beginOf fr fc r' : Nat) : Int) ∧ ∃ n, wx = wr.drewN n)
   case first =>
    by_cases e : r' = fr
    ·have e' : ((r' : Int) == (fr : Int)) = true := by simp; omega
     have E := Lib.hid e
     clear e
     go_wp2_with fail
     go_meet
     exact ⟨by rw [E.out]; simp [beginOf], _, rfl⟩
    ·have e' : ((r' : Int) == (fr : Int)) = false := by simp; omega
     have E := Lib.hid e
     clear e
     go_wp2_with fail
     go_meet
     exact ⟨by simp [beginOf, E.out], _, rfl⟩
   case rest =>
    obtain ⟨rfl, n, rfl⟩ := hcut
    go_upto_if 66 with (fail)
    go_cut [13] (fun s wx => s = .int .i64 ((endOf (G.len 0) tr tc r' : Nat) : Int) ∧ ∃ n, wx = wr.drewN n)
    case first =>
     by_cases e : r' = tr
     ·have e' : ((r' : Int) == (tr : Int)) = true := by simp; omega
      have E := Lib.hid e
      clear e
      go_wp2_with fail
      go_meet
      exact ⟨by rw [E.out]; simp [endOf], _, rfl⟩
     ·have e' : ((r' : Int) == (tr : Int)) = false := by simp; omega
      have E := Lib.hid e
      clear e
      go_wp2_with fail
      go_meet
      exact ⟨by simp [endOf, E.out]; omega, _, rfl⟩
    case rest =>
     obtain ⟨rfl, n, rfl⟩ := hcut
     have hbe : beginOf fr fc r' ≤ endOf (G.len 0) tr tc r' := hBE.out r' hr1 hlt
     have hen : endOf (G.len 0) tr tc r' < G.len 0 := by unfold endOf; split <;> omega
     have Hown := Lib.hid hown
     have Hbr := Lib.hid hbr
     have Hsr := Lib.hid (show sendRows G fr fc tr tc (r' + 1 - fr) = sendRows G fr fc tr tc (r' - fr) ++ (rowOut (G.gd r') (G.gl r') (beginOf fr fc r') (endOf (G.len 0) tr tc r' + 1 - beginOf fr fc r')).1 ++ (if r' < tr then [31] else []) by
      rw [show r' + 1 - fr = (r' - fr) + 1 by omega, sendRows, show fr + (r' - fr) = r' by omega])
     have hL := sendRows_len G fr fc tr tc m2 (by omega) (r' - fr)
     generalize beginOf fr fc r' = bg at *
     generalize endOf (G.len 0) tr tc r' = en at *
     generalize hO0 : sendRows G fr fc tr tc (r' - fr) = O0 at *
     have HO0 := Lib.hid hO0
     clear hO0 hown hbr
     obtain ⟨wo, hwo⟩ : ∃ wo, wr.drewN n = wo := ⟨_, rfl⟩
     rw [hwo]
     have Bwo : Below w2.heap.size w2 wo := by rw [← hwo]; exact bel_drewN Hbr.out _
     have Owo : OwnB wo w2.heap.size u10 O0 := by rw [← hwo]; exact Hown.out.drewN _
     clear hwo
     go_wp2_with fail
     go_loopw [10, 14, 15] (fun o s c wx => ∃ c' : Nat, bg ≤ c' ∧ c' ≤ en + 1 ∧ c = .int .i64 (c' : Int) ∧ s = .bool (rowOut (G.gd r') (G.gl r') bg (c' - bg)).2 ∧ OwnB wx w2.heap.size o (O0 ++ (rowOut (G.gd r') (G.gl r') bg (c' - bg)).1) ∧ Below w2.heap.size w2 wx) (fun _ _ c _ => (en + 1) - (intOf c).toNat)
     case atStart =>
      refine ⟨bg, by omega, by omega, rfl, ?_, ?_, Bwo⟩
      ·rw [Nat.sub_self]; rfl
      ·rw [Nat.sub_self, rowOut_zero]; simpa using Owo
     case round =>
      obtain ⟨c', hc1, hc2, rfl, rfl, hown, hbx⟩ := hrel
      have BX : Below w.heap.size w wr := bel_call B0 hbx
      have Hown := Lib.hid hown
      have Hbx := Lib.hid hbx
      have crx := (BX.cell (p := ⟨b, off + r', none⟩) hb).trans Crw.out
      have hsz := hbx.size
      have hLr := rowOut_len (G.gd r') (G.gl r') bg (c' - bg)
      clear hown hbx
      by_cases hle2 : c' ≤ en
      ·have q1 : (c' : Int) < (G.len 0 : Int) := by omega
       have cc := Hcc.out c' (by omega)
       have cg := (BX.cell (p := ⟨rb, ro + c' * 4, none⟩) hrb).trans cc.1
       have cd := (BX.cell (p := ⟨rb, ro + c' * 4 + 2, none⟩) hrb).trans cc.2.2.1
       clear cc
       by_cases g : G.gd r' c' = true
       ·rw [g] at cd
        have Hs := Lib.hid (rowOut_skip (G.gd r') (G.gl r') bg (c' - bg) (by rw [show bg + (c' - bg) = c' by omega]; exact g))
        go_wp2_with fail
        go_roundw
        case rel => exact ⟨c' + 1, by omega, by omega, by go_num, by rw [show c' + 1 - bg = c' - bg + 1 by omega, Hs.out], by rw [show c' + 1 - bg = c' - bg + 1 by omega, Hs.out]; exact Hown.out, Hbx.out⟩
        case measure => simp [intOf]; omega
       ·have gf : G.gd r' c' = false := by simpa using g
        rw [gf] at cd
        have hgl := H.out.glyphs r' hrn c' (by rw [M3.out]; omega)
        have HB := fun W => of_w (G.gl r' c') W
        unfold Fn at HB
        have hgf : G.gd r' (bg + (c' - bg)) = false := by rw [show bg + (c' - bg) = c' by omega]; exact gf
        have HG := Lib.hid hgf
        clear hgl g gf hgf
        have HB' := Lib.hid HB
        clear HB
        by_cases hs : (rowOut (G.gd r') (G.gl r') bg (c' - bg)).2 = true
        ·have hk1 := rowOut_sent _ _ _ _ hs
         have cd1 := (BX.cell (p := ⟨rb, ro + (c' - 1) * 4 + 2, none⟩) hrb).trans (Hcc.out (c' - 1) (by omega)).2.2.1
         have q2 : (1 : Int) ≤ (c' : Int) := by omega
         by_cases g2 : G.gd r' (c' - 1) = true
         ·rw [g2] at cd1
          have Hs := Lib.hid (rowOut_sep (G.gd r') (G.gl r') bg (c' - bg) HG.out hs (by rw [show bg + (c' - bg) - 1 = c' - 1 by omega]; exact g2))
          clear g2
          go_wp2_with (first
           | (go_at_call 170; refine (HB'.out _).mono ?_; rintro e w5 ⟨rfl, hb5⟩)
           | (at_builtin; refine wp_app1 rfl (.tmp 98) (.tmp 109) rfl w2.heap.size _ _ _ _ _ rfl rfl rfl (own1.call hb5) (Nat.le_trans (Nat.le_trans (by omega) bel1.size) hb5.size) (by simp; omega) ?_; intro v2 W2 own2 bel2)
           | (at_builtin; refine wp_app1 rfl (.tmp 95) (.tmp 96) rfl w2.heap.size _ _ _ _ _ rfl rfl (by simp) Hown.out (by omega) (by simp; omega) ?_; intro v1 W1 own1 bel1; have BW := bel_call B0 (Hbx.out.trans bel1); have crW := (BW.cell (p := ⟨b, off + r', none⟩) hb).trans Crw.out; have cgW := (BW.cell (p := ⟨rb, ro + c' * 4, none⟩) hrb).trans (Hcc.out c' (by omega)).1))
          go_roundw
          case rel => exact ⟨c' + 1, by omega, by omega, by go_num, by rw [show c' + 1 - bg = c' - bg + 1 by omega, Hs.out], by rw [show c' + 1 - bg = c' - bg + 1 by omega, Hs.out, show bg + (c' - bg) = c' by omega]; simpa using own2, ((Hbx.out.trans bel1).trans (hb5.mono (Nat.le_trans (by omega) bel1.size))).trans bel2⟩
          case measure => simp [intOf]; omega
         ·have g2f : G.gd r' (c' - 1) = false := by simpa using g2
          rw [g2f] at cd1
          have Hs := Lib.hid (rowOut_add (G.gd r') (G.gl r') bg (c' - bg) HG.out (fun _ => by rw [show bg + (c' - bg) - 1 = c' - 1 by omega]; exact g2f))
          clear g2 g2f
          go_wp2_with (first
           | (go_at_call 170; refine (HB'.out _).mono ?_; rintro e w5 ⟨rfl, hb5⟩)
           | (at_builtin; refine wp_app1 rfl (.tmp 98) (.tmp 109) rfl w2.heap.size _ _ _ _ _ rfl rfl rfl (Hown.out.call hb5) (Nat.le_trans (by omega) hb5.size) (by simp; omega) ?_; intro v1 W1 own1 bel1))
          go_roundw
          case rel => exact ⟨c' + 1, by omega, by omega, by go_num, by rw [show c' + 1 - bg = c' - bg + 1 by omega, Hs.out], by rw [show c' + 1 - bg = c' - bg + 1 by omega, Hs.out, show bg + (c' - bg) = c' by omega]; simpa using own1, (Hbx.out.trans (hb5.mono (by omega))).trans bel1⟩
          case measure => simp [intOf]; omega
        ·have Hs := Lib.hid (rowOut_add (G.gd r') (G.gl r') bg (c' - bg) HG.out (fun e => absurd e hs))
         have hs' : (rowOut (G.gd r') (G.gl r') bg (c' - bg)).2 = false := by simpa using hs
         clear hs
         go_wp2_with (first
          | (go_at_call 170; refine (HB'.out _).mono ?_; rintro e w5 ⟨rfl, hb5⟩)
          | (at_builtin; refine wp_app1 rfl (.tmp 98) (.tmp 109) rfl w2.heap.size _ _ _ _ _ rfl rfl rfl (Hown.out.call hb5) (Nat.le_trans (by omega) hb5.size) (by simp; omega) ?_; intro v1 W1 own1 bel1))
         go_roundw
         case rel => exact ⟨c' + 1, by omega, by omega, by go_num, by rw [show c' + 1 - bg = c' - bg + 1 by omega, Hs.out], by rw [show c' + 1 - bg = c' - bg + 1 by omega, Hs.out, show bg + (c' - bg) = c' by omega]; simpa using own1, (Hbx.out.trans (hb5.mono (by omega))).trans bel1⟩
         case measure => simp [intOf]; omega
      ·have hce : c' = en + 1 := by omega
       have q3 : (en : Int) < (c' : Int) := by omega
       have c0x := (BX.cell (p := ⟨b, off + r', none⟩) hb)
       clear c0x
       have d2 := (Hbx.out.cell (p := ⟨w.heap.size + 1, 0, none⟩) (by simp; omega)).trans k2'
       by_cases hl2 : r' < tr
       ·have q4 : (r' : Int) < (tr : Int) := by omega
        have Hce := Lib.hid hce
        clear hce
        go_wp2_with (at_builtin; refine wp_app1 rfl (.tmp 115) (.tmp 116) rfl w2.heap.size _ _ _ _ _ rfl rfl (by simp) Hown.out (by omega) (by simp; omega) ?_; intro v1 W1 own1 bel1)
        go_roundw
        case rel => exact ⟨r' + 1, by omega, by omega, by go_num, by rw [Hsr.out, if_pos hl2, ← HO0.out, ← Hce.out]; simpa [HO0.out] using own1, Hbx.out.trans bel1⟩
        case measure => simp [intOf]; omega
       ·have q4 : ¬ (r' : Int) < (tr : Int) := by omega
        have Hce := Lib.hid hce
        clear hce
        go_wp2
        go_roundw
        case rel => exact ⟨r' + 1, by omega, by omega, by go_num, by rw [Hsr.out, if_neg hl2, List.append_nil, ← Hce.out]; exact Hown.out, Hbx.out⟩
        case measure => simp [intOf]; omega
  ·have e : r' = tr + 1 := by omega
   have q5 : (tr : Int) < (r' : Int) := by omega
   have hcv := conv_own hown
   have E := Lib.hid e
   clear e
   go_wp2
   go_ret2
   exact ⟨ret2_nums (by rw [sendOut, ← E.out]), bel_call B0 (hbr.mono (Nat.le_refl _))⟩
end Go.Proofs.YtpjooboohelffaaGreatDoor.F16
/- Top: wyse: told, send. -/
namespace Go.Proofs.YtpjooboohelffaaGreatDoor
open Go.RowKit Go.Shelf T05
set_option linter.unusedVariables false
set_option linter.unusedSimpArgs false
set_option maxRecDepth 100000
def RByte (e : Ending) : Prop := ∃ b : Nat, e = .returned (.int .u8 b) ∧ b < 256
theorem told_any (n : Nat) (hn : n < 256) (w : World) : Calls Tryz.prog 122 #[.int .i64 n] w fun e w' => RByte e ∧ w' = w := by
 have m1 : IntKind.i64.wrap ((n : Int) + 32) = (n : Int) + 32 := IntWalk.i64_in _ (by omega)
 have P := Lib.hid (show ∃ b : Nat, (b : Int) = min ((n : Int) + 32) 126 ∧ b < 256 from ⟨(min ((n : Int) + 32) 126).toNat, by omega, by omega⟩)
 go_enter Tryz.func122, Tryz.ntmps122
 go_wp2_with fail
 go_ret
 obtain ⟨b, h1, h2⟩ := P.out
 exact ⟨⟨b, by rw [h1]; rfl, h2⟩, rfl⟩
end Go.Proofs.YtpjooboohelffaaGreatDoor
/- Top, plain: what is sent of all: the open places, each a byte that is shown; a line's end behind each row but the last. -/
namespace Go.Proofs.YtpjooboohelffaaGreatDoor
open Go.RowKit F16
set_option linter.unusedVariables false
set_option linter.unusedSimpArgs false
/-- Bytes of glyphs. -/
def shownB (x : Int) : Bool := decide (x ≠ 31) && decide (x ≠ 28) && decide (x ≠ 13)
/-- How many of the first k columns are open. -/
def openC (gd : Nat → Bool) : Nat → Nat
 | 0 => 0
 | k + 1 => openC gd k + (if gd k then 0 else 1)
/-- The columns of row r that are sent. -/
def upTo (m tr tc r : Nat) : Nat := if r = tr then tc + 1 else m
/-- .. of the first k rows. -/
def openR (G : Grid) (tr tc : Nat) : Nat → Nat
 | 0 => 0
 | k + 1 => openR G tr tc k + openC (G.gd k) (upTo (G.len 0) tr tc k)
theorem rowOut_n (gd : Nat → Bool) (gl : Nat → Int) (k : Nat) : (rowOut gd gl 0 k).1.countP shownB = openC gd k ∧ (rowOut gd gl 0 k).1.countP (fun x => decide (x = 31)) = 0 := by
 induction k with
 | zero => simp [rowOut, openC]
 | succ k ih =>
  cases h : gd (0 + k) with
  | true =>
   have h' : gd k = true := by simpa using h
   rw [rowOut_skip _ _ _ _ h]
   simp [openC, h', ih]
  | false =>
   have h' : gd k = false := by simpa using h
   have hb := byteOf_shown (gl k)
   unfold rowOut
   simp only [h, h', openC, Bool.false_eq_true, if_false, Nat.zero_add]
   generalize byteOf (gl k) = x at hb ⊢
   have e1 : shownB x = true := by
    have a1 : x ≠ 31 := by omega
    have a2 : x ≠ 28 := by omega
    have a3 : x ≠ 13 := by omega
    simp [shownB, a1, a2, a3]
   have e2 : x ≠ 31 := by omega
   have e3 : shownB 28 = false := by decide
   split <;> simp [List.countP_append, List.countP_cons, ih.1, ih.2, e1, e2, e3]
theorem upTo_eq (m tr tc r : Nat) (hm : 1 ≤ m) : endOf m tr tc r + 1 - beginOf 0 0 r = upTo m tr tc r := by
 unfold endOf beginOf upTo
 split <;> split <;> omega
theorem beginOf_zero (r : Nat) : beginOf 0 0 r = 0 := by unfold beginOf; split <;> rfl
theorem sendRows_n (G : Grid) (tr tc : Nat) (hm : 1 ≤ G.len 0) (k : Nat) (hk : k ≤ tr + 1) :
  (sendRows G 0 0 tr tc k).countP shownB = openR G tr tc k ∧ (sendRows G 0 0 tr tc k).countP (fun x => decide (x = 31)) = min k tr := by
 induction k with
 | zero => simp [sendRows, openR]
 | succ k ih =>
  obtain ⟨i1, i2⟩ := ih (by omega)
  have hr := rowOut_n (G.gd k) (G.gl k) (upTo (G.len 0) tr tc k)
  unfold sendRows
  rw [upTo_eq _ _ _ _ hm, beginOf_zero]
  simp only [Nat.zero_add]
  simp only [List.countP_append, i1, i2, hr.1, hr.2, openR]
  have e3 : shownB 31 = false := by decide
  by_cases h : k < tr
  ·simp [h, e3]; omega
  ·simp [h]; omega
theorem rowOut_le (gd : Nat → Bool) (gl : Nat → Int) (b k : Nat) : (rowOut gd gl b k).1.length ≤ 2 * k := rowOut_len gd gl b k
theorem sendRows_le (G : Grid) (fr fc tr tc : Nat) (m : Nat) (hm : G.len 0 ≤ m) (htc : tc < m) (k : Nat) : (sendRows G fr fc tr tc k).length ≤ (2 * m + 1) * k := by
 induction k with
 | zero => simp [sendRows]
 | succ k ih =>
  unfold sendRows
  have h1 := rowOut_len (G.gd (fr + k)) (G.gl (fr + k)) (beginOf fr fc (fr + k)) (endOf (G.len 0) tr tc (fr + k) + 1 - beginOf fr fc (fr + k))
  have h2 : endOf (G.len 0) tr tc (fr + k) + 1 - beginOf fr fc (fr + k) ≤ m := by unfold endOf; split <;> omega
  simp only [List.length_append]
  have h3 : (if fr + k < tr then [(31 : Int)] else []).length ≤ 1 := by split <;> simp
  have h4 : (2 * m + 1) * (k + 1) = (2 * m + 1) * k + (2 * m + 1) := by rw [Nat.mul_succ]
  omega
end Go.Proofs.YtpjooboohelffaaGreatDoor
/- Top: wyse: send. -/
namespace Go.Proofs.YtpjooboohelffaaGreatDoor
open Go.RowKit Go.Shelf T05
set_option linter.unusedVariables false
set_option linter.unusedSimpArgs false
set_option maxRecDepth 100000
/-- Numbers of bytes. -/
def Bytes (L : List Int) : Prop := ∀ x ∈ L, 0 ≤ x ∧ x < 256
theorem bytesI_nums {L : List Int} (h : Bytes L) : bytesI (strOfNums L) = L := by
 unfold bytesI
 rw [strOfNums_data, List.map_map]
 refine (List.map_congr_left (fun x hx => ?_)).trans (List.map_id L)
 obtain ⟨h0, h1⟩ := h x hx
 simp only [Function.comp, id]
 rw [UInt8.toNat_ofNat']
 omega
theorem bytesI_app (a b : ByteArray) : bytesI (a ++ b) = bytesI a ++ bytesI b := by
 unfold bytesI
 rw [ByteArray.data_append, Array.toList_append, List.map_append]
theorem rowOut_bytes (gd : Nat → Bool) (gl : Nat → Int) (b k : Nat) : Bytes (F16.rowOut gd gl b k).1 := by
 induction k with
 | zero => intro x hx; simp [F16.rowOut] at hx
 | succ k ih =>
  unfold F16.rowOut
  split
  ·exact ih
  ·intro x hx
   simp only [List.mem_append, List.mem_singleton] at hx
   rcases hx with (hx | hx) | hx
   ·exact ih x hx
   ·split at hx
    ·simp at hx; omega
    ·cases hx
   ·have := byteOf_shown (gl (b + k)); rw [hx]; omega
theorem sendRows_bytes (G : F16.Grid) (fr fc tr tc k : Nat) : Bytes (F16.sendRows G fr fc tr tc k) := by
 induction k with
 | zero => intro x hx; simp [F16.sendRows] at hx
 | succ k ih =>
  intro x hx
  unfold F16.sendRows at hx
  simp only [List.mem_append] at hx
  rcases hx with (hx | hx) | hx
  ·exact ih x hx
  ·exact rowOut_bytes _ _ _ _ x hx
  ·split at hx
   ·simp at hx; omega
   ·cases hx
/-- What is sent of a screen. -/
def SentP (L : Lay) (cell : Nat → Nat → Cl) (fr fc tr tc : Nat) (Q' : List Int) : Prop := ∃ G v, GridR G v L.R L.C cell ∧ Q' = F16.sendOut G fr fc tr tc ++ [13]
section
variable {K : Nat → Prop} {L : Lay} {tm qb lb : Nat} {t : Tm} {f : Nat} {Q : List Int} {ov : Bool} {rs : Nat → Nat} {cell : Nat → Nat → Cl} {r c : Int} {S : Int → Bool}
/-- A push onto the terminal's queue. -/
theorem w_push {w : World} (h : Wy K L tm qb lb w rs cell r c S t f Q ov) (hK : KB K w) {W : World} (hb : Below w.heap.size w W) (b : Nat) (s : ByteArray) (hs : W.cell? ⟨b, 0, none⟩ = some (.string s)) (hbb : w.heap.size ≤ b) (hsz : s.size ≤ 100000) :
  Calls Tryz.prog 74 #[.pointer (some ⟨qb, 0, none⟩), .slice (some ⟨b, 0, none⟩) 1 1] W fun e w' => (∃ z, e = .returned (.bool z)) ∧ (∃ Q' ov', Wy K L tm qb lb w' rs cell r c S t f Q' ov' ∧ (Q = [] → s.size ≤ 4096 → Q' = bytesI s)) ∧ Kept K w w' := by
 have h' := h.later hb
 have hK' := hK.more hb.size
 have l1 := h.q.qB.blk.lt
 have l2 := h.q.lB.blk.lt
 refine (q_push W qb lb f Q ov h'.q b s hs (by omega) (by omega) hsz).mono ?_
 rintro e w' ⟨⟨h1, h2⟩, h3⟩
 have h4 : Kept (fun k => k < W.heap.size ∧ k ≠ qb ∧ k ≠ lb) W w' := h3.less (fun k hk => hk.2)
 by_cases hf : Q.length + s.size ≤ 4096
 ·obtain ⟨rfl, h5⟩ := h1 hf
  obtain ⟨h6, h7⟩ := h'.queue hK' h4 h5
  exact ⟨⟨_, rfl⟩, ⟨_, _, h6, fun hq _ => by rw [hq]; rfl⟩, (Kept.ofBelow hb hK).trans h7⟩
 ·obtain ⟨rfl, h5⟩ := h2 hf
  obtain ⟨h6, h7⟩ := h'.queue hK' h4 h5
  exact ⟨⟨_, rfl⟩, ⟨_, _, h6, fun hq hs => absurd (by rw [hq]; simpa using hs) hf⟩, (Kept.ofBelow hb hK).trans h7⟩
set_option maxHeartbeats 4000000 in
theorem y_send (w : World) (hK : KB K w) (h : Wy K L tm qb lb w rs cell r c S t f Q ov) (ha : AllW L.R L.C cell) (hR : L.R ≤ 6) (hC : L.C ≤ 12) (fr fc tr tc : Nat) (h1 : fr < L.R) (h2 : fc < L.C) (h3 : tr < L.R) (h4 : tc < L.C) (hle : fr * L.C + fc ≤ tr * L.C + tc) :
  Calls Tryz.prog 123 #[.pointer (some ⟨tm, 0, none⟩), pr fr fc, pr tr tc] w fun e w' => e = .returned (.tuple #[]) ∧ (∃ Q' ov', Wy K L tm qb lb w' rs cell r c S t f Q' ov' ∧ (Q = [] → SentP L cell fr fc tr tc Q')) ∧ Kept K w w' := by
 have HR := Lib.hid (fun W (hb : Below w.heap.size w W) => s_rows W (h.scr.later hb))
 have HG := Lib.hid (fun W v lo (hr : RowsAt W lo v L.R L.C cell) => (show ∃ G, GridR G v L.R L.C cell ∧ Calls Tryz.prog 169 #[v, pr fr fc, pr tr tc, .func (.func 170) #[] #[]] W (fun e w' => e = .returned (.tuple #[.string (strOfNums (F16.sendOut G fr fc tr tc)), .int .i64 0]) ∧ Below W.heap.size W w') from by
  obtain ⟨G, hg, hin⟩ := grid_of hr h.scr.gr.r1 h.scr.gr.r2 h.scr.gr.c1 h.scr.gr.c2 ha
  refine ⟨G, hg, ?_⟩
  have hlen : G.len 0 = L.C := hg.len 0 (by omega)
  have hn := hg.n
  have t1 : G.thereP fr fc := by refine ⟨?_, ?_, ?_, ?_⟩ <;> omega
  have t2 : G.thereP tr tc := by refine ⟨?_, ?_, ?_, ?_⟩ <;> omega
  rw [← hg.v]
  refine F16.send_ok G fr fc tr tc W hin hg.ok t1 t2 ?_
  unfold F16.Grid.num
  rw [if_pos (F16.thereB_iff.2 t1), if_pos (F16.thereB_iff.2 t2), hlen]
  intro hh
  have : ((fr * L.C + fc : Nat) : Int) ≤ ((tr * L.C + tc : Nat) : Int) := by exact_mod_cast hle
  push_cast at this
  omega))
 have HQ := Lib.hid (fun W (hb : Below w.heap.size w W) G v (hg : GridR G v L.R L.C cell) (b : Nat) (hs : W.cell? ⟨b, 0, none⟩ = some (.string (strOfNums (F16.sendOut G fr fc tr tc) ++ ⟨#[13]⟩))) (hbb : w.heap.size ≤ b) => (show Calls Tryz.prog 74 #[.pointer (some ⟨qb, 0, none⟩), .slice (some ⟨b, 0, none⟩) 1 1] W (fun e w' => (∃ z, e = .returned (.bool z)) ∧ (∃ Q' ov', Wy K L tm qb lb w' rs cell r c S t f Q' ov' ∧ (Q = [] → SentP L cell fr fc tr tc Q')) ∧ Kept K w w') from by
  have hl : (F16.sendOut G fr fc tr tc).length ≤ 25 * 6 := by
   unfold F16.sendOut
   refine Nat.le_trans (sendRows_le G fr fc tr tc 12 (by rw [hg.len 0 (by omega)]; exact hC) (by omega) _) ?_
   have : tr + 1 - fr ≤ 6 := by omega
   omega
  have hsz : (strOfNums (F16.sendOut G fr fc tr tc) ++ (⟨#[13]⟩ : ByteArray)).size ≤ 151 := by
   rw [ByteArray.size_append, strOfNums_size]
   have : (⟨#[13]⟩ : ByteArray).size = 1 := rfl
   omega
  refine (w_push h hK hb b _ hs hbb (by omega)).mono ?_
  rintro e w' ⟨e1, ⟨Q', ov', e2, e3⟩, e4⟩
  refine ⟨e1, ⟨Q', ov', e2, fun hq => ⟨G, v, hg, ?_⟩⟩, e4⟩
  rw [e3 hq (by omega), bytesI_app, bytesI_nums (show Bytes (F16.sendOut G fr fc tr tc) from sendRows_bytes _ _ _ _ _ _)]
  rfl))
 have HL := Lib.hid (fun G v (hg : GridR G v L.R L.C cell) => (show (strOfNums (F16.sendOut G fr fc tr tc)).size ≤ 150 from by
  rw [strOfNums_size]
  unfold F16.sendOut
  refine Nat.le_trans (sendRows_le G fr fc tr tc 12 (by rw [hg.len 0 (by omega)]; exact hC) (by omega) _) ?_
  have : tr + 1 - fr ≤ 6 := by omega
  omega))
 have k0 := h.ti.t0
 have k1 := h.ti.t1
 have hgk := h.gk
 have hl0 := blt k0
 clear h ha hK
 go_enter Tryz.func123, Tryz.ntmps123
 go_wp2_with fail
 refine gen_wp ?_
 intro u hu0
 have FB : Below w.heap.size w u := by rw [hu0]; (repeat first | exact Below.refl _ _ | refine bel_alloc ?_ _ | refine bel_set ?_ (by simp <;> omega) _)
 have KFu : ∀ W, Below u.heap.size u W → (W.cell? ⟨tm, 0, none⟩ = some (.pointer (some ⟨L.sb, 0, none⟩)) ∧ W.cell? ⟨tm, 1, none⟩ = some (.pointer (some ⟨qb, 0, none⟩)) ∧ W.cell? ⟨w.heap.size, 0, none⟩ = some (.int .i64 (fr : Int)) ∧ W.cell? ⟨w.heap.size, 1, none⟩ = some (.int .i64 (fc : Int)) ∧ W.cell? ⟨w.heap.size + 1, 0, none⟩ = some (.int .i64 (tr : Int)) ∧ W.cell? ⟨w.heap.size + 1, 1, none⟩ = some (.int .i64 (tc : Int))) ∧ True ∧ Below w.heap.size w W := by
  intro W hu
  refine ⟨⟨?_, ?_, ?_, ?_, ?_, ?_⟩, trivial, ?_⟩
  ·exact cellB (bel_call (by rw [hu0]; (repeat first | exact Below.refl _ _ | refine bel_alloc ?_ _)) hu) (k0)
  ·exact cellB (bel_call (by rw [hu0]; (repeat first | exact Below.refl _ _ | refine bel_alloc ?_ _)) hu) (k1)
  ·exact (hu.cell (by rw [hu0]; simp <;> omega)).trans (by rw [hu0]; simp [go_sem])
  ·exact (hu.cell (by rw [hu0]; simp <;> omega)).trans (by rw [hu0]; simp [go_sem])
  ·exact (hu.cell (by rw [hu0]; simp <;> omega)).trans (by rw [hu0]; simp [go_sem])
  ·exact (hu.cell (by rw [hu0]; simp <;> omega)).trans (by rw [hu0]; simp [go_sem])
  ·exact bel_call (by rw [hu0]; (repeat first | exact Below.refl _ _ | refine bel_alloc ?_ _)) hu
 clear hu0 k0 k1
 have hsu := FB.size
 refine wp_region_held_drew (S := fun W => (W.cell? ⟨tm, 0, none⟩ = some (.pointer (some ⟨L.sb, 0, none⟩)) ∧ W.cell? ⟨tm, 1, none⟩ = some (.pointer (some ⟨qb, 0, none⟩)) ∧ W.cell? ⟨w.heap.size, 0, none⟩ = some (.int .i64 (fr : Int)) ∧ W.cell? ⟨w.heap.size, 1, none⟩ = some (.int .i64 (fc : Int)) ∧ W.cell? ⟨w.heap.size + 1, 0, none⟩ = some (.int .i64 (tr : Int)) ∧ W.cell? ⟨w.heap.size + 1, 1, none⟩ = some (.int .i64 (tc : Int))) ∧ True ∧ Below w.heap.size w W) (by kernel_rfl) (KFu _ (Below.refl _ _).drew) (fun hHeld => ?_)
 refine sY 0 9 ?_
 refine sY 1 10 ?_
 refine sY 2 11 ?_
 refine sY 3 12 ?_
 refine sY 5 14 ?_
 refine sY 6 15 ?_
 refine sO 4 fun K hK => ?_
 obtain ⟨⟨fc0, fc1, fc2, fc3, fc4, fc5⟩, _, fb⟩ := hHeld
 go_simp
 refine (HR.out _ fb).mono ?_
 rintro e wR ⟨v, rfl, hrows, b1⟩
 obtain ⟨G, hg, hT⟩ := HG.out _ _ _ hrows
 have HT := Lib.hid hT
 have Hg := Lib.hid hg
 clear hrows hT hg
 (try go_wp2_with fail)
 refine hK.out _ _ ?_ (fun hHeld => ?_)
 ·exact ⟨⟨cellB b1 fc0, cellB b1 fc1, cellB b1 fc2, cellB b1 fc3, cellB b1 fc4, cellB b1 fc5⟩, trivial, bel_call fb b1⟩
 clear hK K
 try simp only [Act.put, List.setIfInBounds_toArray, List.set_cons_zero, List.set_cons_succ]
 refine sO 7 fun K hK => ?_
 obtain ⟨⟨fc0, fc1, fc2, fc3, fc4, fc5⟩, _, fb⟩ := hHeld
 go_simp
 refine HT.out.mono ?_
 rintro e w3 ⟨rfl, b3⟩
 (try go_wp2_with fail)
 refine hK.out _ _ ?_ (fun hHeld => ?_)
 ·exact ⟨⟨cellB b3 fc0, cellB b3 fc1, cellB b3 fc2, cellB b3 fc3, cellB b3 fc4, cellB b3 fc5⟩, trivial, bel_call fb b3⟩
 clear hK K
 try simp only [Act.put, List.setIfInBounds_toArray, List.set_cons_zero, List.set_cons_succ]
 refine sY 8 8 ?_
 refine sY 9 17 ?_
 refine sY 10 18 ?_
 refine sY 11 6 ?_
 refine sY 12 7 ?_
 refine wpAnyH_done (by kernel_rfl) ?_ _
 obtain ⟨⟨g0, g1, g2⟩, _, fb⟩ := hHeld
 have hl2 := blt g0
 have hs2 := fb.size
 have z1 := HL.out G v Hg.out
 have z2 : ¬ 9223372036854775807 < (strOfNums (F16.sendOut G fr fc tr tc)).size + (⟨#[13]⟩ : ByteArray).size := by
  have : (⟨#[13]⟩ : ByteArray).size = 1 := rfl
  omega
 have z3 : ¬ 9223372036854775807 < (strOfNums (F16.sendOut G fr fc tr tc)).size + 1 := by omega
 go_wp2_with fail
 refine (HQ.out _ (bel_alloc fb _) G v Hg.out w3.heap.size ?_ hs2).mono ?_
 ·first | exact World.cell?_alloc_new _ _ | simp [go_sem]
 rintro e w4 ⟨⟨z, rfl⟩, h5⟩
 have Z := Lib.hid h5
 clear h5
 go_wp2_with fail
 go_end0
 exact ⟨rfl, Z.out⟩
end
end Go.Proofs.YtpjooboohelffaaGreatDoor
