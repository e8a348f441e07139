/- TopLooks and TopSends, helper 26 of 27. It holds: a screen and a queue made; a Wyse 60 on; what is fed to see it awake; strings.Builder: copyCheck, WriteString, WriteRune; snap: Print's put; snap: glyphs; snap: the runs of a shot in which nothing stands out; attr: Keep at the attributes of a Wyse 60; snap: Name; wyse.Look: what attributes cells are seen with. Each theorem states its own conditions. -/
import Derived.Test.YtpjooboohelffaaGreatDoorM24
import Derived.Test.YtpjooboohelffaaGreatDoorM02
import Derived.Test.YtpjooboohelffaaGreatDoorM03
import Derived.Deep.LoopGhost
import Derived.Test.YtpjooboohelffaaGreatDoorM12
import Derived.Test.YtpjooboohelffaaGreatDoorM01
import Derived.Test.YtpjooboohelffaaGreatDoorM00
/- Top: a screen and a queue made; a Wyse 60 on; what is fed to see it awake. -/
namespace Go.Proofs.YtpjooboohelffaaGreatDoor
open Go.RowKit Go.Shelf T05
set_option linter.unusedVariables false
set_option linter.unusedSimpArgs false
set_option maxRecDepth 100000
theorem few_ok (w : World) (R C : Int) (h1 : 1 ≤ R) (h2 : R ≤ 6) (h3 : 1 ≤ C) (h4 : C ≤ 12) : Fn w 5 #[pr R C] (.bool true) := by
 go_enter Tryz.func5, Tryz.ntmps5
 go_wp2_with fail
 go_ret
 exact ⟨rfl, bel_alloc (Below.refl _ _) _⟩
theorem few_no (w : World) (R C : Int) (h : ¬ (1 ≤ R ∧ R ≤ 6 ∧ 1 ≤ C ∧ C ≤ 12)) : Fn w 5 #[pr R C] (.bool false) := by
 by_cases h1 : 1 ≤ R
 ·by_cases h2 : R ≤ 6
  ·by_cases h3 : 1 ≤ C
   ·have h4 : ¬ C ≤ 12 := fun h4 => h ⟨h1, h2, h3, h4⟩
    clear h
    go_enter Tryz.func5, Tryz.ntmps5
    go_wp2_with fail
    go_ret
    exact ⟨rfl, bel_alloc (Below.refl _ _) _⟩
   ·have g3 : decide (1 ≤ C) = false := by simpa using h3
    clear h
    go_enter Tryz.func5, Tryz.ntmps5
    go_wp2_with fail
    go_ret
    exact ⟨rfl, bel_alloc (Below.refl _ _) _⟩
  ·have g2 : decide (R ≤ 6) = false := by simpa using h2
   clear h
   go_enter Tryz.func5, Tryz.ntmps5
   go_wp2_with fail
   go_ret
   exact ⟨rfl, bel_alloc (Below.refl _ _) _⟩
 ·have g1 : decide (1 ≤ R) = false := by simpa using h1
  clear h
  go_enter Tryz.func5, Tryz.ntmps5
  go_wp2_with fail
  go_ret
  exact ⟨rfl, bel_alloc (Below.refl _ _) _⟩
/-- What made leaves. -/
structure MadeP (w w' : World) (L : Lay) (rs : Nat → Nat) (qb lb R C : Nat) : Prop where
 hR : L.R = R
 hC : L.C = C
 scr : Scr (fun k => k < w.heap.size ∨ k = qb ∨ k = lb) L w' rs (fun _ _ => blankC) 0 0 (fun _ => false)
 inj : ∀ i j, i < R → j < R → rs i = rs j → i = j
 q : QIs w' qb lb 0 [] false
 q1 : w.heap.size ≤ qb
 q2 : w.heap.size ≤ lb
 n1 : qb ≠ L.g ∧ qb ≠ L.tb
 n2 : lb ≠ L.g ∧ lb ≠ L.tb
 gk : GK (fun k => k < w.heap.size)
 bel : Below w.heap.size w w'
theorem glob_gk {w : World} (h : Glob w) : GK (fun k => k < w.heap.size) := by
 obtain ⟨m, hm⟩ := h.mlen
 obtain ⟨v, hv, -⟩ := h.es
 obtain ⟨u, hu, -⟩ := h.er
 exact ⟨blt (h.blank 0 (by decide)).1, blt hm, blt hv, blt hu⟩
set_option maxHeartbeats 1000000 in
theorem made_any (w : World) (hg : Glob w) (R C : Nat) (h : SzOk R C) :
  Calls Tryz.prog 7 #[pr R C] w fun e w' => ∃ L rs qb lb, e = .returned (.tuple #[.pointer (some ⟨L.sb, 0, none⟩), .pointer (some ⟨qb, 0, none⟩), .bool true]) ∧ MadeP w w' L rs qb lb R C := by
 have HS := Lib.hid (fun W (hb : Below w.heap.size w W) => s_new (fun k => k < w.heap.size) W (fun k hk => Nat.lt_of_lt_of_le hk hb.size) (glob_gk hg) (hg.later hb) R C h)
 have HQ := Lib.hid (fun W => q_new W)
 have HG := Lib.hid (glob_gk hg)
 clear hg h
 go_enter Tryz.func7, Tryz.ntmps7
 go_wp2_with fail
 refine (HS.out _ (bel_alloc (Below.refl _ _) _)).mono ?_
 rintro e w1 ⟨L, rs, rfl, hR, hC, hsb, hscr, hinj, b1⟩
 have B1 := Lib.hid (bel_call (bel_alloc (Below.refl w.heap.size w) _) b1)
 have H1 := Lib.hid (show L.R = R ∧ L.C = C ∧ Scr (fun k => k < w.heap.size) L w1 rs (fun _ _ => blankC) 0 0 (fun _ => false) ∧ (∀ i j, i < R → j < R → rs i = rs j → i = j) from ⟨hR, hC, hscr, hinj⟩)
 clear hR hC hsb hscr hinj b1
 go_wp2_with fail
 refine (HQ.out _).mono ?_
 rintro e w2 ⟨qb, lb, rfl, q1, q2, hq, b2⟩
 have B2 := Lib.hid b2
 have HQQ := Lib.hid (show w1.heap.size ≤ qb ∧ w1.heap.size ≤ lb ∧ QIs w2 qb lb 0 [] false from ⟨q1, q2, hq⟩)
 clear q1 q2 hq b2
 go_wp2_with fail
 refine bodyPost_ret (v := .tuple #[.pointer (some ⟨L.sb, 0, none⟩), .pointer (some ⟨qb, 0, none⟩), .bool true]) (by simp [results, Tryz.results7, go_sem]) rfl ?_
 obtain ⟨hR, hC, hscr, hinj⟩ := H1.out
 obtain ⟨q1, q2, hq⟩ := HQQ.out
 have hs1 := B1.out.size
 have hl1 := hscr.gr.glt
 have hl2 := hscr.ts.lt
 refine ⟨L, rs, qb, lb, rfl, hR, hC, ?_, hinj, hq, by omega, by omega, ⟨by omega, by omega⟩, ⟨by omega, by omega⟩, HG.out, bel_call B1.out B2.out⟩
 have h2 := hscr.loc B2.out
 refine h2.less ?_ ⟨.inl HG.out.1, .inl HG.out.2.1, .inl HG.out.2.2.1, .inl HG.out.2.2.2⟩
 rintro k (hk | rfl | rfl)
 ·exact .inl hk
 ·exact .inr ⟨q1, hq.qB.blk.lt⟩
 ·exact .inr ⟨q2, hq.lB.blk.lt⟩
/-- On, behind made. -/
theorem on_made {w w' W : World} {L : Lay} {rs : Nat → Nat} {qb lb R C : Nat} (h : MadeP w w' L rs qb lb R C) (hb : Below w'.heap.size w' W) :
  Calls Tryz.prog 8 #[.pointer (some ⟨L.sb, 0, none⟩), .pointer (some ⟨qb, 0, none⟩)] W fun e w2 => e = .returned (.tuple #[.pointer (some ⟨W.heap.size, 0, none⟩), .int .i64 0]) ∧ Wy (fun k => k < w.heap.size) L W.heap.size qb lb w2 rs (fun _ _ => blankC) 0 0 (fun _ => false) tm0 0 [] false ∧ Below W.heap.size W w2 :=
 y_on W (fun k hk => by have := h.bel.size; have := hb.size; omega) (h.scr.later hb) (h.q.later hb) h.gk (by have := h.q1; omega) (by have := h.q2; omega) h.n1 h.n2
section
variable {K : Nat → Prop} {L : Lay} {tm qb lb : Nat} {f : Nat} {Q : List Int} {ov : Bool} {rs : Nat → Nat}
/-- One glyph on a screen that was blank. -/
def OneA : TR := fun cell r c t Q => r = 0 ∧ c = 1 ∧ (Q.2 = fun _ => false) ∧ ∀ i j, i < 2 → j < 3 → cell i j = if i = 0 ∧ j = 0 then ⟨97, 0, false, 0⟩ else blankC
theorem y_feed_a (w : World) (hK : KB K w) (h : Wy K L tm qb lb w rs (fun _ _ => blankC) 0 0 (fun _ => false) tm0 f Q ov) (hR : L.R = 2) (hC : L.C = 3) (hinj : ∀ i j, i < 2 → j < 2 → rs i = rs j → i = j) :
  Calls Tryz.prog 9 #[.pointer (some ⟨tm, 0, none⟩), .string ⟨#[97]⟩] w fun e w' => e = .returned (.tuple #[]) ∧ WyR K L tm qb lb f w' OneA ∧ Kept K w w' := by
 have ha : AllW L.R L.C (fun _ _ => blankC) := fun _ _ _ _ => wcell_blank
 refine (feed_gen tm ⟨#[97]⟩ (by decide) (fun k W => k = 0 ∧ W = w ∨ k = 1 ∧ (WyR K L tm qb lb f W OneA ∧ Kept K w W)) w (.inl ⟨rfl, rfl⟩) fun k hk W hI => ?_).mono ?_
 ·have hk0 : k = 0 := by have : k < 1 := hk; omega
  subst hk0
  rcases hI with ⟨-, rfl⟩ | ⟨h1, _⟩
  ·refine (take_ground W hK h rfl 97 (by decide) OneA fun K2 W2 hk2 h2 => ?_).mono ?_
   ·refine (y_shown W2 hk2 ⟨_, _, _, _, _, h2, ha⟩ 97 (by decide) (by decide) (fun w' => WyR K2 L tm qb lb f w' OneA ∧ Kept K2 W2 w') fun W3 hb3 => ?_).mono fun e w' ⟨e1, e2⟩ => ⟨⟨_, e1⟩, e2⟩
    refine (y_put0 W3 (hk2.more hb3.size) (h2.later hb3) ⟨97, 0, false, 0⟩ rfl (fun cell r c S => OneA cell r c tm0 (Q, S)) fun K4 W4 hk4 h4 => ?_).mono ?_
    ·refine (s_put0 W4 hk4 h4 ⟨97, 0, false, 0⟩ (fun cell' => ∀ i j, i < 2 → j < 3 → cell' i j = if i = 0 ∧ j = 0 then ⟨97, 0, false, 0⟩ else blankC) (fun a b => a = 0 ∧ b = 1) (fun a b ⟨e1, e2⟩ => by unfold inR; omega) fun K5 W5 hk5 h5 => ?_).mono fun e w' ⟨e1, ⟨rs', cell', r', c', e2, e3, e4, e5⟩, e6⟩ => ⟨e1, ⟨rs', cell', r', c', _, e2, e4, e5, rfl, e3⟩, e6⟩
     refine (put_in W5 hk5 h5 0 0 (by omega) (by omega) ⟨97, 0, false, 0⟩ blankC).mono ?_
     rintro e w' ⟨rfl, g1, g2⟩
     refine ⟨⟨_, _, _, rfl, rfl, rfl⟩, ⟨_, _, g1, fun i j hi hj => ?_⟩, g2⟩
     unfold setCl
     by_cases hi0 : i = 0
     ·subst hi0
      simp
     ·have : rs i ≠ rs 0 := fun e => hi0 (hinj i 0 hi (by decide) e)
      simp [this, hi0]
    ·rintro e w' ⟨e1, ⟨rs', cell', r', c', S', e2, e3⟩, e4⟩
     exact ⟨e1, ⟨_, _, _, _, _, _, _, _, e2, e3⟩, (Kept.ofBelow hb3 hk2).trans e4⟩
   ·rintro e w' ⟨e1, e2, e3⟩
    refine ⟨e1, .inr ⟨rfl, e2.mono ?_, e3⟩⟩
    rintro cell' r' c' t' Q' ⟨r0, c0, ⟨rfl, rfl, hS, hcell⟩, hre⟩
    have hpt : cell' 0 1 = blankC := by rw [hcell 0 1 (by decide) (by decide)]; rfl
    obtain ⟨rfl, rfl⟩ := hre (.inr (.inl (by show (cell' 0 1).d = false; rw [hpt]; rfl)))
    exact ⟨rfl, rfl, hS, hcell⟩
  ·exact absurd h1 (by decide)
 ·rintro e w' ⟨e1, ⟨e2, _⟩ | ⟨_, e3⟩⟩
  ·exact absurd e2 (by decide)
  ·exact ⟨e1, e3⟩
end
end Go.Proofs.YtpjooboohelffaaGreatDoor
/- Top: strings.Builder: copyCheck, WriteString, WriteRune. -/
namespace Go.Proofs.YtpjooboohelffaaGreatDoor
open Go.RowKit Go.Shelf
set_option linter.unusedVariables false
set_option linter.unusedSimpArgs false
set_option maxRecDepth 100000
theorem size92 : (Tryz.prog.info? 92).map (·.size) = some 2 := by kernel_rfl
theorem lies92 : liesAt Tryz.prog Tryz.prog.depth 92 (2 / Tryz.prog.cellsOf 92) 0 92 1 = true := by kernel_rfl
theorem copy_fresh (b : Nat) (w : World) (h0 : w.cell? ⟨b, 0, none⟩ = some (.pointer none)) (hsh : w.shape? b = some (92, 2)) (hfz : w.frozen? ⟨b, 0, none⟩ = false) :
  Calls Tryz.prog 64 #[.pointer (some ⟨b, 0, none⟩)] w fun e w' => e = .returned (.tuple #[]) ∧ w' = w.setCell ⟨b, 0, none⟩ (.pointer (some ⟨b, 0, none⟩)) := by
 obtain ⟨j, hj, hjs⟩ := Option.map_eq_some_iff.1 size92
 go_enter Tryz.func64, Tryz.ntmps64
 go_wp2_with fail
 rw [Lib.run_to_unsafe w ⟨b, 0, none⟩ Tryz.underlying90 Tryz.underlying173 hj (by rw [hjs]; decide) hsh (Nat.zero_lt_succ 1)]
 simp only [Result.andThen]
 rw [Oper.upon_value]
 go_wp2_with fail
 rw [run_callFunc_extern Tryz.func100 (by kernel_rfl) (by kernel_rfl) (by kernel_rfl) (e := Extern.AbiNoEscape.same) (by kernel_rfl)]
 rw [Lib.run_noEscape]
 simp only [Result.andThen]
 rw [Oper.upon_value]
 go_wp2_with fail
 rw [Lib.run_from_unsafe w ⟨b, 0, none⟩ Tryz.underlying173 Tryz.underlying90 hj hsh lies92]
 simp only [Result.andThen]
 rw [Oper.upon_value]
 go_wp2_with fail
 go_end0
 exact ⟨rfl, rfl⟩
theorem copy_used (b : Nat) (w : World) (h0 : w.cell? ⟨b, 0, none⟩ = some (.pointer (some ⟨b, 0, none⟩))) :
  Calls Tryz.prog 64 #[.pointer (some ⟨b, 0, none⟩)] w fun e w' => e = .returned (.tuple #[]) ∧ w' = w := by
 obtain ⟨j, hj, hjs⟩ := Option.map_eq_some_iff.1 size92
 have hq := fun W => Lib.run_neq_ptr_same (P := Tryz.prog) (w := W) ⟨b, 0, none⟩ Tryz.underlying90 hj
 go_enter Tryz.func64, Tryz.ntmps64
 go_wp2_with fail
 go_end0
 exact ⟨rfl, rfl⟩
theorem copy_any (B b : Nat) (bs : List Value) (w : World) (h : Lib.IsBuilderF 92 5 B b bs w) :
  Calls Tryz.prog 64 #[.pointer (some ⟨b, 0, none⟩)] w fun e w' => e = .returned (.tuple #[]) ∧ (Lib.BuilderAtF 92 5 B b (.pointer (some ⟨b, 0, none⟩)) bs w' ∧ Below B w w' ∧ Lib.OthersKept 5 (some b) w w') := by
 rcases h with h | h
 ·refine (copy_fresh b w h.cell0 h.shape h.frozen0).mono ?_
  rintro e w' ⟨rfl, rfl⟩
  exact ⟨rfl, h.used _, (Below.refl B w).setCell (p := ⟨b, 0, none⟩) h.1 _, (Lib.OthersKept.refl 5 (some b) w).setCell ⟨b, 0, none⟩ rfl _⟩
 ·refine (copy_used b w h.cell0).mono ?_
  rintro e w' ⟨rfl, rfl⟩
  exact ⟨rfl, h, Below.refl B _, Lib.OthersKept.refl _ _ _⟩
theorem ownF_row {w : World} {B n : Nat} {v : Value} {xs : List Value} (h : w.ownsRowF B 5 1 v n xs) : ∀ g, v.ownBlock = some g → ∃ c fz, w.heap[g]? = some (.cells c 5 fz) := by
 intro g hg
 rcases h.2 with ⟨hv, _⟩ | ⟨g2, cap, cur, fz, hv, h1, h2, _⟩
 ·rw [hv] at hg; cases hg
 ·rw [hv] at hg
  cases hg
  exact ⟨cur, fz, h2⟩
/-- What a write leaves. -/
structure Wrote (B b : Nat) (bs : List Value) (w w' : World) : Prop where
 isb : Lib.IsBuilderF 92 5 B b bs w'
 bel : Below B w w'
 oth : Lib.OthersKept 5 (some b) w w'
theorem Wrote.trans {B b : Nat} {bs bs' : List Value} {w w1 w2 : World} (h : Wrote B b bs w w1) (k : Wrote B b bs' w1 w2) : Wrote B b bs' w w2 := ⟨k.isb, h.bel.trans k.bel, h.oth.trans k.oth⟩
/-- The buffer turned, and stored. -/
theorem wrote_put {B b : Nat} {bs bs' : List Value} {v v' : Value} {w w1 w2 : World} (h1 : Below B w w1) (o1 : Lib.OthersKept 5 (some b) w w1) (hB : B ≤ b) (hbk : w1.heap[b]? = some (.cells #[.pointer (some ⟨b, 0, none⟩), v] 92 (0, 0))) (hown : w1.ownsRowF B 5 1 v bs.length bs) (hne : v.ownBlock ≠ some b)
  (hown' : w2.ownsRowF B 5 1 v' bs'.length bs') (hg : w1.grownBy w2 v.ownBlock) (hBw : B ≤ w.heap.size) :
  (w2.cell? ⟨b, 0, none⟩ = some (.pointer (some ⟨b, 0, none⟩)) ∧ w2.cell? ⟨b, 1, none⟩ = some v ∧ w2.frozen? ⟨b, 1, none⟩ = false ∧ ∃ ao n cap, v' = .slice ao n cap) ∧ Wrote B b bs' w (w2.setCell ⟨b, 1, none⟩ v') := by
 have hlt : b < w1.heap.size := by
  rcases Nat.lt_or_ge b w1.heap.size with h' | h'
  ·exact h'
  ·simp [Array.getElem?_eq_none h'] at hbk
 have hb2 : w2.heap[b]? = some (.cells #[.pointer (some ⟨b, 0, none⟩), v] 92 (0, 0)) := by
  rw [hg.block b hlt (fun e => hne e.symm)]
  exact hbk
 refine ⟨⟨by rw [Lib.cell_of_heap hb2]; rfl, by rw [Lib.cell_of_heap hb2]; rfl, Lib.frozen_of_heap hb2 1, ?_⟩, .inr (Lib.BuilderAtF.put hB hb2 hown' (by decide)), ?_, ?_⟩
 ·rcases hown'.2 with ⟨hv, _⟩ | ⟨g, cap, cur, fz, hv, _⟩
  ·exact ⟨_, _, _, hv⟩
  ·exact ⟨_, _, _, hv⟩
 ·exact (h1.grown hg (by have := h1.size; omega) (fun k hk => (hown.lt k hk).1)).setCell (p := ⟨b, 1, none⟩) hB _
 ·exact (o1.grown hg (ownF_row hown)).setCell ⟨b, 1, none⟩ rfl _
set_option maxHeartbeats 1000000 in
theorem write_string (B b : Nat) (bs : List Value) (s : ByteArray) (w : World) (h : Lib.IsBuilderF 92 5 B b bs w) (hlen : bs.length + s.size ≤ 140737488355328) (hBw : B ≤ w.heap.size) :
  Calls Tryz.prog 40 #[.pointer (some ⟨b, 0, none⟩), .string s] w fun e w' => e = .returned (.tuple #[.int .i64 s.size, .nilIface]) ∧ Wrote B b (bs ++ Lib.strCells s) w w' := by
 obtain ⟨i0, hi, hz0, hz1, hz2⟩ := info_parts (show (Tryz.prog.info? 5).map (fun i => (i.zero, i.size, i.bytes)) = some (some (.int .u8 0), 1, 1) by kernel_rfl)
 have HC := Lib.hid (copy_any B b bs w h)
 clear h
 go_enter Tryz.func40, Tryz.ntmps40
 go_wp2_with fail
 refine HC.out.mono ?_
 rintro e w1 ⟨rfl, h1, hb1, ho1⟩
 obtain ⟨hB, v, hbk, hown, hne⟩ := h1
 have c0 : w1.cell? ⟨b, 0, none⟩ = some (.pointer (some ⟨b, 0, none⟩)) := by rw [Lib.cell_of_heap hbk]; rfl
 have c1 : w1.cell? ⟨b, 1, none⟩ = some v := by rw [Lib.cell_of_heap hbk]; rfl
 go_wp2_with (at_builtin; refine Lib.wpList_append_own_stringF _ rfl _ _ 84 9 rfl B 5 i0 Tryz.underlying84 Tryz.underlying9 hi hz0 hz1 hz2 _ _ _ rfl hown s rfl ?c3 ?c4 ?c5 ?_)
 case c3 => unfold maxLen; omega
 case c4 => omega
 case c5 => have := hb1.size; omega
 intro v' w2 hown' hgrow _
 obtain ⟨⟨d0, d1, f1, ao, n', cap, rfl⟩, HW⟩ := wrote_put hb1 ho1 hB hbk hown hne (bs' := bs ++ Lib.strCells s) (by simpa [Lib.strCells_length] using hown') hgrow hBw
 have HR := Lib.hid HW
 clear HW hown' hgrow hown hne hbk hb1 ho1
 go_wp2_with fail
 go_ret2
 exact ⟨by simp, HR.out⟩
set_option maxHeartbeats 1000000 in
theorem write_rune (B b : Nat) (bs : List Value) (r : Int) (hr0 : -2147483648 ≤ r) (hr1 : r ≤ 2147483647) (w : World) (h : Lib.IsBuilderF 92 5 B b bs w) (hlen : bs.length + 4 ≤ 140737488355328) (hBw : B ≤ w.heap.size) :
  Calls Tryz.prog 66 #[.pointer (some ⟨b, 0, none⟩), .int .i32 r] w fun e w' => (∃ n, e = .returned (.tuple #[.int .i64 n, .nilIface])) ∧ Wrote B b (bs ++ Lib.runeCells r) w w' := by
 have HC := Lib.hid (copy_any B b bs w h)
 clear h
 go_enter Tryz.func66, Tryz.ntmps66
 go_wp2_with fail
 refine HC.out.mono ?_
 rintro e w1 ⟨rfl, h1, hb1, ho1⟩
 obtain ⟨hB, v, hbk, hown, hne⟩ := h1
 have c0 : w1.cell? ⟨b, 0, none⟩ = some (.pointer (some ⟨b, 0, none⟩)) := by rw [Lib.cell_of_heap hbk]; rfl
 have c1 : w1.cell? ⟨b, 1, none⟩ = some v := by rw [Lib.cell_of_heap hbk]; rfl
 obtain ⟨ao0, n0, cap0, hv⟩ : ∃ ao n cap, v = .slice ao n cap := by
  rcases hown.2 with ⟨hv, _⟩ | ⟨g, cap, cur, fz, hv, _⟩
  ·exact ⟨_, _, _, hv⟩
  ·exact ⟨_, _, _, hv⟩
 have HA := Lib.hid (Tryz.utf8_AppendRune_row B v bs.length bs r hr0 hr1 w1 hown hlen (by have := hb1.size; omega))
 rw [hv] at c1 HA
 have HV := Lib.hid hv
 have HO := Lib.hid hown
 have HN := Lib.hid hne
 have HK := Lib.hid hbk
 have HB1 := Lib.hid hb1
 have HO1 := Lib.hid ho1
 clear hown hne hbk hb1 ho1 hv
 go_wp2_with fail
 refine HA.out.mono ?_
 rintro e w2 ⟨v', rfl, hown', o, hgrow⟩
 have hv := HV.out
 have hbk := HK.out
 have hlt : b < w1.heap.size := by
  rcases Nat.lt_or_ge b w1.heap.size with h' | h'
  ·exact h'
  ·simp [Array.getElem?_eq_none h'] at hbk
 have ga : w1.grownBy (w1.alloc o) none := ⟨rfl, rfl, rfl, by simp, fun k hk _ => Lib.alloc_old w1 o k hk⟩
 have e1 : (Value.slice ao0 n0 cap0).ownBlock = v.ownBlock := by rw [hv]
 rw [e1] at hgrow
 have HWW := wrote_put (w := w) (HB1.out.alloc (by have := HB1.out.size; omega) o) (HO1.out.alloc o) hB ((Lib.alloc_old w1 o b hlt).trans hbk) (HO.out.kept ga (by cases hc : v.ownBlock with | none => exact .inl rfl | some k => exact .inr (by simp))) HN.out (bs' := bs ++ Lib.runeCells r) (by simpa using hown') hgrow hBw
 obtain ⟨⟨d0, d1, f1, ao, n', cap, rfl⟩, HW⟩ := HWW
 have HR := Lib.hid HW
 rw [hv] at d1
 clear HW hown' hgrow ga hlt hbk hv e1 HO HN HK HV HB1 HO1
 go_wp2_with fail
 go_ret2
 exact ⟨⟨_, rfl⟩, HR.out⟩
end Go.Proofs.YtpjooboohelffaaGreatDoor
/- Top: snap: Print's put. -/
namespace Go.Proofs.YtpjooboohelffaaGreatDoor
open Go.RowKit Go.Shelf
set_option linter.unusedVariables false
set_option linter.unusedSimpArgs false
set_option maxRecDepth 100000
/-- What is put: a number, or a text. -/
inductive It
 | n (k : Nat)
 | s (t : ByteArray)
def It.v : It → Value
 | .n k => .iface 3 (.int .i64 k)
 | .s t => .iface 9 (.string t)
def It.t : It → ByteArray
 | .n k => ⟨(Lib.decDigits k).toArray⟩
 | .s t => t
def It.ok : It → Prop
 | .n k => k < 100
 | .s t => t.size ≤ 1000
def itC (i : It) : List Value := Lib.strCells i.t
theorem oth_cell {w w' : World} {b k n : Nat} {t : TypeId} (h : Lib.OthersKept 5 (some b) w w') (hb : BlkT w k n t) (hk : k ≠ b) (ht : t ≠ 5) : w'.heap[k]? = w.heap[k]? := by
 obtain ⟨cs, h1, h2⟩ := hb
 rw [h1]
 exact h k _ h1 (by simpa using hk) (fun c fz e => by cases e; exact ht rfl)
theorem digits_le (k : Nat) (hk : k < 100) : (Lib.decDigits k).length ≤ 1000 := by
 have : ∀ k, k < 100 → (Lib.decDigits k).length ≤ 1000 := by decide +kernel
 exact this k hk
theorem It.t_le {i : It} (h : i.ok) : i.t.size ≤ 1000 := by
 cases i with
 | n k => exact digits_le k h
 | s t => exact h
theorem put_len (l : List It) (h : ∀ i ∈ l, i.ok) : (l.flatMap itC).length ≤ 1000 * l.length := by
 induction l with
 | nil => simp
 | cons x l ih =>
  have h1 := ih (fun i hi => h i (List.mem_cons_of_mem _ hi))
  have h2 := It.t_le (h x (List.mem_cons_self ..))
  have h3 : (itC x).length = x.t.size := Lib.strCells_length _
  simp only [List.flatMap_cons, List.length_append, List.length_cons]
  omega
theorem ta_ii (m : Int) (W : World) : Sem.run Tryz.prog (Instr.typeAssert (.iface 3 (.int .i64 m)) 20 3 true) W = .ok (.tuple #[.int .i64 m, .bool true]) W := by kernel_rfl
theorem ta_si (t : ByteArray) (W : World) : Sem.run Tryz.prog (Instr.typeAssert (.iface 9 (.string t)) 20 3 true) W = .ok (.tuple #[.int .i64 0, .bool false]) W := by kernel_rfl
theorem ta_ss (t : ByteArray) (W : World) : Sem.run Tryz.prog (Instr.typeAssert (.iface 9 (.string t)) 20 9 true) W = .ok (.tuple #[.string t, .bool true]) W := by kernel_rfl
set_option maxHeartbeats 2000000 in
theorem put_any (B b lb : Nat) (l : List It) (bs : List Value) (w : World) (h : Lib.IsBuilderF 92 5 B b bs w) (hok : ∀ i ∈ l, i.ok) (hl : l.length ≤ 100) (hlen : bs.length ≤ 1000000) (hBw : B ≤ w.heap.size) (hne : lb ≠ b) (hT : BlkT w lb l.length 20)
  (hc : ∀ i (hi : i < l.length), w.cell? ⟨lb, i, none⟩ = some (l[i].v)) :
  Calls Tryz.prog 39 #[.slice (some ⟨lb, 0, none⟩) l.length l.length, .pointer (some ⟨b, 0, none⟩)] w fun e w' => e = .returned (.tuple #[]) ∧ Wrote B b (bs ++ l.flatMap itC) w w' := by
 have HW := Lib.hid (fun W k (hk : k ≤ l.length) (hw : Wrote B b (bs ++ (l.take k).flatMap itC) w W) (t : ByteArray) (ht : t.size ≤ 1000) => (show Calls Tryz.prog 40 #[.pointer (some ⟨b, 0, none⟩), .string t] W (fun e w' => e = .returned (.tuple #[.int .i64 t.size, .nilIface]) ∧ Wrote B b (bs ++ (l.take k).flatMap itC ++ Lib.strCells t) w w') from by
  refine (write_string B b _ t W hw.isb ?_ (by have := hw.bel.size; omega)).mono fun e w' ⟨h1, h2⟩ => ⟨h1, hw.trans h2⟩
  have h3 := put_len (l.take k) (fun i hi => hok i (List.mem_of_mem_take hi))
  have h4 : (l.take k).length ≤ 100 := by rw [List.length_take]; omega
  rw [List.length_append]; omega))
 have HC := Lib.hid (fun W k (hk : k < l.length) (hw : Lib.OthersKept 5 (some b) w W) => (show W.cell? ⟨lb, k, none⟩ = some (l[k].v) from (World.cell?_of_block (a := ⟨lb, k, none⟩) (oth_cell hw hT hne (by decide))).trans (hc k hk)))
 have HS := Lib.hid (fun k (hk : k < l.length) => (show (l.take (k + 1)).flatMap itC = (l.take k).flatMap itC ++ itC l[k] from by
  rw [List.take_succ_eq_append_getElem hk, List.flatMap_append]; simp))
 have H0 := Lib.hid (show Wrote B b (bs ++ (l.take 0).flatMap itC) w w from ⟨by simpa using h, Below.refl _ _, Lib.OthersKept.refl _ _ _⟩)
 have HOK := Lib.hid (fun k (hk : k < l.length) => hok l[k] (List.getElem_mem hk))
 have HE := Lib.hid (show (l.take l.length).flatMap itC = l.flatMap itC by rw [List.take_length])
 have HL : l.length ≤ 9223372036854775807 := by omega
 clear h hok hl hlen hBw hT hc hne
 go_enter Tryz.func39, Tryz.ntmps39
 go_wp2_with fail
 go_loopw [9] (fun i wr => ∃ k : Nat, k ≤ l.length ∧ i = .int .i64 k ∧ Hid (Wrote B b (bs ++ (l.take k).flatMap itC) w wr)) (fun i _ => l.length - (intOf i).toNat)
 case atStart => exact ⟨0, Nat.zero_le _, rfl, H0⟩
 case round =>
  obtain ⟨k, hk, rfl, HWk⟩ := hrel
  by_cases hlt : k < l.length
  ·have c0 := HC.out wr k hlt HWk.out.oth
   have ok := HOK.out k hlt
   cases hi : l[k] with
   | n m =>
    rw [hi] at c0 ok
    simp only [It.v] at c0
    have hm : m < 100 := ok
    have HW2 := Lib.hid (fun W (hw : Wrote B b (bs ++ (l.take k).flatMap itC) w W) => HW.out W k hk hw ⟨(Lib.decDigits m).toArray⟩ (digits_le m hm))
    have j1 := ta_ii
    go_wp2_with fail
    refine (Tryz.strconv_Itoa_small m hm _).mono ?_
    rintro e w1 ⟨rfl, rfl⟩
    go_wp2_with fail
    refine (HW2.out _ HWk.out).mono ?_
    rintro e w2 ⟨rfl, hw2⟩
    have HZ : Hid (Wrote B b (bs ++ (l.take (k + 1)).flatMap itC) w w2) := Lib.hid (by rw [HS.out k hlt, hi, ← List.append_assoc]; exact hw2)
    clear hw2 HWk HW2
    go_wp2_with fail
    go_roundw
    case rel => exact ⟨k + 1, by omega, by go_num, HZ⟩
    case measure => simp [intOf]; omega
   | s t =>
    rw [hi] at c0 ok
    simp only [It.v] at c0
    have HW2 := Lib.hid (fun W (hw : Wrote B b (bs ++ (l.take k).flatMap itC) w W) => HW.out W k hk hw t ok)
    have j1 := ta_si
    have j2 := ta_ss
    go_wp2_with fail
    refine (HW2.out _ HWk.out).mono ?_
    rintro e w2 ⟨rfl, hw2⟩
    have HZ : Hid (Wrote B b (bs ++ (l.take (k + 1)).flatMap itC) w w2) := Lib.hid (by rw [HS.out k hlt, hi, ← List.append_assoc]; exact hw2)
    clear hw2 HWk HW2
    go_wp2_with fail
    go_roundw
    case rel => exact ⟨k + 1, by omega, by go_num, HZ⟩
    case measure => simp [intOf]; omega
  ·go_wp2_with fail
   go_end0
   obtain rfl : k = l.length := by omega
   have := HWk.out
   rw [HE.out] at this
   exact ⟨rfl, this⟩
end Go.Proofs.YtpjooboohelffaaGreatDoor
/- Top: snap: glyphs. -/
namespace Go.Proofs.YtpjooboohelffaaGreatDoor
open Go.RowKit Go.Shelf
set_option linter.unusedVariables false
set_option linter.unusedSimpArgs false
set_option maxRecDepth 100000
/-- Glyphs of one byte. -/
def Byt (n : Nat) (c : Nat → Cl) (ch : Nat → UInt8) : Prop := ∀ i, i < n → (c i).g = ((ch i).toNat : Int) ∧ (ch i).toNat < 128
theorem rune_byte {r : Int} {u : UInt8} (h : r = (u.toNat : Int)) (hu : u.toNat < 128) : Lib.runeCells r = Lib.byteCells [u] := by
 unfold Lib.runeCells
 rw [Lib.encodeRuneZ_one (by omega) (by omega), h]
 rfl
theorem isb_alloc {B b : Nat} {bs : List Value} {w : World} (h : Lib.IsBuilderF 92 5 B b bs w) (o : Obj) : Lib.IsBuilderF 92 5 B b bs (w.alloc o) := h.elim (fun h => .inl (h.alloc o)) (fun h => .inr (h.alloc o))
set_option maxHeartbeats 2000000 in
theorem glyphs_any (w : World) (rb n m : Nat) (c : Nat → Cl) (ch : Nat → UInt8) (hc : CellsAt w rb n c) (hb : Byt n c ch) (hn : n ≤ 255) :
  Calls Tryz.prog 42 #[.slice (some ⟨rb, 0, none⟩) n m] w fun e w' => e = .returned (.string ⟨((List.range n).map ch).toArray⟩) ∧ Below w.heap.size w w' := by
 have HW := Lib.hid (fun W k (hk : k < n) (hw : Lib.IsBuilderF 92 5 w.heap.size w.heap.size (Lib.byteCells ((List.range k).map ch)) W) (hbW : Below w.heap.size w W) => (show Calls Tryz.prog 66 #[.pointer (some ⟨w.heap.size, 0, none⟩), .int .i32 (c k).g] W (fun e w' => (∃ z, e = .returned (.tuple #[.int .i64 z, .nilIface])) ∧ Lib.IsBuilderF 92 5 w.heap.size w.heap.size (Lib.byteCells ((List.range (k + 1)).map ch)) w' ∧ Below w.heap.size w w' ∧ Lib.OthersKept 5 (some w.heap.size) W w') from by
  obtain ⟨h1, h2⟩ := hb k hk
  refine (write_rune w.heap.size w.heap.size _ (c k).g (by omega) (by omega) W hw ?_ hbW.size).mono fun e w' ⟨h1', h2'⟩ => ⟨h1', ?_, hbW.trans h2'.bel, h2'.oth⟩
  ·rw [Lib.byteCells_length]; simp; omega
  ·have := h2'.isb
   rwa [rune_byte h1 h2, show Lib.byteCells ((List.range k).map ch) ++ Lib.byteCells [ch k] = Lib.byteCells ((List.range (k + 1)).map ch) by rw [List.range_succ]; simp [Lib.byteCells]] at this))
 have HC := Lib.hid (fun W k (hk : k < n) (hbW : Below w.heap.size w W) => (show W.cell? ⟨rb, k * 4, none⟩ = some (.int .i32 (c k).g) ∧ W.cell? ⟨rb, k * 4 + 1, none⟩ = some (.int .i64 (c k).a) ∧ W.cell? ⟨rb, k * 4 + 2, none⟩ = some (.bool (c k).d) ∧ W.cell? ⟨rb, k * 4 + 3, none⟩ = some (.int .i64 (c k).m) from
  ⟨cellB hbW (hc k hk).1, cellB hbW (hc k hk).2.1, cellB hbW (hc k hk).2.2.1, cellB hbW (hc k hk).2.2.2⟩))
 have HS := Lib.hid (fun W (hw : Lib.IsBuilderF 92 5 w.heap.size w.heap.size (Lib.byteCells ((List.range n).map ch)) W) (hbW : Below w.heap.size w W) => (show Calls Tryz.prog 45 #[.pointer (some ⟨w.heap.size, 0, none⟩)] W (fun e w' => e = .returned (.string ⟨((List.range n).map ch).toArray⟩) ∧ Below w.heap.size w w') from
  (Tryz.Builder_String_any_f w.heap.size w.heap.size _ W hw hbW.size).mono fun e w' ⟨h1, _, h2⟩ => ⟨h1, hbW.trans h2⟩))
 have H0 := Lib.hid (Lib.IsBuilderF.of (Lib.fresh_isBuilder 92 5 w))
 clear hc hb
 go_enter Tryz.func42, Tryz.ntmps42
 go_wp2_with fail
 refine gen_wp ?_
 intro u hu0
 have HI0 : Hid (Lib.IsBuilderF 92 5 w.heap.size w.heap.size (Lib.byteCells ((List.range 0).map ch)) u) := Lib.hid (by rw [hu0]; exact H0.out)
 have HB0 : Hid (Below w.heap.size w u) := Lib.hid (by rw [hu0]; exact bel_alloc (Below.refl _ _) _)
 clear hu0 H0
 go_loopw [8] (fun i wr => ∃ k : Nat, k ≤ n ∧ i = .int .i64 k ∧ Hid (Lib.IsBuilderF 92 5 w.heap.size w.heap.size (Lib.byteCells ((List.range k).map ch)) wr) ∧ Hid (Below w.heap.size w wr)) (fun i _ => n - (intOf i).toNat)
 case atStart => exact ⟨0, Nat.zero_le _, rfl, HI0, HB0⟩
 case round =>
  obtain ⟨k, hk, rfl, HI, HB⟩ := hrel
  clear HI0 HB0
  by_cases hlt : k < n
  ·obtain ⟨k0, k1, k2, k3⟩ := HC.out wr k hlt HB.out
   have hz := HB.out.size
   have hl := blt k0
   have HW2 := Lib.hid (fun W hw hb => HW.out W k hlt hw hb)
   go_wp2_with fail
   refine (HW2.out _ (isb_alloc HI.out _) (bel_alloc HB.out _)).mono ?_
   rintro e w2 ⟨⟨z, rfl⟩, hi2, hb2, -⟩
   have HI2 := Lib.hid hi2
   have HB2 := Lib.hid hb2
   clear hi2 hb2 HI HB HW2 k0 k1 k2 k3
   go_wp2_with fail
   go_roundw
   case rel => exact ⟨k + 1, by omega, by go_num, HI2, HB2⟩
   case measure => simp [intOf]; omega
  ·go_wp2_with fail
   obtain rfl : k = n := by omega
   refine (HS.out _ HI.out HB.out).mono ?_
   rintro e w2 ⟨rfl, b2⟩
   have B2 := Lib.hid b2
   clear b2 HI HB
   go_wp2_with fail
   go_ret
   exact ⟨rfl, B2.out⟩
end Go.Proofs.YtpjooboohelffaaGreatDoor
/- Top: snap: the runs of a shot in which nothing stands out. -/
namespace Go.Proofs.YtpjooboohelffaaGreatDoor
open Go.RowKit Go.Shelf
set_option linter.unusedVariables false
set_option linter.unusedSimpArgs false
set_option maxRecDepth 100000
attribute [local go_sem] Oper.semAt_some
/-- A row's glyphs, as a text. -/
def rowT (C : Nat) (ch : Nat → UInt8) : ByteArray := ⟨((List.range C).map ch).toArray⟩
/-- A run that is a whole row. -/
def encRun (C : Nat) (ch : Nat → Nat → UInt8) (i : Nat) : Array Value := #[.agg #[.int .i64 i, .int .i64 0, .int .i64 C, .int .i64 0, .bool false, .string (rowT C (ch i))]]
/-- A shot in memory whose looks are all 0. -/
structure ShotAt (X : World) (bx ob oc lob lc R C : Nat) (cell : Nat → Nat → Cl) : Prop where
 c4 : X.cell? ⟨bx, 6, none⟩ = some (.slice (some ⟨ob, 0, none⟩) R oc)
 c5 : X.cell? ⟨bx, 7, none⟩ = some (.slice (some ⟨lob, 0, none⟩) R lc)
 rows : ∀ i, i < R → ∃ b cap, X.cell? ⟨ob, i, none⟩ = some (.slice (some ⟨b, 0, none⟩) C cap) ∧ C ≤ cap ∧ CellsAt X b C (cell i)
 lks : ∀ i, i < R → ∃ b cap, X.cell? ⟨lob, i, none⟩ = some (.slice (some ⟨b, 0, none⟩) C cap) ∧ ∀ j, j < C → X.cell? ⟨b, j, none⟩ = some (.int .i64 0)
theorem ShotAt.later {X Y : World} {bx ob oc lob lc R C : Nat} {cell : Nat → Nat → Cl} (h : ShotAt X bx ob oc lob lc R C cell) (hb : Below X.heap.size X Y) : ShotAt Y bx ob oc lob lc R C cell := by
 refine ⟨cellB hb h.c4, cellB hb h.c5, fun i hi => ?_, fun i hi => ?_⟩
 ·obtain ⟨b, cap, h1, h2, h3⟩ := h.rows i hi
  exact ⟨b, cap, cellB hb h1, h2, fun j hj => ⟨cellB hb (h3 j hj).1, cellB hb (h3 j hj).2.1, cellB hb (h3 j hj).2.2.1, cellB hb (h3 j hj).2.2.2⟩⟩
 ·obtain ⟨b, cap, h1, h2⟩ := h.lks i hi
  exact ⟨b, cap, cellB hb h1, fun j hj => cellB hb (h2 j hj)⟩
set_option maxHeartbeats 4000000 in
theorem runs_iter (n : Nat) (hn : 1 ≤ n) (B bx ob oc lob lc R C : Nat) (cell : Nat → Nat → Cl) (ch : Nat → Nat → UInt8) (hC : 1 ≤ C) (hR255 : R ≤ 255) (hC255 : C ≤ 255)
  (hd : ∀ i j, i < R → j < C → (cell i j).d = false) (hch : ∀ i, i < R → Byt C (cell i) (ch i)) (I : List Nat → World → Prop) (Kp : World → World → Prop) (W0 : World)
  (hIs : ∀ pre X X', I pre X → Below X.heap.size X X' → I pre X') (hIc : ∀ pre X, I pre X → ShotAt X bx ob oc lob lc R C cell) :
  Iterates Tryz.prog n (n - 1) 67 #[.pointer (some ⟨bx, 0, none⟩)] (encRun C ch) (fun ys => ys = List.range R) (fun _ => True) (fun pre x => x = pre.length ∧ x < R) R B I Kp W0 := by
 intro l J Jx hJ0 hJk _ hJI hY
 have HJs := Lib.hid (fun s X X' hj hb => hJk s X X' hj (hIs _ _ _ (hJI _ _ hj) hb) (keepsB hb))
 have HJc := Lib.hid (fun s X (h : J s X) => hIc _ _ (hJI _ _ h))
 have HJ := Lib.hid hJ0
 have HY := Lib.hid hY
 have HG := Lib.hid (fun X i (hi : i < R) b cap (hc : CellsAt X b C (cell i)) => (show Calls Tryz.prog 42 #[.slice (some ⟨b, 0, none⟩) C cap] X (fun e w' => e = .returned (.string (rowT C (ch i))) ∧ Below X.heap.size X w') from glyphs_any X b C cap (cell i) (ch i) hc (hch i hi) hC255))
 have HD := Lib.hid hd
 have s0 := hIc _ _ (hJI _ _ hJ0)
 have c4 := s0.c4
 clear s0 hJ0 hJk hJI hY hIs hIc hd hch
 refine callsIn_of_wp Tryz.func67 rfl trivial ?_ rfl
 simp only [Tryz.ntmps67, List.size_toArray, List.length_cons, List.length_nil, Nat.reduceAdd, Nat.reduceSub, Array.replicate_succ, Array.replicate_zero, List.push_toArray, List.append_toArray, List.nil_append, List.cons_append]
 gi_wp2_with fail
 clear c4
 gi_loopw [10] (fun i wr => ∃ k : Nat, k ≤ R ∧ i = .int .i64 (k : Int) ∧ Hid (J (List.range k) wr)) (fun i _ => R - (intOf i).toNat)
 case atStart => exact ⟨0, Nat.zero_le _, rfl, HJ⟩
 case round =>
  obtain ⟨k, hk, rfl, HJk⟩ := hrel
  clear HJ
  by_cases hlt : k < R
  ·have q1 : (k : Int) < (R : Int) := by omega
   have sk := HJc.out _ _ HJk.out
   obtain ⟨rb, rcap, r0, r1, r2⟩ := sk.rows k hlt
   have R2 := Lib.hid r2
   clear sk r2
   gi_wp2_with fail
   gi_loopw [5] (fun s wx => (s = .int .i64 0 ∧ Hid (J (List.range k) wx) ∧ Hid (CellsAt wx rb C (cell k))) ∨ (s = .int .i64 C ∧ Hid (J (List.range (k + 1)) wx))) (fun s _ => C - (intOf s).toNat)
   case atStart => exact .inl ⟨rfl, HJk, R2⟩
   case round =>
    clear HJk R2 r0
    rcases hrel with ⟨rfl, HJ0, HR0⟩ | ⟨rfl, HJ1⟩
    ·have q2 : (0 : Int) < (C : Int) := by omega
     gi_wp2_with fail
     gi_loopw [6] (fun s wx => ∃ m : Nat, 1 ≤ m ∧ m ≤ C ∧ s = .int .i64 (m : Int) ∧ Hid (J (List.range k) wx) ∧ Hid (CellsAt wx rb C (cell k))) (fun s _ => C - (intOf s).toNat)
     case atStart => exact ⟨1, by omega, by omega, rfl, HJ0, HR0⟩
     case round =>
      clear HJ0 HR0
      obtain ⟨m, hm1, hm2, rfl, HJm, HRm⟩ := hrel
      have sk := HJc.out _ _ HJm.out
      have c5 := sk.c5
      obtain ⟨lb, lcap, l0, l1⟩ := sk.lks k hlt
      have l00 := l1 0 (by omega)
      have d0 := (HRm.out 0 (by omega)).2.2.1
      simp only [Nat.zero_mul, Nat.zero_add, HD.out k 0 hlt (by omega)] at d0
      have Lk := Lib.hid l1
      clear sk l1
      by_cases hm : m < C
      ·have q3 : (m : Int) < (C : Int) := by omega
       have l0m := Lk.out m hm
       have dm := (HRm.out m hm).2.2.1
       rw [HD.out k m hlt hm] at dm
       gi_wp2_with fail
       refine wpIn_wide.2 ?_
       refine wp_region_held_drew (S := fun W' => W'.cell? ⟨bx, 7, none⟩ = some (.slice (some ⟨lob, 0, none⟩) R lc) ∧ W'.cell? ⟨lob, k, none⟩ = some (.slice (some ⟨lb, 0, none⟩) C lcap) ∧ W'.cell? ⟨lb, 0, none⟩ = some (.int .i64 0) ∧ W'.cell? ⟨lb, m, none⟩ = some (.int .i64 0) ∧ W'.cell? ⟨rb, 2, none⟩ = some (.bool false) ∧ W'.cell? ⟨rb, m * 4 + 2, none⟩ = some (.bool false)) (by kernel_rfl) (⟨c5, l0, l00, l0m, d0, dm⟩) (fun hHeld => ?_)
       refine sY 0 21 ?_
       refine sY 1 22 ?_
       refine sY 2 23 ?_
       refine sY 3 24 ?_
       refine sY 4 25 ?_
       refine sY 5 26 ?_
       refine sY 6 27 ?_
       refine sY 7 28 ?_
       refine sY 8 29 ?_
       refine sY 9 30 ?_
       refine sY 10 31 ?_
       refine sY 11 32 ?_
       refine sY 12 33 ?_
       refine sY 13 34 ?_
       refine sY 14 35 ?_
       refine sY 15 36 ?_
       refine sY 16 37 ?_
       refine sY 17 38 ?_
       refine sY 18 39 ?_
       refine sY 19 40 ?_
       refine sY 20 41 ?_
       refine sY 21 42 ?_
       refine sY 22 43 ?_
       refine sY 23 44 ?_
       refine sY 24 45 ?_
       refine sY 25 46 ?_
       refine sY 26 47 ?_
       refine sY 27 48 ?_
       refine sY 28 49 ?_
       refine sY 29 50 ?_
       refine sY 30 51 ?_
       refine sY 31 52 ?_
       refine sY 32 53 ?_
       refine sY 33 54 ?_
       refine sY 34 55 ?_
       refine sY 35 56 ?_
       refine wpAnyH_done (by kernel_rfl) ?_ _
       have HJ2 := Lib.hid (HJs.out _ _ _ HJm.out (Below.refl _ _).drew)
       have HR2 := Lib.hid (show CellsAt wr.drew rb C (cell k) from HRm.out)
       clear hHeld HJm HRm c5 l0 l00 l0m d0 dm Lk
       gi_wp2_with fail
       go_roundw
       case rel => exact ⟨m + 1, by omega, by omega, by go_num, HJ2, HR2⟩
       case measure => simp [intOf]; omega
      ·obtain rfl : C = m := by omega
       have q3 : ¬ (C : Int) < (C : Int) := by omega
       gi_wp2_with fail
       refine wpIn_wide.2 ?_
       refine wp_region_held_drew (S := fun W' => True) (by kernel_rfl) (trivial) (fun hHeld => ?_)
       refine sY 0 21 ?_
       refine sY 1 22 ?_
       refine sY 2 23 ?_
       refine sY 3 24 ?_
       refine sY 4 25 ?_
       refine sU 5 26 ?_
       refine sU 6 27 ?_
       refine sU 7 28 ?_
       refine sU 8 29 ?_
       refine sU 9 30 ?_
       refine sU 10 31 ?_
       refine sU 11 32 ?_
       refine sU 12 33 ?_
       refine sU 13 34 ?_
       refine sU 14 35 ?_
       refine sU 15 36 ?_
       refine sU 16 37 ?_
       refine sU 17 38 ?_
       refine sU 18 39 ?_
       refine sU 19 40 ?_
       refine sU 20 41 ?_
       refine sU 21 42 ?_
       refine sY 22 43 ?_
       refine sY 23 44 ?_
       refine sU 24 45 ?_
       refine sU 25 46 ?_
       refine sU 26 47 ?_
       refine sU 27 48 ?_
       refine sU 28 49 ?_
       refine sU 29 50 ?_
       refine sU 30 51 ?_
       refine sU 31 52 ?_
       refine sU 32 53 ?_
       refine sU 33 54 ?_
       refine sU 34 55 ?_
       refine sY 35 56 ?_
       refine wpAnyH_done (by kernel_rfl) ?_ _
       have HJd := Lib.hid (show J (List.range k) wr.drew.drew from HJs.out _ _ _ HJm.out (Below.refl _ wr).drew.drew)
       have mC : IntKind.i64.wrap (C : Int) = C := IntWalk.i64_in _ (by omega)
       have HRd := Lib.hid (show CellsAt wr.drew.drew rb C (cell k) from HRm.out)
       have c5' : wr.drew.drew.cell? ⟨bx, 7, none⟩ = some (.slice (some ⟨lob, 0, none⟩) R lc) := c5
       have HYZ := Lib.hid (fun W (hb : Below wr.drew.drew.heap.size wr.drew.drew W) => HY.out (List.range k) k W (HJs.out _ _ _ HJd.out hb) (by simpa using hlt) ⟨by simp, hlt⟩)
       clear hHeld HJm HRm Lk c5'
       gi_wp2_with fail
       gi_region_with (first | (refine hR'.mono ?_; rintro e W' ⟨r, rfl, hpost⟩) | (refine ⟨trivial, ?_⟩; gi_at_call 42; refine (callsIn_wide.2 (HG.out _ k hlt rb rcap HRd.out)).mono ?_; rintro e w1 ⟨rfl, b1⟩; have c5' := cellB b1 c5; have l0' := cellB b1 l0; have l00' := cellB b1 l00; have d0' := cellB b1 d0; obtain ⟨fn, tmps, assign, body, hy, hR⟩ := HYZ.out _ b1; simp only [encRun] at hy; have hR' := (roundIn_any (m := n - 1) hR).mono (R' := fun e X' => ∃ r : Bool, e = .returned (.bool r) ∧ Hid ((r = true ∧ J (List.range k ++ [k]) X') ∨ (r = false ∧ Jx (List.range k ++ [k]) X'))) (fun e X' h => by rcases h with ⟨rfl, a, _⟩ | ⟨rfl, a⟩; exact ⟨true, rfl, .inl ⟨rfl, a⟩⟩; exact ⟨false, rfl, .inr ⟨rfl, a⟩⟩); clear hR b1))
       all_goals clear mC
       all_goals cases r
       all_goals rcases hpost with ⟨hr, hJ'⟩ | ⟨hr, hJx'⟩
       all_goals first | cases hr | skip
       all_goals try (have t_ := hJx'; clear t_; have HJX := Lib.hid hJx'; clear hJx'; gi_wp2_with fail; refine bodyPost_ret (results_none rfl _ _ _) rfl ?_; exact ⟨⟨_, rfl⟩, .inr ⟨_, trivial, HJX.out⟩⟩)
       all_goals (have HJN := Lib.hid (show J (List.range (k + 1)) W' from by rw [List.range_succ]; exact hJ'); clear hJ'; gi_wp2_with fail; go_roundw)
       all_goals first | (show (_ ∨ _); exact .inr ⟨rfl, HJN⟩) | (simp [intOf]; omega) | skip
    ·gi_wp2_with fail
     go_roundw
     case rel => exact ⟨k + 1, by omega, by go_num, HJ1⟩
     case measure => simp [intOf]; omega
  ·gi_wp2_with fail
   go_end0
   obtain rfl : k = R := by omega
   exact ⟨⟨_, rfl⟩, .inl ⟨_, rfl, HJk.out⟩⟩
end Go.Proofs.YtpjooboohelffaaGreatDoor
/- Top: attr: Keep at the attributes of a Wyse 60; snap: Name. -/
namespace Go.Proofs.YtpjooboohelffaaGreatDoor
open Go.RowKit
set_option linter.unusedVariables false
set_option linter.unusedSimpArgs false
set_option maxRecDepth 100000
theorem name3 (w : World) : Fs w 25 #[.int .i64 3] (.string ⟨#[119, 121, 115, 101]⟩) := by
 go_enter Tryz.func25, Tryz.ntmps25
 go_wp2_with fail
 go_ret
 exact ⟨rfl, rfl⟩
theorem mask3 (w : World) : Fs w 31 #[.int .i64 3] (.int .i64 62) := by
 go_enter Tryz.func31, Tryz.ntmps31
 go_wp2_with fail
 go_ret
 exact ⟨rfl, rfl⟩
theorem wattr_bits : ∀ a ∈ wattrs, bits .andNot .i64 a 16255 = 0 ∧ bits .and .i64 a 64 = 0 ∧ bits .and .i64 a 16128 = 0 ∧ bits .and .i64 a 62 = a := by decide +kernel
theorem may_wattr (a : Int) (h : WAttr a) (w : World) : Fs w 30 #[.int .i64 a] (.int .i64 0) := by
 have hb := h.bd
 have g0 : ¬ a < 0 := by omega
 obtain ⟨f1, f2, f3, -⟩ := wattr_bits a h
 clear h hb
 go_enter Tryz.func30, Tryz.ntmps30
 go_wp2_with fail
 go_ret
 exact ⟨rfl, rfl⟩
theorem keep_wattr (a : Int) (h : WAttr a) (w : World) : Fs w 12 #[.int .i64 3, .int .i64 a] (.int .i64 a) := by
 obtain ⟨-, -, -, f4⟩ := wattr_bits a h
 have HM := Lib.hid (may_wattr a h w)
 have HK := Lib.hid (mask3 w)
 clear h
 go_enter Tryz.func12, Tryz.ntmps12
 go_wp2_with fail
 refine HM.out.mono ?_
 rintro e w1 ⟨rfl, rfl⟩
 go_wp2_with fail
 refine HK.out.mono ?_
 rintro e w2 ⟨rfl, rfl⟩
 go_wp2_with fail
 go_ret
 exact ⟨rfl, rfl⟩
end Go.Proofs.YtpjooboohelffaaGreatDoor
/- Top: wyse.Look: what attributes cells are seen with. -/
namespace Go.Proofs.YtpjooboohelffaaGreatDoor
open Go.RowKit Go.Shelf
set_option linter.unusedVariables false
set_option linter.unusedSimpArgs false
set_option maxRecDepth 100000
def OwnL (w : World) (base : Nat) (v : Value) (L : List Value) : Prop := w.ownsRow base 39 1 v L.length L
theorem OwnL.shape {w : World} {base : Nat} {v : Value} {L : List Value} (h : OwnL w base v L) : ∃ ad cap, v = .slice ad L.length cap := by
 rcases h.2 with ⟨rfl, h0⟩ | ⟨g, cap, cur, hv, _⟩
 ·exact ⟨none, 0, by rw [h0]⟩
 ·exact ⟨_, _, hv⟩
theorem OwnL.own {w : World} {base : Nat} {v : Value} {L : List Value} (h : OwnL w base v L) {k : Nat} (hk : v.ownBlock = some k) : base ≤ k ∧ ∃ n, BlkT w k n 39 := by
 rcases h.2 with ⟨rfl, _⟩ | ⟨g, cap, cur, rfl, hg, hgb, _⟩
 ·simp [Value.ownBlock] at hk
 ·simp [Value.ownBlock] at hk
  subst hk
  exact ⟨hg, _, cur, hgb, rfl⟩
theorem info39 : (Tryz.prog.info? 39).map (fun i => (i.zero, i.size, i.bytes)) = some (some (.slice none 0 0), 1, 24) := by kernel_rfl
theorem wp_appL {ops : Array Oper} {rest : List Oper} {o : Oper} {a : Act} {Q : Exit → Act → World → Prop} (hgd : o.guard = none) (s x : Operand)
  (ho : o.op = .call { callee := .builtin .append, args := #[s, x], argTypes := #[38, 38] }) (base : Nat) (v : Value) (L : List Value) (W : World) (y : Value) (B : Nat)
  (hs : a.eval s = v) (hx : a.eval x = .slice (some ⟨B, 0, none⟩) 1 1) (hB : W.cell? ⟨B, 0, none⟩ = some y) (hy1 : y.oneCell' = true) (hown : OwnL W base v L) (hbase : base ≤ W.heap.size) (hn : L.length ≤ 1000000)
  (h : ∀ ad cap w', OwnL w' base (.slice ad (L.length + 1) cap) (L ++ [y]) → W.grownBy w' v.ownBlock → wpList Tryz.prog ops Q rest (a.put o.dst (.slice ad (L.length + 1) cap)) w') :
  wpList Tryz.prog ops Q (o :: rest) a W := by
 obtain ⟨i0, hi, hz0, hz1, hz2⟩ := info_parts info39
 refine wpList_append_own _ hgd s x 38 ho base 39 i0 _ 1 24 Tryz.underlying38 hi hz0 hz1 hz2 rfl (by decide) v L.length _ hs hown ⟨B, 0, none⟩ 1 1 [y] hx rfl ?_ (by simpa using hy1) (by unfold maxLen; omega) (by omega) hbase ?_
 ·intro j u hj
  have : j = 0 := by
   have := (List.getElem?_eq_some_iff.1 hj).1
   simpa using this
  subst this
  simp at hj
  subst hj
  simpa [Addr.add] using hB
 ·intro v' w' h1 h2 _
  have o2 : OwnL w' base v' (L ++ [y]) := by unfold OwnL; simpa using h1
  obtain ⟨ad, cap, hv⟩ := o2.shape
  rw [List.length_append] at hv
  simp only [List.length_cons, List.length_nil, Nat.zero_add] at hv
  subst hv
  exact h ad cap w' o2 h2
/-- A row of numbers, each of P. -/
def LRow (P : Int → Prop) (C lo : Nat) (W : World) (x : Value) : Prop := ∃ b, x = .slice (some ⟨b, 0, none⟩) C C ∧ lo ≤ b ∧ BlkT W b C 3 ∧ ∀ j, j < C → ∃ z, W.cell? ⟨b, j, none⟩ = some (.int .i64 z) ∧ P z
theorem LRow.to {P : Int → Prop} {C lo : Nat} {W W' : World} {x : Value} (h : LRow P C lo W x) (hk : ∀ k n, BlkT W k n 3 → W'.heap[k]? = W.heap[k]?) : LRow P C lo W' x := by
 obtain ⟨b, h1, h2, h3, h4⟩ := h
 have e := hk _ _ h3
 exact ⟨b, h1, h2, h3.to e, fun j hj => by
  obtain ⟨z, h5, h6⟩ := h4 j hj
  exact ⟨z, (World.cell?_of_block (a := ⟨b, j, none⟩) e).trans h5, h6⟩⟩
theorem LRow.later {P : Int → Prop} {C lo : Nat} {W W' : World} {x : Value} (h : LRow P C lo W x) (hb : Below W.heap.size W W') : LRow P C lo W' x := h.to fun k n hk => hb.block k hk.blk.lt
theorem LRow.set {P : Int → Prop} {C lo : Nat} {W : World} {x : Value} (h : LRow P C lo W x) (b' j' : Nat) {z : Int} (hz : P z) : LRow P C lo (W.setCell ⟨b', j', none⟩ (.int .i64 z)) x := by
 obtain ⟨b, h1, h2, h3, h4⟩ := h
 refine ⟨b, h1, h2, h3.set _ _, fun j hj => ?_⟩
 obtain ⟨y, h5, h6⟩ := h4 j hj
 by_cases e : b' = b ∧ j' = j
 ·obtain ⟨rfl, rfl⟩ := e
  exact ⟨z, World.cell?_setCell_same' _ _ _ (by rw [h5]; rfl), hz⟩
 ·exact ⟨y, (World.cell?_setCell_other _ _ _ _ (by simp <;> omega)).trans h5, h6⟩
theorem OwnL.call {w w' : World} {base : Nat} {v : Value} {L : List Value} (h : OwnL w base v L) (hb : Below w.heap.size w w') : OwnL w' base v L := ownsRow_call h hb
theorem OwnL.set {w : World} {base b n j : Nat} {v z : Value} {L : List Value} (h : OwnL w base v L) (hb : BlkT w b n 3) : OwnL (w.setCell ⟨b, j, none⟩ z) base v L := by
 refine World.ownsRow.kept h (row := some b) ⟨rfl, rfl, rfl, by simp [World.setCell], fun k _ hk => Below.heap_setCell _ _ _ _ (fun e => hk (by simp [e]))⟩ ?_
 cases hv : v.ownBlock with
 | none => exact .inl rfl
 | some g =>
  refine .inr fun e => ?_
  obtain ⟨_, n2, hg⟩ := h.own hv
  exact (hb.ne hg (by decide)) (Option.some.inj e).symm
/-- Rows of numbers, each of P. -/
def LooksAt (P : Int → Prop) (W : World) (lo : Nat) (v : Value) (R C : Nat) : Prop := ∃ ob cap, v = .slice (some ⟨ob, 0, none⟩) R cap ∧ lo ≤ ob ∧ BlkT W ob cap 39 ∧ ∀ i, i < R → ∃ x, W.cell? ⟨ob, i, none⟩ = some x ∧ LRow P C lo W x
def newInts (n : Nat) : Obj := .cells (madeCells #[.int .i64 0] (n * 1)) 3
theorem info3 : (Tryz.prog.info? 3).map (fun i => (i.zero, i.size, i.bytes)) = some (some (.int .i64 0), 1, 8) := by kernel_rfl
theorem make_ints (n : Nat) (hn : n ≤ 255) (w : World) : (Instr.makeSlice 39 (.int .i64 (n : Int)) (.int .i64 (n : Int))).run Tryz.prog w = .ok (.slice (some ⟨w.heap.size, 0, none⟩) n n) (w.alloc (newInts n)) := by
 obtain ⟨i0, hi, hz0, hz1, hz2⟩ := info_parts info3
 have := run_make (P := Tryz.prog) w 39 3 i0 _ Tryz.underlying39 hi hz0 .i64 .i64 (n : Int) (n : Int) (by omega) (by omega) (by rw [hz2]; omega) (by omega)
 rw [hz1] at this
 simpa [newInts, Value.cells] using this
theorem newInts_row {P : Int → Prop} (h0 : P 0) (C lo : Nat) (w : World) (hlo : lo ≤ w.heap.size) : LRow P C lo (w.alloc (newInts C)) (.slice (some ⟨w.heap.size, 0, none⟩) C C) := by
 refine ⟨w.heap.size, rfl, hlo, ⟨_, heap_alloc_new w _, by rw [size_madeCells, Nat.mul_one]⟩, fun j hj => ⟨0, ?_, h0⟩⟩
 have hs := size_madeCells #[.int .i64 0] (C * 1)
 simp only [World.cell?, newInts, heap_alloc_new]
 simp [madeCells, hj, Nat.mod_one]
theorem appL_end {P : Int → Prop} {C : Nat} {w wr w4 : World} {o : Obj} {v v' y : Value} {L : List Value} (hO : OwnL wr w.heap.size v L) (hL : ∀ x ∈ L, LRow P C w.heap.size wr x) (hQ : LRow P C w.heap.size wr y) (hB : Below w.heap.size w wr)
  (own4 : OwnL w4 w.heap.size v' (L ++ [y])) (gr4 : (wr.alloc o).grownBy w4 v.ownBlock) : OwnL w4 w.heap.size v' (L ++ [y]) ∧ (∀ x ∈ L ++ [y], LRow P C w.heap.size w4 x) ∧ Below w.heap.size w w4 := by
 have hO' := hO.call (bel_alloc (Below.refl _ _) o)
 have hk : ∀ k n, BlkT (wr.alloc o) k n 3 → w4.heap[k]? = (wr.alloc o).heap[k]? := fun k n hk => gr4.block k hk.blk.lt fun e => by
  obtain ⟨_, n2, h2⟩ := hO'.own e.symm
  exact (hk.ne h2 (by decide)) rfl
 refine ⟨own4, fun x hx => ?_, (bel_alloc hB o).grown gr4 (by have := hB.size; simp; omega) (fun k hk => (hO'.own hk).1)⟩
 rcases List.mem_append.1 hx with hx | hx
 ·exact ((hL x hx).later (bel_alloc (Below.refl _ _) o)).to hk
 ·simp at hx
  subst hx
  exact (hQ.later (bel_alloc (Below.refl _ _) o)).to hk
/-- What the looks' law asks of a cell. -/
structure CellP (P : Int → Prop) (c : Cl) : Prop where
 m0 : 0 ≤ c.m
 m1 : c.m ≤ 63
 mr : 0 < c.m → P (c.m - 1)
 or : ∀ m, P m → P (bits .or .i64 c.a m)
set_option maxHeartbeats 4000000 in
theorem look_any (P : Int → Prop) (h0 : P 0) (w : World) (lo R C : Nat) (v : Value) (cell : Nat → Nat → Cl) (hr : RowsAt w lo v R C cell) (hR1 : 1 ≤ R) (hR : R ≤ 255) (hC1 : 1 ≤ C) (hC : C ≤ 255) (hc : ∀ i j, i < R → j < C → CellP P (cell i j)) :
  Calls Tryz.prog 55 #[v] w fun e w' => ∃ v', e = .returned v' ∧ LooksAt P w' w.heap.size v' R C ∧ Below w.heap.size w w' := by
 obtain ⟨ob, rfl, hob, hrows⟩ := hr
 have hmk := make_ints C hC
 have HR := Lib.hid (fun i (hi : i < R) => (show ∃ b cap, (∀ W, Below w.heap.size w W → W.cell? ⟨ob, i, none⟩ = some (.slice (some ⟨b, 0, none⟩) C cap)) ∧ (∀ W, Below w.heap.size w W → CellsAt W b C (cell i)) ∧ b < w.heap.size from by
  obtain ⟨b, cap, h1, h2, h3⟩ := hrows i hi
  exact ⟨b, cap, fun W hb => cellB hb h1, fun W hb j hj => ⟨cellB hb (h3 j hj).1, cellB hb (h3 j hj).2.1, cellB hb (h3 j hj).2.2.1, cellB hb (h3 j hj).2.2.2⟩, blt (h3 0 (by omega)).1⟩))
 have HC := Lib.hid hc
 have H0 := Lib.hid h0
 clear hrows hc h0
 go_enter Tryz.func55, Tryz.ntmps55
 go_wp2_with fail
 go_loopw [3, 4, 12] (fun s3 s4 s12 wr => ∃ (k : Nat) (m : Int) (L : List Value), k ≤ R ∧ s12 = .int .i64 (k : Int) ∧ s4 = .int .i64 m ∧ L.length = k ∧ Hid (P m) ∧ Hid (OwnL wr w.heap.size s3 L) ∧ Hid (∀ x ∈ L, LRow P C w.heap.size wr x) ∧ Hid (Below w.heap.size w wr)) (fun _ _ i _ => R - (intOf i).toNat)
 case atStart => exact ⟨0, 0, [], Nat.zero_le _, rfl, rfl, rfl, H0, Lib.hid (World.ownsRow_nil _ _ _ _), Lib.hid (by simp), Lib.hid (Below.refl _ _)⟩
 case round =>
  obtain ⟨k, m, L, hk, rfl, rfl, hlen, Hm, HO, HL, HB⟩ := hrel
  have Hlen := Lib.hid hlen
  clear hlen
  by_cases hlt : k < R
  ·have q1 : (k : Int) < (R : Int) := by omega
   obtain ⟨rb, rcap, r0', r1, r2⟩ := HR.out k hlt
   have r0 := r0' wr HB.out
   have hz := HB.out.size
   have R1 := Lib.hid r1
   clear r1 r0'
   go_wp2_with fail
   have hw1 : Below w.heap.size w (wr.alloc (newInts C)) := bel_alloc HB.out _
   have HO1 := Lib.hid (HO.out.call (bel_alloc (Below.refl _ _) (newInts C)))
   have HL1 := Lib.hid (show ∀ x ∈ L, LRow P C w.heap.size (wr.alloc (newInts C)) x from fun x hx => (HL.out x hx).later (bel_alloc (Below.refl _ _) _))
   have HQ1 := Lib.hid (newInts_row H0.out C w.heap.size wr hz)
   have HB1 := Lib.hid hw1
   clear hw1 r0
   generalize hlq : wr.heap.size = lq at *
   have Hlq := Lib.hid hlq
   clear hlq
   go_loopw [4, 21] (fun s4 s21 wx => ∃ (j : Nat) (m : Int), j ≤ C ∧ s21 = .int .i64 (j : Int) ∧ s4 = .int .i64 m ∧ Hid (P m) ∧ Hid (OwnL wx w.heap.size u3 L) ∧ Hid (∀ x ∈ L, LRow P C w.heap.size wx x) ∧ Hid (LRow P C w.heap.size wx (.slice (some ⟨lq, 0, none⟩) C C)) ∧ Hid (Below w.heap.size w wx)) (fun _ i _ => C - (intOf i).toNat)
   case atStart => exact ⟨0, m, Nat.zero_le _, rfl, rfl, Hm, HO1, HL1, HQ1, HB1⟩
   case round =>
    clear HO1 HL1 HQ1 HB1 HO HL HB Hm
    obtain ⟨j, m, hj, rfl, rfl, Hm, HO, HL, HQ, HB⟩ := hrel
    by_cases hlt2 : j < C
    ·have q2 : (j : Int) < (C : Int) := by omega
     obtain ⟨c0, c1, c2, c3⟩ := R1.out wr HB.out j hlt2
     have hcp := HC.out k j hlt hlt2
     generalize cell k j = x at c0 c1 c2 c3 hcp
     have hx0 := hcp.m0
     have hx1 := hcp.m1
     have HX := Lib.hid hcp
     clear hcp
     obtain ⟨bq, hbq, hq2, hq3, hq4⟩ := HQ.out
     cases hbq
     have hlq := hq3.blk.lt
     obtain ⟨z0, hz0, hzf⟩ := hq3.blk.get j hlt2
     have hlc := blt c0
     have HN := Lib.hid (fun o z (hz : P z) => (show OwnL ((wr.setCell ⟨lq, j, none⟩ (.int .i64 z)).alloc o) w.heap.size u3 L ∧ (∀ y ∈ L, LRow P C w.heap.size ((wr.setCell ⟨lq, j, none⟩ (.int .i64 z)).alloc o) y) ∧ LRow P C w.heap.size ((wr.setCell ⟨lq, j, none⟩ (.int .i64 z)).alloc o) (.slice (some ⟨lq, 0, none⟩) C C) ∧ Below w.heap.size w ((wr.setCell ⟨lq, j, none⟩ (.int .i64 z)).alloc o) from
      ⟨(HO.out.set hq3).call (bel_alloc (Below.refl _ _) o), fun y hy => ((HL.out y hy).set lq j hz).later (bel_alloc (Below.refl _ _) o), (HQ.out.set lq j hz).later (bel_alloc (Below.refl _ _) o), bel_alloc (bel_set HB.out hq2 _) o⟩))
     have hov : ∀ m2, P m2 → P (bits .or .i64 x.a m2) := fun m2 hm2 => HX.out.or m2 hm2
     have Hov := Lib.hid hov
     clear hov hq4 hq3
     by_cases hmx : 0 < x.m
     ·have hP1 := HX.out.mr hmx
      have e1 : IntKind.i64.wrap (x.m - 1) = x.m - 1 := IntWalk.i64_in _ (by omega)
      have e2 : (x.m - 1) % 64 = x.m - 1 := by omega
      go_wp2_with fail
      go_roundw
      case rel =>
       obtain ⟨a1, a2, a3, a4⟩ := HN.out _ _ (Hov.out _ hP1)
       exact ⟨j + 1, _, by omega, by go_num, rfl, Lib.hid (by first | exact hP1 | (rw [e2]; exact hP1)), Lib.hid a1, Lib.hid a2, Lib.hid a3, Lib.hid a4⟩
      case measure => simp [intOf]; omega
     ·go_wp2_with fail
      go_roundw
      case rel =>
       obtain ⟨a1, a2, a3, a4⟩ := HN.out _ _ (Hov.out _ Hm.out)
       exact ⟨j + 1, _, by omega, by go_num, rfl, Lib.hid Hm.out, Lib.hid a1, Lib.hid a2, Lib.hid a3, Lib.hid a4⟩
      case measure => simp [intOf]; omega
    ·obtain rfl : C = j := by omega
     have hlen := Hlen.out
     have hz3 := HB.out.size
     go_wp2_with (at_builtin; refine wp_appL rfl (.tmp 41) (.tmp 43) rfl w.heap.size _ L _ (.slice (some ⟨lq, 0, none⟩) C C) wr.heap.size rfl rfl (by simp [go_sem]) rfl (HO.out.call (bel_alloc (Below.refl _ _) _)) (by simp; omega) (by omega) ?_; intro ad4 cap4 w4 own4 gr4; have HE4 := Lib.hid (show OwnL w4 w.heap.size (.slice ad4 (L.length + 1) cap4) (L ++ [.slice (some ⟨lq, 0, none⟩) C C]) ∧ (∀ y ∈ L ++ [.slice (some ⟨lq, 0, none⟩) C C], LRow P C w.heap.size w4 y) ∧ Below w.heap.size w w4 from appL_end HO.out HL.out HQ.out HB.out own4 gr4); clear own4 gr4)
     go_roundw
     case rel =>
      obtain ⟨a1, a2, a3⟩ := HE4.out
      exact ⟨k + 1, m, _, by omega, by go_num, rfl, by rw [List.length_append]; simp [Hlen.out], Hm, Lib.hid (by first | exact a1 | (rw [Hlen.out] at a1; exact a1)), Lib.hid a2, Lib.hid a3⟩
     case measure => simp [intOf]; omega
  ·go_wp2_with fail
   obtain rfl : R = k := by omega
   go_ret
   have own := HO.out
   have hl := Hlen.out
   rcases own.2 with ⟨rfl, hn⟩ | ⟨g, cap, cur, hv, hg, hh, ht, hsz, hlt⟩
   ·omega
   ·refine ⟨_, rfl, ⟨g, cap, by rw [hv, hl]; rfl, hg, ⟨cur, hh, by omega⟩, fun i hi => ?_⟩, HB.out⟩
    have hi' : i < L.length := by omega
    have e : (List.take (L.length * 1) cur.toList)[i]? = some L[i] := by rw [hlt.2]; exact List.getElem?_eq_getElem hi'
    rw [List.getElem?_take, if_pos (by omega)] at e
    refine ⟨L[i], ?_, HL.out _ (List.getElem_mem hi')⟩
    simp only [World.cell?, hh]
    simpa using e
end Go.Proofs.YtpjooboohelffaaGreatDoor
