/- TopLooks and TopSends, helper 11 of 27. It holds: tabs: Every at any number, Resize, Copy; the screen in memory; how the arguments are read; what the listed variables give; one start that fits; a chain of compares of a byte with constants, reckoned by a function: the frame stays a letter; wyse: one: its code, cut. By gone.py. Each theorem states its own conditions. -/
import Derived.Test.YtpjooboohelffaaGreatDoorM09
import Derived.Test.YtpjooboohelffaaGreatDoorM07
import Derived.Test.YtpjooboohelffaaGreatDoorM08
import Derived.Test.YtpjooboohelffaaGreatDoorRows
import Derived.WalkKit
import Derived.ProofKit
import Derived.OpenShut
import Derived.ShutString
import Derived.ChangeOld
import Derived.Below
import Derived.Lib.SmallJoins
import Derived.LaidMore
import Derived.Stop.Joined
import Derived.Stop.LaidErr
import Derived.Shelf.Vars
import Derived.Handed
import Derived.Test.YtpjooboohelffaaGreatDoorM00
import Derived.Deep.CutBlock
/- tabs: Every at any number, Resize, Copy. -/
namespace Go.Proofs.YtpjooboohelffaaGreatDoor.T05
open Go.RowKit Go.Maps Go.Sort Go.Shelf Go.ChangeMaps Go.WideMaps Go.WideElems
set_option linter.unusedVariables false
set_option linter.unusedSimpArgs false
set_option maxRecDepth 100000
set_option maxHeartbeats 1000000 in
theorem every_pos2 (w : World) (p b : Nat) (cols : Int) (n0 : Nat) (D : Set3) (h : TObj w p b cols n0 D) (h1 : 1 ≤ cols) (h2 : cols ≤ 255) (n : Int) (hn : 1 ≤ n) (hn2 : n ≤ 9223372036854775807) :
  Calls Tryz.prog 168 #[.pointer (some ⟨p, 0, none⟩), .int .i64 n] w fun e w' => e = .returned (.int .i64 0) ∧ ∃ j : Nat, (cols ≤ ((j : Int) + 1) * n) ∧ (∀ i, i < j → ((i : Int) + 1) * n < cols) ∧ TObj w' p b cols j (multD n j) ∧ w.grownBy w' (some b) := by
 have hne : p ≠ b := h.apart
 have k0 := h.c0
 have k1 := h.c1
 have HCl := Lib.hid (fun ty => run_clear53 w b n0 D h.m ty)
 have hpl := h.lt
 have Hne := Lib.hid hne
 have Hpl := Lib.hid hpl
 have K0 := Lib.hid k0
 have K1 := Lib.hid k1
 have g1 : ¬ n < 0 := by omega
 have g2 : 0 < n := by omega
 clear h hne hpl
 obtain ⟨w1, hrun, hown1, hg1⟩ := HCl.out 0
 have Hown1 := Lib.hid hown1
 have Hg1 := Lib.hid hg1
 clear hown1 hg1 HCl
 go_enter Tryz.func168, Tryz.ntmps168
 go_wp2_with fail
 go_loopw [5] (fun c wr => ∃ j : Nat, c = .int .i64 (((j : Int) + 1) * n) ∧ OwnS wr b j (multD n j) ∧ w.grownBy wr (some b) ∧ ∀ i, i < j → ((i : Int) + 1) * n < cols) (fun c _ => (255 - intOf c).toNat)
 case atStart => exact ⟨0, by simp, Hown1.out, Hg1.out, fun i hi => absurd hi (Nat.not_lt_zero i)⟩
 case round =>
  obtain ⟨j, rfl, hown, hg, hall⟩ := hrel
  have c0 := grown_cell hg Hne.out K0.out
  have c1 := grown_cell hg Hne.out K1.out
  have hge : (j : Int) + 1 ≤ ((j : Int) + 1) * n := by
   have := Int.mul_le_mul_of_nonneg_left hn (show (0 : Int) ≤ (j : Int) + 1 by omega)
   simpa using this
  have hle : n ≤ ((j : Int) + 1) * n := by
   have := Int.mul_le_mul_of_nonneg_right (show (1 : Int) ≤ (j : Int) + 1 by omega) (show (0 : Int) ≤ n by omega)
   simpa using this
  have hnext : (((j + 1 : Nat) : Int) + 1) * n = ((j : Int) + 1) * n + n := by push_cast; rw [Int.add_mul ((j : Int) + 1) 1 n]; omega
  have hD := multD_succ n j
  have hall' : ((j : Int) + 1) * n < cols → ∀ i, i < j + 1 → ((i : Int) + 1) * n < cols := fun hc i hi => by
   by_cases e : i = j
   ·subst e; exact hc
   ·exact hall i (by omega)
  generalize hcc : ((j : Int) + 1) * n = c at *
  have Hown := Lib.hid hown
  have Hg := Lib.hid hg
  have Hall := Lib.hid hall
  have Hall' := Lib.hid hall'
  have Hnext := Lib.hid hnext
  have HD := Lib.hid hD
  have Hcc := Lib.hid hcc
  clear hown hg hall hall' hnext hD hcc
  by_cases hlt : c < cols
  ·have hjm : j < 300 := by omega
   have hkey : keyOf Tryz.prog 3 (.int .i64 c) = some (.int .i64 c) := keyOf_int_mk Tryz.underlying3 (WalkArith.wf_i64 (by omega))
   have Hkey := Lib.hid hkey
   clear hkey
   go_wp2_with (at_mapUpdate; refine wpList_mapUpdate_own _ rfl _ _ _ 140 rfl 3 161 (int_keyed Tryz.underlying3) Tryz.underlying140 _ b j _ rfl Hown.out (by unfold maxLen; omega) _ _ _ rfl rfl Hkey.out _ [] unitElem_mk ?_; intro w2 hown2 hg2)
   go_roundw
   case rel => exact ⟨j + 1, by rw [Hnext.out]; try go_num, by rw [HD.out]; exact hown2, Hg.out.trans hg2, Hall'.out hlt⟩
   case measure => simp [intOf]; omega
  ·have HTo := Lib.hid (show TObj wr p b cols j (multD n j) from ⟨c0, c1, Hown.out⟩)
   go_wp2_with fail
   go_ret
   exact ⟨rfl, j, by rw [Hcc.out]; omega, Hall.out, HTo.out, Hg.out⟩
set_option maxHeartbeats 1000000 in
theorem every_zero (w : World) (p b : Nat) (cols : Int) (n0 : Nat) (D : Set3) (h : TObj w p b cols n0 D) :
  Calls Tryz.prog 168 #[.pointer (some ⟨p, 0, none⟩), .int .i64 0] w fun e w' => e = .returned (.int .i64 0) ∧ TObj w' p b cols 0 (.map []) ∧ w.grownBy w' (some b) := by
 have hne : p ≠ b := h.apart
 have k0 := h.c0
 have k1 := h.c1
 have HCl := Lib.hid (fun ty => run_clear53 w b n0 D h.m ty)
 have Hne := Lib.hid hne
 have K0 := Lib.hid k0
 have K1 := Lib.hid k1
 clear h hne
 obtain ⟨w1, hrun, hown1, hg1⟩ := HCl.out 0
 have Hown1 := Lib.hid hown1
 have Hg1 := Lib.hid hg1
 clear hown1 hg1 HCl
 go_enter Tryz.func168, Tryz.ntmps168
 go_wp2_with fail
 go_loopw [5] (fun c wr => c = .int .i64 0 ∧ wr = w1) (fun c _ => 0)
 case atStart => exact ⟨rfl, rfl⟩
 case round =>
  obtain ⟨rfl, rfl⟩ := hrel
  go_wp2_with fail
  go_ret
  exact ⟨rfl, ⟨grown_cell Hg1.out Hne.out K0.out, grown_cell Hg1.out Hne.out K1.out, Hown1.out⟩, Hg1.out⟩
theorem every_neg (w : World) (p : Nat) (n : Int) (hn : n < 0) :
  Calls Tryz.prog 168 #[.pointer (some ⟨p, 0, none⟩), .int .i64 n] w fun e w' => e = .returned (.int .i64 1) ∧ w' = w := by
 go_enter Tryz.func168, Tryz.ntmps168
 go_wp2_with fail
 go_ret
 exact ⟨rfl, rfl⟩
/-- The stops behind Every. -/
def everyS (c : Nat) (n : Int) : Int → Bool := fun x => decide (0 < x ∧ x < (c : Int) ∧ 0 < n ∧ x % n = 0)
theorem has_mult (n : Int) (j : Nat) (x : Int) : Maps.has (multD n j) (.int .i64 x) = true ↔ ∃ i : Nat, i < j ∧ ((i : Int) + 1) * n = x := by
 unfold multD
 rw [Maps.has_setOf _ _ _ (by intro y hy; rw [List.mem_map] at hy; obtain ⟨i, _, rfl⟩ := hy; trivial), List.any_map, List.any_eq_true]
 constructor
 ·rintro ⟨i, hi, he⟩
  exact ⟨i, List.mem_range.1 hi, by simpa [Lit.sameKey] using he⟩
 ·rintro ⟨i, hi, rfl⟩
  exact ⟨i, List.mem_range.2 hi, by simp [Lit.sameKey]⟩
theorem mult_every {c : Nat} {n : Int} {j : Nat} (hn : 1 ≤ n) (h1 : (c : Int) ≤ ((j : Int) + 1) * n) (h2 : ∀ i, i < j → ((i : Int) + 1) * n < c) (x : Int) : Maps.has (multD n j) (.int .i64 x) = everyS c n x := by
 rw [Bool.eq_iff_iff, has_mult]
 unfold everyS
 rw [decide_eq_true_iff]
 constructor
 ·rintro ⟨i, hi, rfl⟩
  refine ⟨?_, h2 i hi, by omega, Int.mul_emod_left _ _⟩
  have := Int.mul_le_mul_of_nonneg_right (show (1 : Int) ≤ (i : Int) + 1 by omega) (show (0 : Int) ≤ n by omega)
  omega
 ·rintro ⟨a1, a2, a3, a4⟩
  have e : x / n * n = x := Int.ediv_mul_cancel (Int.dvd_of_emod_eq_zero a4)
  have q1 : 0 < x / n := by
   refine Int.not_le.1 fun h => ?_
   have := Int.mul_le_mul_of_nonneg_right h (show (0 : Int) ≤ n by omega)
   omega
  refine ⟨(x / n - 1).toNat, ?_, ?_⟩
  ·refine Nat.lt_of_not_le fun h => ?_
   have h3 : (j : Int) + 1 ≤ x / n := by omega
   have := Int.mul_le_mul_of_nonneg_right h3 (show (0 : Int) ≤ n by omega)
   omega
  ·have : (((x / n - 1).toNat : Nat) : Int) + 1 = x / n := by omega
   rw [this]; exact e
theorem every_ts (w : World) (p b c : Nat) (S : Int → Bool) (h : TS w p b c S) (n : Int) (h0 : 0 ≤ n) (h1 : n ≤ 9223372036854775807) :
  Calls Tryz.prog 168 #[.pointer (some ⟨p, 0, none⟩), .int .i64 n] w fun e w' => e = .returned (.int .i64 0) ∧ TS w' p b c (everyS c n) ∧ w.grownBy w' (some b) := by
 obtain ⟨D, hT, hS⟩ := h.ob
 have hblk : ∀ w', w.grownBy w' (some b) → w'.heap[p]? = some (.cells #[.int .i64 c, .map (some b)] 142) := fun w' hg => (hg.block p h.lt (fun e => hT.apart (by cases e; rfl))).trans h.blk
 have hlo := h.lo
 have hhi := h.hi
 have hbd : ∀ x, everyS c n x = true → 0 ≤ x ∧ x < (c : Int) := fun x hx => by unfold everyS at hx; rw [decide_eq_true_iff] at hx; omega
 by_cases hz : n = 0
 ·subst hz
  refine (every_zero w p b c 300 D hT).mono ?_
  rintro e w' ⟨he, hT', hg⟩
  refine ⟨he, ts_of hT' (fun x => ?_) hlo hhi hbd (hblk _ hg), hg⟩
  unfold everyS
  simp [Maps.has]
 ·refine (every_pos2 w p b c 300 D hT (by omega) (by omega) n (by omega) h1).mono ?_
  rintro e w' ⟨he, j, q1, q2, hT', hg⟩
  exact ⟨he, ts_of hT' (fun x => mult_every (by omega) q1 q2 x) hlo hhi hbd (hblk _ hg), hg⟩
end Go.Proofs.YtpjooboohelffaaGreatDoor.T05
/- Top: the screen in memory. -/
namespace Go.Proofs.YtpjooboohelffaaGreatDoor
open Go.RowKit Go.Shelf T05
set_option linter.unusedVariables false
set_option linter.unusedSimpArgs false
set_option maxRecDepth 100000
def IfaceV (v : Value) : Prop := v = .nilIface ∨ ∃ te pe, v = .iface te pe
/-- What the program's variables hold. -/
structure Glob (W : World) : Prop where
 blank : CellsAt W 0 1 (fun _ => blankC)
 mlen : ∃ m, W.cell? ⟨3, 0, none⟩ = some (.int .i64 m)
 es : ∃ v, W.cell? ⟨4, 0, none⟩ = some v ∧ IfaceV v
 er : ∃ v, W.cell? ⟨5, 0, none⟩ = some v ∧ IfaceV v
def GK (K : Nat → Prop) : Prop := K 0 ∧ K 3 ∧ K 4 ∧ K 5
theorem Glob.kept {K : Nat → Prop} {W W' : World} (h : Glob W) (hg : GK K) (hk : Kept K W W') : Glob W' := by
 obtain ⟨g0, g3, g4, g5⟩ := hg
 obtain ⟨m, hm⟩ := h.mlen
 obtain ⟨v, hv, hv'⟩ := h.es
 obtain ⟨u, hu, hu'⟩ := h.er
 exact ⟨h.blank.to (hk.block _ g0), ⟨m, hk.cell g3 hm⟩, ⟨v, hk.cell g4 hv, hv'⟩, ⟨u, hk.cell g5 hu, hu'⟩⟩
theorem Glob.later {W W' : World} (h : Glob W) (hb : Below W.heap.size W W') : Glob W' := by
 obtain ⟨m, hm⟩ := h.mlen
 obtain ⟨v, hv, hv'⟩ := h.es
 obtain ⟨u, hu, hu'⟩ := h.er
 exact ⟨h.blank.to (hb.block _ (blt (h.blank 0 (by decide)).1)), ⟨m, cellB hb hm⟩, ⟨v, cellB hb hv, hv'⟩, ⟨u, cellB hb hu, hu'⟩⟩
/-- Where a screen's parts lie. -/
structure Lay where
 sb : Nat
 g : Nat
 tb : Nat
 mb : Nat
 rb : Nat
 cp : Nat
 R : Nat
 C : Nat
def Lay.KS (L : Lay) (K : Nat → Prop) : Nat → Prop := fun k => K k ∨ k = L.sb ∨ k = L.g ∨ k = L.tb ∨ k = L.mb
/-- A screen behind a pointer. -/
structure Scr (K : Nat → Prop) (L : Lay) (W : World) (rs : Nat → Nat) (cell : Nat → Nat → Cl) (r c : Int) (S : Int → Bool) : Prop where
 gk : GK K
 gl : Glob W
 ks : ¬ K L.sb
 km : ¬ K L.mb
 sg : L.sb ≠ L.g
 st : L.sb ≠ L.tb
 sm : L.sb ≠ L.mb
 mg : L.mb ≠ L.g
 mt : L.mb ≠ L.tb
 s0 : W.cell? ⟨L.sb, 0, none⟩ = some (.int .i64 r)
 s1 : W.cell? ⟨L.sb, 1, none⟩ = some (.int .i64 c)
 s2 : W.cell? ⟨L.sb, 2, none⟩ = some (.bool false)
 s3 : W.cell? ⟨L.sb, 3, none⟩ = some (.pointer (some ⟨L.g, 0, none⟩))
 s4 : W.cell? ⟨L.sb, 4, none⟩ = some (.pointer (some ⟨L.tb, 0, none⟩))
 sB : BlkT W L.sb 5 82
 rc : inR L.R L.C r c
 gr : GridIs (L.KS K) W L.g L.rb L.cp L.R L.C rs cell
 ts : TS W L.tb L.mb L.C S
section
variable {K K' : Nat → Prop} {L : Lay} {w W W' : World} {rs : Nat → Nat} {cell : Nat → Nat → Cl} {r c : Int} {S : Int → Bool}
theorem Scr.mlt (h : Scr K L W rs cell r c S) : L.mb < W.heap.size := by obtain ⟨D, hT, _⟩ := h.ts.ob; exact World.ownsMap.lt hT.m
theorem Scr.kb (h : Scr K L W rs cell r c S) (hK : KB K W) : KB (L.KS K) W := by
 rintro k (hk | rfl | rfl | rfl | rfl)
 ·exact hK k hk
 ·exact blt h.s0
 ·exact h.gr.glt
 ·exact h.ts.lt
 ·exact h.mlt
theorem tsTo {W W' : World} {p b c : Nat} {S : Int → Bool} (h : TS W p b c S) (hp : W'.heap[p]? = W.heap[p]?) (hb : W'.heap[b]? = W.heap[b]?) : TS W' p b c S := by
 obtain ⟨D, hT, hS⟩ := h.ob
 exact ⟨h.lo, h.hi, h.bd, hp.trans h.blk, D, ⟨(World.cell?_of_block (a := ⟨p, 0, none⟩) hp).trans hT.c0, (World.cell?_of_block (a := ⟨p, 1, none⟩) hp).trans hT.c1, OwnS.kept hT.m hb⟩, hS⟩
theorem Scr.to (h : Scr K L W rs cell r c S) (hg : Glob W') (h1 : W'.heap[L.sb]? = W.heap[L.sb]?) (h2 : W'.heap[L.g]? = W.heap[L.g]?) (h3 : W'.heap[L.tb]? = W.heap[L.tb]?) (h4 : W'.heap[L.mb]? = W.heap[L.mb]?)
  (h5 : W'.heap[L.rb]? = W.heap[L.rb]?) (h6 : ∀ i, i < L.R → W'.heap[rs i]? = W.heap[rs i]?) : Scr K L W' rs cell r c S :=
 ⟨h.gk, hg, h.ks, h.km, h.sg, h.st, h.sm, h.mg, h.mt, (World.cell?_of_block (a := ⟨L.sb, 0, none⟩) h1).trans h.s0, (World.cell?_of_block (a := ⟨L.sb, 1, none⟩) h1).trans h.s1, (World.cell?_of_block (a := ⟨L.sb, 2, none⟩) h1).trans h.s2,
  (World.cell?_of_block (a := ⟨L.sb, 3, none⟩) h1).trans h.s3, (World.cell?_of_block (a := ⟨L.sb, 4, none⟩) h1).trans h.s4, h.sB.to h1, h.rc, h.gr.to h2 h5 h6, tsTo h.ts h3 h4⟩
theorem Scr.later (h : Scr K L W rs cell r c S) (hb : Below W.heap.size W W') : Scr K L W' rs cell r c S :=
 h.to (h.gl.later hb) (hb.block _ (blt h.s0)) (hb.block _ h.gr.glt) (hb.block _ h.ts.lt) (hb.block _ h.mlt) (hb.block _ h.gr.rowB.blk.lt) (fun i hi => hb.block _ (h.gr.celB i hi).blk.lt)
/-- .. under more kept blocks, the call's own. -/
theorem Scr.loc (h : Scr K L w rs cell r c S) (hb : Below w.heap.size w W) : Scr (Loc K w W) L W rs cell r c S := by
 have h' := h.later hb
 refine ⟨⟨.inl h.gk.1, .inl h.gk.2.1, .inl h.gk.2.2.1, .inl h.gk.2.2.2⟩, h'.gl, fun hk => ?_, fun hk => ?_, h.sg, h.st, h.sm, h.mg, h.mt, h'.s0, h'.s1, h'.s2, h'.s3, h'.s4, h'.sB, h.rc, h'.gr.under (.inr (.inr (.inl rfl))) (fun hk => ?_) (fun i hi hk => ?_), h'.ts⟩
 ·rcases hk with hk | hk
  ·exact h.ks hk
  ·have := blt h.s0; omega
 ·rcases hk with hk | hk
  ·exact h.km hk
  ·have := h.mlt; omega
 ·rcases hk with (hk | hk) | hk
  ·exact h.gr.kr (.inl hk)
  ·have := h.gr.rowB.blk.lt; omega
  ·exact h.gr.kr (.inr hk)
 ·rcases hk with (hk | hk) | hk
  ·exact h.gr.ks i hi (.inl hk)
  ·have := (h.gr.celB i hi).blk.lt; omega
  ·exact h.gr.ks i hi (.inr hk)
theorem Scr.less (h : Scr K' L W rs cell r c S) (hs : ∀ k, K k → K' k) (hg : GK K) : Scr K L W rs cell r c S :=
 ⟨hg, h.gl, fun hk => h.ks (hs _ hk), fun hk => h.km (hs _ hk), h.sg, h.st, h.sm, h.mg, h.mt, h.s0, h.s1, h.s2, h.s3, h.s4, h.sB, h.rc,
  h.gr.under (.inr (.inr (.inl rfl))) (fun hk => h.gr.kr (hk.imp_left (hs _))) (fun i hi hk => h.gr.ks i hi (hk.imp_left (hs _))), h.ts⟩
/-- Behind a step of the grid's. -/
theorem Scr.slid (h : Scr K L w rs cell r c S) (hK : KB K w) (hb : Below w.heap.size w W) {x : Cl} (hs : SlideP (Loc (L.KS K) w W) W W' L.g L.rb L.cp L.R L.C x cell) :
  (∃ rs' cell', Scr K L W' rs' cell' r c S ∧ Frm L.R L.C x cell cell') ∧ Kept K w W' := by
 obtain ⟨⟨rs', cell', hg, hf⟩, hk⟩ := hs
 have hkk : Kept (L.KS K) w W' := (Kept.ofBelow hb (h.kb hK)).trans (hk.less (fun k hk => .inl hk))
 have k1 := fun {k} (hk : L.KS K k) => hkk.block k hk
 have e1 : W'.heap[L.sb]? = w.heap[L.sb]? := k1 (.inr (.inl rfl))
 have e3 : W'.heap[L.tb]? = w.heap[L.tb]? := k1 (.inr (.inr (.inr (.inl rfl))))
 have e4 : W'.heap[L.mb]? = w.heap[L.mb]? := k1 (.inr (.inr (.inr (.inr rfl))))
 refine ⟨⟨rs', cell', ⟨h.gk, h.gl.kept h.gk (hkk.less (fun k hk => .inl hk)), h.ks, h.km, h.sg, h.st, h.sm, h.mg, h.mt, (World.cell?_of_block (a := ⟨L.sb, 0, none⟩) e1).trans h.s0, (World.cell?_of_block (a := ⟨L.sb, 1, none⟩) e1).trans h.s1,
  (World.cell?_of_block (a := ⟨L.sb, 2, none⟩) e1).trans h.s2, (World.cell?_of_block (a := ⟨L.sb, 3, none⟩) e1).trans h.s3, (World.cell?_of_block (a := ⟨L.sb, 4, none⟩) e1).trans h.s4, h.sB.to e1, h.rc,
  hg.under (.inr (.inr (.inl rfl))) (fun hk => hg.kr (.inl hk)) (fun i hi hk => hg.ks i hi (.inl hk)), tsTo h.ts e3 e4⟩, hf⟩, hkk.less (fun k hk => .inl hk)⟩
/-- The cursor at another place. -/
def plSet (W : World) (b : Nat) (r c : Int) : World := ((W.setCell ⟨b, 0, none⟩ (.int .i64 r)).setCell ⟨b, 1, none⟩ (.int .i64 c)).setCell ⟨b, 2, none⟩ (.bool false)
theorem plSet_heap {W : World} {b k : Nat} {r c : Int} (hk : k ≠ b) : (plSet W b r c).heap[k]? = W.heap[k]? := by
 unfold plSet
 rw [Below.heap_setCell _ _ _ _ (by simpa using hk), Below.heap_setCell _ _ _ _ (by simpa using hk), Below.heap_setCell _ _ _ _ (by simpa using hk)]
theorem plSet_kept {K : Nat → Prop} {W : World} {b : Nat} (hb : ¬ K b) (r c : Int) : Kept K W (plSet W b r c) := (((Kept.refl _ _).set hb _).set hb _).set hb _
theorem Scr.place (h : Scr K L W rs cell r c S) {r' c' : Int} (hr : inR L.R L.C r' c') : Scr K L (plSet W L.sb r' c') rs cell r' c' S ∧ Kept K W (plSet W L.sb r' c') := by
 have hk := plSet_kept h.ks r' c' (W := W)
 have hh : ∀ k, k ≠ L.sb → (plSet W L.sb r' c').heap[k]? = W.heap[k]? := fun k hk => plSet_heap hk
 have old : ∀ o, 3 ≤ o → (plSet W L.sb r' c').cell? ⟨L.sb, o, none⟩ = W.cell? ⟨L.sb, o, none⟩ := fun o ho => by
  unfold plSet
  rw [World.cell?_setCell_other _ _ _ _ (by simp <;> omega), World.cell?_setCell_other _ _ _ _ (by simp <;> omega), World.cell?_setCell_other _ _ _ _ (by simp <;> omega)]
 have n0 : (plSet W L.sb r' c').cell? ⟨L.sb, 0, none⟩ = some (.int .i64 r') := by
  unfold plSet
  rw [World.cell?_setCell_other _ _ _ _ (by simp), World.cell?_setCell_other _ _ _ _ (by simp)]
  exact World.cell?_setCell_same' _ _ _ (by rw [h.s0]; rfl)
 have n1 : (plSet W L.sb r' c').cell? ⟨L.sb, 1, none⟩ = some (.int .i64 c') := by
  unfold plSet
  rw [World.cell?_setCell_other _ _ _ _ (by simp)]
  exact World.cell?_setCell_same' _ _ _ (by rw [World.cell?_setCell_other _ _ _ _ (by simp), h.s1]; rfl)
 have n2 : (plSet W L.sb r' c').cell? ⟨L.sb, 2, none⟩ = some (.bool false) := by
  unfold plSet
  exact World.cell?_setCell_same' _ _ _ (by rw [World.cell?_setCell_other _ _ _ _ (by simp), World.cell?_setCell_other _ _ _ _ (by simp), h.s2]; rfl)
 exact ⟨⟨h.gk, h.gl.kept h.gk hk, h.ks, h.km, h.sg, h.st, h.sm, h.mg, h.mt, n0, n1, n2, (old 3 (by decide)).trans h.s3, (old 4 (by decide)).trans h.s4, ((h.sB.set _ _).set _ _).set _ _, hr,
  h.gr.to (hh _ (fun e => h.sg e.symm)) (hh _ (fun e => h.gr.kr (.inr (.inl e)))) (fun i hi => hh _ (fun e => h.gr.ks i hi (.inr (.inl e)))), tsTo h.ts (hh _ (fun e => h.st e.symm)) (hh _ (fun e => h.sm e.symm))⟩, hk⟩
/-- Other stops. -/
theorem Scr.tabs (h : Scr K L W rs cell r c S) (hK : KB K W) {S' : Int → Bool} (hg : W.grownBy W' (some L.mb)) (ht : TS W' L.tb L.mb L.C S') : Scr K L W' rs cell r c S' ∧ Kept K W W' := by
 have hk : Kept K W W' := (Kept.refl _ _).grown hg hK (fun k e hk => h.km (by cases e; exact hk))
 have hh : ∀ k, k < W.heap.size → k ≠ L.mb → W'.heap[k]? = W.heap[k]? := fun k h1 h2 => hg.block k h1 (fun e => h2 (by cases e; rfl))
 have e1 := hh L.sb (blt h.s0) h.sm
 exact ⟨⟨h.gk, h.gl.kept h.gk hk, h.ks, h.km, h.sg, h.st, h.sm, h.mg, h.mt, (World.cell?_of_block (a := ⟨L.sb, 0, none⟩) e1).trans h.s0, (World.cell?_of_block (a := ⟨L.sb, 1, none⟩) e1).trans h.s1,
  (World.cell?_of_block (a := ⟨L.sb, 2, none⟩) e1).trans h.s2, (World.cell?_of_block (a := ⟨L.sb, 3, none⟩) e1).trans h.s3, (World.cell?_of_block (a := ⟨L.sb, 4, none⟩) e1).trans h.s4, h.sB.to e1, h.rc,
  h.gr.to (hh _ h.gr.glt (fun e => h.mg e.symm)) (hh _ h.gr.rowB.blk.lt (fun e => h.gr.kr (.inr (.inr (.inr (.inr e)))))) (fun i hi => hh _ (h.gr.celB i hi).blk.lt (fun e => h.gr.ks i hi (.inr (.inr (.inr (.inr e)))))), ht⟩, hk⟩
end
/-- All cells are a Wyse 60's. -/
def AllW (R C : Nat) (cell : Nat → Nat → Cl) : Prop := ∀ i j, i < R → j < C → WCell (cell i j)
theorem AllW.frm {R C : Nat} {x : Cl} {cell cell' : Nat → Nat → Cl} (h : AllW R C cell) (hf : Frm R C x cell cell') (hx : WCell x) : AllW R C cell' := hf WCell hx h
/-- .. whatever it shows. -/
def ScrW (K : Nat → Prop) (L : Lay) (W : World) : Prop := ∃ rs cell r c S, Scr K L W rs cell r c S ∧ AllW L.R L.C cell
end Go.Proofs.YtpjooboohelffaaGreatDoor
/- Top: how the arguments are read; what the listed variables give; one start that fits. -/
namespace Go.Proofs.YtpjooboohelffaaGreatDoor
open Go.ChangeShapes Go.WideShapes Go.ChangeAt Go.RowKit Go.Joins
set_option linter.unusedVariables false
set_option maxRecDepth 100000
section
variable {H : Type} {enc : TypeId × Value → H} {P : Program} {w : World} {base : Nat} {spare : Nat → Bool} {held : Bool}
theorem i64_bd {n : Int} (h : (Lit.int .i64 n).wf = true) : -9223372036854775808 ≤ n ∧ n ≤ 9223372036854775807 := by
 simp [Lit.wf, IntKind.min, IntKind.max, IntKind.bits, IntKind.signed] at h
 omega
theorem cell_lit {t : TypeId} {k : IntKind} {fuel : Nat} {cs : List Value} {n : Int} {p : List MemPlace} (ht : P.underlying t = some (.int k)) (h : DataW.trod enc P w base spare held fuel t cs = some (.lit (.int k n), p)) : cs = [.int k n] := by
 obtain ⟨m, h1, h2, _⟩ := DataW.trod_int ht h
 cases h2
 exact h1
theorem cell_litb {t : TypeId} {fuel : Nat} {cs : List Value} {b : Bool} {p : List MemPlace} (ht : P.underlying t = some .bool) (h : DataW.trod enc P w base spare held fuel t cs = some (.lit (.bool b), p)) : cs = [.bool b] := by
 obtain ⟨m, h1, h2⟩ := DataW.trod_bool ht h
 cases h2
 exact h1
theorem cell_int {t : TypeId} {fuel : Nat} {c : Value} {x : DataW H × List MemPlace} (ht : P.underlying t = some (.int .i64)) (h : DataW.trod enc P w base spare held fuel t [c] = some x) :
  ∃ n : Int, c = .int .i64 n ∧ -9223372036854775808 ≤ n ∧ n ≤ 9223372036854775807 := by
 obtain ⟨n, h1, _, hw⟩ := DataW.trod_int ht h
 simp at h1
 exact ⟨n, h1, i64_bd hw⟩
theorem two_of {α : Type} {l : List α} (h : l.length = 2) : ∃ a b, l = [a, b] := by
 match l, h with
 | [a, b], _ => exact ⟨a, b, rfl⟩
theorem four_of {α : Type} {l : List α} (h : l.length = 4) : ∃ a b c d, l = [a, b, c, d] := by
 match l, h with
 | [a, b, c, d], _ => exact ⟨a, b, c, d, rfl⟩
theorem size_cells {fuel : Nat} {cs : List Value} {x : DataW H × List MemPlace} (h : DataW.trod enc Tryz.prog w base spare held fuel 23 cs = some x) :
  ∃ (a b : Int), cs = [.int .i64 a, .int .i64 b] := by
 obtain ⟨xs, m, _, rfl, hl, hlen, hf⟩ := DataW.trod_struct Tryz.underlying23 h
 obtain ⟨c0, c1, rfl⟩ := two_of (hl.trans (by kernel_rfl))
 have h0 := hf 0 _ rfl
 have h1 := hf 1 _ rfl
 have n3 : Tryz.prog.cellsOf 3 = 1 := by kernel_rfl
 simp at hlen
 rw [List.getElem?_eq_getElem (by omega)] at h0 h1
 simp [n3] at h0 h1
 obtain ⟨a, rfl, _⟩ := cell_int Tryz.underlying3 h0
 obtain ⟨b, rfl, _⟩ := cell_int Tryz.underlying3 h1
 exact ⟨a, b, rfl⟩
theorem read_size {r : Reach} {b0 : Nat} {v : Value} {d : DataW H} {p : List MemPlace} (hv : Value.okWide Tryz.prog w r b0 23 v) (h : DataW.Trod enc Tryz.prog w base spare held 23 v d p) :
  ∃ (a b : Int), v = pr a b := by
 obtain ⟨cs, rfl, hs⟩ := okWide_struct Tryz.underlying23 hv
 obtain ⟨fuel, hf⟩ := h
 obtain ⟨a, b, e1⟩ := size_cells hf
 refine ⟨a, b, ?_⟩
 simp [Value.cells] at e1
 obtain ⟨cl⟩ := cs
 simp at e1
 rw [e1]
theorem read_text {r : Reach} {b0 : Nat} {v : Value} {d : DataW H} {p : List MemPlace} (hv : Value.okWide Tryz.prog w r b0 9 v) : ∃ s : ByteArray, v = .string s :=
 okWide_string Tryz.underlying9 hv
end
theorem own : ownKnob Tryz.prog.godebug = none := by kernel_rfl
theorem laidOut : laidOutB Tryz.prog = true := by kernel_rfl
/-- What the rows list. -/
abbrev laid9 : List (String × DataW Unit) := Rows.topLooksRow.laid
def cellsOfD : DataW Unit → Array Value
 | .agg l => (l.map fun x => match x with | .lit (.int k n) => Value.int k n | _ => undef).toArray
 | _ => #[]
theorem gFirst : Tryz.prog.globalNamed "unicode/utf8.first" = some 8 := by kernel_rfl
theorem gErrR : Tryz.prog.globalNamed "strconv.ErrRange" = some 5 := by kernel_rfl
theorem gErrS : Tryz.prog.globalNamed "strconv.ErrSyntax" = some 4 := by kernel_rfl
theorem gBlank : Tryz.prog.globalNamed "vizard/screen.Blank" = some 0 := by kernel_rfl
/-- One start that fits: the heap that the program's own laying leaves, with the library's table. -/
noncomputable def wit0 (os : Os) : World :=
 { World.doorLaid Tryz.prog 88 os with heap := (World.doorLaid Tryz.prog 88 os).heap.setIfInBounds 8 (.cells (cellsOfD Rows.laid_unicode_utf8_first) 317) }
theorem door_met (os : Os) (args : Array Value) : laidMetH Tryz.prog laid9 ((wit0 os).forCall (fun _ _ => 0) ⟨#[], args, []⟩).memory :=
 laidMetH_of_parts3 (fuel := 8) (laidMet_of_run' 8 (by kernel_rfl) (by kernel_rfl)) (by kernel_rfl) (by kernel_rfl)
theorem laid_iface {P : Program} {n nm : String} {d : DataW Unit} {r : List (String × DataW Unit)} {W : World} {g : Nat} {ti : TypeId} {ms : Array (String × TypeId)}
  (h : laidMet P ((n, .iface nm d) :: r) W) (hg : P.globalNamed n = some g) (ht : (P.globals[g]?).map (·.type) = some ti) (hi : P.underlying ti = some (.interface ms)) : ∃ v, W.cell? ⟨g, 0, none⟩ = some v ∧ IfaceV v := by
 obtain ⟨ps, ⟨g0, t0, cs0, f0, p0, q0, hg0, ht0, hv0, hd0, _, e0⟩, _, hrows⟩ := h
 obtain rfl := Option.some.inj (hg.symm.trans hg0)
 obtain rfl := Option.some.inj (ht.symm.trans ht0)
 obtain ⟨fuel', u, v, hcs, _⟩ := iface_of_trod hi hd0
 have hc := World.var?_cell hg0 hv0 0
 refine ⟨.iface u v, ?_, .inr ⟨u, v, rfl⟩⟩
 rw [hc]
 obtain ⟨l0⟩ := cs0
 simp at hcs
 subst hcs
 rfl
theorem blank_of_laid {r : List (String × DataW Unit)} {W : World} (h : laidMet Tryz.prog (("vizard/screen.Blank", Rows.laid_vizard_screen_Blank) :: r) W) : CellsAt W 0 1 (fun _ => blankC) := by
 obtain ⟨ps, ⟨g0, t0, cs0, f0, p0, q0, hg0, ht0, hv0, hd0, _, e0⟩, _, hrows⟩ := h
 obtain rfl := Option.some.inj (gBlank.symm.trans hg0)
 obtain rfl : (48 : Nat) = t0 := Option.some.inj ((show (Tryz.prog.globals[0]?).map (·.type) = some 48 by kernel_rfl).symm.trans ht0)
 obtain ⟨xs, m, _, hx, hl, hlen, hf⟩ := DataW.trod_struct Tryz.underlying48 hd0
 have n21 : Tryz.prog.cellsOf 21 = 1 := by kernel_rfl
 have n3 : Tryz.prog.cellsOf 3 = 1 := by kernel_rfl
 have n4 : Tryz.prog.cellsOf 4 = 1 := by kernel_rfl
 unfold Rows.laid_vizard_screen_Blank at hx
 obtain ⟨l0⟩ := cs0
 obtain ⟨c0, c1, c2, c3, hl0⟩ := four_of (hl.trans (by kernel_rfl))
 obtain rfl : l0 = [c0, c1, c2, c3] := hl0
 obtain ⟨⟨d0, q0'⟩, ⟨d1, q1⟩, ⟨d2, q2⟩, ⟨d3, q3⟩, rfl⟩ := four_of hlen
 have h0 := hf 0 _ rfl
 have h1 := hf 1 _ rfl
 have h2 := hf 2 _ rfl
 have h3 := hf 3 _ rfl
 simp only [List.map_cons, List.map_nil, Prod.mk.injEq, DataW.agg.injEq, List.cons.injEq, and_true] at hx
 obtain ⟨⟨rfl, rfl, rfl, rfl⟩, -⟩ := hx
 simp [n21, n3, n4] at h0 h1 h2 h3
 have r0 := cell_lit Tryz.underlying21 h0
 have r1 := cell_lit Tryz.underlying3 h1
 have r2 := cell_litb Tryz.underlying4 h2
 have r3 := cell_lit Tryz.underlying3 h3
 simp only [List.cons.injEq, and_true] at r0 r1 r2 r3
 subst r0 r1 r2 r3
 intro j hj
 obtain rfl : j = 0 := by omega
 exact ⟨World.var?_cell gBlank hv0 0, World.var?_cell gBlank hv0 1, World.var?_cell gBlank hv0 2, World.var?_cell gBlank hv0 3⟩
theorem glob_of_laid {W : World} (hs : W.ShapedOpen Tryz.prog) (h : laidMetH Tryz.prog laid9 W) : Glob W := by
 rw [MakeChecks.laidMetH_plain _ _ _ (by kernel_rfl)] at h
 have h4 : laidMet Tryz.prog (("strconv.ErrRange", Rows.laid_strconv_ErrRange) :: laid9.tail.tail.tail.tail.tail) W := laidMet.tail (laidMet.tail (laidMet.tail (laidMet.tail h)))
 have h5 : laidMet Tryz.prog (("strconv.ErrSyntax", Rows.laid_strconv_ErrSyntax) :: laid9.tail.tail.tail.tail.tail.tail) W := laidMet.tail h4
 have h7 : laidMet Tryz.prog (("vizard/screen.Blank", Rows.laid_vizard_screen_Blank) :: laid9.tail.tail.tail.tail.tail.tail.tail.tail) W := laidMet.tail (laidMet.tail h5)
 exact ⟨blank_of_laid h7, cell_of_shapedOpen_int (zero := #[.int .i64 0]) (t := 3) hs (of_decide_eq_true (by kernel_rfl)) (by kernel_rfl) rfl (by kernel_rfl) (by kernel_rfl) Tryz.underlying3,
  laid_iface h5 gErrS (by kernel_rfl) Tryz.underlying95, laid_iface h4 gErrR (by kernel_rfl) Tryz.underlying95⟩
/-- The wrap with both: what the row lists, and the world's shape. -/
theorem returnsBoth {H : Type} {enc : TypeId × Value → H} {a : Assume} {C : Checked} {os : Os} {f : FuncId} {fn : Func} {s : ChangeSpec} {conds : List PathCond} {apart fresh handsOn again : Bool} {X : World → Array Value → Prop}
  (hX : ∀ (w w' : World) (args : Array Value), w.heap = w'.heap → X w args → X w' args)
  (own : ownKnob C.prog.godebug = none) (started : os.Started) (noInit : C.prog.inits.idxOf? f = none) (hfn : C.prog.funcs[f]? = some fn)
  (witness : ∃ (w : World) (tape : Tape) (i : Input), w.os = os ∧ (w.forCall tape i).Shaped C.prog ∧ i.vars = [] ∧ Input.okWide C.prog (w.forCall tape i) .any w.heap.size f i ∧
   ((s.pre enc C.prog fn conds apart (w.forCall tape i).memory i.args ∧ X (w.forCall tape i).memory i.args) ∧ sizedMet enc C.prog fn (OpenSpec.ofChange s) apart (w.forCall tape i).memory i.args) ∧ a.holds C.prog (lone (Frame.enter C.prog f i.args .normal) [] (w.forCall tape i)))
  (contract : ∀ (W : World) (base : Nat) (args : Array Value) (ds gs : List (DataW H)) (before : List MemPlace),
   (∀ (j : Nat) t v, fn.params[j]? = some t → args[j]? = some v → Value.okWide C.prog W .any base t v) →
   DataW.Whole enc C.prog fn.params.toList s.vars apart W args.toList ds gs before → W.ShapedOpen C.prog → X W args →
   Calls C.prog f args W fun e W' => ∃ v, e = .returned v ∧ s.post enc C.prog fn apart fresh handsOn again W args v W') :
  ReturnsInHanded a C os f .any (fun w args => (s.pre enc C.prog fn conds apart w args ∧ X w args) ∧ sizedMet enc C.prog fn (OpenSpec.ofChange s) apart w args) (s.post enc C.prog fn apart fresh handsOn again) := by
 refine returnsInHanded_of_calls own started noInit witness ?_
 intro w tape i _ hsh _ hok hpre hholds
 obtain ⟨_, _, _, fn', hfn', _, _, _, _, hval⟩ := hok
 have e : fn' = fn := Option.some.inj (hfn'.symm.trans hfn)
 subst e
 obtain ⟨⟨⟨ds, gs, before, hw, hc⟩, hx⟩, hz⟩ := hpre
 have hw' := DataW.Whole.of_heap (w' := w.forCall tape i) (by rfl) hw
 refine (contract (w.forCall tape i) w.heap.size i.args ds gs before hval hw' hsh (hX _ _ _ (by rfl) hx)).mono fun e W' ⟨v, he, hp⟩ => ?_
 subst he
 exact ChangeSpec.post_blind hp
end Go.Proofs.YtpjooboohelffaaGreatDoor
/- Top: a chain of compares of a byte with constants, reckoned by a function: the frame stays a letter. -/
namespace Go.Proofs.YtpjooboohelffaaGreatDoor
open Go.RowKit
set_option linter.unusedVariables false
set_option linter.unusedSimpArgs false
/-- A compare of slot s with a constant, kept in a slot. -/
theorem wp_cmp2 {id d1 d2 s : Nat} {k : Int} {ty1 ty2 : TypeId} {p1 p2 : String} {e1 e2 : Array Edge} {Q : Exit → Act → World → Prop} {a : Act} {w : World} {b : Int}
  (hs : a.tmps.getD s undef = .int .u8 b) (hd : d1 < a.tmps.size) (h : Q .normal ((a.put (some d1) (.bool (b == k))).put (some d2) (.bool (b == k))) w) :
  Code.wp Tryz.prog (.region id #[⟨some d1, .binOp .eql 5 (.tmp s) (.const (.int .u8 k)) 5, ty1, p1, e1, none⟩, ⟨some d2, .assign (.tmp d1), ty2, p2, e2, none⟩] false) Q a w := by
 refine wp_region_lit ?_
 refine wpList_plain rfl fun K hK => ?_
 have e0 : a.eval (.tmp s) = .int .u8 b := hs
 have g : Oper.wp Tryz.prog ⟨some d1, .binOp .eql 5 (.tmp s) (.const (.int .u8 k)) 5, ty1, p1, e1, none⟩ a w K Q = K (a.put (some d1) (.bool (b == k))) w := by
  have r : Sem.run Tryz.prog (execOp a.eval ⟨some d1, .binOp .eql 5 (.tmp s) (.const (.int .u8 k)) 5, ty1, p1, e1, none⟩) w = .ok (.value (.bool (b == k))) w := by
   unfold execOp
   simp only [e0]
   show Sem.run Tryz.prog (do
      let x ← (do
       eqGuard BinOp.eql 5 (Operand.tmp s) (Operand.const (Value.int IntKind.u8 k)) (.int .u8 b)
         (Value.int IntKind.u8 k)
       binOp BinOp.eql 5 (.int .u8 b) (Value.int IntKind.u8 k))
      pure (Next.value x)) w = _
   kernel_rfl
  unfold Oper.wp
  rw [r]; rfl
 rw [g]
 refine hK _ _ ?_
 refine wpList_plain rfl fun K2 hK2 => ?_
 have e1 : (a.put (some d1) (.bool (b == k))).eval (.tmp d1) = .bool (b == k) := by
  show (a.tmps.setIfInBounds d1 (.bool (b == k))).getD d1 undef = _
  simp [Array.getD, hd]
 have g2 : Oper.wp Tryz.prog ⟨some d2, .assign (.tmp d1), ty2, p2, e2, none⟩ (a.put (some d1) (.bool (b == k))) w K2 Q = K2 ((a.put (some d1) (.bool (b == k))).put (some d2) (.bool (b == k))) w := by
  have r : Sem.run Tryz.prog (execOp (a.put (some d1) (.bool (b == k))).eval ⟨some d2, .assign (.tmp d1), ty2, p2, e2, none⟩) w = .ok (.value (.bool (b == k))) w := by
   unfold execOp
   simp only [e1]
   rfl
  unfold Oper.wp
  rw [r]; rfl
 rw [g2]
 exact hK2 _ _ h
/-- A compare: of which slot, into which slots, with what. -/
def cmpOf : List Oper → Option (Nat × Nat × Nat × Int)
 | [⟨some d1, .binOp .eql 5 (.tmp s) (.const (.int .u8 k)) 5, _, _, _, none⟩, ⟨some d2, .assign (.tmp d1'), _, _, _, none⟩] => if d1' = d1 then some (s, d1, d2, k) else none
 | _ => none
theorem cmpOf_some {l : List Oper} {s d1 d2 : Nat} {k : Int} (h : cmpOf l = some (s, d1, d2, k)) : ∃ ty1 ty2 p1 p2 e1 e2,
  l = [⟨some d1, .binOp .eql 5 (.tmp s) (.const (.int .u8 k)) 5, ty1, p1, e1, none⟩, ⟨some d2, .assign (.tmp d1), ty2, p2, e2, none⟩] := by
 unfold cmpOf at h
 split at h
 ·split at h
  ·rename_i hd
   cases h; cases hd
   exact ⟨_, _, _, _, _, _, rfl⟩
  ·cases h
 ·cases h
/-- What a chain comes to: how it ends (none: behind it; some n: it goes to n), and what the slots hold. -/
def evc (s lo hi : Nat) (b : Int) : Code → (Nat → Option Bool) → Option (Option Nat × (Nat → Option Bool))
 | .skip, g => some (none, g)
 | .exit n, g => some (some n, g)
 | .region _ ops draw, g => match cmpOf ops.toList, draw with
  | some (s', d1, d2, k), false => if s' = s ∧ lo ≤ d1 ∧ d1 ≤ hi ∧ lo ≤ d2 ∧ d2 ≤ hi then some (none, fun j => if j = d2 ∨ j = d1 then some (b == k) else g j) else none
  | _, _ => none
 | .seq x y, g => match evc s lo hi b x g with
  | some (none, g') => evc s lo hi b y g'
  | r => r
 | .cond (.tmp t) x y, g => match g t with
  | some true => evc s lo hi b x g
  | some false => evc s lo hi b y g
  | none => none
 | _, _ => none
/-- The same but for the slots from lo to hi. -/
structure Sm (lo hi : Nat) (a a' : Act) : Prop where
 d : a'.defers = a.defers
 n : a'.tmps.size = a.tmps.size
 s : ∀ j, (j < lo ∨ hi < j) → a'.tmps.getD j undef = a.tmps.getD j undef
theorem Sm.refl (lo hi : Nat) (a : Act) : Sm lo hi a a := ⟨rfl, rfl, fun _ _ => rfl⟩
theorem Sm.trans {lo hi : Nat} {a b c : Act} (h : Sm lo hi a b) (k : Sm lo hi b c) : Sm lo hi a c := ⟨k.d.trans h.d, k.n.trans h.n, fun j hj => (k.s j hj).trans (h.s j hj)⟩
theorem put_getD (a : Act) (d j : Nat) (v : Value) : (a.put (some d) v).tmps.getD j undef = if j = d ∧ d < a.tmps.size then v else a.tmps.getD j undef := by
 show (a.tmps.setIfInBounds d v).getD j undef = _
 rw [Array.getD_eq_getD_getElem?, Array.getD_eq_getD_getElem?, Array.getElem?_setIfInBounds]
 by_cases hj : d = j
 ·subst hj
  by_cases hd : d < a.tmps.size <;> simp [hd]
 ·rw [if_neg hj, if_neg (fun h => hj h.1.symm)]
theorem put_size (a : Act) (d : Nat) (v : Value) : (a.put (some d) v).tmps.size = a.tmps.size := by
 show (a.tmps.setIfInBounds d v).size = _
 simp
theorem evc_sound {s lo hi : Nat} {b : Int} (hl : s < lo ∨ hi < s) {w : World} : ∀ (c : Code) (g : Nat → Option Bool) (a : Act) (Q : Exit → Act → World → Prop) (x : Option Nat) (g' : Nat → Option Bool),
  evc s lo hi b c g = some (x, g') → a.tmps.getD s undef = .int .u8 b → hi < a.tmps.size → (∀ j v, g j = some v → a.tmps.getD j undef = .bool v) →
  (∀ a', Sm lo hi a a' → (∀ j v, g' j = some v → a'.tmps.getD j undef = .bool v) → Q (match x with | none => .normal | some n => .exit n) a' w) → Code.wp Tryz.prog c Q a w := by
 intro c
 induction c with
 | skip => intro g a Q x g' he hs hn hg hq; cases he; exact wp_skip (hq a (Sm.refl _ _ _) hg)
 | exit n => intro g a Q x g' he hs hn hg hq; cases he; exact wp_exit (hq a (Sm.refl _ _ _) hg)
 | region id ops draw =>
  intro g a Q x g' he hs hn hg hq
  unfold evc at he
  split at he
  ·rename_i s' d1 d2 k hc
   split at he
   ·rename_i hb
    obtain ⟨rfl, h1, h2, h3, h4⟩ := hb
    obtain ⟨ty1, ty2, p1, p2, e1, e2, hl'⟩ := cmpOf_some hc
    cases he
    obtain rfl : ops = #[_, _] := by cases ops; simpa using hl'
    refine wp_cmp2 hs (by omega) (hq _ ⟨rfl, by rw [put_size, put_size], fun j hj => ?_⟩ fun j v hv => ?_)
    ·rw [put_getD, if_neg (by omega), put_getD, if_neg (by omega)]
    ·rw [put_getD, put_getD]
     dsimp only at hv
     by_cases hj : j = d2 ∨ j = d1
     ·rw [if_pos hj] at hv
      cases hv
      split
      ·rfl
      ·rw [if_pos (by rename_i hh; simp only [put_size] at hh; omega)]
     ·rw [if_neg hj] at hv
      rw [if_neg (by omega), if_neg (by omega)]
      exact hg j v hv
   ·cases he
  ·cases he
 | seq p q ihp ihq =>
  intro g a Q x g' he hs hn hg hq
  unfold evc at he
  split at he
  ·rename_i g1 h1
   refine wp_seq (ihp g a _ none g1 h1 hs hn hg fun a1 m1 hg1 => ?_)
   refine ihq g1 a1 Q x g' he ((m1.s s hl).trans hs) (by rw [m1.n]; exact hn) hg1 fun a' m' hg' => hq a' (m1.trans m') hg'
  ·rename_i h1
   refine wp_seq (ihp g a _ x g' he hs hn hg fun a1 m1 hg1 => ?_)
   cases x with
   | none => exact absurd he (by intro hh; exact h1 _ hh)
   | some n => exact hq a1 m1 hg1
 | cond t p q ihp ihq =>
  intro g a Q x g' he hs hn hg hq
  cases t with
  | tmp t =>
   unfold evc at he
   split at he
   ·rename_i ht
    exact wp_cond_true (hg t true ht) (ihp g a Q x g' he hs hn hg hq)
   ·rename_i ht
    exact wp_cond_false (hg t false ht) (ihq g a Q x g' he hs hn hg hq)
   ·cases he
  | _ => unfold evc at he; cases he
 | _ => intro g a Q x g' he; unfold evc at he; cases he
end Go.Proofs.YtpjooboohelffaaGreatDoor
/- Top: wyse: one: its code, cut. By gone.py. -/
namespace Go.Proofs.YtpjooboohelffaaGreatDoor
open Go.RowKit
set_option linter.unusedVariables false
set_option linter.unusedSimpArgs false
set_option maxRecDepth 100000
/-- The code behind block n; the code within it. -/
def caseOf (n : Nat) : Code → Option Code
 | .seq (.block m c) d => if m = n then some d else caseOf n c
 | .seq a b => match caseOf n a with
  | some c => some c
  | none => caseOf n b
 | .block _ c => caseOf n c
 | _ => none
def inner (n : Nat) : Code → Option Code
 | .block m c => if m = n then some c else inner n c
 | .seq a b => match inner n a with
  | some c => some c
  | none => inner n b
 | _ => none
noncomputable def cs90 (n : Nat) : Code := (Tryz.f90.body.bind (caseOf n)).getD .skip
noncomputable def ch90 : Code := (Tryz.f90.body.bind (inner 1)).getD .skip
/-- A frame. -/
def fr176 (g : Nat → Value) : Act := ⟨(g 0 :: g 1 :: g 2 :: g 3 :: g 4 :: g 5 :: g 6 :: g 7 :: g 8 :: g 9 :: g 10 :: g 11 :: g 12 :: g 13 :: g 14 :: g 15 :: g 16 :: g 17 :: g 18 :: g 19 :: g 20 :: g 21 :: g 22 :: g 23 :: g 24 :: g 25 :: g 26 :: g 27 :: g 28 :: g 29 :: g 30 :: g 31 :: g 32 :: g 33 :: g 34 :: g 35 :: g 36 :: g 37 :: g 38 :: g 39 :: g 40 :: g 41 :: g 42 :: g 43 :: g 44 :: g 45 :: g 46 :: g 47 :: g 48 :: g 49 :: g 50 :: g 51 :: g 52 :: g 53 :: g 54 :: g 55 :: g 56 :: g 57 :: g 58 :: g 59 :: g 60 :: g 61 :: g 62 :: g 63 :: g 64 :: g 65 :: g 66 :: g 67 :: g 68 :: g 69 :: g 70 :: g 71 :: g 72 :: g 73 :: g 74 :: g 75 :: g 76 :: g 77 :: g 78 :: g 79 :: g 80 :: g 81 :: g 82 :: g 83 :: g 84 :: g 85 :: g 86 :: g 87 :: g 88 :: g 89 :: g 90 :: g 91 :: g 92 :: g 93 :: g 94 :: g 95 :: g 96 :: g 97 :: g 98 :: g 99 :: g 100 :: g 101 :: g 102 :: g 103 :: g 104 :: g 105 :: g 106 :: g 107 :: g 108 :: g 109 :: g 110 :: g 111 :: g 112 :: g 113 :: g 114 :: g 115 :: g 116 :: g 117 :: g 118 :: g 119 :: g 120 :: g 121 :: g 122 :: g 123 :: g 124 :: g 125 :: g 126 :: g 127 :: g 128 :: g 129 :: g 130 :: g 131 :: g 132 :: g 133 :: g 134 :: g 135 :: g 136 :: g 137 :: g 138 :: g 139 :: g 140 :: g 141 :: g 142 :: g 143 :: g 144 :: g 145 :: g 146 :: g 147 :: g 148 :: g 149 :: g 150 :: g 151 :: g 152 :: g 153 :: g 154 :: g 155 :: g 156 :: g 157 :: g 158 :: g 159 :: g 160 :: g 161 :: g 162 :: g 163 :: g 164 :: g 165 :: g 166 :: g 167 :: g 168 :: g 169 :: g 170 :: g 171 :: g 172 :: g 173 :: g 174 :: g 175 :: []).toArray, []⟩
theorem range_get (l : List Value) : (List.range l.length).map (fun j => (l.toArray).getD j undef) = l := by
 apply List.ext_getElem
 ·simp
 ·intro i h1 h2
  rw [List.getElem_map, List.getElem_range, Array.getD_eq_getD_getElem?]
  simp [List.getElem?_eq_getElem h2]
theorem range176 (g : Nat → Value) : (List.range 176).map g = g 0 :: g 1 :: g 2 :: g 3 :: g 4 :: g 5 :: g 6 :: g 7 :: g 8 :: g 9 :: g 10 :: g 11 :: g 12 :: g 13 :: g 14 :: g 15 :: g 16 :: g 17 :: g 18 :: g 19 :: g 20 :: g 21 :: g 22 :: g 23 :: g 24 :: g 25 :: g 26 :: g 27 :: g 28 :: g 29 :: g 30 :: g 31 :: g 32 :: g 33 :: g 34 :: g 35 :: g 36 :: g 37 :: g 38 :: g 39 :: g 40 :: g 41 :: g 42 :: g 43 :: g 44 :: g 45 :: g 46 :: g 47 :: g 48 :: g 49 :: g 50 :: g 51 :: g 52 :: g 53 :: g 54 :: g 55 :: g 56 :: g 57 :: g 58 :: g 59 :: g 60 :: g 61 :: g 62 :: g 63 :: g 64 :: g 65 :: g 66 :: g 67 :: g 68 :: g 69 :: g 70 :: g 71 :: g 72 :: g 73 :: g 74 :: g 75 :: g 76 :: g 77 :: g 78 :: g 79 :: g 80 :: g 81 :: g 82 :: g 83 :: g 84 :: g 85 :: g 86 :: g 87 :: g 88 :: g 89 :: g 90 :: g 91 :: g 92 :: g 93 :: g 94 :: g 95 :: g 96 :: g 97 :: g 98 :: g 99 :: g 100 :: g 101 :: g 102 :: g 103 :: g 104 :: g 105 :: g 106 :: g 107 :: g 108 :: g 109 :: g 110 :: g 111 :: g 112 :: g 113 :: g 114 :: g 115 :: g 116 :: g 117 :: g 118 :: g 119 :: g 120 :: g 121 :: g 122 :: g 123 :: g 124 :: g 125 :: g 126 :: g 127 :: g 128 :: g 129 :: g 130 :: g 131 :: g 132 :: g 133 :: g 134 :: g 135 :: g 136 :: g 137 :: g 138 :: g 139 :: g 140 :: g 141 :: g 142 :: g 143 :: g 144 :: g 145 :: g 146 :: g 147 :: g 148 :: g 149 :: g 150 :: g 151 :: g 152 :: g 153 :: g 154 :: g 155 :: g 156 :: g 157 :: g 158 :: g 159 :: g 160 :: g 161 :: g 162 :: g 163 :: g 164 :: g 165 :: g 166 :: g 167 :: g 168 :: g 169 :: g 170 :: g 171 :: g 172 :: g 173 :: g 174 :: g 175 :: [] := rfl
theorem frame176 (a : Act) (hn : a.tmps.size = 176) (hd : a.defers = []) : a = fr176 (fun j => a.tmps.getD j undef) := by
 obtain ⟨⟨l⟩, d⟩ := a
 simp only at hd
 subst hd
 have h := range_get l
 rw [show l.length = 176 from hn, range176] at h
 unfold fr176
 exact congrArg (fun l => (⟨⟨l⟩, []⟩ : Act)) h.symm
/-- Which case a byte is. -/
def tab90 (b : Nat) : Nat := match b with
 | 42 => 1 | 43 => 2 | 59 => 2 | 58 => 2 | 84 => 3 | 116 => 3 | 89 => 4 | 121 => 4 | 69 => 5 | 82 => 5 | 81 => 6 | 87 => 7 | 49 => 8 | 50 => 8 | 48 => 9 | 105 => 10 | 73 => 11 | 106 => 12 | 63 => 13 | 32 => 14 | 52 => 15 | 53 => 16 | _ => 0
theorem tab90_le (b : Nat) : tab90 b ≤ 16 := by unfold tab90; split <;> decide
theorem tab90_all : ((List.range 256).all fun b => match evc 22 23 60 (b : Int) ch90 (fun _ => none) with
 | some (some n, _) => n == tab90 b
 | _ => false) = true := by kernel_rfl
theorem tab90_ev (b : Nat) (hb : b < 256) : ∃ g, evc 22 23 60 (b : Int) ch90 (fun _ => none) = some (some (tab90 b), g) := by
 have h := List.all_eq_true.1 tab90_all b (by simpa using hb)
 revert h
 generalize evc 22 23 60 (b : Int) ch90 (fun _ => none) = x
 intro h
 match x, h with
 | some (some n, g), h => exact ⟨g, by rw [show n = tab90 b from by simpa using h]⟩
/-- How a case ends; N: where it goes on. -/
def OneR (G : World → Prop) (N : Act → World → Prop) : Exit → Act → World → Prop
 | .exit n, a, w => n = 0 ∧ a.tmps.size = 176 ∧ a.defers = [] ∧ G w
 | .ret, a, w => a.defers = [] ∧ a.tmps.getD 4 undef = .bool true ∧ G w
 | .normal, a, w => N a w
 | _, _, _ => False
def NoN : Act → World → Prop := fun _ _ => False
end Go.Proofs.YtpjooboohelffaaGreatDoor
