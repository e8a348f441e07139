/- TopLooks and TopSends, helper 24 of 27. It holds: wyse: part, waits; wyse: one, whole; wyse: bits; wyse: end; wyse: end, at 'a', and whole; a Wyse 60: rest (deferred); wyse: ground. By gvg.py. Each theorem states its own conditions. -/
import Derived.Test.YtpjooboohelffaaGreatDoorM22
import Derived.Test.YtpjooboohelffaaGreatDoorM02
import Derived.Shelf.Strings.SlTrimAscii
import Derived.Test.YtpjooboohelffaaGreatDoorM11
import Derived.Test.YtpjooboohelffaaGreatDoorM17
import Derived.Deep.LoopGhost
import Derived.Defers
import Derived.Test.YtpjooboohelffaaGreatDoorM20
import Derived.Test.YtpjooboohelffaaGreatDoorM16
/- Top: wyse: part, waits. -/
namespace Go.Proofs.YtpjooboohelffaaGreatDoor
open Go.RowKit Go.Shelf T05
set_option linter.unusedVariables false
set_option linter.unusedSimpArgs false
set_option maxRecDepth 100000
def digitsB : ByteArray := ⟨#[48, 49, 50, 51, 52, 53, 54, 55, 56, 57]⟩
/-- A call gives some bool. -/
def RBool (e : Ending) : Prop := ∃ t, e = .returned (.bool t)
theorem RBool.mk (b : Bool) : RBool (.returned (.bool b)) := ⟨b, rfl⟩
theorem trim_any (s : ByteArray) (w : World) (hs : s.size ≤ 100000) : Calls Tryz.prog 115 #[.string s, .string ⟨#[48, 49, 50, 51, 52, 53, 54, 55, 56, 57]⟩] w fun e w' => (∃ t, e = .returned (.string t)) ∧ Below w.heap.size w w' :=
 (Any.strings_Trim_laid Tryz.lays160 (by kernel_rfl) s ⟨#[48, 49, 50, 51, 52, 53, 54, 55, 56, 57]⟩ w (by omega) (by decide) (by
  intro j b hj
  have : b ∈ ([48, 49, 50, 51, 52, 53, 54, 55, 56, 57] : List UInt8) := List.mem_of_getElem? hj
  exact (by decide : ∀ b ∈ ([48, 49, 50, 51, 52, 53, 54, 55, 56, 57] : List UInt8), b.toNat < 128) b this)).mono fun e w' ⟨h1, h2⟩ => ⟨⟨_, h1⟩, h2⟩
theorem suffix_any (s : ByteArray) (p : ByteArray) (w : World) (hs : s.size ≤ 100000) : Calls Tryz.prog 82 #[.string s, .string p] w fun e w' => (∃ t, e = .returned (.bool t)) ∧ w' = w :=
 (Tryz.strings_HasSuffix s p w (by omega)).mono fun e w' ⟨h1, h2⟩ => ⟨⟨_, h1⟩, h2⟩
set_option maxHeartbeats 2000000 in
theorem part_b (s : ByteArray) (b : Bool) (w : World) (hs : s.size ≤ 100000) : Calls Tryz.prog 84 #[.string s, .bool b] w fun e w' => RBool e ∧ Below w.heap.size w w' := by
 have HT := Lib.hid (trim_any s w hs)
 go_enter Tryz.func84, Tryz.ntmps84
 cases b <;> go_wp2_with fail
 all_goals first | (refine HT.out.mono ?_; rintro e w1 ⟨⟨t, rfl⟩, b1⟩; go_wp2_with fail; go_ret; exact ⟨RBool.mk _, b1⟩) | (go_ret; exact ⟨RBool.mk _, Below.refl _ _⟩)
theorem sub_size (s : ByteArray) (h : 2 ≤ s.size) : (s.extract 2 s.size).size = s.size - 2 := by simp
/-- What waits tells. -/
structure WaitsP (s : ByteArray) (h1 : 1 < s.size) (z : Bool) : Prop where
 eq : (s[1]'h1).toNat = 61 → z = false → 4 ≤ s.size
 g : (s[1]'h1).toNat = 71 → z = false → 3 ≤ s.size
 five : (s[1]'h1).toNat = 53 → z = false
def RWaits (s : ByteArray) (h1 : 1 < s.size) (e : Ending) : Prop := ∃ z, e = .returned (.bool z) ∧ WaitsP s h1 z
theorem cut_len (l p : List UInt8) : (Lib.cut l p).1.length ≤ l.length ∧ (Lib.cut l p).2.1.length ≤ l.length := by
 unfold Lib.cut
 split
 ·simp only [List.length_take, List.length_drop]; omega
 ·simp
set_option maxHeartbeats 8000000 in
theorem waits_any (s : ByteArray) (h1 : 1 < s.size) (w : World) (hs : s.size ≤ 100000) (hg : Glob w) : Calls Tryz.prog 51 #[.string s] w fun e w' => RWaits s h1 e ∧ Below w.heap.size w w' := by
 obtain ⟨m, hm⟩ := hg.mlen
 have HU := Lib.hid (suffix_any (s.extract 2 s.size) ⟨#[13]⟩ w (by simp; omega))
 have ht := sub_size s (by omega)
 have HC : Hid (Calls Tryz.prog 83 #[.string (s.extract 2 s.size), .string ⟨#[82]⟩] w fun e w' => (∃ a b z, e = .returned (.tuple #[.string a, .string b, .bool z]) ∧ a.size ≤ 100000 ∧ b.size ≤ 100000) ∧ Below w.heap.size w w') := Lib.hid ((Tryz.strings_Cut (s.extract 2 s.size) ⟨#[82]⟩ m w (by omega) hm).mono (by
  rintro e w' ⟨rfl, n, rfl⟩
  have hl := cut_len (s.extract 2 s.size).data.toList ((⟨#[82]⟩ : ByteArray).data.toList)
  rw [← Lib.size_eq, ht] at hl
  refine ⟨⟨_, _, _, rfl, ?_, ?_⟩, ((Kept.refl (fun k => k < w.heap.size) w).drewN n).below⟩ <;> rw [Lib.size_mk] <;> omega))
 have HP := Lib.hid (fun a b W (hl : a.size ≤ 100000) => part_b a b W hl)
 have HV := Lib.hid (fun W => suffix_any (s.extract 2 s.size) ⟨#[67]⟩ W (by simp; omega))
 clear hg hm
 by_cases c1 : (s[1]'h1).toNat = 61
 ·have P := Lib.hid (fun z (hz : (decide (((s.size - 2 : Nat) : Int) < 2)) = z) => (show WaitsP s h1 z from ⟨fun _ e => by subst e; simp at hz; omega, fun e => by omega, fun e => by omega⟩))
  go_enter Tryz.func51, Tryz.ntmps51
  go_wp2_with fail
  go_ret
  exact ⟨⟨_, rfl, P.out _ rfl⟩, Below.refl _ _⟩
 by_cases c2 : (s[1]'h1).toNat = 71
 ·by_cases hz : (s.extract 2 s.size).toList = []
  ·have P := Lib.hid (show WaitsP s h1 true from ⟨fun _ e => by (cases e), fun _ e => by (cases e), fun e => by omega⟩)
   go_enter Tryz.func51, Tryz.ntmps51
   go_wp2_with fail
   go_ret
   exact ⟨⟨_, rfl, P.out⟩, Below.refl _ _⟩
  ·have P := Lib.hid (show WaitsP s h1 false from ⟨fun e _ => by omega, fun _ _ => by
    refine Classical.byContradiction fun hh => hz ?_
    have h0 : (s.extract 2 s.size).size = 0 := by omega
    rw [Lib.toList_data, ← List.length_eq_zero_iff, ← Lib.size_eq]; exact h0, fun e => by omega⟩)
   have hz2 : Hid ((s.extract 2 s.size).toList.isEmpty = false) := Lib.hid (by simpa using hz)
   go_enter Tryz.func51, Tryz.ntmps51
   go_wp2_with fail
   go_ret
   exact ⟨⟨_, rfl, by first | exact P.out | (rw [hz2.out]; exact P.out)⟩, Below.refl _ _⟩
 by_cases c3 : (s[1]'h1).toNat = 53
 ·have P := Lib.hid (show WaitsP s h1 false from ⟨fun e _ => by omega, fun e _ => by omega, fun _ => rfl⟩)
  go_enter Tryz.func51, Tryz.ntmps51
  go_wp2_with fail
  go_ret
  exact ⟨⟨_, rfl, P.out⟩, Below.refl _ _⟩
 have P := Lib.hid (fun z => (show WaitsP s h1 z from ⟨fun e _ => by omega, fun e _ => by omega, fun e => by omega⟩))
 by_cases c4 : (s[1]'h1).toNat = 72
 ·go_enter Tryz.func51, Tryz.ntmps51
  go_wp2_with fail
  go_ret
  exact ⟨⟨_, rfl, P.out _⟩, Below.refl _ _⟩
 by_cases c5 : (s[1]'h1).toNat = 70
 ·go_enter Tryz.func51, Tryz.ntmps51
  go_wp2_with fail
  refine HU.out.mono ?_
  rintro e w1 ⟨⟨z, rfl⟩, rfl⟩
  go_wp2_with fail
  go_ret
  exact ⟨⟨_, rfl, P.out _⟩, Below.refl _ _⟩
 by_cases c6 : (s[1]'h1).toNat = 97
 ·go_enter Tryz.func51, Tryz.ntmps51
  go_wp2_with fail
  refine HC.out.mono ?_
  rintro e w1 ⟨⟨a, b, z, rfl, ha, hb⟩, b1⟩
  have HA := Lib.hid (fun W y => HP.out a y W ha)
  have HB := Lib.hid (fun W y => HP.out b y W hb)
  have B1 := Lib.hid b1
  clear ha hb b1
  go_wp2_with fail
  refine (HA.out _ _).mono ?_
  rintro e w2 ⟨⟨y, rfl⟩, b2⟩
  have B2 := Lib.hid (bel_call B1.out b2)
  clear b2
  cases y with
  | false =>
   go_wp2_with fail
   go_ret
   exact ⟨⟨_, rfl, P.out _⟩, B2.out⟩
  | true =>
   cases z with
   | false =>
    go_wp2_with fail
    refine (HV.out _).mono ?_
    rintro e w3 ⟨⟨z, rfl⟩, rfl⟩
    go_wp2_with fail
    go_ret
    exact ⟨⟨_, rfl, P.out _⟩, B2.out⟩
   | true =>
    go_wp2_with fail
    refine (HB.out _ _).mono ?_
    rintro e w3 ⟨⟨y, rfl⟩, b3⟩
    have B3 := Lib.hid (bel_call B2.out b3)
    clear b3
    cases y with
    | false =>
     go_wp2_with fail
     go_ret
     exact ⟨⟨_, rfl, P.out _⟩, B3.out⟩
    | true =>
     go_wp2_with fail
     refine (HV.out _).mono ?_
     rintro e w4 ⟨⟨z, rfl⟩, rfl⟩
     go_wp2_with fail
     go_ret
     exact ⟨⟨_, rfl, P.out _⟩, B3.out⟩
 go_enter Tryz.func51, Tryz.ntmps51
 go_wp2_with fail
 go_ret
 exact ⟨⟨_, rfl, P.out _⟩, Below.refl _ _⟩
end Go.Proofs.YtpjooboohelffaaGreatDoor
/- Top: wyse: one, whole. -/
namespace Go.Proofs.YtpjooboohelffaaGreatDoor
open Go.RowKit Go.Shelf T05
set_option linter.unusedVariables false
set_option linter.unusedSimpArgs false
set_option maxRecDepth 100000
section
variable {K : Nat → Prop} {L : Lay} {tm qb lb : Nat} {t : Tm} {f : Nat} {Q : List Int} {ov : Bool} {rs : Nat → Nat} {cell : Nat → Nat → Cl} {r c : Int} {S : Int → Bool}
theorem oneR_mono {G G' : World → Prop} {N N' : Act → World → Prop} (hG : ∀ w, G w → G' w) (hN : ∀ a w, N a w → N' a w) : ∀ e a w, OneR G N e a w → OneR G' N' e a w
 | .exit n, a, w, h => ⟨h.1, h.2.1, h.2.2.1, hG _ h.2.2.2⟩
 | .ret, a, w, h => ⟨h.1, h.2.1, hG _ h.2.2⟩
 | .normal, a, w, h => hN _ _ h
 | .goto _, _, _, h => h
 | .panic _, _, _, h => h
 | .outgrown, _, _, h => h
theorem OneP.later {w w1 w' : World} (h : OneP K L tm qb lb t f w1 w') (hb : Below w.heap.size w w1) (hK : KB K w) : OneP K L tm qb lb t f w w' := ⟨h.1, (Kept.ofBelow hb hK).trans h.2⟩
/-- one, whatever the byte. -/
theorem y_one (w : World) (hK : KB K w) (hA : WyA K L tm qb lb w t f Q ov) (hR : L.R ≤ 6) (hC : L.C ≤ 12) (b : Nat) (hb : b < 256) :
  Calls Tryz.prog 90 #[.pointer (some ⟨tm, 0, none⟩), .int .u8 b] w fun e w' => RBool e ∧ OneP K L tm qb lb t f w w' := by
 obtain ⟨rs, cell, r, c, S, h, ha⟩ := hA
 obtain ⟨i, j, rfl, rfl, hi, hj⟩ := inR_nat h.scr.rc
 refine one_join w L.sb tm i j t.pt (s_cursor w h.scr) h.ti.t0 h.ti.t3 b hb _ (fun _ w1 hb1 => OneP.mk ⟨rs, cell, i, j, S, h.later hb1, ha⟩ (Kept.ofBelow hb1 hK)) ?_
 intro n hn hn0 w1 g pb hb1 hpb hp0 hp1 g0 g1 g5 g7
 have hi2 : i < 256 := by omega
 have hj2 : j < 256 := by omega
 have h1 := h.loc hb1
 have hK1 : KB (Loc K w w1) w1 := by
  rintro k (hk | hk)
  ·exact hK.more hb1.size k hk
  ·exact hk.2
 have hpk : Loc K w w1 pb := .inr ⟨hpb, blt hp0⟩
 have hA1 : WyA (Loc K w w1) L tm qb lb w1 t f Q ov := ⟨rs, cell, i, j, S, h1, ha⟩
 have back : ∀ w', OneP (Loc K w w1) L tm qb lb t f w1 w' → OneP K L tm qb lb t f w w' := by
  rintro w' ⟨⟨t', Q', ov', ⟨rs', cell', r', c', S', h2, ha2⟩, hr⟩, hk⟩
  obtain ⟨h3, h4⟩ := h2.back hk hK hb1 h.gk
  exact ⟨⟨t', Q', ov', ⟨rs', cell', r', c', S', h3, ha2⟩, hr⟩, h4⟩
 have key : ∀ m, Code.wp Tryz.prog (cs90 m) (OneR (OneP (Loc K w w1) L tm qb lb t f w1) NoN) (fr176 g) w1 → Code.wp Tryz.prog (cs90 m) (OneR (OneP K L tm qb lb t f w) (fun a w2 => m = 1 ∧ Code.wp Tryz.prog (cs90 2) (OneR (OneP K L tm qb lb t f w) NoN) a w2)) (fr176 g) w1 := fun m hm =>
  wp_mono hm (oneR_mono back (fun a w h => h.elim))
 have hb' : tab90 b = n := hn
 have hle := tab90_le b
 rcases (by omega : n = 1 ∨ n = 2 ∨ n = 3 ∨ n = 4 ∨ n = 5 ∨ n = 6 ∨ n = 7 ∨ n = 8 ∨ n = 9 ∨ n = 10 ∨ n = 11 ∨ n = 12 ∨ n = 13 ∨ n = 14 ∨ n = 15 ∨ n = 16) with rfl | rfl | rfl | rfl | rfl | rfl | rfl | rfl | rfl | rfl | rfl | rfl | rfl | rfl | rfl | rfl
 ·refine wp_mono (one_c1 w1 hK1 h1 ha g g0 (OneP K L tm qb lb t f w)) (oneR_mono (fun _ h => h) ?_)
  rintro a w2 ⟨e1, e2, e3, hA2, hk2⟩
  refine ⟨rfl, ?_⟩
  rw [frame176 a e1 e2]
  refine wp_mono (one_c2 w2 (hK1.later hk2) hA2 _ e3) (oneR_mono (fun w' h2 => back w' ?_) (fun _ _ h => h))
  obtain ⟨⟨t', Q', ov', h3, h4⟩, h5⟩ := h2
  exact ⟨⟨t', Q', ov', h3, h4⟩, hk2.trans h5⟩
 ·exact key 2 (one_c2 w1 hK1 hA1 g g0)
 ·exact key 3 (one_c3 w1 hK1 h1 ha g g0 g7)
 ·exact key 4 (one_c4 w1 hK1 h1 ha g g0 g7)
 ·rcases (show b = 69 ∨ b = 82 by revert hn; unfold tab90; split <;> simp) with rfl | rfl
  ·exact key 5 (one_c5_69 w1 hK1 hA1 g g0 g1 g7)
  ·exact key 5 (one_c5_82 w1 hK1 hA1 g g0 g1 g7)
 ·exact key 6 (one_c6 w1 hK1 h1 ha g g0 g7)
 ·exact key 7 (one_c7 w1 hK1 h1 ha g g0 g7)
 ·rcases (show b = 49 ∨ b = 50 by revert hn; unfold tab90; split <;> simp) with rfl | rfl
  ·exact key 8 (one_c8_49 w1 hK1 h1 ha pb hp1 hpk g g0 g1 g5)
  ·exact key 8 (one_c8_50 w1 hK1 h1 ha pb hp1 hpk g g0 g1 g5)
 ·exact key 9 (one_c9 w1 hK1 h1 ha g g0)
 ·exact key 10 (one_c10 w1 hK1 h1 ha g g0)
 ·exact key 11 (one_c11 w1 hK1 h1 ha g g0)
 ·cases hp : t.pt with
  | true => exact key 12 (one_c12t w1 hK1 h1 ha g g0 (by rw [g7, hp]))
  | false => exact key 12 (one_c12f w1 hK1 h1 ha g g0 (by rw [g7, hp]))
 ·exact key 13 (one_c13 w1 hK1 i j h1 ha hi2 hj2 pb hpk hp0 hp1 g g0 g5)
 ·exact key 14 (one_c14 w1 hK1 h1 ha g g0)
 ·exact key 15 (one_c15 w1 hK1 i j h1 ha hR hC pb hp0 hp1 g g0 g5)
 ·refine key 16 (wp_mono (one_c16 w1 hK1 i j h1 ha hR hC pb hp0 hp1 g g0 g5) (oneR_mono ?_ (fun _ _ h => h)))
  rintro w' ⟨⟨Q', ov', h2, -⟩, hk⟩
  exact OneP.mk ⟨_, _, _, _, _, h2, ha⟩ hk
/-- .. at '5': all that is open is sent. -/
theorem y_one53 (w : World) (hK : KB K w) (i j : Nat) (h : Wy K L tm qb lb w rs cell i j S t f Q ov) (ha : AllW L.R L.C cell) (hR : L.R ≤ 6) (hC : L.C ≤ 12) :
  Calls Tryz.prog 90 #[.pointer (some ⟨tm, 0, none⟩), .int .u8 (53 : Nat)] w fun e w' => RBool e ∧ (∃ Q' ov', Wy K L tm qb lb w' rs cell i j S t f Q' ov' ∧ (Q = [] → SentP L cell 0 0 i j Q')) ∧ Kept K w w' := by
 refine one_join w L.sb tm i j t.pt (s_cursor w h.scr) h.ti.t0 h.ti.t3 53 (by decide) _ (fun h0 => absurd h0 (by decide)) ?_
 intro n hn hn0 w1 g pb hb1 hpb hp0 hp1 g0 g1 g5 g7
 obtain rfl : n = 16 := hn.symm
 have hK1 : KB (Loc K w w1) w1 := by
  rintro k (hk | hk)
  ·exact hK.more hb1.size k hk
  ·exact hk.2
 refine wp_mono (one_c16 w1 hK1 i j (h.loc hb1) ha hR hC pb hp0 hp1 g g0 g5) (oneR_mono ?_ (fun _ _ h => h.elim))
 rintro w' ⟨⟨Q', ov', h2, hs⟩, hk⟩
 obtain ⟨h3, h4⟩ := h2.back hk hK hb1 h.gk
 exact ⟨⟨Q', ov', h3, hs⟩, h4⟩
end
end Go.Proofs.YtpjooboohelffaaGreatDoor
/- Top: wyse: bits. -/
namespace Go.Proofs.YtpjooboohelffaaGreatDoor
open Go.RowKit Go.Shelf T05
set_option linter.unusedVariables false
set_option linter.unusedSimpArgs false
set_option maxRecDepth 100000
def RBits (e : Ending) : Prop := ∃ a z, e = .returned (.tuple #[.int .i64 a, .bool z]) ∧ WAttr a
theorem wa_or (a : Int) (h : WAttr a) (k : Int) (hk : k = 32 ∨ k = 8 ∨ k = 16 ∨ k = 4) : WAttr (orI a k) := h.or (by rcases hk with rfl | rfl | rfl | rfl <;> decide +kernel)
theorem idx185_0 (w : World) : Sem.run Tryz.prog (Instr.index 185 (.agg #[.int .i64 32, .int .i64 8, .int .i64 16, .int .i64 4]) (.int .i64 0)) w = .ok (.int .i64 32) w := by kernel_rfl
theorem idx185_1 (w : World) : Sem.run Tryz.prog (Instr.index 185 (.agg #[.int .i64 32, .int .i64 8, .int .i64 16, .int .i64 4]) (.int .i64 1)) w = .ok (.int .i64 8) w := by kernel_rfl
theorem idx185_2 (w : World) : Sem.run Tryz.prog (Instr.index 185 (.agg #[.int .i64 32, .int .i64 8, .int .i64 16, .int .i64 4]) (.int .i64 2)) w = .ok (.int .i64 16) w := by kernel_rfl
theorem idx185_3 (w : World) : Sem.run Tryz.prog (Instr.index 185 (.agg #[.int .i64 32, .int .i64 8, .int .i64 16, .int .i64 4]) (.int .i64 3)) w = .ok (.int .i64 4) w := by kernel_rfl
set_option maxHeartbeats 4000000 in
theorem bits_any (b : Nat) (hb : b < 256) (w : World) : Calls Tryz.prog 88 #[.int .u8 b] w fun e w' => RBits e ∧ w' = w := by
 have i0 := idx185_0
 have i1 := idx185_1
 have i2 := idx185_2
 have i3 := idx185_3
 go_enter Tryz.func88, Tryz.ntmps88
 go_wp2_with fail
 all_goals try (go_ret2; exact ⟨⟨_, _, rfl, WAttr.zero⟩, rfl⟩)
 all_goals
  go_loopg [4, 14] 4 (fun g s4 s14 wx => ∃ (i : Nat) (a : Int), i + g = 4 ∧ s14 = .int .i64 i ∧ s4 = .int .i64 a ∧ Hid (WAttr a) ∧ wx = w)
  case atStart => exact ⟨0, _, rfl, rfl, rfl, Lib.hid (by decide +kernel), rfl⟩
  case round =>
   obtain ⟨i, a, hig, rfl, rfl, ha, rfl⟩ := hrel
   cases gk with
   | zero =>
    obtain rfl : i = 4 := by omega
    go_wp2_with fail
    go_ret2
    exact ⟨⟨_, _, rfl, ha.out⟩, rfl⟩
   | succ g =>
    have hi : (i = 0 ∧ (i : Int) = 0) ∨ (i = 1 ∧ (i : Int) = 1) ∨ (i = 2 ∧ (i : Int) = 2) ∨ (i = 3 ∧ (i : Int) = 3) := by omega
    rcases hi with ⟨rfl, hc⟩ | ⟨rfl, hc⟩ | ⟨rfl, hc⟩ | ⟨rfl, hc⟩
    all_goals
     rw [hc]
     have Hig := Lib.hid hig
     clear hc hig
     go_wp2_with fail
     all_goals
      go_roundg g
      case measure => omega
      case rel => exact ⟨4 - g, _, by have := Hig.out; omega, by first | rfl | (have := Hig.out; congr 1; omega), rfl, (by first | exact ha | exact Lib.hid (wa_or _ ha.out _ (by simp))), rfl⟩
end Go.Proofs.YtpjooboohelffaaGreatDoor
/- Top: wyse: end. -/
namespace Go.Proofs.YtpjooboohelffaaGreatDoor
open Go.RowKit Go.Shelf T05
set_option linter.unusedVariables false
set_option linter.unusedSimpArgs false
set_option maxRecDepth 100000
/-- Some number, and an error or none. -/
def RAtoi (e : Ending) : Prop := ∃ n z, e = .returned (.tuple #[.int .i64 n, z]) ∧ (z = .nilIface ∨ ∃ te pe, z = .iface te pe)
theorem bytesWorld_bel (w : World) (t : ByteArray) : Below w.heap.size w (Lib.bytesWorld w 5 t) := by
 unfold Lib.bytesWorld
 refine ⟨rfl, rfl, rfl, by unfold World.freeze; split <;> simp <;> omega, fun k hk => ?_⟩
 have h1 : ((w.drew.alloc (.cells (Lib.bytesCells w 5 t) 5))).heap[k]? = w.heap[k]? := Below.heap_alloc _ _ _ hk
 unfold World.freeze
 split
 ·exact h1
 ·simp only [Array.getElem?_modify]
  rw [if_neg (fun e => by have : w.heap.size = k := e; omega)]
  exact h1
theorem atoi_any (s : ByteArray) (hs : s.size ≤ 100000) (w : World) (hg : Glob w) : Calls Tryz.prog 87 #[.string s] w fun e w' => RAtoi e ∧ Below w.heap.size w w' := by
 obtain ⟨v4, h4, h4'⟩ := hg.es
 obtain ⟨v5, h5, h5'⟩ := hg.er
 cases ha : Lib.atoiAll s.data.toList with
 | ok v =>
  refine (Tryz.strconv_Atoi_ok s (by omega) v ha w).mono ?_
  rintro e w' ⟨rfl, rfl | ⟨t, rfl⟩⟩
  ·exact ⟨⟨_, _, rfl, .inl rfl⟩, Below.refl _ _⟩
  ·exact ⟨⟨_, _, rfl, .inl rfl⟩, bytesWorld_bel _ _⟩
 | range =>
  refine (Tryz.strconv_Atoi_range s (by omega) ha v5 w h5 h5').mono ?_
  rintro e w' ⟨N, rfl, -, -, hb⟩
  exact ⟨⟨_, _, rfl, .inr ⟨_, _, rfl⟩⟩, hb⟩
 | _ =>
  refine (show Calls Tryz.prog 87 #[.string s] w fun e w' => ∃ N, e = .returned (.tuple #[.int .i64 (0), .iface 240 (.pointer (some ⟨N, 0, none⟩))]) ∧ w.heap.size ≤ N ∧ w'.heap[N]? = some (.cells #[.string ⟨#[65, 116, 111, 105]⟩, .string s, v4] 276 (0, 0)) ∧ Below w.heap.size w w' from Any.strconv_Atoi_syntax Tryz.laysC172 s (by omega) ha v4 w h4 h4').mono ?_
  rintro e w' ⟨N, rfl, -, -, hb⟩
  exact ⟨⟨_, _, rfl, .inr ⟨_, _, rfl⟩⟩, hb⟩
/-- The terminal behind a sequence. -/
def EndP (K : Nat → Prop) (L : Lay) (tm qb lb : Nat) (t : Tm) (f : Nat) (w : World) (e : Ending) (w' : World) : Prop := RBool e ∧ (∃ t' Q' ov', WyA K L tm qb lb w' t' f Q' ov' ∧ WAttr t'.at_ ∧ t'.sq = t.sq) ∧ Kept K w w'
section
variable {K : Nat → Prop} {L : Lay} {tm qb lb : Nat} {t : Tm} {f : Nat} {Q : List Int} {ov : Bool} {rs : Nat → Nat} {cell : Nat → Nat → Cl} {r c : Int} {S : Int → Bool}
theorem WyA.later {w W : World} (h : WyA K L tm qb lb w t f Q ov) (hb : Below w.heap.size w W) : WyA K L tm qb lb W t f Q ov := by
 obtain ⟨rs, cell, r, c, S, h, ha⟩ := h
 exact ⟨rs, cell, r, c, S, h.later hb, ha⟩
theorem EndP.same {w w' : World} {z : Bool} (h : WyA K L tm qb lb w' t f Q ov) (hat : WAttr t.at_) (hk : Kept K w w') : EndP K L tm qb lb t f w (.returned (.bool z)) w' := ⟨RBool.mk z, ⟨t, _, _, h, hat, rfl⟩, hk⟩
set_option maxHeartbeats 1000000 in
theorem end_61 (w : World) (hK : KB K w) (hA : WyA K L tm qb lb w t f Q ov) (hat : WAttr t.at_) (s : ByteArray) (h2 : 2 ≤ s.size) :
  Calls Tryz.prog 52 #[.pointer (some ⟨tm, 0, none⟩), .int .u8 61, .string s] w fun e w' => EndP K L tm qb lb t f w e w' := by
 have HG := Lib.hid (fun W (hb : Below w.heap.size w W) i j => (show Calls Tryz.prog 85 #[.pointer (some ⟨tm, 0, none⟩), .int .i64 i, .int .i64 j] W (fun e w' => e = .returned (.tuple #[]) ∧ EndP K L tm qb lb t f w (.returned (.bool false)) w') from
  (y_goes W (hK.more hb.size) (hA.later hb) i j).mono fun e w' ⟨e1, e2, e3⟩ => ⟨e1, EndP.same e2 hat ((Kept.ofBelow hb hK).trans e3)⟩))
 have i0 : 0 < s.size := by omega
 have i1 : 1 < s.size := by omega
 have j1 : (1 : Int) < (s.size : Int) := by omega
 have j0 : (0 : Int) < (s.size : Int) := by omega
 clear hA hK hat h2
 go_enter Tryz.func52, Tryz.ntmps52
 go_wp2_with fail
 refine gen_wp ?_
 intro u hu0
 have FB : Below w.heap.size w u := by rw [hu0]; exact Below.refl _ _
 have KFu : ∀ W, Below u.heap.size u W → True ∧ True ∧ True := by
  intro W hu
  refine ⟨trivial, trivial, ?_⟩
  ·trivial
 clear hu0
 refine wp_region_held_drew (S := fun W => True ∧ True ∧ True) (by kernel_rfl) (KFu _ (Below.refl _ _).drew) (fun hHeld => ?_)
 have FB := FB.drew
 refine sY 0 25 ?_
 refine sY 1 26 ?_
 refine sY 2 27 ?_
 refine sY 3 28 ?_
 refine sY 4 29 ?_
 refine sY 5 30 ?_
 refine sY 6 31 ?_
 refine sY 7 32 ?_
 refine sY 8 33 ?_
 refine sO 9 fun K hK => ?_
 go_simp
 refine (HG.out _ FB _ _).mono ?_
 rintro e w1 ⟨rfl, h1⟩
 have Z := Lib.hid h1
 clear h1
 (try go_wp2_with fail)
 refine hK.out _ _ ?_ (fun hHeld => ?_)
 ·exact ⟨trivial, trivial, trivial⟩
 clear hK K
 try simp only [Act.put, List.setIfInBounds_toArray, List.set_cons_zero, List.set_cons_succ]
 refine wpAnyH_done (by kernel_rfl) ?_ _
 go_wp2_with fail
 go_ret
 exact Z.out
set_option maxHeartbeats 1000000 in
theorem end_70 (w : World) (hK : KB K w) (h : Wy K L tm qb lb w rs cell r c S t f Q ov) (ha : AllW L.R L.C cell) (hat : WAttr t.at_) (s : ByteArray) (hs : s.size ≤ 100000) :
  Calls Tryz.prog 52 #[.pointer (some ⟨tm, 0, none⟩), .int .u8 70, .string s] w fun e w' => EndP K L tm qb lb t f w e w' := by
 have HT := Lib.hid (Tryz.strings_TrimSuffix s ⟨#[13]⟩ w (by omega))
 generalize (⟨(Lib.trimSuffix s.data.toList (⟨#[13]⟩ : ByteArray).data.toList).toArray⟩ : ByteArray) = s2 at HT
 have HE := Lib.hid (h.own2 hK ((Kept.refl (fun k => k ≠ tm ∧ k < w.heap.size) w).set (p := ⟨tm, 8, none⟩) (fun h => h.1 rfl) (.string s2)) (h.ti.set_st s2))
 obtain ⟨_, k8, v8⟩ := h.ti.tB.blk.get 8 (by decide)
 have hl := blt k8
 have HA := Lib.hid ha
 have HAt := Lib.hid hat
 clear h hK ha hat hs
 go_enter Tryz.func52, Tryz.ntmps52
 go_wp2_with fail
 refine HT.out.mono ?_
 rintro e w1 ⟨rfl, rfl⟩
 go_wp2_with fail
 go_ret
 obtain ⟨h1, h2⟩ := HE.out
 exact ⟨RBool.mk _, ⟨_, _, _, ⟨_, _, _, _, _, h1, HA.out⟩, HAt.out, rfl⟩, h2⟩
set_option maxHeartbeats 1000000 in
theorem end_72 (w : World) (hK : KB K w) (h : Wy K L tm qb lb w rs cell r c S t f Q ov) (ha : AllW L.R L.C cell) (hat : WAttr t.at_) (s : ByteArray) :
  Calls Tryz.prog 52 #[.pointer (some ⟨tm, 0, none⟩), .int .u8 72, .string s] w fun e w' => EndP K L tm qb lb t f w e w' := by
 have HE := Lib.hid (fun v => h.own2 hK ((Kept.refl (fun k => k ≠ tm ∧ k < w.heap.size) w).set (p := ⟨tm, 4, none⟩) (fun h => h.1 rfl) (.bool v)) (h.ti.set_gr v))
 obtain ⟨_, k8, v8⟩ := h.ti.tB.blk.get 4 (by decide)
 have hl := blt k8
 have HA := Lib.hid ha
 have HAt := Lib.hid hat
 have H0 := Lib.hid (EndP.same (z := false) ⟨_, _, _, _, _, h, ha⟩ hat (Kept.refl K w))
 have HS := Lib.hid (fun v => (show EndP K L tm qb lb t f w (.returned (.bool false)) (w.setCell ⟨tm, 4, none⟩ (.bool v)) from ⟨RBool.mk _, ⟨_, _, _, ⟨_, _, _, _, _, (HE.out v).1, ha⟩, hat, rfl⟩, (HE.out v).2⟩))
 clear h hK ha hat HE
 go_enter Tryz.func52, Tryz.ntmps52
 go_wp2_with fail
 all_goals go_ret
 all_goals first | exact HS.out _ | exact H0.out
set_option maxHeartbeats 1000000 in
theorem end_71 (w : World) (hK : KB K w) (h : Wy K L tm qb lb w rs cell r c S t f Q ov) (ha : AllW L.R L.C cell) (hat : WAttr t.at_) (s : ByteArray) (h1 : 1 ≤ s.size) :
  Calls Tryz.prog 52 #[.pointer (some ⟨tm, 0, none⟩), .int .u8 71, .string s] w fun e w' => EndP K L tm qb lb t f w e w' := by
 have i0 : 0 < s.size := by omega
 have j0 : (0 : Int) < (s.size : Int) := by omega
 have HB := Lib.hid (bits_any (s[0]).toNat (UInt8.toNat_lt _) w)
 have HE := Lib.hid (fun a (hw : WAttr a) => (show EndP K L tm qb lb t f w (.returned (.bool false)) (w.setCell ⟨tm, 7, none⟩ (.int .i64 a)) from
  have h2 := h.own2 hK ((Kept.refl (fun k => k ≠ tm ∧ k < w.heap.size) w).set (p := ⟨tm, 7, none⟩) (fun h => h.1 rfl) (.int .i64 a)) (h.ti.set_at_ a)
  ⟨RBool.mk _, ⟨_, _, _, ⟨_, _, _, _, _, h2.1, ha⟩, hw, rfl⟩, h2.2⟩))
 have HP := Lib.hid (fun W a (hb : Below w.heap.size w W) (hw : WAttr a) => (show Calls Tryz.prog 80 #[.pointer (some ⟨tm, 0, none⟩), Cl.v ⟨32, 0, false, a + 1⟩] W (fun e w' => e = .returned (.tuple #[]) ∧ EndP K L tm qb lb t f w (.returned (.bool false)) w') from
  (y_put W (hK.more hb.size) ⟨_, _, _, _, _, h.later hb, ha⟩ ⟨32, 0, false, a + 1⟩ ⟨wglyph32, WAttr.zero, .inr (by simpa using hw)⟩).mono fun e w' ⟨e1, e2, e3⟩ => ⟨e1, EndP.same e2 hat ((Kept.ofBelow hb hK).trans e3)⟩))
 have H0 := Lib.hid (EndP.same (z := false) ⟨_, _, _, _, _, h, ha⟩ hat (Kept.refl K w))
 obtain ⟨_, k8, v8⟩ := h.ti.tB.blk.get 7 (by decide)
 have k6 := h.ti.t6
 have hl := blt k8
 simp only [Cl.v] at HP
 clear h hK ha hat h1
 go_enter Tryz.func52, Tryz.ntmps52
 go_wp2_with fail
 refine HB.out.mono ?_
 rintro e w1 ⟨⟨a, z, rfl, hw⟩, rfl⟩
 have hb := hw.bd
 have m1 : IntKind.i64.wrap (a + 1) = a + 1 := IntWalk.i64_in _ (by omega)
 have HW := Lib.hid hw
 clear hw
 cases z with
 | false =>
  go_wp2_with fail
  go_ret
  exact H0.out
 | true =>
  cases he : t.em with
  | true =>
   rw [he] at k6
   clear he
   go_wp2_with fail
   refine (HP.out _ a (Below.refl _ _) HW.out).mono ?_
   rintro e w2 ⟨rfl, h2⟩
   have Z := Lib.hid h2
   clear h2
   go_wp2_with fail
   go_ret
   exact Z.out
  | false =>
   rw [he] at k6
   clear he
   go_wp2_with fail
   go_ret
   exact HE.out a HW.out
set_option maxHeartbeats 1000000 in
theorem end_no (w : World) (hK : KB K w) (hA : WyA K L tm qb lb w t f Q ov) (hat : WAttr t.at_) (hR : L.R ≤ 6) (hC : L.C ≤ 12) (b : Nat) (hb : b < 256) (s : ByteArray)
  (q1 : ((b : Int) == 61) = false) (q2 : ((b : Int) == 97) = false) (q3 : ((b : Int) == 70) = false) (q4 : ((b : Int) == 72) = false) (q5 : ((b : Int) == 71) = false) :
  Calls Tryz.prog 52 #[.pointer (some ⟨tm, 0, none⟩), .int .u8 b, .string s] w fun e w' => EndP K L tm qb lb t f w e w' := by
 obtain ⟨rs, cell, r, c, S, h, ha⟩ := hA
 have HM := Lib.hid (y_modes w hK h b)
 have HO := Lib.hid (fun W t' (h' : Wy K L tm qb lb W rs cell r c S t' f Q ov) (hr : TmRel t t') (hk : Kept K w W) => (show Calls Tryz.prog 90 #[.pointer (some ⟨tm, 0, none⟩), .int .u8 b] W (fun e w' => RBool e ∧ EndP K L tm qb lb t f w e w') from by
  refine (y_one W (hK.later hk) ⟨_, _, _, _, _, h', ha⟩ hR hC b hb).mono ?_
  rintro e w' ⟨hz, ⟨t2, Q2, ov2, h2, hr2⟩, hk2⟩
  exact ⟨hz, hz, ⟨t2, Q2, ov2, h2, by rw [hr2.1, hr.1]; exact hat, by rw [hr2.2.2, hr.2.2]⟩, hk.trans hk2⟩))
 clear h ha hK hat hR hC hb
 go_enter Tryz.func52, Tryz.ntmps52
 go_wp2_with fail
 refine HM.out.mono ?_
 rintro e w1 ⟨rfl, ⟨t', h', hr⟩, hk⟩
 have HO2 := Lib.hid (HO.out _ _ h' hr hk)
 clear h' hr hk
 go_wp2_with fail
 refine HO2.out.mono ?_
 rintro e w2 ⟨⟨z, rfl⟩, h2⟩
 have Z := Lib.hid h2
 clear h2
 go_wp2_with fail
 go_ret
 exact Z.out
end
end Go.Proofs.YtpjooboohelffaaGreatDoor
/- Top: wyse: end, at 'a', and whole. -/
namespace Go.Proofs.YtpjooboohelffaaGreatDoor
open Go.RowKit Go.Shelf T05
set_option linter.unusedVariables false
set_option linter.unusedSimpArgs false
set_option maxRecDepth 100000
section
variable {K : Nat → Prop} {L : Lay} {tm qb lb : Nat} {t : Tm} {f : Nat} {Q : List Int} {ov : Bool} {rs : Nat → Nat} {cell : Nat → Nat → Cl} {r c : Int} {S : Int → Bool}
theorem trim_len (s : ByteArray) (p : List UInt8) : (⟨(Lib.trimSuffix s.data.toList p).toArray⟩ : ByteArray).size ≤ s.size := by
 rw [Lib.size_mk]
 unfold Lib.trimSuffix
 have : s.data.toList.length = s.size := by rw [Array.length_toList]; rfl
 split
 ·rw [List.length_take]; omega
 ·omega
set_option maxHeartbeats 2000000 in
theorem end_97 (w : World) (hK : KB K w) (h : Wy K L tm qb lb w rs cell r c S t f Q ov) (ha : AllW L.R L.C cell) (hat : WAttr t.at_) (s : ByteArray) (hs : s.size ≤ 100000) :
  Calls Tryz.prog 52 #[.pointer (some ⟨tm, 0, none⟩), .int .u8 97, .string s] w fun e w' => EndP K L tm qb lb t f w e w' := by
 have hA : WyA K L tm qb lb w t f Q ov := ⟨_, _, _, _, _, h, ha⟩
 obtain ⟨m, hm⟩ := h.scr.gl.mlen
 have HT := Lib.hid (Tryz.strings_TrimSuffix s ⟨#[67]⟩ w (by omega))
 have ht := trim_len s (⟨#[67]⟩ : ByteArray).data.toList
 generalize (⟨(Lib.trimSuffix s.data.toList (⟨#[67]⟩ : ByteArray).data.toList).toArray⟩ : ByteArray) = s2 at HT ht
 have HC : Hid (Calls Tryz.prog 83 #[.string s2, .string ⟨#[82]⟩] w fun e w' => (∃ a b z, e = .returned (.tuple #[.string a, .string b, .bool z]) ∧ a.size ≤ 100000 ∧ b.size ≤ 100000) ∧ Below w.heap.size w w') := Lib.hid ((Tryz.strings_Cut s2 ⟨#[82]⟩ m w (by omega) hm).mono (by
  rintro e w' ⟨rfl, n, rfl⟩
  have hl := cut_len s2.data.toList ((⟨#[82]⟩ : ByteArray).data.toList)
  rw [← Lib.size_eq] at hl
  refine ⟨⟨_, _, _, rfl, ?_, ?_⟩, ((Kept.refl (fun k => k < w.heap.size) w).drewN n).below⟩ <;> rw [Lib.size_mk] <;> omega))
 have HI := Lib.hid (fun W (hb : Below w.heap.size w W) a (ha : a.size ≤ 100000) => atoi_any a ha W (h.scr.gl.later hb))
 have HP := Lib.hid (fun a b W (hl : a.size ≤ 100000) => part_b a b W hl)
 have HV := Lib.hid (fun W => suffix_any s ⟨#[67]⟩ W hs)
 have HG := Lib.hid (fun W (hb : Below w.heap.size w W) i j => (show Calls Tryz.prog 85 #[.pointer (some ⟨tm, 0, none⟩), .int .i64 i, .int .i64 j] W (fun e w' => e = .returned (.tuple #[]) ∧ EndP K L tm qb lb t f w (.returned (.bool false)) w') from
  (y_goes W (hK.more hb.size) (hA.later hb) i j).mono fun e w' ⟨e1, e2, e3⟩ => ⟨e1, EndP.same e2 hat ((Kept.ofBelow hb hK).trans e3)⟩))
 have H0 := Lib.hid (fun W (hb : Below w.heap.size w W) => EndP.same (z := false) (hA.later hb) hat (Kept.ofBelow hb hK))
 clear h ha hA hK hat hm ht hs
 go_enter Tryz.func52, Tryz.ntmps52
 go_wp2_with fail
 refine HT.out.mono ?_
 rintro e w0 ⟨rfl, rfl⟩
 go_wp2_with fail
 refine HC.out.mono ?_
 rintro e w1 ⟨⟨a, b, z, rfl, ha, hb⟩, b1⟩
 have HIa := Lib.hid (HI.out _ b1 a ha)
 have HIb := Lib.hid (fun W (h : Below w1.heap.size w1 W) => HI.out _ (bel_call b1 h) b hb)
 have HPa := Lib.hid (fun W y => HP.out a y W ha)
 have HPb := Lib.hid (fun W y => HP.out b y W hb)
 have B1 := Lib.hid b1
 clear ha hb b1 HI HP HT HC
 go_wp2_with fail
 refine HIa.out.mono ?_
 rintro e w2 ⟨⟨n, x, rfl, hx⟩, b2⟩
 have HIb2 := Lib.hid (HIb.out _ b2)
 have B2 := Lib.hid (bel_call B1.out b2)
 clear b2 HIa HIb B1
 go_wp2_with fail
 refine HIb2.out.mono ?_
 rintro e w3 ⟨⟨p, y, rfl, hy⟩, b3⟩
 have B3 := Lib.hid (bel_call B2.out b3)
 clear b3 HIb2 B2
 cases z with
 | false =>
  rcases hx with rfl | ⟨te, pe, rfl⟩ <;> rcases hy with rfl | ⟨te', pe', rfl⟩
  all_goals
   go_wp2_with fail
   go_ret
   exact H0.out _ B3.out
 | true =>
  rcases hx with rfl | ⟨te, pe, rfl⟩
  rotate_left
  ·rcases hy with rfl | ⟨te', pe', rfl⟩
   all_goals
    go_wp2_with fail
    go_ret
    exact H0.out _ B3.out
  rcases hy with rfl | ⟨te', pe', rfl⟩
  rotate_left
  ·go_wp2_with fail
   go_ret
   exact H0.out _ B3.out
  go_wp2_with fail
  refine (HPa.out _ _).mono ?_
  rintro e w4 ⟨⟨z1, rfl⟩, b4⟩
  have B4 := Lib.hid (bel_call B3.out b4)
  clear b4 B3
  cases z1 with
  | false =>
   go_wp2_with fail
   go_ret
   exact H0.out _ B4.out
  | true =>
   go_wp2_with fail
   refine (HPb.out _ _).mono ?_
   rintro e w5 ⟨⟨z2, rfl⟩, b5⟩
   have B5 := Lib.hid (bel_call B4.out b5)
   clear b5 B4
   cases z2 with
   | false =>
    go_wp2_with fail
    go_ret
    exact H0.out _ B5.out
   | true =>
    go_wp2_with fail
    refine (HV.out _).mono ?_
    rintro e w6 ⟨⟨z3, rfl⟩, rfl⟩
    cases z3 with
    | false =>
     go_wp2_with fail
     go_ret
     exact H0.out _ B5.out
    | true =>
     go_wp2_with fail
     refine (HG.out _ B5.out _ _).mono ?_
     rintro e w7 ⟨rfl, h7⟩
     have Z := Lib.hid h7
     clear h7
     go_wp2_with fail
     go_ret
     exact Z.out
/-- end, whatever the byte. -/
theorem y_end (w : World) (hK : KB K w) (hA : WyA K L tm qb lb w t f Q ov) (hat : WAttr t.at_) (hR : L.R ≤ 6) (hC : L.C ≤ 12) (b : Nat) (hb : b < 256) (s : ByteArray) (hs : s.size ≤ 100000) (h61 : b = 61 → 2 ≤ s.size) (h71 : b = 71 → 1 ≤ s.size) :
  Calls Tryz.prog 52 #[.pointer (some ⟨tm, 0, none⟩), .int .u8 b, .string s] w fun e w' => EndP K L tm qb lb t f w e w' := by
 by_cases q1 : b = 61
 ·rw [q1]; exact end_61 w hK hA hat s (h61 q1)
 by_cases q2 : b = 97
 ·rw [q2]; obtain ⟨rs, cell, r, c, S, h, ha⟩ := hA; exact end_97 w hK h ha hat s hs
 by_cases q3 : b = 70
 ·rw [q3]; obtain ⟨rs, cell, r, c, S, h, ha⟩ := hA; exact end_70 w hK h ha hat s hs
 by_cases q4 : b = 72
 ·rw [q4]; obtain ⟨rs, cell, r, c, S, h, ha⟩ := hA; exact end_72 w hK h ha hat s
 by_cases q5 : b = 71
 ·rw [q5]; obtain ⟨rs, cell, r, c, S, h, ha⟩ := hA; exact end_71 w hK h ha hat s (h71 q5)
 exact end_no w hK hA hat hR hC b hb s (by simp; omega) (by simp; omega) (by simp; omega) (by simp; omega) (by simp; omega)
set_option maxHeartbeats 1000000 in
/-- .. at '5'. -/
theorem y_end53 (w : World) (hK : KB K w) (i j : Nat) (h : Wy K L tm qb lb w rs cell i j S t f Q ov) (ha : AllW L.R L.C cell) (hR : L.R ≤ 6) (hC : L.C ≤ 12) (s : ByteArray) :
  Calls Tryz.prog 52 #[.pointer (some ⟨tm, 0, none⟩), .int .u8 53, .string s] w fun e w' => RBool e ∧ (∃ Q' ov', Wy K L tm qb lb w' rs cell i j S t f Q' ov' ∧ (Q = [] → SentP L cell 0 0 i j Q')) ∧ Kept K w w' := by
 have HM := Lib.hid (y_modes_no w hK h 53 (by decide) (by decide) (by decide) (by decide) (by decide) (by decide) (by decide) (by decide))
 have HO := Lib.hid (fun W (h' : Wy K L tm qb lb W rs cell i j S t f Q ov) (hk : Kept K w W) => (show Calls Tryz.prog 90 #[.pointer (some ⟨tm, 0, none⟩), .int .u8 53] W (fun e w' => RBool e ∧ (∃ Q' ov', Wy K L tm qb lb w' rs cell i j S t f Q' ov' ∧ (Q = [] → SentP L cell 0 0 i j Q')) ∧ Kept K w w') from
  (y_one53 W (hK.later hk) i j h' ha hR hC).mono fun e w' ⟨e1, e2, e3⟩ => ⟨e1, e2, hk.trans e3⟩))
 clear h ha hK hR hC
 go_enter Tryz.func52, Tryz.ntmps52
 go_wp2_with fail
 refine HM.out.mono ?_
 rintro e w1 ⟨rfl, ⟨t', h', hr⟩, hk⟩
 obtain rfl : t' = t := hr
 have HO2 := Lib.hid (HO.out _ h' hk)
 clear h' hk
 go_wp2_with fail
 refine HO2.out.mono ?_
 rintro e w2 ⟨⟨z, rfl⟩, h2⟩
 have Z := Lib.hid h2
 clear h2
 go_wp2_with fail
 go_ret
 exact ⟨RBool.mk _, Z.out⟩
end
end Go.Proofs.YtpjooboohelffaaGreatDoor
/- Top: a Wyse 60: rest (deferred). -/
namespace Go.Proofs.YtpjooboohelffaaGreatDoor
open Go.RowKit Go.Shelf T05
set_option linter.unusedVariables false
set_option linter.unusedSimpArgs false
set_option maxRecDepth 100000
/-- The cursor rests where it is. -/
def Rests (L : Lay) (cell : Nat → Nat → Cl) (r c : Int) (t : Tm) : Prop := t.pt = false ∨ (cell r.toNat c.toNat).d = false ∨ ∀ p q, p < L.R → q < L.C → (cell p q).d = true
section
variable {K : Nat → Prop} {L : Lay} {tm qb lb : Nat} {t : Tm} {f : Nat} {Q : List Int} {ov : Bool} {rs : Nat → Nat} {cell : Nat → Nat → Cl} {r c : Int} {S : Int → Bool}
set_option maxHeartbeats 4000000 in
theorem y_rest_d (w : World) (hK : KB K w) (h : Wy K L tm qb lb w rs cell r c S t f Q ov) (bb : Nat) (back : Bool) (hbk : w.cell? ⟨bb, 0, none⟩ = some (.bool back)) (fm : FrameMode) :
  CallsD Tryz.prog 48 #[.pointer (some ⟨tm, 0, none⟩), .pointer (some ⟨bb, 0, none⟩)] fm w fun e u' w' => u' = fm ∧ (e = .returned (.tuple #[]) ∧ (∃ r' c', Wy K L tm qb lb w' rs cell r' c' S t f Q ov ∧ (Rests L cell r c t → r' = r ∧ c' = c)) ∧ Kept K w w') := by
 obtain ⟨i, j, rfl, rfl, hi, hj⟩ := inR_nat h.scr.rc
 have HC := Lib.hid (s_cursor w h.scr)
 have HA := Lib.hid (fun W (hb : Below w.heap.size w W) => s_at W (h.scr.later hb) i j hi hj)
 have HM := Lib.hid (fun W (hb : Below w.heap.size w W) (hp : t.pt = true) (hd : (cell i j).d = true) => (show Calls Tryz.prog 15 #[.pointer (some ⟨L.sb, 0, none⟩), .bool back] W (fun e w' => (∃ z, e = .returned (.bool z)) ∧ (∃ r' c', Wy K L tm qb lb w' rs cell r' c' S t f Q ov ∧ (Rests L cell i j t → r' = i ∧ c' = j)) ∧ Kept K w w') from by
  refine (s_free (K := Loc (KW K tm qb lb) w W) W ((h.kb hK).loc hb) (h.scr.loc hb) back).mono ?_
  rintro e w' ⟨z, rfl, ⟨a, b, h1, h2, h3⟩, h4⟩
  obtain ⟨h5, h6⟩ := h.stepB hK hb h1 h4
  refine ⟨⟨z, rfl⟩, ⟨a, b, h5, fun hr => ?_⟩, h6⟩
  cases z with
  | false => exact ⟨(h3 rfl).1, (h3 rfl).2.1⟩
  | true =>
   exfalso
   rcases hr with hr | hr | hr
   ·rw [hp] at hr; cases hr
   ·rw [show (cell ((i : Int)).toNat ((j : Int)).toNat).d = (cell i j).d from by simp, hd] at hr; cases hr
   ·obtain ⟨p, q, rfl, rfl, hp1, hq1⟩ := inR_nat h1.rc
    have := hr p q hp1 hq1
    have h7 := h2 rfl
    simp only [Int.toNat_natCast] at h7
    rw [this] at h7; cases h7))
 have HE := Lib.hid (fun W (hb : Below w.heap.size w W) => (show (∃ r' c', Wy K L tm qb lb W rs cell r' c' S t f Q ov ∧ (Rests L cell i j t → r' = i ∧ c' = j)) ∧ Kept K w W from ⟨⟨_, _, h.later hb, fun _ => ⟨rfl, rfl⟩⟩, Kept.ofBelow hb hK⟩))
 have k0 := h.ti.t0
 have k3 := h.ti.t3
 have hgk := h.gk
 have hl0 := blt k0
 have hlb := blt hbk
 clear h hK
 simp only [Cl.v] at HA
 cases hp : t.pt with
 | false =>
  rw [hp] at k3
  clear hp
  go_enter_d Tryz.func48, Tryz.ntmps48
  go_wp2_with fail
  (try simp only [Exit.inBlock, Exit.then])
  refine bodyPost_ret (results_none rfl _ _ _) rfl ?_
  exact ⟨rfl, HE.out _ (Below.refl _ _)⟩
 | true =>
  have HM := Lib.hid (fun W hb hd => HM.out W hb hp hd)
  rw [hp] at k3
  clear hp
  go_enter_d Tryz.func48, Tryz.ntmps48
  go_wp2_with fail
  refine HC.out.mono ?_
  rintro e w1 ⟨rfl, c1⟩
  have k0' := cellB c1 k0
  have kb' := cellB c1 hbk
  have hsz1 := c1.size
  have hlt1 := blt k0'
  have hlt2 := blt kb'
  have C1 := Lib.hid c1
  clear c1
  go_wp2_with fail
  refine gen_wp ?_
  intro u hu0
  have FB : Below w.heap.size w u := by rw [hu0]; (repeat first | exact C1.out | refine bel_alloc ?_ _ | refine bel_set ?_ (by simp <;> omega) _)
  have hsw := FB.size
  have hb0 : Below w1.heap.size w1 u := by rw [hu0]; exact bel_alloc (Below.refl _ _) _
  have hs1u : w1.heap.size < u.heap.size := by rw [hu0]; simp <;> omega
  have HBW := Lib.hid (fun W (hb : Below w1.heap.size w1 W) => bel_call C1.out hb)
  have KFu : ∀ W, Below u.heap.size u W → (W.cell? ⟨tm, 0, none⟩ = some (.pointer (some ⟨L.sb, 0, none⟩)) ∧ W.cell? ⟨bb, 0, none⟩ = some (.bool back) ∧ W.cell? ⟨w1.heap.size, 0, none⟩ = some (.int .i64 (i : Int)) ∧ W.cell? ⟨w1.heap.size, 1, none⟩ = some (.int .i64 (j : Int))) ∧ True ∧ Below w1.heap.size w1 W := by
   intro W hu
   refine ⟨⟨?_, ?_, ?_, ?_⟩, trivial, ?_⟩
   ·exact cellB (bel_call (by rw [hu0]; (repeat first | exact Below.refl _ _ | refine bel_alloc ?_ _)) hu) (k0')
   ·exact cellB (bel_call (by rw [hu0]; (repeat first | exact Below.refl _ _ | refine bel_alloc ?_ _)) hu) (kb')
   ·exact (hu.cell (by rw [hu0]; simp <;> omega)).trans (by rw [hu0]; simp [go_sem])
   ·exact (hu.cell (by rw [hu0]; simp <;> omega)).trans (by rw [hu0]; simp [go_sem])
   ·exact bel_call (by rw [hu0]; (repeat first | exact Below.refl _ _ | refine bel_alloc ?_ _)) hu
  clear hu0 k0 k0' kb' k3 hbk
  have hsu := hb0.size
  go_cut [6, 7] from 8 (fun s t wx => ∃ p z, s = .pointer (some ⟨p, 0, none⟩) ∧ t = .int .i64 z ∧ Hid (wx.cell? ⟨p, 2, none⟩ = some (.bool (cell i j).d) ∧ wx.cell? ⟨tm, 0, none⟩ = some (.pointer (some ⟨L.sb, 0, none⟩)) ∧ wx.cell? ⟨bb, 0, none⟩ = some (.bool back) ∧ Below w1.heap.size w1 wx))
  case first =>
   refine wp_region_held_drew (S := fun W => (W.cell? ⟨tm, 0, none⟩ = some (.pointer (some ⟨L.sb, 0, none⟩)) ∧ W.cell? ⟨bb, 0, none⟩ = some (.bool back) ∧ W.cell? ⟨w1.heap.size, 0, none⟩ = some (.int .i64 (i : Int)) ∧ W.cell? ⟨w1.heap.size, 1, none⟩ = some (.int .i64 (j : Int))) ∧ True ∧ Below w1.heap.size w1 W) (by kernel_rfl) (KFu _ (Below.refl _ _).drew) (fun hHeld => ?_)
   refine sY 0 23 ?_
   refine sY 1 24 ?_
   refine sY 2 25 ?_
   refine sY 3 26 ?_
   refine sY 4 27 ?_
   refine wpAnyH_ready (rs := [5, 9]) (by kernel_rfl) (by simp) ?_
   refine AllReadyH.cons rfl (fun K hK => ?_) (AllReadyH.cons rfl (fun K hK => ?_) (AllReadyH.nil))
   ·obtain ⟨⟨fc0, fc1, fc2, fc3⟩, _, fb⟩ := hHeld
    go_simp
    refine (HA.out _ (HBW.out _ fb)).mono ?_
    rintro e w3 ⟨rfl, b3⟩
    (try go_wp2_with fail)
    refine hK.out _ _ ?_ (fun hHeld => ?_)
    ·exact ⟨⟨cellB b3 fc0, cellB b3 fc1, cellB b3 fc2, cellB b3 fc3⟩, trivial, bel_call fb b3⟩
    clear hK K
    refine wpAnyH_name ?_
    intro W5 hW5
    rw [← hW5] at hHeld
    clear hW5
    try simp only [Act.put, List.setIfInBounds_toArray, List.set_cons_zero, List.set_cons_succ]
    refine sY 6 22 ?_
    refine sY 7 29 ?_
    refine sY 8 30 ?_
    refine sO 9 fun K hK => ?_
    obtain ⟨⟨fc0, fc1, fc2, fc3⟩, _, fb⟩ := hHeld
    go_simp
    (try go_wp2_with fail)
    refine hK.out _ _ ?_ (fun hHeld => ?_)
    ·exact ⟨⟨cellB (bel_alloc (Below.refl _ _) _) fc0, cellB (bel_alloc (Below.refl _ _) _) fc1, cellB (bel_alloc (Below.refl _ _) _) fc2, cellB (bel_alloc (Below.refl _ _) _) fc3⟩, trivial, bel_alloc fb _⟩
    clear hK K
    refine wpAnyH_name ?_
    intro W9 hW9
    rw [← hW9] at hHeld
    first | (have xb9 := blk_named hW9 (n := 4) rfl) | (have xb9 := blk_named' hW9 (n := 4) rfl)
    have hw9 := fb.size
    have hz9_0 := blt fc0
    have hz9_1 := blt fc1
    have hz9_2 := blt fc2
    clear hW9
    try simp only [Act.put, List.setIfInBounds_toArray, List.set_cons_zero, List.set_cons_succ]
    refine sO 10 fun K hK => ?_
    obtain ⟨⟨fc0, fc1, fc2, fc3⟩, _, fb⟩ := hHeld
    obtain ⟨x0, e0, z0⟩ := xb9.get 0 (by decide)
    obtain ⟨x1, e1, z1⟩ := xb9.get 1 (by decide)
    obtain ⟨x2, e2, z2⟩ := xb9.get 2 (by decide)
    obtain ⟨x3, e3, z3⟩ := xb9.get 3 (by decide)
    have hlx := blt e0
    have hfb := fb.size
    have hwx9 := hw9
    go_simp
    (try go_wp2_with fail)
    refine hK.out _ _ ?_ (fun hHeld => ?_)
    ·exact ⟨⟨(cs_other (cs_other (cs_other (cs_other fc0 (by simp <;> omega)) (by simp <;> omega)) (by simp <;> omega)) (by simp <;> omega)), (cs_other (cs_other (cs_other (cs_other fc1 (by simp <;> omega)) (by simp <;> omega)) (by simp <;> omega)) (by simp <;> omega)), (cs_other (cs_other (cs_other (cs_other fc2 (by simp <;> omega)) (by simp <;> omega)) (by simp <;> omega)) (by simp <;> omega)), (cs_other (cs_other (cs_other (cs_other fc3 (by simp <;> omega)) (by simp <;> omega)) (by simp <;> omega)) (by simp <;> omega))⟩, trivial, (bel_set (bel_set (bel_set (bel_set fb (by first | omega | (simp <;> omega)) _) (by first | omega | (simp <;> omega)) _) (by first | omega | (simp <;> omega)) _) (by first | omega | (simp <;> omega)) _)⟩
    clear hK K
    refine wpAnyH_name ?_
    intro W10 hW10
    rw [← hW10] at hHeld
    have y9 := at4_set hW10 xb9
    have xb9 := xb9.set4 hW10
    clear hW10
    try simp only [Act.put, List.setIfInBounds_toArray, List.set_cons_zero, List.set_cons_succ]
    refine sY 11 7 ?_
    refine wpAnyH_done (by kernel_rfl) ?_ _
    go_wp2_with fail
    go_meet
    exact ⟨_, _, rfl, rfl, Lib.hid ⟨y9.2.2.1, hHeld.1.1, hHeld.1.2.1, hHeld.2.2⟩⟩
   ·obtain ⟨⟨fc0, fc1, fc2, fc3⟩, _, fb⟩ := hHeld
    go_simp
    (try go_wp2_with fail)
    refine hK.out _ _ ?_ (fun hHeld => ?_)
    ·exact ⟨⟨cellB (bel_alloc (Below.refl _ _) _) fc0, cellB (bel_alloc (Below.refl _ _) _) fc1, cellB (bel_alloc (Below.refl _ _) _) fc2, cellB (bel_alloc (Below.refl _ _) _) fc3⟩, trivial, bel_alloc fb _⟩
    clear hK K
    refine wpAnyH_name ?_
    intro W9 hW9
    rw [← hW9] at hHeld
    first | (have xb9 := blk_named hW9 (n := 4) rfl) | (have xb9 := blk_named' hW9 (n := 4) rfl)
    have hw9 := fb.size
    have hz9_0 := blt fc0
    have hz9_1 := blt fc1
    have hz9_2 := blt fc2
    clear hW9
    try simp only [Act.put, List.setIfInBounds_toArray, List.set_cons_zero, List.set_cons_succ]
    refine sO 5 fun K hK => ?_
    obtain ⟨⟨fc0, fc1, fc2, fc3⟩, _, fb⟩ := hHeld
    go_simp
    refine (HA.out _ (HBW.out _ fb)).mono ?_
    rintro e w3 ⟨rfl, b3⟩
    (try go_wp2_with fail)
    refine hK.out _ _ ?_ (fun hHeld => ?_)
    ·exact ⟨⟨cellB b3 fc0, cellB b3 fc1, cellB b3 fc2, cellB b3 fc3⟩, trivial, bel_call fb b3⟩
    clear hK K
    refine wpAnyH_name ?_
    intro W5 hW5
    rw [← hW5] at hHeld
    have xb9 := xb9.later2 hW5 b3
    clear hW5
    try simp only [Act.put, List.setIfInBounds_toArray, List.set_cons_zero, List.set_cons_succ]
    refine sY 6 22 ?_
    refine sY 7 29 ?_
    refine sY 8 30 ?_
    refine sO 10 fun K hK => ?_
    obtain ⟨⟨fc0, fc1, fc2, fc3⟩, _, fb⟩ := hHeld
    obtain ⟨x0, e0, z0⟩ := xb9.get 0 (by decide)
    obtain ⟨x1, e1, z1⟩ := xb9.get 1 (by decide)
    obtain ⟨x2, e2, z2⟩ := xb9.get 2 (by decide)
    obtain ⟨x3, e3, z3⟩ := xb9.get 3 (by decide)
    have hlx := blt e0
    have hfb := fb.size
    have hwx9 := hw9
    go_simp
    (try go_wp2_with fail)
    refine hK.out _ _ ?_ (fun hHeld => ?_)
    ·exact ⟨⟨(cs_other (cs_other (cs_other (cs_other fc0 (by simp <;> omega)) (by simp <;> omega)) (by simp <;> omega)) (by simp <;> omega)), (cs_other (cs_other (cs_other (cs_other fc1 (by simp <;> omega)) (by simp <;> omega)) (by simp <;> omega)) (by simp <;> omega)), (cs_other (cs_other (cs_other (cs_other fc2 (by simp <;> omega)) (by simp <;> omega)) (by simp <;> omega)) (by simp <;> omega)), (cs_other (cs_other (cs_other (cs_other fc3 (by simp <;> omega)) (by simp <;> omega)) (by simp <;> omega)) (by simp <;> omega))⟩, trivial, (bel_set (bel_set (bel_set (bel_set fb (by first | omega | (simp <;> omega)) _) (by first | omega | (simp <;> omega)) _) (by first | omega | (simp <;> omega)) _) (by first | omega | (simp <;> omega)) _)⟩
    clear hK K
    refine wpAnyH_name ?_
    intro W10 hW10
    rw [← hW10] at hHeld
    have y9 := at4_set hW10 xb9
    have xb9 := xb9.set4 hW10
    clear hW10
    try simp only [Act.put, List.setIfInBounds_toArray, List.set_cons_zero, List.set_cons_succ]
    refine sY 11 7 ?_
    refine wpAnyH_done (by kernel_rfl) ?_ _
    go_wp2_with fail
    go_meet
    exact ⟨_, _, rfl, rfl, Lib.hid ⟨y9.2.2.1, hHeld.1.1, hHeld.1.2.1, hHeld.2.2⟩⟩
  case rest =>
   obtain ⟨p, z, rfl, rfl, HH⟩ := hcut
   obtain ⟨m2, q0, q1, fb⟩ := HH.out
   have hlp := blt m2
   have FB := HBW.out _ fb
   have Fb := Lib.hid FB
   clear HH fb KFu
   cases hd : (cell i j).d with
   | true =>
    have HM := Lib.hid (fun W hb => HM.out W hb hd)
    rw [hd] at m2
    clear hd
    go_wp2_with fail
    refine gen_wp ?_
    intro v hv0
    have FB2 : Below w.heap.size w v := by rw [hv0]; exact FB
    rw [← hv0] at q0 q1
    clear hv0 FB m2
    have FB := FB2
    clear FB2
    have KFv : ∀ W, Below v.heap.size v W → True ∧ True ∧ True := by
     intro W hv
     refine ⟨trivial, trivial, ?_⟩
     ·trivial
    refine wp_region_held_drew (S := fun W => True ∧ True ∧ True) (by kernel_rfl) (KFv _ (Below.refl _ _).drew) (fun hHeld => ?_)
    have FB := FB.drew
    refine sY 0 33 ?_
    refine sY 1 34 ?_
    refine sY 2 35 ?_
    refine sY 4 37 ?_
    refine sY 5 38 ?_
    refine wpAnyH_ready (rs := [3, 6]) (by kernel_rfl) (by simp) ?_
    refine AllReadyH.cons rfl (fun K hK => ?_) (AllReadyH.cons rfl (fun K hK => ?_) (AllReadyH.nil))
    ·have p0 := q0
     go_simp
     (try go_wp2_with fail)
     refine hK.out _ _ ?_ (fun hHeld => ?_)
     ·exact hHeld
     clear hK K
     try simp only [Act.put, List.setIfInBounds_toArray, List.set_cons_zero, List.set_cons_succ]
     refine sO 6 fun K hK => ?_
     have p0 := q1
     go_simp
     (try go_wp2_with fail)
     refine hK.out _ _ ?_ (fun hHeld => ?_)
     ·exact hHeld
     clear hK K
     try simp only [Act.put, List.setIfInBounds_toArray, List.set_cons_zero, List.set_cons_succ]
     refine sO 7 fun K hK => ?_
     go_simp
     refine (HM.out _ FB).mono ?_
     rintro e w3 ⟨⟨z2, rfl⟩, h1⟩
     (try go_wp2_with fail)
     refine hK.out _ _ ?_ (fun hHeld => ?_)
     ·exact ⟨trivial, trivial, trivial⟩
     clear hK K
     try simp only [Act.put, List.setIfInBounds_toArray, List.set_cons_zero, List.set_cons_succ]
     refine wpAnyH_done (by kernel_rfl) ?_ _
     go_wp2_with fail
     go_end0
     exact ⟨rfl, h1⟩
    ·have p0 := q1
     go_simp
     (try go_wp2_with fail)
     refine hK.out _ _ ?_ (fun hHeld => ?_)
     ·exact hHeld
     clear hK K
     try simp only [Act.put, List.setIfInBounds_toArray, List.set_cons_zero, List.set_cons_succ]
     refine sO 3 fun K hK => ?_
     have p0 := q0
     go_simp
     (try go_wp2_with fail)
     refine hK.out _ _ ?_ (fun hHeld => ?_)
     ·exact hHeld
     clear hK K
     try simp only [Act.put, List.setIfInBounds_toArray, List.set_cons_zero, List.set_cons_succ]
     refine sO 7 fun K hK => ?_
     go_simp
     refine (HM.out _ FB).mono ?_
     rintro e w3 ⟨⟨z2, rfl⟩, h1⟩
     (try go_wp2_with fail)
     refine hK.out _ _ ?_ (fun hHeld => ?_)
     ·exact ⟨trivial, trivial, trivial⟩
     clear hK K
     try simp only [Act.put, List.setIfInBounds_toArray, List.set_cons_zero, List.set_cons_succ]
     refine wpAnyH_done (by kernel_rfl) ?_ _
     go_wp2_with fail
     go_end0
     exact ⟨rfl, h1⟩
   | false =>
    rw [hd] at m2
    clear hd
    go_wp2_with fail
    go_end0
    exact ⟨rfl, HE.out _ Fb.out⟩
end
end Go.Proofs.YtpjooboohelffaaGreatDoor
/- Top: wyse: ground. By gvg.py. -/
namespace Go.Proofs.YtpjooboohelffaaGreatDoor
open Go.RowKit Go.Shelf T05
set_option linter.unusedVariables false
set_option linter.unusedSimpArgs false
set_option maxRecDepth 100000
/-- Some bool, and the terminal with another queue. -/
def GroundP (K : Nat → Prop) (L : Lay) (tm qb lb : Nat) (t : Tm) (f : Nat) (w : World) (e : Ending) (w' : World) : Prop := RBool e ∧ (∃ Q' ov', WyA K L tm qb lb w' t f Q' ov') ∧ Kept K w w'
section
variable {K : Nat → Prop} {L : Lay} {tm qb lb : Nat} {t : Tm} {f : Nat} {Q : List Int} {ov : Bool}
theorem GroundP.mk {w w' : World} {b : Bool} (h : WyA K L tm qb lb w' t f Q ov) (hk : Kept K w w') : GroundP K L tm qb lb t f w (.returned (.bool b)) w' := ⟨RBool.mk b, ⟨_, _, h⟩, hk⟩
set_option maxHeartbeats 4000000 in
theorem y_ground_8 (w : World) (hK : KB K w) (h : WyA K L tm qb lb w t f Q ov) : Calls Tryz.prog 50 #[.pointer (some ⟨tm, 0, none⟩), .int .u8 8] w fun e w' => GroundP K L tm qb lb t f w e w' := by
 obtain ⟨rs, cell, r, c, S, h, ha⟩ := h
 have k0 := h.ti.t0
 have k1 := h.ti.t1
 have hl0 := blt k0
 have hA : WyA K L tm qb lb w t f Q ov := ⟨rs, cell, r, c, S, h, ha⟩
 have HC := Lib.hid (w_step h ha hK (Below.refl _ _) 0 (-1))
 clear h ha hA hK
 go_enter Tryz.func50, Tryz.ntmps50
 go_wp2_with fail
 refine HC.out.mono ?_
 rintro e w1 ⟨rfl, h1⟩
 have Z := Lib.hid h1
 clear h1
 go_wp2_with fail
 go_ret
 exact GroundP.mk (by first | exact Z.out.1 | exact Z.out.2.1) (by first | exact Z.out.2 | exact Z.out.2.2)
set_option maxHeartbeats 4000000 in
theorem y_ground_9 (w : World) (hK : KB K w) (h : WyA K L tm qb lb w t f Q ov) : Calls Tryz.prog 50 #[.pointer (some ⟨tm, 0, none⟩), .int .u8 9] w fun e w' => GroundP K L tm qb lb t f w e w' := by
 obtain ⟨rs, cell, r, c, S, h, ha⟩ := h
 have k0 := h.ti.t0
 have k1 := h.ti.t1
 have hl0 := blt k0
 have hA : WyA K L tm qb lb w t f Q ov := ⟨rs, cell, r, c, S, h, ha⟩
 have HC := Lib.hid (y_tab w hK hA)
 clear h ha hA hK
 go_enter Tryz.func50, Tryz.ntmps50
 go_wp2_with fail
 refine HC.out.mono ?_
 rintro e w1 ⟨rfl, h1⟩
 have Z := Lib.hid h1
 clear h1
 go_wp2_with fail
 go_ret
 exact GroundP.mk (by first | exact Z.out.1 | exact Z.out.2.1) (by first | exact Z.out.2 | exact Z.out.2.2)
set_option maxHeartbeats 4000000 in
theorem y_ground_10 (w : World) (hK : KB K w) (h : WyA K L tm qb lb w t f Q ov) : Calls Tryz.prog 50 #[.pointer (some ⟨tm, 0, none⟩), .int .u8 10] w fun e w' => GroundP K L tm qb lb t f w e w' := by
 obtain ⟨rs, cell, r, c, S, h, ha⟩ := h
 have k0 := h.ti.t0
 have k1 := h.ti.t1
 have hl0 := blt k0
 have hA : WyA K L tm qb lb w t f Q ov := ⟨rs, cell, r, c, S, h, ha⟩
 have HC := Lib.hid (y_feed w hK hA)
 clear h ha hA hK
 go_enter Tryz.func50, Tryz.ntmps50
 go_wp2_with fail
 refine HC.out.mono ?_
 rintro e w1 ⟨rfl, h1⟩
 have Z := Lib.hid h1
 clear h1
 go_wp2_with fail
 go_ret
 exact GroundP.mk (by first | exact Z.out.1 | exact Z.out.2.1) (by first | exact Z.out.2 | exact Z.out.2.2)
set_option maxHeartbeats 4000000 in
theorem y_ground_11 (w : World) (hK : KB K w) (h : WyA K L tm qb lb w t f Q ov) : Calls Tryz.prog 50 #[.pointer (some ⟨tm, 0, none⟩), .int .u8 11] w fun e w' => GroundP K L tm qb lb t f w e w' := by
 obtain ⟨rs, cell, r, c, S, h, ha⟩ := h
 have k0 := h.ti.t0
 have k1 := h.ti.t1
 have hl0 := blt k0
 have hA : WyA K L tm qb lb w t f Q ov := ⟨rs, cell, r, c, S, h, ha⟩
 have HC := Lib.hid (w_step h ha hK (Below.refl _ _) (-1) 0)
 clear h ha hA hK
 go_enter Tryz.func50, Tryz.ntmps50
 go_wp2_with fail
 refine HC.out.mono ?_
 rintro e w1 ⟨rfl, h1⟩
 have Z := Lib.hid h1
 clear h1
 go_wp2_with fail
 go_ret
 exact GroundP.mk (by first | exact Z.out.1 | exact Z.out.2.1) (by first | exact Z.out.2 | exact Z.out.2.2)
set_option maxHeartbeats 4000000 in
theorem y_ground_12 (w : World) (hK : KB K w) (h : WyA K L tm qb lb w t f Q ov) : Calls Tryz.prog 50 #[.pointer (some ⟨tm, 0, none⟩), .int .u8 12] w fun e w' => GroundP K L tm qb lb t f w e w' := by
 obtain ⟨rs, cell, r, c, S, h, ha⟩ := h
 have k0 := h.ti.t0
 have k1 := h.ti.t1
 have hl0 := blt k0
 have hA : WyA K L tm qb lb w t f Q ov := ⟨rs, cell, r, c, S, h, ha⟩
 have HC := Lib.hid (w_step h ha hK (Below.refl _ _) 0 1)
 clear h ha hA hK
 go_enter Tryz.func50, Tryz.ntmps50
 go_wp2_with fail
 refine HC.out.mono ?_
 rintro e w1 ⟨rfl, h1⟩
 have Z := Lib.hid h1
 clear h1
 go_wp2_with fail
 go_ret
 exact GroundP.mk (by first | exact Z.out.1 | exact Z.out.2.1) (by first | exact Z.out.2 | exact Z.out.2.2)
set_option maxHeartbeats 4000000 in
theorem y_ground_13 (w : World) (hK : KB K w) (h : WyA K L tm qb lb w t f Q ov) : Calls Tryz.prog 50 #[.pointer (some ⟨tm, 0, none⟩), .int .u8 13] w fun e w' => GroundP K L tm qb lb t f w e w' := by
 obtain ⟨rs, cell, r, c, S, h, ha⟩ := h
 have k0 := h.ti.t0
 have k1 := h.ti.t1
 have hl0 := blt k0
 have hA : WyA K L tm qb lb w t f Q ov := ⟨rs, cell, r, c, S, h, ha⟩
 have HC := Lib.hid (y_column w hK hA 0)
 clear h ha hA hK
 go_enter Tryz.func50, Tryz.ntmps50
 go_wp2_with fail
 refine HC.out.mono ?_
 rintro e w1 ⟨rfl, h1⟩
 have Z := Lib.hid h1
 clear h1
 go_wp2_with fail
 go_ret
 exact GroundP.mk (by first | exact Z.out.1 | exact Z.out.2.1) (by first | exact Z.out.2 | exact Z.out.2.2)
set_option maxHeartbeats 4000000 in
theorem y_ground_26 (w : World) (hK : KB K w) (h : WyA K L tm qb lb w t f Q ov) : Calls Tryz.prog 50 #[.pointer (some ⟨tm, 0, none⟩), .int .u8 26] w fun e w' => GroundP K L tm qb lb t f w e w' := by
 obtain ⟨rs, cell, r, c, S, h, ha⟩ := h
 have k0 := h.ti.t0
 have k1 := h.ti.t1
 have hl0 := blt k0
 have hA : WyA K L tm qb lb w t f Q ov := ⟨rs, cell, r, c, S, h, ha⟩
 have HC := Lib.hid (y_cleared w hK hA)
 clear h ha hA hK
 go_enter Tryz.func50, Tryz.ntmps50
 go_wp2_with fail
 refine HC.out.mono ?_
 rintro e w1 ⟨rfl, h1⟩
 have Z := Lib.hid h1
 clear h1
 go_wp2_with fail
 go_ret
 exact GroundP.mk (by first | exact Z.out.1 | exact Z.out.2.1) (by first | exact Z.out.2 | exact Z.out.2.2)
set_option maxHeartbeats 4000000 in
theorem y_ground_30 (w : World) (hK : KB K w) (h : WyA K L tm qb lb w t f Q ov) : Calls Tryz.prog 50 #[.pointer (some ⟨tm, 0, none⟩), .int .u8 30] w fun e w' => GroundP K L tm qb lb t f w e w' := by
 obtain ⟨rs, cell, r, c, S, h, ha⟩ := h
 have k0 := h.ti.t0
 have k1 := h.ti.t1
 have hl0 := blt k0
 have hA : WyA K L tm qb lb w t f Q ov := ⟨rs, cell, r, c, S, h, ha⟩
 have HC := Lib.hid (w_move h ha hK (Below.refl _ _) 0 0)
 clear h ha hA hK
 go_enter Tryz.func50, Tryz.ntmps50
 go_wp2_with fail
 refine HC.out.mono ?_
 rintro e w1 ⟨rfl, h1⟩
 have Z := Lib.hid h1
 clear h1
 go_wp2_with fail
 go_ret
 exact GroundP.mk (by first | exact Z.out.1 | exact Z.out.2.1) (by first | exact Z.out.2 | exact Z.out.2.2)
set_option maxHeartbeats 4000000 in
theorem y_ground_5 (w : World) (hK : KB K w) (h : WyA K L tm qb lb w t f Q ov) : Calls Tryz.prog 50 #[.pointer (some ⟨tm, 0, none⟩), .int .u8 5] w fun e w' => GroundP K L tm qb lb t f w e w' := by
 obtain ⟨rs, cell, r, c, S, h, ha⟩ := h
 have k0 := h.ti.t0
 have k1 := h.ti.t1
 have hl0 := blt k0
 have hA : WyA K L tm qb lb w t f Q ov := ⟨rs, cell, r, c, S, h, ha⟩
 have HP := Lib.hid (fun W (hb : Below w.heap.size w W) b hs hbb => w_push h hK hb b ⟨#[87, 89, 54, 48, 13]⟩ hs hbb (by decide))
 have HA := Lib.hid ha
 clear h ha hA hK
 go_enter Tryz.func50, Tryz.ntmps50
 go_wp2_with fail
 refine (HP.out _ (bel_alloc (Below.refl _ _) _) w.heap.size ?_ (Nat.le_refl _)).mono ?_
 ·first | exact World.cell?_alloc_new _ _ | simp [go_sem]
 rintro e w1 ⟨⟨z, rfl⟩, h1⟩
 have Z := Lib.hid h1
 clear h1
 go_wp2_with fail
 go_ret
 obtain ⟨⟨Q', ov', h1, h2⟩, h3⟩ := Z.out
 exact GroundP.mk ⟨_, _, _, _, _, h1, HA.out⟩ h3
end
end Go.Proofs.YtpjooboohelffaaGreatDoor
