/- TopLooks and TopSends, helper 17 of 27. It holds: the tables of glyphs: a Wyse 60's graphics; Of, All; the glyphs' iterator, and Back; glyph.Back; wyse's of: the byte of a glyph; Rows of cells in memory, and the contracts of the small functions that look at their lengths: Check, Right, Few; The contracts of there, There, number; The contracts of the reference's There, number, Byte, seek's closure; Send: what it sends, as lists; bytes that a call makes by append; ... Each theorem states its own conditions. -/
import Derived.Test.YtpjooboohelffaaGreatDoorM15
import Derived.Lib.OthersKept
import Derived.Test.YtpjooboohelffaaGreatDoorM01
import Derived.Test.YtpjooboohelffaaGreatDoorM00
import Derived.WalkKit
import Derived.WalkSpells
import Derived.WalkLawsBesides
import Derived.RowKit3
import Derived.Below
import Derived.Laws.BytesArg
import Derived.Lib.Hide
import Derived.Deep.QuietTactic
import Derived.BigQuiet
import Derived.Deep.RegionHeld3
import Derived.Outline
/- Top: the tables of glyphs: a Wyse 60's graphics; Of, All. -/
namespace Go.Proofs.YtpjooboohelffaaGreatDoor
open Go.RowKit
set_option linter.unusedVariables false
set_option linter.unusedSimpArgs false
set_option maxRecDepth 100000
def wyseS : ByteArray := { data := #[226, 148, 172, 226, 148, 148, 226, 148, 140, 226, 148, 144, 226, 148, 156, 226, 148, 152, 226, 148, 130, 226, 150, 136, 226, 148, 188, 226, 148, 164, 226, 148, 128, 226, 150, 146, 226, 149, 144, 226, 148, 180, 226, 149, 145, 226, 150, 145] }
theorem wyse_decode : ∀ k, k < 16 → Utf8.decode wyseS (3 * k) = ((wyseL.getD k 0).toNat, 3) := by decide +kernel
theorem wyse_pos : ∀ k, k < 16 → 0 ≤ wyseL.getD k 0 := by decide +kernel
theorem wyse_size : wyseS.size = 48 := by decide +kernel
def wyseK (k : Nat) (j : Nat) : Int := if 48 ≤ j ∧ j < 48 + k then wyseL.getD (j - 48) 0 else asciiT j
theorem wyseK_all : ∀ j, j < 256 → wyseK 16 j = wyseT j := by decide +kernel
theorem wyseK_next (k j : Nat) : upd (wyseK k) (48 + k) (wyseL.getD k 0) j = wyseK (k + 1) j := by
 unfold upd wyseK
 by_cases e : j = 48 + k
 ·subst e
  rw [if_pos rfl, if_pos (by omega), show 48 + k - 48 = k by omega]
 ·rw [if_neg e]
  by_cases h : 48 ≤ j ∧ j < 48 + k
  ·rw [if_pos h, if_pos (by omega)]
  ·rw [if_neg h, if_neg (by omega)]
theorem kept_iterAt {K : Nat → Prop} {a w : World} (h : Kept K a w) {k : Nat} (hk : ¬ K k) (s : ByteArray) (pos : Nat) : Kept K a (w.iterAt k s pos) :=
 h.trans ⟨rfl, rfl, rfl, by rw [Lib.iterAt_size]; exact Nat.le_refl _, fun i hi => Lib.iterAt_other w k i s pos (fun e => hk (e ▸ hi))⟩
theorem lay_wyse (w : World) (b : Nat) (h : TabG w b asciiT) : Calls Tryz.prog 94 #[.pointer (some ⟨b, 0, none⟩), .int .i64 48, .string wyseS] w fun e w' => e = .returned (.tuple #[]) ∧ TabG w' b wyseT ∧ Kept (fun k => k < w.heap.size ∧ k ≠ b) w w' := by
 go_enter Tryz.func94, Tryz.ntmps94
 go_wp2_with fail
 have hb := h.1.blk.lt
 go_loopw [1] (fun i wr => ∃ k : Nat, k ≤ 16 ∧ i = .int .i64 ((48 + k : Nat) : Int) ∧ wr.heap[w.heap.size]? = some (.stringIter wyseS (3 * k)) ∧ TabG wr b (wyseK k) ∧ Kept (fun k => k < w.heap.size ∧ k ≠ b) w wr) (fun i _ => 100 - (intOf i).toNat)
 case atStart => exact ⟨0, by decide, rfl, World.iter_heap _ _ _, (show TabG (w.alloc (.stringIter wyseS 0)) b (wyseK 0) from (h.later (bel_alloc (Below.refl _ _) _)).cong (fun j _ => by unfold wyseK; rw [if_neg (by omega)])), (Kept.refl _ _).alloc (fun k hk => hk.1) _⟩
 case round =>
  obtain ⟨k, hk, rfl, hit, hT, hK⟩ := hrel
  by_cases hlt : k < 16
  ·have hp : 3 * k < wyseS.size := by rw [wyse_size]; omega
   have hnx : ∀ ty, (Instr.next (.pointer (some ⟨w.heap.size, 0, none⟩)) true ty).run Tryz.prog wr = _ := fun ty => Lib.run_next_any_at wr w.heap.size wyseS (3 * k) ty hit hp
   rw [wyse_decode k hlt] at hnx
   have hT2 := hT.to (Lib.iterAt_other wr w.heap.size b wyseS (3 * k + 3) (by omega))
   have hit2 := Lib.iterAt_heap wr w.heap.size wyseS (3 * k) (3 * k + 3) hit
   have hK2 := kept_iterAt hK (k := w.heap.size) (by simp) wyseS (3 * k + 3)
   have e3 : ((wyseL.getD k 0).toNat : Int) = wyseL.getD k 0 := by have := wyse_pos k hlt; omega
   dsimp only at hnx
   rw [e3] at hnx
   generalize wr.iterAt w.heap.size wyseS (3 * k + 3) = W2 at *
   have c0 := hT2.2 (48 + k) (by omega)
   obtain ⟨_, _, z0⟩ := hT2.1.blk.get (48 + k) (by omega)
   have hl := hT2.1.blk.lt
   have q2 : ¬ ((48 + k : Nat) : Int) < 0 := by omega
   have q1 : ((48 + k : Nat) : Int) < 256 := by omega
   clear hT hK hit hp
   obtain ⟨x, hx⟩ : ∃ x, x = wyseL.getD k 0 := ⟨_, rfl⟩
   rw [← hx] at e3 hnx
   have HX := Lib.hid hx
   clear hx
   go_wp2_with fail
   have hT3 : TabG (W2.setCell ⟨b, 48 + k, none⟩ (.int .i32 x)) b (wyseK (k + 1)) := (hT2.set (i := 48 + k) (by omega) x).cong (fun j _ => by rw [HX.out]; exact wyseK_next k j)
   have hit3 : (W2.setCell ⟨b, 48 + k, none⟩ (.int .i32 x)).heap[w.heap.size]? = some (.stringIter wyseS (3 * (k + 1))) := by rw [Below.heap_setCell _ _ _ _ (by simp; omega)]; exact hit2
   have hK3 := hK2.set (p := ⟨b, 48 + k, none⟩) (by simp) (.int .i32 x)
   clear hT2 hit2 hK2 hnx HX c0 z0
   generalize W2.setCell ⟨b, 48 + k, none⟩ (.int .i32 x) = W3 at *
   refine ⟨⟨k + 1, by omega, by rw [show (48 + (k : Int) + 1) = ((48 + (k + 1) : Nat) : Int) from by omega], hit3, hT3, hK3⟩, by simp [intOf]; omega⟩
  ·obtain rfl : k = 16 := by omega
   have hnx : ∀ ty, (Instr.next (.pointer (some ⟨w.heap.size, 0, none⟩)) true ty).run Tryz.prog wr = _ := fun ty => Lib.run_next_end_at wr w.heap.size wyseS (3 * 16) ty hit (by rw [wyse_size]; decide)
   go_wp2_with fail
   go_end0
   exact ⟨rfl, hT.cong wyseK_all, hK⟩
theorem of_any (set : Int) (hs : set = 1 ∨ set = 4) (w : World) : Calls Tryz.prog 57 #[.int .i64 set] w fun e w' => ∃ b, e = .returned (.pointer (some ⟨b, 0, none⟩)) ∧ w.heap.size ≤ b ∧ TabG w' b (tabT set) ∧ Below w.heap.size w w' := by
 have HA := Lib.hid (fun W => ascii_any W)
 rcases hs with rfl | rfl
 ·go_enter Tryz.func57, Tryz.ntmps57
  go_wp2_with fail
  refine (HA.out _).mono ?_
  rintro e w1 ⟨b, rfl, hb, hT, b1⟩
  go_wp2_with fail
  go_ret
  exact ⟨_, rfl, hb, hT, b1⟩
 ·go_enter Tryz.func57, Tryz.ntmps57
  go_wp2_with fail
  refine (HA.out _).mono ?_
  rintro e w1 ⟨b, rfl, hb, hT, b1⟩
  go_wp2_with fail
  refine (lay_wyse w1 b hT).mono ?_
  rintro e w2 ⟨rfl, hT2, hK2⟩
  go_wp2_with fail
  go_ret
  exact ⟨_, rfl, hb, hT2, b1.trans (hK2.less (K' := fun k => k < w.heap.size) (fun k hk => ⟨Nat.lt_of_lt_of_le hk b1.size, by have : k < w.heap.size := hk; omega⟩)).below⟩
theorem Of_any (set : Int) (hs : set = 1 ∨ set = 4) (x : Nat) (hx : x < 256) (w : World) : Fn w 81 #[.int .i64 set, .int .u8 (x : Int)] (.int .i32 (tabT set x)) := by
 have HA := Lib.hid (fun W => of_any set hs W)
 clear hs
 go_enter Tryz.func81, Tryz.ntmps81
 go_wp2_with fail
 refine (HA.out _).mono ?_
 rintro e w1 ⟨b, rfl, hb, hT, b1⟩
 have c0 := hT.2 x hx
 have hl := hT.1.blk.lt
 have q1 : (x : Int) < 256 := by omega
 have q2 : ¬ (x : Int) < 0 := by omega
 clear HA hT
 go_wp2_with fail
 go_ret
 exact ⟨rfl, b1⟩
theorem All_any (set : Int) (w : World) : Calls Tryz.prog 29 #[.int .i64 set] w fun e w' => e = .returned (.func (.func 56) #[] #[.pointer (some ⟨w.heap.size, 0, none⟩)]) ∧ w' = w.alloc (.cells #[.int .i64 set] 3) := by
 go_enter Tryz.func29, Tryz.ntmps29
 go_wp2_with fail
 go_ret
 exact ⟨rfl, rfl⟩
end Go.Proofs.YtpjooboohelffaaGreatDoor
/- Top: the glyphs' iterator, and Back. -/
namespace Go.Proofs.YtpjooboohelffaaGreatDoor
open Go.RowKit Go.Shelf
set_option linter.unusedVariables false
set_option linter.unusedSimpArgs false
set_option maxRecDepth 100000
attribute [local go_sem] Oper.semAt_some
theorem TabG.keeps {W W' : World} {b : Nat} {T : Nat → Int} (h : TabG W b T) (hk : KeepsT 166 W W') : TabG W' b T := by
 obtain ⟨cs, hh, hs⟩ := id h.1
 exact h.to ((hk.2 b cs hh).trans hh.symm)
/-- The glyphs of a table, up to a byte. -/
def entsG (T : Nat → Int) (k : Nat) : List (Nat × Int) := ((List.range k).map fun b => (b, T b)).filter fun y => decide (y.2 ≠ 65533)
theorem entsG_yes {T : Nat → Int} {k : Nat} (h : T k ≠ 65533) : entsG T (k + 1) = entsG T k ++ [(k, T k)] := by simp [entsG, List.range_succ, List.filter_append, h]
theorem entsG_no {T : Nat → Int} {k : Nat} (h : T k = 65533) : entsG T (k + 1) = entsG T k := by simp [entsG, List.range_succ, List.filter_append, h]
theorem entsG_pre (T : Nat → Int) {k n : Nat} (h : k ≤ n) : ∃ t, entsG T n = entsG T k ++ t := by
 obtain ⟨d, rfl⟩ := Nat.exists_eq_add_of_le h
 clear h
 induction d with
 | zero => exact ⟨[], by simp⟩
 | succ d ih =>
  obtain ⟨t, ht⟩ := ih
  by_cases hT : T (k + d) = 65533
  ·exact ⟨t, by rw [← Nat.add_assoc, entsG_no hT, ht]⟩
  ·exact ⟨t ++ [(k + d, T (k + d))], by rw [← Nat.add_assoc, entsG_yes hT, ht, List.append_assoc]⟩
theorem entsG_len (T : Nat → Int) (k : Nat) : (entsG T k).length ≤ k := by
 refine Nat.le_trans (List.length_filter_le _ _) ?_
 simp
theorem gets_ents (T : Nat → Int) (k : Nat) (g : Int) : gets T k g = ((entsG T k).find? fun y => decide (y.2 = g)).map (·.1) := by
 induction k with
 | zero => rfl
 | succ k ih =>
  unfold gets at *
  rw [List.range_succ, List.find?_append, ih]
  by_cases hT : T k = 65533
  ·rw [entsG_no hT]; simp [hT]
  ·rw [entsG_yes hT, List.find?_append]
   by_cases hg : T k = g <;> cases (entsG T k).find? (fun y => decide (y.2 = g)) <;> simp_all
def encG (y : Nat × Int) : Array Value := #[.int .u8 (y.1 : Int), .int .i32 y.2]
set_option maxHeartbeats 1000000 in
theorem gall_iter (n : Nat) (hn : 1 ≤ n) (Bx B : Nat) (set : Int) (hset : set = 1 ∨ set = 4) (I : List (Nat × Int) → World → Prop) (Kp : World → World → Prop) (W0 : World)
  (hIs : ∀ pre X X', I pre X → Below X.heap.size X X' → I pre X')
  (hIc : ∀ pre X, I pre X → X.cell? ⟨Bx, 0, none⟩ = some (.int .i64 set))
  (hKp : ∀ X X', Kp X X' → KeepsT 166 X X') :
  Iterates Tryz.prog n (n - 1) 56 #[.pointer (some ⟨Bx, 0, none⟩)] encG (fun ys => ys = entsG (tabT set) 256) (fun _ => True) (fun pre y => ∃ t, entsG (tabT set) 256 = pre ++ y :: t) 256 B I Kp W0 := by
 intro l J Jx hJ0 hJk _ hJI hY
 have hJs : ∀ s X X', J s X → Below X.heap.size X X' → J s X' := fun s X X' hj hb => hJk s X X' hj (hIs _ _ _ (hJI _ _ hj) hb) (keepsB hb)
 have cx := hIc _ _ (hJI _ _ hJ0)
 have HS := Lib.hid (of_any set hset W0)
 have HJ := Lib.hid hJ0
 have HJs := Lib.hid hJs
 have HY := Lib.hid hY
 have HKp := Lib.hid hKp
 clear hJ0 hJs hY hKp hJk hJI hIs hIc
 refine callsIn_of_wp Tryz.func56 rfl trivial ?_ rfl
 simp only [Tryz.ntmps56, List.size_toArray, List.length_cons, List.length_nil, Nat.reduceAdd, Nat.reduceSub, Array.replicate_succ, Array.replicate_zero, List.push_toArray, List.append_toArray, List.nil_append, List.cons_append]
 gi_wp2_with (refine ⟨trivial, ?_⟩; gi_at_call 57; refine (callsIn_wide.2 HS.out).mono ?_; rintro e w1 ⟨b, rfl, hb, hT, b1⟩; have HJ1 := Lib.hid (HJs.out _ _ _ HJ.out b1); have HT := Lib.hid hT; clear hT b1)
 clear cx HS HJ hset
 gi_loopw [7] (fun i wr => ∃ k : Nat, k ≤ 256 ∧ i = .int .i64 (k : Int) ∧ J (entsG (tabT set) k) wr ∧ TabG wr b (tabT set)) (fun i _ => 256 - (intOf i).toNat)
 case atStart => exact ⟨0, by decide, rfl, HJ1.out, HT.out⟩
 case round =>
  obtain ⟨k, hk, rfl, hJr, hT⟩ := hrel
  by_cases hlt : k < 256
  ·have q1 : (k : Int) < 256 := by omega
   have q2 : ¬ (k : Int) < 0 := by omega
   have c0 := hT.2 k hlt
   have hl := hT.1.blk.lt
   have hu8 : IntKind.u8.wrap (k : Int) = (k : Int) := by rw [IntKind.wrap_u8]; omega
   have HTr := Lib.hid hT
   have HJr := Lib.hid hJr
   clear hT hJr HT HJ1
   by_cases hx : tabT set k = 65533
   ·have HX := Lib.hid hx
    rw [hx] at c0
    gi_wp2_with fail
    refine (wpIn_wide (n := n)).2 ?_
    go_region
    all_goals
     gi_wp2_with fail
     refine ⟨fun f hf => (by cases hf), ?_⟩
     gi_wp2_with fail
     go_roundw
     case rel => exact ⟨k + 1, by omega, by go_num, by rw [entsG_no HX.out]; exact HJs.out _ _ _ HJr.out ((Below.refl _ _).drew), HTr.out.later ((Below.refl _ _).drew)⟩
     case measure => simp [intOf]; omega
   ·have HX := Lib.hid hx
    obtain ⟨t, ht⟩ := entsG_pre (tabT set) (show k + 1 ≤ 256 from hlt)
    rw [entsG_yes hx, List.append_assoc] at ht
    obtain ⟨fn, tmps, assign, body, hy, hR⟩ := HY.out _ (k, tabT set k) wr.drew (HJs.out _ _ _ HJr.out ((Below.refl _ _).drew)) (Nat.lt_of_le_of_lt (entsG_len _ _) hlt) ⟨t, ht⟩
    have hR' := (roundIn_any (m := n - 1) hR).mono (R' := fun e X' => ∃ r : Bool, e = .returned (.bool r) ∧ Hid ((r = true ∧ J (entsG (tabT set) (k + 1)) X' ∧ KeepsT 166 wr.drew X') ∨ (r = false ∧ ∃ p2, Jx p2 X'))) (fun e X' h => by
     rcases h with ⟨rfl, a, c⟩ | ⟨rfl, a⟩
     ·exact ⟨true, rfl, .inl ⟨rfl, by rw [entsG_yes hx]; exact a, HKp.out _ _ c⟩⟩
     ·exact ⟨false, rfl, .inr ⟨rfl, _, a⟩⟩)
    simp only [encG] at hy
    clear hR ht
    generalize tabT set k = x at *
    have dd : (x != 65533) = true := by simp [hx]
    gi_wp2_with fail
    refine (wpIn_wide (n := n)).2 ?_
    go_region
    all_goals
     gi_wp2_with fail
     refine hR'.mono ?_
     rintro e W' ⟨r, rfl, hpost⟩
     cases r
     ·rcases hpost with ⟨hr, _⟩ | ⟨-, hJx'⟩
      ·cases hr
      have HJx := Lib.hid hJx'
      clear hJx'
      gi_wp2_with fail
      refine bodyPost_ret (results_none rfl _ _ _) rfl ?_
      obtain ⟨p2, hp2⟩ := HJx.out
      exact ⟨⟨_, rfl⟩, .inr ⟨p2, trivial, hp2⟩⟩
     ·rcases hpost with ⟨-, hJ', hk'⟩ | ⟨hr, _⟩
      rotate_left
      ·cases hr
      have HJ' := Lib.hid hJ'
      have Hk' := Lib.hid hk'
      clear hJ' hk'
      gi_wp2_with fail
      go_roundw
      case rel => exact ⟨k + 1, by omega, by go_num, HJ'.out, HTr.out.keeps ((KeepsT.ofBelow ((Below.refl _ _).drew)).trans Hk'.out)⟩
      case measure => simp [intOf]; omega
  ·obtain rfl : k = 256 := by omega
   have HJr := Lib.hid hJr
   clear hJr
   gi_wp2_with fail
   go_end0
   exact ⟨⟨_, rfl⟩, .inl ⟨_, rfl, HJr.out⟩⟩
end Go.Proofs.YtpjooboohelffaaGreatDoor
/- Top: glyph.Back. -/
namespace Go.Proofs.YtpjooboohelffaaGreatDoor
open Go.RowKit Go.Shelf
set_option linter.unusedVariables false
set_option linter.unusedSimpArgs false
set_option maxRecDepth 100000
attribute [local go_sem] Oper.semAt_some
theorem genT {c : Code} {F : Fence} {n : Nat} {P : Program} {Q : Exit → Act → World → Prop} {a : Act} {w : World} (h : ∀ T, T = a.tmps → c.wpIn F n P Q { tmps := T, defers := a.defers } w) : c.wpIn F n P Q a w := h a.tmps rfl
theorem bel_setw {B : Nat} {w W : World} (h : Below B w W) {p : Addr} (hp : B ≤ p.block) (u : Value) : Below B w (W.setCell p u) := h.setCell hp u
/-- What Back answers. -/
def backV (set g : Int) : Value := match gets (tabT set) 256 g with
 | some b => .tuple #[.int .u8 (b : Int), .bool true]
 | none => .tuple #[.int .u8 0, .bool false]
theorem gets_in {T : Nat → Int} {n : Nat} {g : Int} {b : Nat} (h : gets T n g = some b) : b < n := by
 have := List.mem_of_find?_eq_some h
 simpa using this
set_option maxHeartbeats 1000000 in
theorem Back_any (set : Int) (hset : set = 1 ∨ set = 4) (g : Int) (w : World) : Fn w 11 #[.int .i64 set, .int .i32 g] (backV set g) := by
 obtain ⟨v, hv⟩ : ∃ v, v = backV set g := ⟨_, rfl⟩
 rw [← hv]
 have HV := Lib.hid hv
 clear hv
 refine (callsIn_wide (n := 3)).1 (callsIn_of_wp_marks Tryz.func11 rfl trivial ?_ rfl)
 simp only [Tryz.ntmps11, List.size_toArray, List.length_cons, List.length_nil, Nat.reduceAdd, Nat.reduceSub, Array.replicate_succ, Array.replicate_zero, List.push_toArray, List.append_toArray, List.nil_append, List.cons_append]
 have HA := Lib.hid (fun W => All_any set W)
 gi_wp2_with (refine ⟨trivial, ?_⟩; gi_at_call 29; refine (callsIn_wide.2 (HA.out _)).mono ?_; rintro e w1 ⟨rfl, rfl⟩)
 obtain ⟨w2, hw2⟩ : ∃ w2, (((w.alloc (Obj.cells #[Value.int IntKind.i32 g] 21)).alloc (Obj.cells #[Value.int IntKind.u8 0] 5)).alloc (Obj.cells #[Value.bool false] 4)).alloc (.cells #[.int .i64 set] 3) = w2 := ⟨_, rfl⟩
 have hB : Below w.heap.size w w2 := by rw [← hw2]; exact bel_alloc (bel_alloc (bel_alloc (bel_alloc (Below.refl _ _) _) _) _) _
 have f0 : w2.cell? ⟨w.heap.size, 0, none⟩ = some (.int .i32 g) := by rw [← hw2]; simp [go_sem]
 have f3 : w2.cell? ⟨w.heap.size + 1 + 1 + 1, 0, none⟩ = some (.int .i64 set) := by rw [← hw2]; simp [go_sem]
 have f1 : Blk w2 (w.heap.size + 1) 1 ∧ Blk w2 (w.heap.size + 1 + 1) 1 := by rw [← hw2]; exact ⟨((Blk.new (by simp) rfl).alloc _).alloc _, (Blk.new (by simp) rfl).alloc _⟩
 have hz : w2.heap.size = w.heap.size + 4 := by rw [← hw2]; simp
 rw [hw2]
 have F0 := Lib.hid f0
 have F1 := Lib.hid f1
 have F3 := Lib.hid f3
 have HB := Lib.hid hB
 have Hz := Lib.hid hz
 have Hset := Lib.hid hset
 clear hw2 f0 f1 f3 hB hz HA hset
 refine genT ?_
 intro T hT
 simp only at hT
 refine range_law (n := 2) (m := 1) (gf := 56) (lb := #[.pointer (some ⟨w.heap.size + 1 + 1 + 1, 0, none⟩)]) (by rw [hT]; rfl) (enters_of Tryz.func56 (by kernel_rfl) rfl) (encs := encG) (fun _ => rfl)
  (S := fun ys => ys = entsG (tabT set) 256) (Sp := fun _ => True) (V := fun pre y => ∃ t, entsG (tabT set) 256 = pre ++ y :: t) (N := 256) (Kp := KeepsT 166) KeepsT.trans (fun W l o o' _ hl ho _ => KeepsT.putObj W l o o' hl ho)
  (fun pre W => (∀ y ∈ pre, y.2 ≠ g) ∧ Below w2.heap.size w2 W)
  (fun c pre W => (c = .ret ∧ ∃ pre' y, (∃ t, entsG (tabT set) 256 = pre' ++ [y] ++ t) ∧ (∀ y ∈ pre', y.2 ≠ g) ∧ y.2 = g ∧ W.cell? ⟨w.heap.size + 1, 0, none⟩ = some (.int .u8 (y.1 : Int)) ∧ W.cell? ⟨w.heap.size + 1 + 1, 0, none⟩ = some (.bool true)) ∧ Below w.heap.size w2 W)
  ?hI ?hIx ⟨by simp, Below.refl _ _⟩
  (fun y a' W => a' = { tmps := (((T.setIfInBounds 10 (.int .u8 (y.1 : Int))).setIfInBounds 11 (.int .i32 y.2)).setIfInBounds 6 (.int .u8 (y.1 : Int))).setIfInBounds 7 (.int .i32 y.2), defers := [] })
  ?hAx ?hit ?assign ?body ?done ?stop
 case hI => exact fun s W W' row h hg hr => ⟨h.1, ownFrom_below (β := Unit) (B := w2.heap.size) (w₀ := w2) (Nat.le_refl _) (Nat.le_refl _) () W W' row h.2 hg hr⟩
 case hIx =>
  rintro c pre W W' row ⟨⟨rfl, pre', y, ht, ho, hy, k0, k1⟩, hb⟩ hg hr
  exact ⟨⟨rfl, pre', y, ht, ho, hy, cell_kept k0 hg (fun r e => (hr r e).2), cell_kept k1 hg (fun r e => (hr r e).2)⟩, ownFrom_below (β := Unit) (B := w2.heap.size) (w₀ := w2) (by have := Hz.out; omega) (by have := Hz.out; omega) () W W' row hb hg hr⟩
 case hAx => exact fun x a' _ W W' row e _ _ => e
 case hit =>
  rintro W0 ⟨o, o', _, _, rfl⟩ hI0
  refine gall_iter 2 (by decide) (w.heap.size + 1 + 1 + 1) w2.heap.size set Hset.out _ _ _ (fun pre X X' h hb => ⟨h.1, bel_call h.2 hb⟩) (fun pre X h => cellB h.2 F3.out) (fun _ _ h => h)
 case assign =>
  rintro l pre x W K ⟨hp, hW⟩ hK
  subst hT
  simp only [encG]
  gi_wp2
  exact hK _ _ (keepsB (Below.refl _ _)) (KeepsT.refl _ _) ⟨hp, hW⟩ rfl
 case body =>
  rintro l pre x a' W ⟨hp, hW⟩ rfl hlen ⟨t, ht⟩
  subst hT
  have c3 := cellB hW F0.out
  obtain ⟨_, c4, z4⟩ := (F1.out.1.later hW).get 0 (by decide)
  obtain ⟨_, c5, z5⟩ := (F1.out.2.later hW).get 0 (by decide)
  have l3 := World.block_lt_of_cell? _ ⟨_, _, none⟩ c3
  have HWh := Lib.hid hW
  have Hp := Lib.hid hp
  have Hht := Lib.hid ht
  clear hW hp ht
  obtain ⟨x1, x2⟩ := x
  by_cases hx : x2 = g
  ·subst hx
   gi_wp2_with fail
   have z0 : ((W.setCell ⟨w.heap.size + 1, 0, none⟩ (.int .u8 (x1 : Int))).setCell ⟨w.heap.size + 1 + 1, 0, none⟩ (.bool true)).cell? ⟨w.heap.size + 1, 0, none⟩ = some (.int .u8 (x1 : Int)) := by
    rw [World.cell?_setCell_other _ _ _ _ (by simp)]
    exact World.cell?_setCell_same' _ _ _ (by rw [c4]; rfl)
   have z1 : ((W.setCell ⟨w.heap.size + 1, 0, none⟩ (.int .u8 (x1 : Int))).setCell ⟨w.heap.size + 1 + 1, 0, none⟩ (.bool true)).cell? ⟨w.heap.size + 1 + 1, 0, none⟩ = some (.bool true) :=
    World.cell?_setCell_same' _ _ _ (by rw [World.cell?_setCell_other _ _ _ _ (by simp), c5]; rfl)
   refine ⟨((KeepsOthers.setCell _ _ _).trans (KeepsOthers.setCell _ _ _)).from _, ⟨rfl, pre, x1, x2, ⟨t, Hht.out.trans (by simp)⟩, ?_, rfl, z0, z1⟩, bel_setw (bel_setw (HWh.out.mono (by have := Hz.out; omega)) (by first | omega | (simp only []; omega) | (simp; done)) _) (by first | omega | (simp only []; omega) | (simp; done)) _⟩
   first | exact Hp.out | exact fun a b h => Hp.out (a, b) h
  ·have HX := Lib.hid hx
   gi_wp2_with fail
   refine ⟨keepsB (Below.refl _ _), KeepsT.refl _ _, ?_, HWh.out⟩
   have hall : ∀ y ∈ pre ++ [(x1, x2)], y.2 ≠ g := fun y hy => by
    rcases List.mem_append.1 hy with h | h
    ·exact Hp.out y h
    ·simp at h; rw [h]; exact HX.out
   first | exact hall | exact fun a b h => hall (a, b) h
 case done =>
  rintro D ys W hD rfl ⟨hp, hW⟩ hK
  subst hT
  obtain ⟨_, c4, z4⟩ := (F1.out.1.later hW).get 0 (by decide)
  obtain ⟨_, c5, z5⟩ := (F1.out.2.later hW).get 0 (by decide)
  have l4 := World.block_lt_of_cell? _ ⟨_, _, none⟩ c4
  have HWh := Lib.hid hW
  have Hp := Lib.hid hp
  have HK := Lib.hid hK
  clear hW hp hK
  gi_wp2
  have z0 : ((W.setCell ⟨w.heap.size + 1, 0, none⟩ (.int .u8 0)).setCell ⟨w.heap.size + 1 + 1, 0, none⟩ (.bool false)).cell? ⟨w.heap.size + 1, 0, none⟩ = some (.int .u8 0) := by
   rw [World.cell?_setCell_other _ _ _ _ (by simp)]
   exact World.cell?_setCell_same' _ _ _ (by rw [c4]; rfl)
  have z1 : ((W.setCell ⟨w.heap.size + 1, 0, none⟩ (.int .u8 0)).setCell ⟨w.heap.size + 1 + 1, 0, none⟩ (.bool false)).cell? ⟨w.heap.size + 1 + 1, 0, none⟩ = some (.bool false) :=
   World.cell?_setCell_same' _ _ _ (by rw [World.cell?_setCell_other _ _ _ _ (by simp), c5]; rfl)
  have hK4 := ((KeepsOthers.setCell W ⟨w.heap.size + 1, 0, none⟩ (.int .u8 0)).trans (KeepsOthers.setCell _ ⟨w.heap.size + 1 + 1, 0, none⟩ (.bool false))).same D _ HK.out rfl
  have hBe : Below w.heap.size w ((W.setCell ⟨w.heap.size + 1, 0, none⟩ (.int .u8 0)).setCell ⟨w.heap.size + 1 + 1, 0, none⟩ (.bool false)) :=
   bel_setw (bel_setw (HB.out.trans (HWh.out.mono (by have := Hz.out; omega))) (by first | omega | (simp only []; omega) | (simp; done)) _) (by first | omega | (simp only []; omega) | (simp; done)) _
  generalize (W.setCell ⟨w.heap.size + 1, 0, none⟩ (.int .u8 0)).setCell ⟨w.heap.size + 1 + 1, 0, none⟩ (.bool false) = X at *
  refine ⟨by simp, .inl ⟨_, _, rfl, run_takeDeferred hK4, ?_⟩⟩
  have hpr : v = .tuple #[.int .u8 0, .bool false] := by
   have := HV.out
   unfold backV at this
   rw [gets_ents, List.find?_eq_none.2 (fun p hp => by simpa using Hp.out p hp)] at this
   exact this
  have y0 := cell_kept z0 (grownBy_putObj' _ D (.deferred none)) (fun r e => by cases e; exact ⟨_, hK4, rfl⟩)
  have y1 := cell_kept z1 (grownBy_putObj' _ D (.deferred none)) (fun r e => by cases e; exact ⟨_, hK4, rfl⟩)
  refine ⟨.tuple #[.int .u8 0, .bool false], by simp [results, Tryz.results11, go_sem, y0, y1], by rw [hpr], ?_⟩
  exact hBe.grown (grownBy_putObj' X D (.deferred none)) hBe.size (fun k e => by cases e; have := Hz.out; omega)
 case stop =>
  rintro D c pre W hD _ ⟨⟨rfl, pre', y, ⟨t, ht⟩, ho, hy, k0, k1⟩, hb⟩ hK
  subst hT
  gi_wp2
  refine ⟨by simp, .inl ⟨_, _, rfl, run_takeDeferred hK, ?_⟩⟩
  have z0 := cell_kept k0 (grownBy_putObj' _ D (.deferred none)) (fun r e => by cases e; exact ⟨_, hK, rfl⟩)
  have z1 := cell_kept k1 (grownBy_putObj' _ D (.deferred none)) (fun r e => by cases e; exact ⟨_, hK, rfl⟩)
  have hpr : v = .tuple #[.int .u8 (y.1 : Int), .bool true] := by
   have := HV.out
   unfold backV at this
   rw [gets_ents, ht, List.append_assoc, List.find?_append, List.find?_eq_none.2 (fun p hp => by simpa using ho p hp)] at this
   simpa [hy] using this
  refine ⟨.tuple #[.int .u8 (y.1 : Int), .bool true], by simp [results, Tryz.results11, go_sem, z0, z1], by rw [hpr], ?_⟩
  exact (HB.out.trans hb).grown (grownBy_putObj' W D (.deferred none)) (HB.out.trans hb).size (fun k e => by cases e; have := Hz.out; omega)
end Go.Proofs.YtpjooboohelffaaGreatDoor
/- Top: wyse's of: the byte of a glyph. -/
namespace Go.Proofs.YtpjooboohelffaaGreatDoor
open Go.RowKit
set_option linter.unusedVariables false
set_option linter.unusedSimpArgs false
set_option maxRecDepth 100000
def byteOf (g : Int) : Int := match gets asciiT 256 g with
 | some b => (b : Int)
 | none => match gets wyseT 256 g with
  | some b => (b : Int)
  | none => 32
theorem byteOf_shown (g : Int) : 32 ≤ byteOf g ∧ byteOf g ≤ 126 := by
 unfold byteOf
 cases h1 : gets asciiT 256 g with
 | some b => have := gets_shown (.inl rfl) h1; simp only; omega
 | none =>
  cases h2 : gets wyseT 256 g with
  | some b => have := gets_shown (.inr rfl) h2; simp only; omega
  | none => simp only; omega
theorem idx280_0 (w : World) : Sem.run Tryz.prog (Instr.index 280 (.agg #[.int .i64 1, .int .i64 4]) (.int .i64 0)) w = .ok (.int .i64 1) w := by kernel_rfl
theorem idx280_1 (w : World) : Sem.run Tryz.prog (Instr.index 280 (.agg #[.int .i64 1, .int .i64 4]) (.int .i64 1)) w = .ok (.int .i64 4) w := by kernel_rfl
theorem ret_int8 {k : IntKind} {a b : Int} (h : b = a) : Ending.returned (.int k a) = .returned (.int k b) := by rw [h]
theorem backV_some {set g : Int} {b : Nat} (h : gets (tabT set) 256 g = some b) : backV set g = .tuple #[.int .u8 (b : Int), .bool true] := by unfold backV; rw [h]
theorem backV_none {set g : Int} (h : gets (tabT set) 256 g = none) : backV set g = .tuple #[.int .u8 0, .bool false] := by unfold backV; rw [h]
theorem of_w (g : Int) (w : World) : Fn w 170 #[.int .i32 g] (.int .u8 (byteOf g)) := by
 have H1 := Lib.hid (fun W => Back_any 1 (.inl rfl) g W)
 have H4 := Lib.hid (fun W => Back_any 4 (.inr rfl) g W)
 have hi0 := idx280_0
 have hi1 := idx280_1
 obtain ⟨B, hB⟩ : ∃ B, B = byteOf g := ⟨_, rfl⟩
 rw [← hB]
 unfold byteOf at hB
 have HB := Lib.hid hB
 clear hB
 go_enter Tryz.func170, Tryz.ntmps170
 go_wp2_with fail
 go_loopw [8] (fun i wr => ∃ k : Nat, k ≤ 2 ∧ i = .int .i64 (k : Int) ∧ (1 ≤ k → gets (tabT 1) 256 g = none) ∧ (2 ≤ k → gets (tabT 4) 256 g = none) ∧ Below w.heap.size w wr) (fun i _ => 2 - (intOf i).toNat)
 case atStart => exact ⟨0, by decide, rfl, fun h => absurd h (by decide), fun h => absurd h (by decide), Below.refl _ _⟩
 case round =>
  obtain ⟨k, hk, rfl, hn1, hn2, hb⟩ := hrel
  have HN1 := Lib.hid hn1
  have HN2 := Lib.hid hn2
  clear hn1 hn2
  obtain rfl | rfl | rfl : k = 0 ∨ k = 1 ∨ k = 2 := by omega
  ·cases hg : gets (tabT 1) 256 g with
   | some b =>
    have e1 := backV_some hg
    have hg' : gets asciiT 256 g = some b := hg
    have HG := Lib.hid hg'
    clear hg hg'
    go_wp2_with fail
    refine (H1.out _).mono ?_
    rw [e1]
    rintro e w1 ⟨rfl, b1⟩
    go_wp2_with fail
    go_ret
    exact ⟨ret_int8 (by rw [HB.out, HG.out]), bel_call hb b1⟩
   | none =>
    have e1 := backV_none hg
    have HG : Hid (gets (tabT 1) 256 g = none) := Lib.hid hg
    clear hg
    go_wp2_with fail
    refine (H1.out _).mono ?_
    rw [e1]
    rintro e w1 ⟨rfl, b1⟩
    go_wp2_with fail
    go_roundw
    case rel => exact ⟨1, by decide, rfl, (by first | exact fun _ => HG.out | exact fun _ => trivial), fun h => absurd h (by decide), bel_call hb b1⟩
    case measure => simp [intOf]
  ·cases hg : gets (tabT 4) 256 g with
   | some b =>
    have e1 := backV_some hg
    have hg' : gets wyseT 256 g = some b := hg
    have HG := Lib.hid hg'
    have hgn : gets asciiT 256 g = none := HN1.out (by decide)
    have HGn := Lib.hid hgn
    clear hg hg' hgn
    go_wp2_with fail
    refine (H4.out _).mono ?_
    rw [e1]
    rintro e w1 ⟨rfl, b1⟩
    go_wp2_with fail
    go_ret
    exact ⟨ret_int8 (by rw [HB.out, HGn.out]; simp only; rw [HG.out]), bel_call hb b1⟩
   | none =>
    have e1 := backV_none hg
    have HG := Lib.hid hg
    clear hg
    go_wp2_with fail
    refine (H4.out _).mono ?_
    rw [e1]
    rintro e w1 ⟨rfl, b1⟩
    go_wp2_with fail
    go_roundw
    case rel => exact ⟨2, by decide, rfl, fun _ => HN1.out (by decide), (by first | exact fun _ => HG.out | exact fun _ => trivial), bel_call hb b1⟩
    case measure => simp [intOf]
  ·have h1 : gets asciiT 256 g = none := HN1.out (by decide)
   have h2 : gets wyseT 256 g = none := HN2.out (by decide)
   have H1' := Lib.hid h1
   have H2' := Lib.hid h2
   clear h1 h2
   go_wp2_with fail
   go_ret
   exact ⟨ret_int8 (by rw [HB.out, H1'.out]; simp only; rw [H2'.out]), hb⟩
end Go.Proofs.YtpjooboohelffaaGreatDoor
/- Rows of cells in memory, and the contracts of the small functions that look at their lengths: Check, Right, Few. -/
namespace Go.Proofs.YtpjooboohelffaaGreatDoor.F16
open Go.RowKit
set_option linter.unusedVariables false

theorem bcell {W w1 : World} (hb : Below W.heap.size W w1) : (∀ b o, b < W.heap.size → w1.cell? ⟨b, o, none⟩ = W.cell? ⟨b, o, none⟩) ∧ (∀ b o, b < W.heap.size → w1.frozen? ⟨b, o, none⟩ = W.frozen? ⟨b, o, none⟩) :=
 ⟨fun b o h => hb.cell (p := ⟨b, o, none⟩) h, fun b o h => hb.frozen (p := ⟨b, o, none⟩) h⟩
theorem bel_alloc {w W : World} (h : Below w.heap.size w W) (o : Obj) : Below w.heap.size w (W.alloc o) := h.alloc h.size o
theorem bel_call {w W W' : World} (h : Below w.heap.size w W) (k : Below W.heap.size W W') : Below w.heap.size w W' := h.trans (k.mono h.size)
theorem bel_set {w W : World} (h : Below w.heap.size w W) {p : Addr} (hp : w.heap.size ≤ p.block) (u : Value) : Below w.heap.size w (W.setCell p u) := h.setCell hp u
theorem bel_drewN {B : Nat} {a w : World} (h : Below B a w) (n : Nat) : Below B a (w.drewN n) := ⟨h.os, h.tape, h.output, h.size, h.block⟩
theorem ret_str {a b : ByteArray} (h : a = b) : Ending.returned (.string a) = .returned (.string b) := by rw [h]
theorem ret_int {k : IntKind} {a b : Int} (h : a = b) : Ending.returned (.int k a) = .returned (.int k b) := by rw [h]
theorem ret_bool {a b : Bool} (h : a = b) : Ending.returned (.bool a) = .returned (.bool b) := by rw [h]

/-- Rows of cells: how many, how long each, what stands in each cell, and where they lie. -/
structure Grid where
 n : Nat
 a : Option Addr
 cap : Nat
 ra : Nat → Option Addr
 len : Nat → Nat
 rc : Nat → Nat
 gl : Nat → Nat → Int
 tr : Nat → Nat → Int
 gd : Nat → Nat → Bool
 ma : Nat → Nat → Int
def Grid.v (G : Grid) : Value := .slice G.a G.n G.cap
/-- They lie in w, in blocks below B. -/
structure Grid.In (G : Grid) (B : Nat) (w : World) : Prop where
 big : G.n ≤ 9223372036854775807
 rows : 0 < G.n → ∃ b off, G.a = some ⟨b, off, none⟩ ∧ b < B ∧ ∀ i, i < G.n → w.cell? ⟨b, off + i, none⟩ = some (.slice (G.ra i) (G.len i) (G.rc i))
 lens : ∀ i, i < G.n → G.len i ≤ 9223372036854775807
 cells : ∀ i, i < G.n → 0 < G.len i → ∃ rb ro, G.ra i = some ⟨rb, ro, none⟩ ∧ rb < B ∧ ∀ j, j < G.len i →
  w.cell? ⟨rb, ro + j * 4, none⟩ = some (.int .i32 (G.gl i j)) ∧ w.cell? ⟨rb, ro + j * 4 + 1, none⟩ = some (.int .i64 (G.tr i j)) ∧
  w.cell? ⟨rb, ro + j * 4 + 2, none⟩ = some (.bool (G.gd i j)) ∧ w.cell? ⟨rb, ro + j * 4 + 3, none⟩ = some (.int .i64 (G.ma i j))
 glyphs : ∀ i, i < G.n → ∀ j, j < G.len i → -2147483648 ≤ G.gl i j ∧ G.gl i j ≤ 2147483647
theorem Grid.In.later {G : Grid} {B B' : Nat} {w w' : World} (h : G.In B w) (hb : Below B w w') (hB : B ≤ B') : G.In B' w' := by
 refine ⟨h.big, fun h0 => ?_, h.lens, fun i hi h0 => ?_, h.glyphs⟩
 ·obtain ⟨b, off, e, hlt, hc⟩ := h.rows h0
  exact ⟨b, off, e, by omega, fun i hi => (hb.cell (p := ⟨b, off + i, none⟩) hlt).trans (hc i hi)⟩
 ·obtain ⟨b, off, e, hlt, hc⟩ := h.cells i hi h0
  refine ⟨b, off, e, by omega, fun j hj => ?_⟩
  obtain ⟨c0, c1, c2, c3⟩ := hc j hj
  exact ⟨(hb.cell (p := ⟨b, _, none⟩) hlt).trans c0, (hb.cell (p := ⟨b, _, none⟩) hlt).trans c1, (hb.cell (p := ⟨b, _, none⟩) hlt).trans c2, (hb.cell (p := ⟨b, _, none⟩) hlt).trans c3⟩
/-- What rows may be. -/
def Grid.good (G : Grid) (i : Nat) : Prop := 1 ≤ G.len i ∧ G.len i ≤ 255 ∧ G.len i = G.len 0
instance (G : Grid) (i : Nat) : Decidable (G.good i) := by unfold Grid.good; infer_instance
def Grid.Ok (G : Grid) : Prop := 1 ≤ G.n ∧ G.n ≤ 255 ∧ ∀ i, i < G.n → G.good i
open Classical in
noncomputable def Grid.okB (G : Grid) : Bool := decide G.Ok

def errOf (b : Bool) : Int := if b then 0 else 10
theorem okB_yes {G : Grid} (h : G.Ok) : G.okB = true := by simp [Grid.okB, h]
theorem not_okB {G : Grid} (h : ¬ G.Ok) : G.okB = false := by simp [Grid.okB, h]
theorem check_any (G : Grid) (w : World) (h : G.In w.heap.size w) : Fn w 37 #[G.v] (.int .i64 (errOf G.okB)) := by
 have hbig := h.big
 unfold Fn Grid.v
 by_cases h1 : G.n < 1
 ·rw [not_okB (fun e => by have := e.1; have := e.2.1; omega)]
  have h1' : (G.n : Int) < 1 := by omega
  go_enter Tryz.func37, Tryz.ntmps37
  go_wp2
  go_ret
  exact ⟨rfl, Below.refl _ _⟩
 by_cases h2 : 255 < G.n
 ·rw [not_okB (fun e => by have := e.1; have := e.2.1; omega)]
  have h1' : ¬ (G.n : Int) < 1 := by omega
  have h2' : 255 < (G.n : Int) := by omega
  go_enter Tryz.func37, Tryz.ntmps37
  go_wp2
  go_ret
  exact ⟨rfl, Below.refl _ _⟩
 obtain ⟨b, off, ea, hb, hc⟩ := h.rows (by omega)
 have c0 := hc 0 (by omega)
 simp only [Nat.add_zero] at c0
 rw [ea]
 have Hc := Lib.hid hc
 have Hl := Lib.hid h.lens
 have l0 := h.lens 0 (by omega)
 clear hc h ea
 go_enter Tryz.func37, Tryz.ntmps37
 go_wp2
 go_loop [4, 15] (fun _ i => ∃ k : Nat, k ≤ G.n ∧ i = .int .i64 k ∧ ∀ j, j < k → G.good j) (fun _ i => G.n - (intOf i).toNat)
 case atStart => exact ⟨0, Nat.zero_le _, rfl, fun j hj => absurd hj (by omega)⟩
 case round =>
  obtain ⟨k, hk, rfl, hg⟩ := hrel
  have Hg := Lib.hid hg
  clear hg
  by_cases hlt : k < G.n
  ·have ck := Hc.out k hlt
   have lk := Hl.out k hlt
   by_cases g : G.good k
   ·obtain ⟨g1, g2, g3⟩ := g
    have g1' : ¬ (G.len k : Int) < 1 := by omega
    have g2' : ¬ 255 < (G.len k : Int) := by omega
    have g3' : ((G.len k : Int) != (G.len 0 : Int)) = false := by simp; omega
    have G3 := Lib.hid g3
    clear g3
    go_wp2
    go_round
    case rel => exact ⟨k + 1, by omega, by go_num, fun j hj => by
     by_cases e : j < k
     ·exact Hg.out j e
     ·obtain rfl : j = k := by omega
      exact ⟨g1, g2, G3.out⟩⟩
    case measure => simp [intOf]; omega
   ·have hno : G.okB = false := not_okB fun e => g (e.2.2 k hlt)
    have Hno := Lib.hid hno
    clear hno
    by_cases g1 : G.len k < 1
    ·have g1' : (G.len k : Int) < 1 := by omega
     go_wp2
     go_ret
     exact ⟨ret_int (by rw [Hno.out]; rfl), Below.refl _ _⟩
    ·by_cases g2 : 255 < G.len k
     ·have g1' : ¬ (G.len k : Int) < 1 := by omega
      have g2' : 255 < (G.len k : Int) := by omega
      go_wp2
      go_ret
      exact ⟨ret_int (by rw [Hno.out]; rfl), Below.refl _ _⟩
     ·have g3 : ¬ G.len k = G.len 0 := fun e => g ⟨by omega, by omega, e⟩
      have g1' : ¬ (G.len k : Int) < 1 := by omega
      have g2' : ¬ 255 < (G.len k : Int) := by omega
      have g3' : ((G.len k : Int) != (G.len 0 : Int)) = true := by simp; omega
      clear g g3
      go_wp2
      go_ret
      exact ⟨ret_int (by rw [Hno.out]; rfl), Below.refl _ _⟩
  ·have hok : G.okB = true := okB_yes ⟨by omega, by omega, fun i hi => Hg.out i (by omega)⟩
   have Hno := Lib.hid hok
   clear hok
   go_wp2
   go_ret
   exact ⟨ret_int (by rw [Hno.out]; rfl), Below.refl _ _⟩


/-- Rows are not too many, nor too long, for what is asked. -/
def Grid.Few (G : Grid) : Prop := G.n ≤ 30 ∧ ∀ i, i < G.n → G.len i ≤ 40
open Classical in
noncomputable def Grid.fewB (G : Grid) : Bool := decide G.Few
end Go.Proofs.YtpjooboohelffaaGreatDoor.F16
/- The contracts of there, There, number. -/
namespace Go.Proofs.YtpjooboohelffaaGreatDoor.F16
open Go.RowKit
set_option linter.unusedVariables false

/-- Is a place there? (of rows that may be) -/
def Grid.thereP (G : Grid) (r c : Int) : Prop := 0 ≤ r ∧ r < G.n ∧ 0 ≤ c ∧ c < G.len 0
instance (G : Grid) (r c : Int) : Decidable (G.thereP r c) := by unfold Grid.thereP; infer_instance
def Grid.thereB (G : Grid) (r c : Int) : Bool := decide (G.thereP r c)
theorem thereB_iff {G : Grid} {r c : Int} : G.thereB r c = true ↔ G.thereP r c := by simp [Grid.thereB]
set_option maxHeartbeats 1000000 in
theorem there_0 (G : Grid) (r c : Int) (w : World) (h : G.In w.heap.size w) (hn : 0 < G.n) (h0 : ¬ (0 : Int) ≤ r) : Fn w 38 #[G.v, .agg #[.int .i64 r, .int .i64 c]] (.bool false) := by
 have hbig := h.big
 unfold Fn
 obtain ⟨b, off, ea, hb, hc⟩ := h.rows hn
 have c0 := hc 0 hn
 simp only [Nat.add_zero] at c0
 have l0 := h.lens 0 hn
 have q0 : (0 : Int) < (G.n : Int) := by omega
 clear hc h
 have d0 : decide ((0 : Int) ≤ r) = false := by simpa using h0
 unfold Grid.v
 rw [ea]
 clear ea
 go_enter Tryz.func38, Tryz.ntmps38
 go_wp2_with fail
 go_quiet (fail)
 go_wp2
 go_ret
 exact ⟨rfl, by repeat (first | exact Below.refl _ _ | refine bel_alloc ?_ _ | refine bel_drewN ?_ _)⟩
set_option maxHeartbeats 1000000 in
theorem there_1 (G : Grid) (r c : Int) (w : World) (h : G.In w.heap.size w) (hn : 0 < G.n) (h0 : (0 : Int) ≤ r) (h1 : ¬ r < (G.n : Int)) : Fn w 38 #[G.v, .agg #[.int .i64 r, .int .i64 c]] (.bool false) := by
 have hbig := h.big
 unfold Fn
 obtain ⟨b, off, ea, hb, hc⟩ := h.rows hn
 have c0 := hc 0 hn
 simp only [Nat.add_zero] at c0
 have l0 := h.lens 0 hn
 have q0 : (0 : Int) < (G.n : Int) := by omega
 clear hc h
 have d0 : decide ((0 : Int) ≤ r) = true := by simpa using h0
 have d1 : decide (r < (G.n : Int)) = false := by simpa using h1
 unfold Grid.v
 rw [ea]
 clear ea
 go_enter Tryz.func38, Tryz.ntmps38
 go_wp2_with fail
 go_quiet (fail)
 go_wp2
 go_ret
 exact ⟨rfl, by repeat (first | exact Below.refl _ _ | refine bel_alloc ?_ _ | refine bel_drewN ?_ _)⟩
set_option maxHeartbeats 1000000 in
theorem there_2 (G : Grid) (r c : Int) (w : World) (h : G.In w.heap.size w) (hn : 0 < G.n) (h0 : (0 : Int) ≤ r) (h1 : r < (G.n : Int)) (h2 : ¬ (0 : Int) ≤ c) : Fn w 38 #[G.v, .agg #[.int .i64 r, .int .i64 c]] (.bool false) := by
 have hbig := h.big
 unfold Fn
 obtain ⟨b, off, ea, hb, hc⟩ := h.rows hn
 have c0 := hc 0 hn
 simp only [Nat.add_zero] at c0
 have l0 := h.lens 0 hn
 have q0 : (0 : Int) < (G.n : Int) := by omega
 clear hc h
 have d0 : decide ((0 : Int) ≤ r) = true := by simpa using h0
 have d1 : decide (r < (G.n : Int)) = true := by simpa using h1
 have d2 : decide ((0 : Int) ≤ c) = false := by simpa using h2
 unfold Grid.v
 rw [ea]
 clear ea
 go_enter Tryz.func38, Tryz.ntmps38
 go_wp2_with fail
 go_quiet (fail)
 go_wp2
 go_ret
 exact ⟨rfl, by repeat (first | exact Below.refl _ _ | refine bel_alloc ?_ _ | refine bel_drewN ?_ _)⟩
set_option maxHeartbeats 1000000 in
theorem there_3 (G : Grid) (r c : Int) (w : World) (h : G.In w.heap.size w) (hn : 0 < G.n) (h0 : (0 : Int) ≤ r) (h1 : r < (G.n : Int)) (h2 : (0 : Int) ≤ c) (h3 : ¬ c < (G.len 0 : Int)) : Fn w 38 #[G.v, .agg #[.int .i64 r, .int .i64 c]] (.bool false) := by
 have hbig := h.big
 unfold Fn
 obtain ⟨b, off, ea, hb, hc⟩ := h.rows hn
 have c0 := hc 0 hn
 simp only [Nat.add_zero] at c0
 have l0 := h.lens 0 hn
 have q0 : (0 : Int) < (G.n : Int) := by omega
 clear hc h
 have d0 : decide ((0 : Int) ≤ r) = true := by simpa using h0
 have d1 : decide (r < (G.n : Int)) = true := by simpa using h1
 have d2 : decide ((0 : Int) ≤ c) = true := by simpa using h2
 have d3 : decide (c < (G.len 0 : Int)) = false := by simpa using h3
 unfold Grid.v
 rw [ea]
 clear ea
 go_enter Tryz.func38, Tryz.ntmps38
 go_wp2_with fail
 go_quiet (fail)
 go_wp2
 go_ret
 exact ⟨rfl, by repeat (first | exact Below.refl _ _ | refine bel_alloc ?_ _ | refine bel_drewN ?_ _)⟩
set_option maxHeartbeats 1000000 in
theorem there_4 (G : Grid) (r c : Int) (w : World) (h : G.In w.heap.size w) (hn : 0 < G.n) (h0 : (0 : Int) ≤ r) (h1 : r < (G.n : Int)) (h2 : (0 : Int) ≤ c) (h3 : c < (G.len 0 : Int)) : Fn w 38 #[G.v, .agg #[.int .i64 r, .int .i64 c]] (.bool true) := by
 have hbig := h.big
 unfold Fn
 obtain ⟨b, off, ea, hb, hc⟩ := h.rows hn
 have c0 := hc 0 hn
 simp only [Nat.add_zero] at c0
 have l0 := h.lens 0 hn
 have q0 : (0 : Int) < (G.n : Int) := by omega
 clear hc h
 have d0 : decide ((0 : Int) ≤ r) = true := by simpa using h0
 have d1 : decide (r < (G.n : Int)) = true := by simpa using h1
 have d2 : decide ((0 : Int) ≤ c) = true := by simpa using h2
 have d3 : decide (c < (G.len 0 : Int)) = true := by simpa using h3
 unfold Grid.v
 rw [ea]
 clear ea
 go_enter Tryz.func38, Tryz.ntmps38
 go_wp2_with fail
 go_quiet (fail)
 go_wp2
 go_ret
 exact ⟨rfl, by repeat (first | exact Below.refl _ _ | refine bel_alloc ?_ _ | refine bel_drewN ?_ _)⟩
theorem there_any (G : Grid) (r c : Int) (w : World) (h : G.In w.heap.size w) (hn : 0 < G.n) : Fn w 38 #[G.v, .agg #[.int .i64 r, .int .i64 c]] (.bool (G.thereB r c)) := by
 unfold Grid.thereB Grid.thereP
 by_cases h0 : (0 : Int) ≤ r
 ·by_cases h1 : r < (G.n : Int)
  ·by_cases h2 : (0 : Int) ≤ c
   ·by_cases h3 : c < (G.len 0 : Int)
    ·simpa [h0, h1, h2, h3] using there_4 G r c w h hn h0 h1 h2 h3
    ·simpa [h0, h1, h2, h3] using there_3 G r c w h hn h0 h1 h2 h3
   ·simpa [h0, h1, h2] using there_2 G r c w h hn h0 h1 h2
  ·simpa [h0, h1] using there_1 G r c w h hn h0 h1
 ·simpa [h0] using there_0 G r c w h hn h0
end Go.Proofs.YtpjooboohelffaaGreatDoor.F16
/- The contracts of the reference's There, number, Byte, seek's closure. -/
namespace Go.Proofs.YtpjooboohelffaaGreatDoor.F16
open Go.RowKit
set_option linter.unusedVariables false

/-- A place's number; another one, if it is not there. -/
def Grid.num (G : Grid) (r c o : Int) : Int := if G.thereB r c then r * (G.len 0 : Int) + c else o
theorem number_yes (G : Grid) (r c : Nat) (o : Int) (w : World) (h : G.In w.heap.size w) (hok : G.Ok) (ht : G.thereP r c) : Fn w 141 #[G.v, .agg #[.int .i64 r, .int .i64 c], .int .i64 o] (.int .i64 (r * (G.len 0 : Int) + c)) := by
 have hn : 0 < G.n := hok.1
 obtain ⟨t0, t1, t2, t3⟩ := ht
 have hn' := hok.2.1
 have hm' := (hok.2.2 0 hn).2.1
 have b0 : 0 ≤ (r : Int) * (G.len 0 : Int) := Int.mul_nonneg (by omega) (by omega)
 have b1 : (r : Int) * (G.len 0 : Int) ≤ 255 * 255 := Int.mul_le_mul (by omega) (by omega) (by omega) (by omega)
 have HT : ∀ W, Below w.heap.size w W → Fn W 38 #[G.v, .agg #[.int .i64 r, .int .i64 c]] (.bool true) := fun W hW => by
  have := there_any G r c W (h.later hW hW.size) hn
  rwa [thereB_iff.2 ⟨t0, t1, t2, t3⟩] at this
 unfold Fn at *
 obtain ⟨b, off, ea, hb, hc⟩ := h.rows hn
 have c0 := hc 0 hn
 simp only [Nat.add_zero] at c0
 have l0 := h.lens 0 hn
 have q0 : (0 : Int) < (G.n : Int) := by omega
 unfold Grid.v at *
 rw [ea] at HT ⊢
 have HT' := Lib.hid HT
 clear HT hc h hok ea
 go_enter Tryz.func141, Tryz.ntmps141
 go_wp2_with (go_at_call 38; refine (HT'.out _ (bel_alloc (Below.refl _ _) _)).mono ?_; rintro e w1 ⟨rfl, hb1⟩)
 have k0 := hb1.cell (p := ⟨w.heap.size, 0, none⟩) (by simp)
 have k1 := hb1.cell (p := ⟨w.heap.size, 1, none⟩) (by simp)
 have k2 := hb1.cell (p := ⟨b, off, none⟩) (by simp; omega)
 rw [World.cell?_alloc_past _ _ _ hb, c0] at k2
 simp [go_sem] at k0 k1
 go_quiet (fail)
 go_wp2
 go_ret
 exact ⟨rfl, by repeat (first | exact Below.refl _ _ | refine bel_drewN ?_ _ | refine bel_alloc ?_ _ | refine bel_call ?_ hb1)⟩
theorem number_no (G : Grid) (r c : Int) (o : Int) (w : World) (h : G.In w.heap.size w) (hn : 0 < G.n) (ht : G.thereB r c = false) : Fn w 141 #[G.v, .agg #[.int .i64 r, .int .i64 c], .int .i64 o] (.int .i64 o) := by
 have HT : ∀ W, Below w.heap.size w W → Fn W 38 #[G.v, .agg #[.int .i64 r, .int .i64 c]] (.bool false) := fun W hW => by
  have := there_any G r c W (h.later hW hW.size) hn
  rwa [ht] at this
 unfold Fn at *
 unfold Grid.v at *
 have HT' := Lib.hid HT
 clear HT h ht
 go_enter Tryz.func141, Tryz.ntmps141
 go_wp2_with (go_at_call 38; refine (HT'.out _ (bel_alloc (Below.refl _ _) _)).mono ?_; rintro e w1 ⟨rfl, hb1⟩)
 go_ret
 exact ⟨rfl, by repeat (first | exact Below.refl _ _ | refine bel_alloc ?_ _ | refine bel_call ?_ hb1)⟩
theorem number_any (G : Grid) (r c o : Int) (w : World) (h : G.In w.heap.size w) (hok : G.Ok) : Fn w 141 #[G.v, .agg #[.int .i64 r, .int .i64 c], .int .i64 o] (.int .i64 (G.num r c o)) := by
 by_cases ht : G.thereB r c = true
 ·rw [show G.num r c o = r * (G.len 0 : Int) + c by simp [Grid.num, ht]]
  have hp := thereB_iff.1 ht
  obtain ⟨r', rfl⟩ := Int.eq_ofNat_of_zero_le hp.1
  obtain ⟨c', rfl⟩ := Int.eq_ofNat_of_zero_le hp.2.2.1
  exact number_yes G r' c' o w h hok hp
 ·rw [show G.num r c o = o by simp [Grid.num, ht]]
  exact number_no G r c o w h hok.1 (by simpa using ht)
end Go.Proofs.YtpjooboohelffaaGreatDoor.F16
/- Send: what it sends, as lists; bytes that a call makes by append; the walk. -/
namespace Go.Proofs.YtpjooboohelffaaGreatDoor.F16
open Go.RowKit
set_option linter.unusedVariables false

/-- What k cells of a row, from b on, send; and whether one of them was open. -/
def rowOut (gd : Nat → Bool) (gl : Nat → Int) (b : Nat) : Nat → List Int × Bool
 | 0 => ([], false)
 | k + 1 => if gd (b + k) then rowOut gd gl b k else ((rowOut gd gl b k).1 ++ (if (rowOut gd gl b k).2 = true ∧ gd (b + k - 1) = true then [28] else []) ++ [byteOf (gl (b + k))], true)
/-- The first and the last column of row r. -/
def beginOf (fr fc r : Nat) : Nat := if r = fr then fc else 0
def endOf (m tr tc r : Nat) : Nat := if r = tr then tc else m - 1
/-- What k rows, from fr on, send. -/
def sendRows (G : Grid) (fr fc tr tc : Nat) : Nat → List Int
 | 0 => []
 | k + 1 => sendRows G fr fc tr tc k ++ (rowOut (G.gd (fr + k)) (G.gl (fr + k)) (beginOf fr fc (fr + k)) (endOf (G.len 0) tr tc (fr + k) + 1 - beginOf fr fc (fr + k))).1 ++ (if fr + k < tr then [31] else [])
def sendOut (G : Grid) (fr fc tr tc : Nat) : List Int := sendRows G fr fc tr tc (tr + 1 - fr)

theorem rowOut_len (gd : Nat → Bool) (gl : Nat → Int) (b k : Nat) : (rowOut gd gl b k).1.length ≤ 2 * k := by
 induction k with
 | zero => simp [rowOut]
 | succ k ih =>
  unfold rowOut
  split
  ·omega
  ·simp only [List.length_append, List.length_cons, List.length_nil]
   split <;> simp <;> omega
theorem rowOut_zero (gd : Nat → Bool) (gl : Nat → Int) (b : Nat) : rowOut gd gl b 0 = ([], false) := rfl
theorem rowOut_skip (gd : Nat → Bool) (gl : Nat → Int) (b k : Nat) (h : gd (b + k) = true) : rowOut gd gl b (k + 1) = rowOut gd gl b k := by
 simp [rowOut, h]
theorem rowOut_sep (gd : Nat → Bool) (gl : Nat → Int) (b k : Nat) (h : gd (b + k) = false) (hs : (rowOut gd gl b k).2 = true) (hp : gd (b + k - 1) = true) :
  rowOut gd gl b (k + 1) = ((rowOut gd gl b k).1 ++ [28] ++ [byteOf (gl (b + k))], true) := by
 simp [rowOut, h, hs, hp]
theorem rowOut_add (gd : Nat → Bool) (gl : Nat → Int) (b k : Nat) (h : gd (b + k) = false) (hs : (rowOut gd gl b k).2 = true → gd (b + k - 1) = false) :
  rowOut gd gl b (k + 1) = ((rowOut gd gl b k).1 ++ [byteOf (gl (b + k))], true) := by
 simp only [rowOut, h]
 by_cases e : (rowOut gd gl b k).2 = true
 ·simp [e, hs e]
 ·simp [e]
theorem rowOut_sent (gd : Nat → Bool) (gl : Nat → Int) (b k : Nat) (h : (rowOut gd gl b k).2 = true) : 1 ≤ k := by
 cases k with
 | zero => simp [rowOut] at h
 | succ k => omega
theorem sendRows_len (G : Grid) (fr fc tr tc : Nat) (hm : G.len 0 ≤ 255) (htc : tc ≤ 255) (k : Nat) : (sendRows G fr fc tr tc k).length ≤ 1000 * k := by
 induction k with
 | zero => simp [sendRows]
 | succ k ih =>
  have h1 := rowOut_len (G.gd (fr + k)) (G.gl (fr + k)) (beginOf fr fc (fr + k)) (endOf (G.len 0) tr tc (fr + k) + 1 - beginOf fr fc (fr + k))
  have h2 : endOf (G.len 0) tr tc (fr + k) ≤ 255 := by unfold endOf; split <;> omega
  simp only [sendRows, List.length_append]
  split <;> simp <;> omega

/-- A slice of bytes of the call's own. -/
def OwnB (w : World) (base : Nat) (v : Value) (L : List Int) : Prop := w.ownsRow base 5 1 v L.length (L.map (Value.int .u8))
theorem info5 : (Tryz.prog.info? 5).map (fun i => (i.zero, i.size, i.bytes)) = some (some (.int .u8 0), 1, 1) := by kernel_rfl
theorem OwnB.nil (w : World) (base : Nat) : OwnB w base (.slice none 0 0) [] := World.ownsRow_nil _ _ _ _
theorem OwnB.alloc {w : World} {base : Nat} {v : Value} {L : List Int} (h : OwnB w base v L) (o : Obj) : OwnB (w.alloc o) base v L := World.ownsRow.alloc h o
theorem OwnB.drewN {w : World} {base : Nat} {v : Value} {L : List Int} (h : OwnB w base v L) (n : Nat) : OwnB (w.drewN n) base v L := h
theorem OwnB.call {w w' : World} {base : Nat} {v : Value} {L : List Int} (h : OwnB w base v L) (hb : Below w.heap.size w w') : OwnB w' base v L := by
 obtain ⟨h1, h2⟩ := h
 refine ⟨h1, ?_⟩
 rcases h2 with h2 | ⟨g, cap, cur, hv, hg, hh, r⟩
 ·exact .inl h2
 ·exact .inr ⟨g, cap, cur, hv, hg, (hb.block g (Array.getElem?_eq_some_iff.1 hh).1).trans hh, r⟩
theorem wp_app1 {ops : Array Oper} {rest : List Oper} {o : Oper} {a : Act} {Q : Exit → Act → World → Prop} (hgd : o.guard = none) (s x : Operand)
  (ho : o.op = .call { callee := .builtin .append, args := #[s, x], argTypes := #[84, 84] }) (base : Nat) (v : Value) (L : List Int) (W : World) (y : Int) (B : Nat)
  (hs : a.eval s = v) (hx : a.eval x = .slice (some ⟨B, 0, none⟩) 1 1) (hB : W.heap.size = B) (hown : OwnB W base v L) (hbase : base ≤ W.heap.size) (hn : L.length ≤ 1000000000)
  (h : ∀ v' w', OwnB w' base v' (L ++ [y]) → Below base W w' → wpList Tryz.prog ops Q rest (a.put o.dst v') w') : wpList Tryz.prog ops Q (o :: rest) a (W.alloc (.cells #[.int .u8 y] 5)) := by
 obtain ⟨i0, hi, hz0, hz1, hz2⟩ := info_parts info5
 subst hB
 refine wpList_append_own _ hgd s x 84 ho base 5 i0 (.int .u8 0) 1 1 Tryz.underlying84 hi hz0 hz1 hz2 rfl (by decide) v L.length _ hs (hown.alloc _) ⟨W.heap.size, 0, none⟩ 1 1 [.int .u8 y] hx rfl ?_ (by simp [Value.oneCell']) (by unfold maxLen; omega) (by omega) (by simp; omega) ?_
 ·intro j u hj
  have : j = 0 := by
   have := (List.getElem?_eq_some_iff.1 hj).1
   simpa using this
  subst this
  simp at hj
  subst hj
  simp [go_sem, Addr.add]
 ·intro v' w' h1 h2 _
  refine h v' w' (by unfold OwnB; simpa using h1) ?_
  have b1 : Below base W (W.alloc (.cells #[.int .u8 y] 5)) := (Below.refl _ _).alloc hbase _
  exact b1.grown h2 (by simp; omega) (fun k hk => by
   have := World.ownsRow.lt hown k hk
   omega)
theorem conv_own {w : World} {base : Nat} {v : Value} {L : List Int} (h : OwnB w base v L) : (convert 84 9 v).run Tryz.prog w = .ok (.string (strOfNums L)) w := by
 obtain ⟨h1, h2⟩ := h
 rcases h2 with ⟨hv, hn⟩ | ⟨g, cap, cur, hv, hg, hh, hc, hm, hsz, ht⟩
 ·subst hv
  rw [run_convert_bytes_nil w 84 5 Tryz.underlying84 Tryz.underlying5 0 0 9 Tryz.underlying9]
  have : L = [] := List.length_eq_zero_iff.1 hn
  subst this
  rfl
 ·subst hv
  refine run_convert_bytes_arg w 84 5 Tryz.underlying84 Tryz.underlying5 g 0 L.length cap L rfl ?_ 9 Tryz.underlying9
  intro i hi
  have hi' : i < cur.size := by omega
  simp only [World.cell?, Nat.zero_add, hh]
  have e := congrArg (fun l => l[i]?) ht
  simp [hi] at e
  simp [e, List.getD, hi]
end Go.Proofs.YtpjooboohelffaaGreatDoor.F16
