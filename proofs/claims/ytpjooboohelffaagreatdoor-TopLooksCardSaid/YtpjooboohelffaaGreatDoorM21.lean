/- TopLooks and TopSends, helper 22 of 27. It holds: a Wyse 60: its own block turned; modes. Each theorem states its own conditions. -/
import Derived.Test.YtpjooboohelffaaGreatDoorM17
import Derived.Deep.LoopGhost
/- Top: a Wyse 60: its own block turned; modes. -/
namespace Go.Proofs.YtpjooboohelffaaGreatDoor
open Go.RowKit Go.Shelf T05
set_option linter.unusedVariables false
set_option linter.unusedSimpArgs false
set_option maxRecDepth 100000
section
variable {W : World} {tm sb qb : Nat} {t : Tm}
theorem tset_o {W : World} {b o p : Nat} {v : Value} (h : o ≠ p) : (W.setCell ⟨b, p, none⟩ v).cell? ⟨b, o, none⟩ = W.cell? ⟨b, o, none⟩ := World.cell?_setCell_other _ _ _ _ (by simp <;> omega)
theorem TIs.set_gd (h : TIs W tm sb qb t) (v : Bool) : TIs (W.setCell ⟨tm, 2, none⟩ (.bool v)) tm sb qb { t with gd := v } :=
 ⟨(tset_o (by decide)).trans h.t0, (tset_o (by decide)).trans h.t1, World.cell?_setCell_same' _ _ _ (by rw [h.t2]; rfl), (tset_o (by decide)).trans h.t3, (tset_o (by decide)).trans h.t4, (tset_o (by decide)).trans h.t5, (tset_o (by decide)).trans h.t6, (tset_o (by decide)).trans h.t7, (tset_o (by decide)).trans h.t8, (tset_o (by decide)).trans h.t9, h.tB.set _ _⟩
theorem TIs.set_pt (h : TIs W tm sb qb t) (v : Bool) : TIs (W.setCell ⟨tm, 3, none⟩ (.bool v)) tm sb qb { t with pt := v } :=
 ⟨(tset_o (by decide)).trans h.t0, (tset_o (by decide)).trans h.t1, (tset_o (by decide)).trans h.t2, World.cell?_setCell_same' _ _ _ (by rw [h.t3]; rfl), (tset_o (by decide)).trans h.t4, (tset_o (by decide)).trans h.t5, (tset_o (by decide)).trans h.t6, (tset_o (by decide)).trans h.t7, (tset_o (by decide)).trans h.t8, (tset_o (by decide)).trans h.t9, h.tB.set _ _⟩
theorem TIs.set_gr (h : TIs W tm sb qb t) (v : Bool) : TIs (W.setCell ⟨tm, 4, none⟩ (.bool v)) tm sb qb { t with gr := v } :=
 ⟨(tset_o (by decide)).trans h.t0, (tset_o (by decide)).trans h.t1, (tset_o (by decide)).trans h.t2, (tset_o (by decide)).trans h.t3, World.cell?_setCell_same' _ _ _ (by rw [h.t4]; rfl), (tset_o (by decide)).trans h.t5, (tset_o (by decide)).trans h.t6, (tset_o (by decide)).trans h.t7, (tset_o (by decide)).trans h.t8, (tset_o (by decide)).trans h.t9, h.tB.set _ _⟩
theorem TIs.set_ins (h : TIs W tm sb qb t) (v : Bool) : TIs (W.setCell ⟨tm, 5, none⟩ (.bool v)) tm sb qb { t with ins := v } :=
 ⟨(tset_o (by decide)).trans h.t0, (tset_o (by decide)).trans h.t1, (tset_o (by decide)).trans h.t2, (tset_o (by decide)).trans h.t3, (tset_o (by decide)).trans h.t4, World.cell?_setCell_same' _ _ _ (by rw [h.t5]; rfl), (tset_o (by decide)).trans h.t6, (tset_o (by decide)).trans h.t7, (tset_o (by decide)).trans h.t8, (tset_o (by decide)).trans h.t9, h.tB.set _ _⟩
theorem TIs.set_em (h : TIs W tm sb qb t) (v : Bool) : TIs (W.setCell ⟨tm, 6, none⟩ (.bool v)) tm sb qb { t with em := v } :=
 ⟨(tset_o (by decide)).trans h.t0, (tset_o (by decide)).trans h.t1, (tset_o (by decide)).trans h.t2, (tset_o (by decide)).trans h.t3, (tset_o (by decide)).trans h.t4, (tset_o (by decide)).trans h.t5, World.cell?_setCell_same' _ _ _ (by rw [h.t6]; rfl), (tset_o (by decide)).trans h.t7, (tset_o (by decide)).trans h.t8, (tset_o (by decide)).trans h.t9, h.tB.set _ _⟩
theorem TIs.set_at_ (h : TIs W tm sb qb t) (v : Int) : TIs (W.setCell ⟨tm, 7, none⟩ (.int .i64 v)) tm sb qb { t with at_ := v } :=
 ⟨(tset_o (by decide)).trans h.t0, (tset_o (by decide)).trans h.t1, (tset_o (by decide)).trans h.t2, (tset_o (by decide)).trans h.t3, (tset_o (by decide)).trans h.t4, (tset_o (by decide)).trans h.t5, (tset_o (by decide)).trans h.t6, World.cell?_setCell_same' _ _ _ (by rw [h.t7]; rfl), (tset_o (by decide)).trans h.t8, (tset_o (by decide)).trans h.t9, h.tB.set _ _⟩
theorem TIs.set_st (h : TIs W tm sb qb t) (v : ByteArray) : TIs (W.setCell ⟨tm, 8, none⟩ (.string v)) tm sb qb { t with st := v } :=
 ⟨(tset_o (by decide)).trans h.t0, (tset_o (by decide)).trans h.t1, (tset_o (by decide)).trans h.t2, (tset_o (by decide)).trans h.t3, (tset_o (by decide)).trans h.t4, (tset_o (by decide)).trans h.t5, (tset_o (by decide)).trans h.t6, (tset_o (by decide)).trans h.t7, World.cell?_setCell_same' _ _ _ (by rw [h.t8]; rfl), (tset_o (by decide)).trans h.t9, h.tB.set _ _⟩
theorem TIs.set_sq (h : TIs W tm sb qb t) (v : ByteArray) : TIs (W.setCell ⟨tm, 9, none⟩ (.string v)) tm sb qb { t with sq := v } :=
 ⟨(tset_o (by decide)).trans h.t0, (tset_o (by decide)).trans h.t1, (tset_o (by decide)).trans h.t2, (tset_o (by decide)).trans h.t3, (tset_o (by decide)).trans h.t4, (tset_o (by decide)).trans h.t5, (tset_o (by decide)).trans h.t6, (tset_o (by decide)).trans h.t7, (tset_o (by decide)).trans h.t8, World.cell?_setCell_same' _ _ _ (by rw [h.t9]; rfl), h.tB.set _ _⟩
end
section
variable {K : Nat → Prop} {L : Lay} {tm qb lb : Nat} {w W W' : World} {rs : Nat → Nat} {cell : Nat → Nat → Cl} {r c : Int} {S : Int → Bool} {t t' : Tm} {f : Nat} {Q : List Int} {ov : Bool}
/-- The terminal's own block is turned, and there is more. -/
theorem Wy.own2 (h : Wy K L tm qb lb W rs cell r c S t f Q ov) (hK : KB K W) (hk : Kept (fun k => k ≠ tm ∧ k < W.heap.size) W W') (ht : TIs W' tm L.sb qb t') : Wy K L tm qb lb W' rs cell r c S t' f Q ov ∧ Kept K W W' := by
 have hKK : Kept K W W' := hk.less (fun k hk => ⟨fun e => h.k1 (e ▸ hk), hK k hk⟩)
 have hn1 := h.ap tm (.inl rfl)
 have a1 : L.sb ≠ tm := fun e => h.scr.ks (e ▸ .inr (.inl rfl))
 have a2 : L.mb ≠ tm := fun e => h.scr.km (e ▸ .inr (.inl rfl))
 refine ⟨⟨h.scr.to (h.scr.gl.kept h.gk hKK) (hk.block _ ⟨a1, blt h.scr.s0⟩) (hk.block _ ⟨fun e => hn1.1 e.symm, h.scr.gr.glt⟩) (hk.block _ ⟨fun e => hn1.2 e.symm, h.scr.ts.lt⟩) (hk.block _ ⟨a2, h.scr.mlt⟩)
  (hk.block _ ⟨fun e => h.scr.gr.kr (.inl (.inr (.inl e))), h.scr.gr.rowB.blk.lt⟩) (fun i hi => hk.block _ ⟨fun e => h.scr.gr.ks i hi (.inl (.inr (.inl e))), (h.scr.gr.celB i hi).blk.lt⟩),
  ht, h.q.to (hk.block _ ⟨fun e => h.n1 e.symm, h.q.qB.blk.lt⟩) (hk.block _ ⟨fun e => h.n2 e.symm, h.q.lB.blk.lt⟩), h.gk, h.k1, h.k2, h.k3, h.n1, h.n2, h.ap⟩, hKK⟩
end
/-- The same but for modes. -/
def TmSame (t t' : Tm) : Prop := t' = t
def TmRel (t t' : Tm) : Prop := t'.at_ = t.at_ ∧ t'.st = t.st ∧ t'.sq = t.sq
theorem idx187_0 (tm : Nat) (w : World) : Sem.run Tryz.prog (Instr.index 187 (.agg #[.int .u8 41, .int .u8 40, .pointer (some ⟨tm, 2, none⟩), .int .u8 38, .int .u8 39, .pointer (some ⟨tm, 3, none⟩), .int .u8 113, .int .u8 114, .pointer (some ⟨tm, 5, none⟩), .int .u8 65, .int .u8 66, .pointer (some ⟨tm, 6, none⟩)]) (.int .i64 0)) w = .ok (.agg #[.int .u8 41, .int .u8 40, .pointer (some ⟨tm, 2, none⟩)]) w := by kernel_rfl
theorem idx187_1 (tm : Nat) (w : World) : Sem.run Tryz.prog (Instr.index 187 (.agg #[.int .u8 41, .int .u8 40, .pointer (some ⟨tm, 2, none⟩), .int .u8 38, .int .u8 39, .pointer (some ⟨tm, 3, none⟩), .int .u8 113, .int .u8 114, .pointer (some ⟨tm, 5, none⟩), .int .u8 65, .int .u8 66, .pointer (some ⟨tm, 6, none⟩)]) (.int .i64 1)) w = .ok (.agg #[.int .u8 38, .int .u8 39, .pointer (some ⟨tm, 3, none⟩)]) w := by kernel_rfl
theorem idx187_2 (tm : Nat) (w : World) : Sem.run Tryz.prog (Instr.index 187 (.agg #[.int .u8 41, .int .u8 40, .pointer (some ⟨tm, 2, none⟩), .int .u8 38, .int .u8 39, .pointer (some ⟨tm, 3, none⟩), .int .u8 113, .int .u8 114, .pointer (some ⟨tm, 5, none⟩), .int .u8 65, .int .u8 66, .pointer (some ⟨tm, 6, none⟩)]) (.int .i64 2)) w = .ok (.agg #[.int .u8 113, .int .u8 114, .pointer (some ⟨tm, 5, none⟩)]) w := by kernel_rfl
theorem idx187_3 (tm : Nat) (w : World) : Sem.run Tryz.prog (Instr.index 187 (.agg #[.int .u8 41, .int .u8 40, .pointer (some ⟨tm, 2, none⟩), .int .u8 38, .int .u8 39, .pointer (some ⟨tm, 3, none⟩), .int .u8 113, .int .u8 114, .pointer (some ⟨tm, 5, none⟩), .int .u8 65, .int .u8 66, .pointer (some ⟨tm, 6, none⟩)]) (.int .i64 3)) w = .ok (.agg #[.int .u8 65, .int .u8 66, .pointer (some ⟨tm, 6, none⟩)]) w := by kernel_rfl
section
variable {K : Nat → Prop} {L : Lay} {tm qb lb : Nat} {rs : Nat → Nat} {cell : Nat → Nat → Cl} {r c : Int} {S : Int → Bool} {t : Tm} {f : Nat} {Q : List Int} {ov : Bool}
set_option maxHeartbeats 8000000 in
theorem y_modes_no (w : World) (hK : KB K w) (h : Wy K L tm qb lb w rs cell r c S t f Q ov) (b : Nat) (q41 : ((b : Int) == 41) = false) (q40 : ((b : Int) == 40) = false) (q38 : ((b : Int) == 38) = false) (q39 : ((b : Int) == 39) = false) (q113 : ((b : Int) == 113) = false) (q114 : ((b : Int) == 114) = false) (q65 : ((b : Int) == 65) = false) (q66 : ((b : Int) == 66) = false) :
  Calls Tryz.prog 89 #[.pointer (some ⟨tm, 0, none⟩), .int .u8 b] w fun e w' => e = .returned (.tuple #[]) ∧ (∃ t', Wy K L tm qb lb w' rs cell r c S t' f Q ov ∧ TmSame t t') ∧ Kept K w w' := by
 have HE := Lib.hid (fun W' t' (hk : Kept (fun k => k ≠ tm ∧ k < w.heap.size) w W') ht => h.own2 (W' := W') (t' := t') hK hk ht)
 have Ht := h.ti
 have hlt := blt Ht.t0
 clear h hK
 have j0 := idx187_0 tm
 have j1 := idx187_1 tm
 have j2 := idx187_2 tm
 have j3 := idx187_3 tm
 go_enter Tryz.func89, Tryz.ntmps89
 go_wp2_with fail
 refine gen_wp ?_
 intro u hu0
 have KFu : ∀ W, Below u.heap.size u W → True ∧ True ∧ True := by
  intro W hu
  refine ⟨trivial, trivial, ?_⟩
  ·trivial
 have hT0 := Lib.hid (show TIs u tm L.sb qb t from by rw [hu0]; exact Ht)
 have hK0 := Lib.hid (show Kept (fun k => k ≠ tm ∧ k < w.heap.size) w u from by rw [hu0]; exact Kept.refl _ _)
 have hB0 : Below w.heap.size w u := by rw [hu0]; exact Below.refl _ _
 have FB := hB0
 clear hu0 Ht
 refine wp_region_held_drew (S := fun W => True ∧ True ∧ True) (by kernel_rfl) (KFu _ (Below.refl _ _).drew) (fun hHeld => ?_)
 have FB := FB.drew
 refine sY 0 6 ?_
 refine sY 1 7 ?_
 refine sY 2 8 ?_
 refine sY 3 9 ?_
 refine sY 4 10 ?_
 refine sY 5 11 ?_
 refine sY 6 12 ?_
 refine sY 7 13 ?_
 refine sY 8 14 ?_
 refine sY 9 15 ?_
 refine sY 10 16 ?_
 refine sY 11 17 ?_
 refine sY 12 18 ?_
 refine sY 13 19 ?_
 refine sY 14 20 ?_
 refine sY 15 21 ?_
 refine sY 16 22 ?_
 refine sY 17 23 ?_
 refine sY 18 24 ?_
 refine sY 19 25 ?_
 refine sY 20 26 ?_
 refine sY 21 27 ?_
 refine wpAnyH_done (by kernel_rfl) ?_ _
 have hT1 := Lib.hid (show TIs u.drew tm L.sb qb t from hT0.out.to rfl)
 have hK1 := Lib.hid (hK0.out.drew)
 clear hT0 hK0 hHeld FB hB0 KFu
 (try simp only [Exit.inBlock, Exit.then])
 go_wp2_with fail
 go_loopg [27] 4 (fun g s27 wx => ∃ (i : Nat) (t' : Tm), i + g = 4 ∧ s27 = .int .i64 i ∧ Hid (TmSame t t') ∧ Hid (TIs wx tm L.sb qb t') ∧ Hid (Kept (fun k => k ≠ tm ∧ k < w.heap.size) w wx))
 case atStart => exact ⟨0, _, rfl, rfl, Lib.hid ((show TmSame t t from rfl)), hT1, hK1⟩
 case round =>
  obtain ⟨i, t', hig, rfl, Hr, Ht, Hk⟩ := hrel
  clear hT1 hK1
  cases gk with
  | zero =>
   obtain rfl : i = 4 := by omega
   go_wp2_with fail
   go_end0
   exact ⟨rfl, ⟨t', (HE.out _ _ Hk.out Ht.out).1, Hr.out⟩, (HE.out _ _ Hk.out Ht.out).2⟩
  | succ g =>
   have hi : (i = 0 ∧ (i : Int) = 0) ∨ (i = 1 ∧ (i : Int) = 1) ∨ (i = 2 ∧ (i : Int) = 2) ∨ (i = 3 ∧ (i : Int) = 3) := by omega
   have htr := Ht.out.tB.blk.lt
   obtain ⟨_, f2, v2⟩ := Ht.out.tB.blk.get 2 (by decide)
   obtain ⟨_, f3, v3⟩ := Ht.out.tB.blk.get 3 (by decide)
   obtain ⟨_, f5, v5⟩ := Ht.out.tB.blk.get 5 (by decide)
   obtain ⟨_, f6, v6⟩ := Ht.out.tB.blk.get 6 (by decide)
   rcases hi with ⟨rfl, hc⟩ | ⟨rfl, hc⟩ | ⟨rfl, hc⟩ | ⟨rfl, hc⟩
   all_goals
    rw [hc]
    have Hig := Lib.hid hig
    clear hc hig
    go_wp2_with fail
   all_goals
    go_roundg g
    case measure => omega
    case rel =>
     have hr := Hr.out
     first
      | exact ⟨4 - g, t', by have := Hig.out; omega, by first | rfl | (have := Hig.out; congr 1; omega), Hr, Lib.hid (Ht.out.to (Below.heap_alloc _ _ _ htr)), Lib.hid (Hk.out.alloc (fun k hk => hk.2) _)⟩
      | exact ⟨4 - g, { t' with gd := true }, by have := Hig.out; omega, by first | rfl | (have := Hig.out; congr 1; omega), Lib.hid ⟨hr.1, hr.2.1, hr.2.2⟩, Lib.hid ((Ht.out.set_gd _).to (Below.heap_alloc _ _ _ (by simpa using htr))), Lib.hid ((Hk.out.set (fun h => h.1 rfl) _).alloc (fun k hk => hk.2) _)⟩
      | exact ⟨4 - g, { t' with gd := false }, by have := Hig.out; omega, by first | rfl | (have := Hig.out; congr 1; omega), Lib.hid ⟨hr.1, hr.2.1, hr.2.2⟩, Lib.hid ((Ht.out.set_gd _).to (Below.heap_alloc _ _ _ (by simpa using htr))), Lib.hid ((Hk.out.set (fun h => h.1 rfl) _).alloc (fun k hk => hk.2) _)⟩
      | exact ⟨4 - g, { t' with pt := true }, by have := Hig.out; omega, by first | rfl | (have := Hig.out; congr 1; omega), Lib.hid ⟨hr.1, hr.2.1, hr.2.2⟩, Lib.hid ((Ht.out.set_pt _).to (Below.heap_alloc _ _ _ (by simpa using htr))), Lib.hid ((Hk.out.set (fun h => h.1 rfl) _).alloc (fun k hk => hk.2) _)⟩
      | exact ⟨4 - g, { t' with pt := false }, by have := Hig.out; omega, by first | rfl | (have := Hig.out; congr 1; omega), Lib.hid ⟨hr.1, hr.2.1, hr.2.2⟩, Lib.hid ((Ht.out.set_pt _).to (Below.heap_alloc _ _ _ (by simpa using htr))), Lib.hid ((Hk.out.set (fun h => h.1 rfl) _).alloc (fun k hk => hk.2) _)⟩
      | exact ⟨4 - g, { t' with ins := true }, by have := Hig.out; omega, by first | rfl | (have := Hig.out; congr 1; omega), Lib.hid ⟨hr.1, hr.2.1, hr.2.2⟩, Lib.hid ((Ht.out.set_ins _).to (Below.heap_alloc _ _ _ (by simpa using htr))), Lib.hid ((Hk.out.set (fun h => h.1 rfl) _).alloc (fun k hk => hk.2) _)⟩
      | exact ⟨4 - g, { t' with ins := false }, by have := Hig.out; omega, by first | rfl | (have := Hig.out; congr 1; omega), Lib.hid ⟨hr.1, hr.2.1, hr.2.2⟩, Lib.hid ((Ht.out.set_ins _).to (Below.heap_alloc _ _ _ (by simpa using htr))), Lib.hid ((Hk.out.set (fun h => h.1 rfl) _).alloc (fun k hk => hk.2) _)⟩
      | exact ⟨4 - g, { t' with em := true }, by have := Hig.out; omega, by first | rfl | (have := Hig.out; congr 1; omega), Lib.hid ⟨hr.1, hr.2.1, hr.2.2⟩, Lib.hid ((Ht.out.set_em _).to (Below.heap_alloc _ _ _ (by simpa using htr))), Lib.hid ((Hk.out.set (fun h => h.1 rfl) _).alloc (fun k hk => hk.2) _)⟩
      | exact ⟨4 - g, { t' with em := false }, by have := Hig.out; omega, by first | rfl | (have := Hig.out; congr 1; omega), Lib.hid ⟨hr.1, hr.2.1, hr.2.2⟩, Lib.hid ((Ht.out.set_em _).to (Below.heap_alloc _ _ _ (by simpa using htr))), Lib.hid ((Hk.out.set (fun h => h.1 rfl) _).alloc (fun k hk => hk.2) _)⟩
set_option maxHeartbeats 8000000 in
theorem y_modes_41 (w : World) (hK : KB K w) (h : Wy K L tm qb lb w rs cell r c S t f Q ov) :
  Calls Tryz.prog 89 #[.pointer (some ⟨tm, 0, none⟩), .int .u8 41] w fun e w' => e = .returned (.tuple #[]) ∧ (∃ t', Wy K L tm qb lb w' rs cell r c S t' f Q ov ∧ TmRel t t') ∧ Kept K w w' := by
 have HE := Lib.hid (fun W' t' (hk : Kept (fun k => k ≠ tm ∧ k < w.heap.size) w W') ht => h.own2 (W' := W') (t' := t') hK hk ht)
 have Ht := h.ti
 have hlt := blt Ht.t0
 clear h hK
 have j0 := idx187_0 tm
 have j1 := idx187_1 tm
 have j2 := idx187_2 tm
 have j3 := idx187_3 tm
 go_enter Tryz.func89, Tryz.ntmps89
 go_wp2_with fail
 refine gen_wp ?_
 intro u hu0
 have KFu : ∀ W, Below u.heap.size u W → True ∧ True ∧ True := by
  intro W hu
  refine ⟨trivial, trivial, ?_⟩
  ·trivial
 have hT0 := Lib.hid (show TIs u tm L.sb qb t from by rw [hu0]; exact Ht)
 have hK0 := Lib.hid (show Kept (fun k => k ≠ tm ∧ k < w.heap.size) w u from by rw [hu0]; exact Kept.refl _ _)
 have hB0 : Below w.heap.size w u := by rw [hu0]; exact Below.refl _ _
 have FB := hB0
 clear hu0 Ht
 refine wp_region_held_drew (S := fun W => True ∧ True ∧ True) (by kernel_rfl) (KFu _ (Below.refl _ _).drew) (fun hHeld => ?_)
 have FB := FB.drew
 refine sY 0 6 ?_
 refine sY 1 7 ?_
 refine sY 2 8 ?_
 refine sY 3 9 ?_
 refine sY 4 10 ?_
 refine sY 5 11 ?_
 refine sY 6 12 ?_
 refine sY 7 13 ?_
 refine sY 8 14 ?_
 refine sY 9 15 ?_
 refine sY 10 16 ?_
 refine sY 11 17 ?_
 refine sY 12 18 ?_
 refine sY 13 19 ?_
 refine sY 14 20 ?_
 refine sY 15 21 ?_
 refine sY 16 22 ?_
 refine sY 17 23 ?_
 refine sY 18 24 ?_
 refine sY 19 25 ?_
 refine sY 20 26 ?_
 refine sY 21 27 ?_
 refine wpAnyH_done (by kernel_rfl) ?_ _
 have hT1 := Lib.hid (show TIs u.drew tm L.sb qb t from hT0.out.to rfl)
 have hK1 := Lib.hid (hK0.out.drew)
 clear hT0 hK0 hHeld FB hB0 KFu
 (try simp only [Exit.inBlock, Exit.then])
 go_wp2_with fail
 go_loopg [27] 4 (fun g s27 wx => ∃ (i : Nat) (t' : Tm), i + g = 4 ∧ s27 = .int .i64 i ∧ Hid (TmRel t t') ∧ Hid (TIs wx tm L.sb qb t') ∧ Hid (Kept (fun k => k ≠ tm ∧ k < w.heap.size) w wx))
 case atStart => exact ⟨0, _, rfl, rfl, Lib.hid (⟨rfl, rfl, rfl⟩), hT1, hK1⟩
 case round =>
  obtain ⟨i, t', hig, rfl, Hr, Ht, Hk⟩ := hrel
  clear hT1 hK1
  cases gk with
  | zero =>
   obtain rfl : i = 4 := by omega
   go_wp2_with fail
   go_end0
   exact ⟨rfl, ⟨t', (HE.out _ _ Hk.out Ht.out).1, Hr.out⟩, (HE.out _ _ Hk.out Ht.out).2⟩
  | succ g =>
   have hi : (i = 0 ∧ (i : Int) = 0) ∨ (i = 1 ∧ (i : Int) = 1) ∨ (i = 2 ∧ (i : Int) = 2) ∨ (i = 3 ∧ (i : Int) = 3) := by omega
   have htr := Ht.out.tB.blk.lt
   obtain ⟨_, f2, v2⟩ := Ht.out.tB.blk.get 2 (by decide)
   obtain ⟨_, f3, v3⟩ := Ht.out.tB.blk.get 3 (by decide)
   obtain ⟨_, f5, v5⟩ := Ht.out.tB.blk.get 5 (by decide)
   obtain ⟨_, f6, v6⟩ := Ht.out.tB.blk.get 6 (by decide)
   rcases hi with ⟨rfl, hc⟩ | ⟨rfl, hc⟩ | ⟨rfl, hc⟩ | ⟨rfl, hc⟩
   all_goals
    rw [hc]
    have Hig := Lib.hid hig
    clear hc hig
    go_wp2_with fail
   all_goals
    go_roundg g
    case measure => omega
    case rel =>
     have hr := Hr.out
     first
      | exact ⟨4 - g, t', by have := Hig.out; omega, by first | rfl | (have := Hig.out; congr 1; omega), Hr, Lib.hid (Ht.out.to (Below.heap_alloc _ _ _ htr)), Lib.hid (Hk.out.alloc (fun k hk => hk.2) _)⟩
      | exact ⟨4 - g, { t' with gd := true }, by have := Hig.out; omega, by first | rfl | (have := Hig.out; congr 1; omega), Lib.hid ⟨hr.1, hr.2.1, hr.2.2⟩, Lib.hid ((Ht.out.set_gd _).to (Below.heap_alloc _ _ _ (by simpa using htr))), Lib.hid ((Hk.out.set (fun h => h.1 rfl) _).alloc (fun k hk => hk.2) _)⟩
      | exact ⟨4 - g, { t' with gd := false }, by have := Hig.out; omega, by first | rfl | (have := Hig.out; congr 1; omega), Lib.hid ⟨hr.1, hr.2.1, hr.2.2⟩, Lib.hid ((Ht.out.set_gd _).to (Below.heap_alloc _ _ _ (by simpa using htr))), Lib.hid ((Hk.out.set (fun h => h.1 rfl) _).alloc (fun k hk => hk.2) _)⟩
      | exact ⟨4 - g, { t' with pt := true }, by have := Hig.out; omega, by first | rfl | (have := Hig.out; congr 1; omega), Lib.hid ⟨hr.1, hr.2.1, hr.2.2⟩, Lib.hid ((Ht.out.set_pt _).to (Below.heap_alloc _ _ _ (by simpa using htr))), Lib.hid ((Hk.out.set (fun h => h.1 rfl) _).alloc (fun k hk => hk.2) _)⟩
      | exact ⟨4 - g, { t' with pt := false }, by have := Hig.out; omega, by first | rfl | (have := Hig.out; congr 1; omega), Lib.hid ⟨hr.1, hr.2.1, hr.2.2⟩, Lib.hid ((Ht.out.set_pt _).to (Below.heap_alloc _ _ _ (by simpa using htr))), Lib.hid ((Hk.out.set (fun h => h.1 rfl) _).alloc (fun k hk => hk.2) _)⟩
      | exact ⟨4 - g, { t' with ins := true }, by have := Hig.out; omega, by first | rfl | (have := Hig.out; congr 1; omega), Lib.hid ⟨hr.1, hr.2.1, hr.2.2⟩, Lib.hid ((Ht.out.set_ins _).to (Below.heap_alloc _ _ _ (by simpa using htr))), Lib.hid ((Hk.out.set (fun h => h.1 rfl) _).alloc (fun k hk => hk.2) _)⟩
      | exact ⟨4 - g, { t' with ins := false }, by have := Hig.out; omega, by first | rfl | (have := Hig.out; congr 1; omega), Lib.hid ⟨hr.1, hr.2.1, hr.2.2⟩, Lib.hid ((Ht.out.set_ins _).to (Below.heap_alloc _ _ _ (by simpa using htr))), Lib.hid ((Hk.out.set (fun h => h.1 rfl) _).alloc (fun k hk => hk.2) _)⟩
      | exact ⟨4 - g, { t' with em := true }, by have := Hig.out; omega, by first | rfl | (have := Hig.out; congr 1; omega), Lib.hid ⟨hr.1, hr.2.1, hr.2.2⟩, Lib.hid ((Ht.out.set_em _).to (Below.heap_alloc _ _ _ (by simpa using htr))), Lib.hid ((Hk.out.set (fun h => h.1 rfl) _).alloc (fun k hk => hk.2) _)⟩
      | exact ⟨4 - g, { t' with em := false }, by have := Hig.out; omega, by first | rfl | (have := Hig.out; congr 1; omega), Lib.hid ⟨hr.1, hr.2.1, hr.2.2⟩, Lib.hid ((Ht.out.set_em _).to (Below.heap_alloc _ _ _ (by simpa using htr))), Lib.hid ((Hk.out.set (fun h => h.1 rfl) _).alloc (fun k hk => hk.2) _)⟩
set_option maxHeartbeats 8000000 in
theorem y_modes_40 (w : World) (hK : KB K w) (h : Wy K L tm qb lb w rs cell r c S t f Q ov) :
  Calls Tryz.prog 89 #[.pointer (some ⟨tm, 0, none⟩), .int .u8 40] w fun e w' => e = .returned (.tuple #[]) ∧ (∃ t', Wy K L tm qb lb w' rs cell r c S t' f Q ov ∧ TmRel t t') ∧ Kept K w w' := by
 have HE := Lib.hid (fun W' t' (hk : Kept (fun k => k ≠ tm ∧ k < w.heap.size) w W') ht => h.own2 (W' := W') (t' := t') hK hk ht)
 have Ht := h.ti
 have hlt := blt Ht.t0
 clear h hK
 have j0 := idx187_0 tm
 have j1 := idx187_1 tm
 have j2 := idx187_2 tm
 have j3 := idx187_3 tm
 go_enter Tryz.func89, Tryz.ntmps89
 go_wp2_with fail
 refine gen_wp ?_
 intro u hu0
 have KFu : ∀ W, Below u.heap.size u W → True ∧ True ∧ True := by
  intro W hu
  refine ⟨trivial, trivial, ?_⟩
  ·trivial
 have hT0 := Lib.hid (show TIs u tm L.sb qb t from by rw [hu0]; exact Ht)
 have hK0 := Lib.hid (show Kept (fun k => k ≠ tm ∧ k < w.heap.size) w u from by rw [hu0]; exact Kept.refl _ _)
 have hB0 : Below w.heap.size w u := by rw [hu0]; exact Below.refl _ _
 have FB := hB0
 clear hu0 Ht
 refine wp_region_held_drew (S := fun W => True ∧ True ∧ True) (by kernel_rfl) (KFu _ (Below.refl _ _).drew) (fun hHeld => ?_)
 have FB := FB.drew
 refine sY 0 6 ?_
 refine sY 1 7 ?_
 refine sY 2 8 ?_
 refine sY 3 9 ?_
 refine sY 4 10 ?_
 refine sY 5 11 ?_
 refine sY 6 12 ?_
 refine sY 7 13 ?_
 refine sY 8 14 ?_
 refine sY 9 15 ?_
 refine sY 10 16 ?_
 refine sY 11 17 ?_
 refine sY 12 18 ?_
 refine sY 13 19 ?_
 refine sY 14 20 ?_
 refine sY 15 21 ?_
 refine sY 16 22 ?_
 refine sY 17 23 ?_
 refine sY 18 24 ?_
 refine sY 19 25 ?_
 refine sY 20 26 ?_
 refine sY 21 27 ?_
 refine wpAnyH_done (by kernel_rfl) ?_ _
 have hT1 := Lib.hid (show TIs u.drew tm L.sb qb t from hT0.out.to rfl)
 have hK1 := Lib.hid (hK0.out.drew)
 clear hT0 hK0 hHeld FB hB0 KFu
 (try simp only [Exit.inBlock, Exit.then])
 go_wp2_with fail
 go_loopg [27] 4 (fun g s27 wx => ∃ (i : Nat) (t' : Tm), i + g = 4 ∧ s27 = .int .i64 i ∧ Hid (TmRel t t') ∧ Hid (TIs wx tm L.sb qb t') ∧ Hid (Kept (fun k => k ≠ tm ∧ k < w.heap.size) w wx))
 case atStart => exact ⟨0, _, rfl, rfl, Lib.hid (⟨rfl, rfl, rfl⟩), hT1, hK1⟩
 case round =>
  obtain ⟨i, t', hig, rfl, Hr, Ht, Hk⟩ := hrel
  clear hT1 hK1
  cases gk with
  | zero =>
   obtain rfl : i = 4 := by omega
   go_wp2_with fail
   go_end0
   exact ⟨rfl, ⟨t', (HE.out _ _ Hk.out Ht.out).1, Hr.out⟩, (HE.out _ _ Hk.out Ht.out).2⟩
  | succ g =>
   have hi : (i = 0 ∧ (i : Int) = 0) ∨ (i = 1 ∧ (i : Int) = 1) ∨ (i = 2 ∧ (i : Int) = 2) ∨ (i = 3 ∧ (i : Int) = 3) := by omega
   have htr := Ht.out.tB.blk.lt
   obtain ⟨_, f2, v2⟩ := Ht.out.tB.blk.get 2 (by decide)
   obtain ⟨_, f3, v3⟩ := Ht.out.tB.blk.get 3 (by decide)
   obtain ⟨_, f5, v5⟩ := Ht.out.tB.blk.get 5 (by decide)
   obtain ⟨_, f6, v6⟩ := Ht.out.tB.blk.get 6 (by decide)
   rcases hi with ⟨rfl, hc⟩ | ⟨rfl, hc⟩ | ⟨rfl, hc⟩ | ⟨rfl, hc⟩
   all_goals
    rw [hc]
    have Hig := Lib.hid hig
    clear hc hig
    go_wp2_with fail
   all_goals
    go_roundg g
    case measure => omega
    case rel =>
     have hr := Hr.out
     first
      | exact ⟨4 - g, t', by have := Hig.out; omega, by first | rfl | (have := Hig.out; congr 1; omega), Hr, Lib.hid (Ht.out.to (Below.heap_alloc _ _ _ htr)), Lib.hid (Hk.out.alloc (fun k hk => hk.2) _)⟩
      | exact ⟨4 - g, { t' with gd := true }, by have := Hig.out; omega, by first | rfl | (have := Hig.out; congr 1; omega), Lib.hid ⟨hr.1, hr.2.1, hr.2.2⟩, Lib.hid ((Ht.out.set_gd _).to (Below.heap_alloc _ _ _ (by simpa using htr))), Lib.hid ((Hk.out.set (fun h => h.1 rfl) _).alloc (fun k hk => hk.2) _)⟩
      | exact ⟨4 - g, { t' with gd := false }, by have := Hig.out; omega, by first | rfl | (have := Hig.out; congr 1; omega), Lib.hid ⟨hr.1, hr.2.1, hr.2.2⟩, Lib.hid ((Ht.out.set_gd _).to (Below.heap_alloc _ _ _ (by simpa using htr))), Lib.hid ((Hk.out.set (fun h => h.1 rfl) _).alloc (fun k hk => hk.2) _)⟩
      | exact ⟨4 - g, { t' with pt := true }, by have := Hig.out; omega, by first | rfl | (have := Hig.out; congr 1; omega), Lib.hid ⟨hr.1, hr.2.1, hr.2.2⟩, Lib.hid ((Ht.out.set_pt _).to (Below.heap_alloc _ _ _ (by simpa using htr))), Lib.hid ((Hk.out.set (fun h => h.1 rfl) _).alloc (fun k hk => hk.2) _)⟩
      | exact ⟨4 - g, { t' with pt := false }, by have := Hig.out; omega, by first | rfl | (have := Hig.out; congr 1; omega), Lib.hid ⟨hr.1, hr.2.1, hr.2.2⟩, Lib.hid ((Ht.out.set_pt _).to (Below.heap_alloc _ _ _ (by simpa using htr))), Lib.hid ((Hk.out.set (fun h => h.1 rfl) _).alloc (fun k hk => hk.2) _)⟩
      | exact ⟨4 - g, { t' with ins := true }, by have := Hig.out; omega, by first | rfl | (have := Hig.out; congr 1; omega), Lib.hid ⟨hr.1, hr.2.1, hr.2.2⟩, Lib.hid ((Ht.out.set_ins _).to (Below.heap_alloc _ _ _ (by simpa using htr))), Lib.hid ((Hk.out.set (fun h => h.1 rfl) _).alloc (fun k hk => hk.2) _)⟩
      | exact ⟨4 - g, { t' with ins := false }, by have := Hig.out; omega, by first | rfl | (have := Hig.out; congr 1; omega), Lib.hid ⟨hr.1, hr.2.1, hr.2.2⟩, Lib.hid ((Ht.out.set_ins _).to (Below.heap_alloc _ _ _ (by simpa using htr))), Lib.hid ((Hk.out.set (fun h => h.1 rfl) _).alloc (fun k hk => hk.2) _)⟩
      | exact ⟨4 - g, { t' with em := true }, by have := Hig.out; omega, by first | rfl | (have := Hig.out; congr 1; omega), Lib.hid ⟨hr.1, hr.2.1, hr.2.2⟩, Lib.hid ((Ht.out.set_em _).to (Below.heap_alloc _ _ _ (by simpa using htr))), Lib.hid ((Hk.out.set (fun h => h.1 rfl) _).alloc (fun k hk => hk.2) _)⟩
      | exact ⟨4 - g, { t' with em := false }, by have := Hig.out; omega, by first | rfl | (have := Hig.out; congr 1; omega), Lib.hid ⟨hr.1, hr.2.1, hr.2.2⟩, Lib.hid ((Ht.out.set_em _).to (Below.heap_alloc _ _ _ (by simpa using htr))), Lib.hid ((Hk.out.set (fun h => h.1 rfl) _).alloc (fun k hk => hk.2) _)⟩
set_option maxHeartbeats 8000000 in
theorem y_modes_38 (w : World) (hK : KB K w) (h : Wy K L tm qb lb w rs cell r c S t f Q ov) :
  Calls Tryz.prog 89 #[.pointer (some ⟨tm, 0, none⟩), .int .u8 38] w fun e w' => e = .returned (.tuple #[]) ∧ (∃ t', Wy K L tm qb lb w' rs cell r c S t' f Q ov ∧ TmRel t t') ∧ Kept K w w' := by
 have HE := Lib.hid (fun W' t' (hk : Kept (fun k => k ≠ tm ∧ k < w.heap.size) w W') ht => h.own2 (W' := W') (t' := t') hK hk ht)
 have Ht := h.ti
 have hlt := blt Ht.t0
 clear h hK
 have j0 := idx187_0 tm
 have j1 := idx187_1 tm
 have j2 := idx187_2 tm
 have j3 := idx187_3 tm
 go_enter Tryz.func89, Tryz.ntmps89
 go_wp2_with fail
 refine gen_wp ?_
 intro u hu0
 have KFu : ∀ W, Below u.heap.size u W → True ∧ True ∧ True := by
  intro W hu
  refine ⟨trivial, trivial, ?_⟩
  ·trivial
 have hT0 := Lib.hid (show TIs u tm L.sb qb t from by rw [hu0]; exact Ht)
 have hK0 := Lib.hid (show Kept (fun k => k ≠ tm ∧ k < w.heap.size) w u from by rw [hu0]; exact Kept.refl _ _)
 have hB0 : Below w.heap.size w u := by rw [hu0]; exact Below.refl _ _
 have FB := hB0
 clear hu0 Ht
 refine wp_region_held_drew (S := fun W => True ∧ True ∧ True) (by kernel_rfl) (KFu _ (Below.refl _ _).drew) (fun hHeld => ?_)
 have FB := FB.drew
 refine sY 0 6 ?_
 refine sY 1 7 ?_
 refine sY 2 8 ?_
 refine sY 3 9 ?_
 refine sY 4 10 ?_
 refine sY 5 11 ?_
 refine sY 6 12 ?_
 refine sY 7 13 ?_
 refine sY 8 14 ?_
 refine sY 9 15 ?_
 refine sY 10 16 ?_
 refine sY 11 17 ?_
 refine sY 12 18 ?_
 refine sY 13 19 ?_
 refine sY 14 20 ?_
 refine sY 15 21 ?_
 refine sY 16 22 ?_
 refine sY 17 23 ?_
 refine sY 18 24 ?_
 refine sY 19 25 ?_
 refine sY 20 26 ?_
 refine sY 21 27 ?_
 refine wpAnyH_done (by kernel_rfl) ?_ _
 have hT1 := Lib.hid (show TIs u.drew tm L.sb qb t from hT0.out.to rfl)
 have hK1 := Lib.hid (hK0.out.drew)
 clear hT0 hK0 hHeld FB hB0 KFu
 (try simp only [Exit.inBlock, Exit.then])
 go_wp2_with fail
 go_loopg [27] 4 (fun g s27 wx => ∃ (i : Nat) (t' : Tm), i + g = 4 ∧ s27 = .int .i64 i ∧ Hid (TmRel t t') ∧ Hid (TIs wx tm L.sb qb t') ∧ Hid (Kept (fun k => k ≠ tm ∧ k < w.heap.size) w wx))
 case atStart => exact ⟨0, _, rfl, rfl, Lib.hid (⟨rfl, rfl, rfl⟩), hT1, hK1⟩
 case round =>
  obtain ⟨i, t', hig, rfl, Hr, Ht, Hk⟩ := hrel
  clear hT1 hK1
  cases gk with
  | zero =>
   obtain rfl : i = 4 := by omega
   go_wp2_with fail
   go_end0
   exact ⟨rfl, ⟨t', (HE.out _ _ Hk.out Ht.out).1, Hr.out⟩, (HE.out _ _ Hk.out Ht.out).2⟩
  | succ g =>
   have hi : (i = 0 ∧ (i : Int) = 0) ∨ (i = 1 ∧ (i : Int) = 1) ∨ (i = 2 ∧ (i : Int) = 2) ∨ (i = 3 ∧ (i : Int) = 3) := by omega
   have htr := Ht.out.tB.blk.lt
   obtain ⟨_, f2, v2⟩ := Ht.out.tB.blk.get 2 (by decide)
   obtain ⟨_, f3, v3⟩ := Ht.out.tB.blk.get 3 (by decide)
   obtain ⟨_, f5, v5⟩ := Ht.out.tB.blk.get 5 (by decide)
   obtain ⟨_, f6, v6⟩ := Ht.out.tB.blk.get 6 (by decide)
   rcases hi with ⟨rfl, hc⟩ | ⟨rfl, hc⟩ | ⟨rfl, hc⟩ | ⟨rfl, hc⟩
   all_goals
    rw [hc]
    have Hig := Lib.hid hig
    clear hc hig
    go_wp2_with fail
   all_goals
    go_roundg g
    case measure => omega
    case rel =>
     have hr := Hr.out
     first
      | exact ⟨4 - g, t', by have := Hig.out; omega, by first | rfl | (have := Hig.out; congr 1; omega), Hr, Lib.hid (Ht.out.to (Below.heap_alloc _ _ _ htr)), Lib.hid (Hk.out.alloc (fun k hk => hk.2) _)⟩
      | exact ⟨4 - g, { t' with gd := true }, by have := Hig.out; omega, by first | rfl | (have := Hig.out; congr 1; omega), Lib.hid ⟨hr.1, hr.2.1, hr.2.2⟩, Lib.hid ((Ht.out.set_gd _).to (Below.heap_alloc _ _ _ (by simpa using htr))), Lib.hid ((Hk.out.set (fun h => h.1 rfl) _).alloc (fun k hk => hk.2) _)⟩
      | exact ⟨4 - g, { t' with gd := false }, by have := Hig.out; omega, by first | rfl | (have := Hig.out; congr 1; omega), Lib.hid ⟨hr.1, hr.2.1, hr.2.2⟩, Lib.hid ((Ht.out.set_gd _).to (Below.heap_alloc _ _ _ (by simpa using htr))), Lib.hid ((Hk.out.set (fun h => h.1 rfl) _).alloc (fun k hk => hk.2) _)⟩
      | exact ⟨4 - g, { t' with pt := true }, by have := Hig.out; omega, by first | rfl | (have := Hig.out; congr 1; omega), Lib.hid ⟨hr.1, hr.2.1, hr.2.2⟩, Lib.hid ((Ht.out.set_pt _).to (Below.heap_alloc _ _ _ (by simpa using htr))), Lib.hid ((Hk.out.set (fun h => h.1 rfl) _).alloc (fun k hk => hk.2) _)⟩
      | exact ⟨4 - g, { t' with pt := false }, by have := Hig.out; omega, by first | rfl | (have := Hig.out; congr 1; omega), Lib.hid ⟨hr.1, hr.2.1, hr.2.2⟩, Lib.hid ((Ht.out.set_pt _).to (Below.heap_alloc _ _ _ (by simpa using htr))), Lib.hid ((Hk.out.set (fun h => h.1 rfl) _).alloc (fun k hk => hk.2) _)⟩
      | exact ⟨4 - g, { t' with ins := true }, by have := Hig.out; omega, by first | rfl | (have := Hig.out; congr 1; omega), Lib.hid ⟨hr.1, hr.2.1, hr.2.2⟩, Lib.hid ((Ht.out.set_ins _).to (Below.heap_alloc _ _ _ (by simpa using htr))), Lib.hid ((Hk.out.set (fun h => h.1 rfl) _).alloc (fun k hk => hk.2) _)⟩
      | exact ⟨4 - g, { t' with ins := false }, by have := Hig.out; omega, by first | rfl | (have := Hig.out; congr 1; omega), Lib.hid ⟨hr.1, hr.2.1, hr.2.2⟩, Lib.hid ((Ht.out.set_ins _).to (Below.heap_alloc _ _ _ (by simpa using htr))), Lib.hid ((Hk.out.set (fun h => h.1 rfl) _).alloc (fun k hk => hk.2) _)⟩
      | exact ⟨4 - g, { t' with em := true }, by have := Hig.out; omega, by first | rfl | (have := Hig.out; congr 1; omega), Lib.hid ⟨hr.1, hr.2.1, hr.2.2⟩, Lib.hid ((Ht.out.set_em _).to (Below.heap_alloc _ _ _ (by simpa using htr))), Lib.hid ((Hk.out.set (fun h => h.1 rfl) _).alloc (fun k hk => hk.2) _)⟩
      | exact ⟨4 - g, { t' with em := false }, by have := Hig.out; omega, by first | rfl | (have := Hig.out; congr 1; omega), Lib.hid ⟨hr.1, hr.2.1, hr.2.2⟩, Lib.hid ((Ht.out.set_em _).to (Below.heap_alloc _ _ _ (by simpa using htr))), Lib.hid ((Hk.out.set (fun h => h.1 rfl) _).alloc (fun k hk => hk.2) _)⟩
set_option maxHeartbeats 8000000 in
theorem y_modes_39 (w : World) (hK : KB K w) (h : Wy K L tm qb lb w rs cell r c S t f Q ov) :
  Calls Tryz.prog 89 #[.pointer (some ⟨tm, 0, none⟩), .int .u8 39] w fun e w' => e = .returned (.tuple #[]) ∧ (∃ t', Wy K L tm qb lb w' rs cell r c S t' f Q ov ∧ TmRel t t') ∧ Kept K w w' := by
 have HE := Lib.hid (fun W' t' (hk : Kept (fun k => k ≠ tm ∧ k < w.heap.size) w W') ht => h.own2 (W' := W') (t' := t') hK hk ht)
 have Ht := h.ti
 have hlt := blt Ht.t0
 clear h hK
 have j0 := idx187_0 tm
 have j1 := idx187_1 tm
 have j2 := idx187_2 tm
 have j3 := idx187_3 tm
 go_enter Tryz.func89, Tryz.ntmps89
 go_wp2_with fail
 refine gen_wp ?_
 intro u hu0
 have KFu : ∀ W, Below u.heap.size u W → True ∧ True ∧ True := by
  intro W hu
  refine ⟨trivial, trivial, ?_⟩
  ·trivial
 have hT0 := Lib.hid (show TIs u tm L.sb qb t from by rw [hu0]; exact Ht)
 have hK0 := Lib.hid (show Kept (fun k => k ≠ tm ∧ k < w.heap.size) w u from by rw [hu0]; exact Kept.refl _ _)
 have hB0 : Below w.heap.size w u := by rw [hu0]; exact Below.refl _ _
 have FB := hB0
 clear hu0 Ht
 refine wp_region_held_drew (S := fun W => True ∧ True ∧ True) (by kernel_rfl) (KFu _ (Below.refl _ _).drew) (fun hHeld => ?_)
 have FB := FB.drew
 refine sY 0 6 ?_
 refine sY 1 7 ?_
 refine sY 2 8 ?_
 refine sY 3 9 ?_
 refine sY 4 10 ?_
 refine sY 5 11 ?_
 refine sY 6 12 ?_
 refine sY 7 13 ?_
 refine sY 8 14 ?_
 refine sY 9 15 ?_
 refine sY 10 16 ?_
 refine sY 11 17 ?_
 refine sY 12 18 ?_
 refine sY 13 19 ?_
 refine sY 14 20 ?_
 refine sY 15 21 ?_
 refine sY 16 22 ?_
 refine sY 17 23 ?_
 refine sY 18 24 ?_
 refine sY 19 25 ?_
 refine sY 20 26 ?_
 refine sY 21 27 ?_
 refine wpAnyH_done (by kernel_rfl) ?_ _
 have hT1 := Lib.hid (show TIs u.drew tm L.sb qb t from hT0.out.to rfl)
 have hK1 := Lib.hid (hK0.out.drew)
 clear hT0 hK0 hHeld FB hB0 KFu
 (try simp only [Exit.inBlock, Exit.then])
 go_wp2_with fail
 go_loopg [27] 4 (fun g s27 wx => ∃ (i : Nat) (t' : Tm), i + g = 4 ∧ s27 = .int .i64 i ∧ Hid (TmRel t t') ∧ Hid (TIs wx tm L.sb qb t') ∧ Hid (Kept (fun k => k ≠ tm ∧ k < w.heap.size) w wx))
 case atStart => exact ⟨0, _, rfl, rfl, Lib.hid (⟨rfl, rfl, rfl⟩), hT1, hK1⟩
 case round =>
  obtain ⟨i, t', hig, rfl, Hr, Ht, Hk⟩ := hrel
  clear hT1 hK1
  cases gk with
  | zero =>
   obtain rfl : i = 4 := by omega
   go_wp2_with fail
   go_end0
   exact ⟨rfl, ⟨t', (HE.out _ _ Hk.out Ht.out).1, Hr.out⟩, (HE.out _ _ Hk.out Ht.out).2⟩
  | succ g =>
   have hi : (i = 0 ∧ (i : Int) = 0) ∨ (i = 1 ∧ (i : Int) = 1) ∨ (i = 2 ∧ (i : Int) = 2) ∨ (i = 3 ∧ (i : Int) = 3) := by omega
   have htr := Ht.out.tB.blk.lt
   obtain ⟨_, f2, v2⟩ := Ht.out.tB.blk.get 2 (by decide)
   obtain ⟨_, f3, v3⟩ := Ht.out.tB.blk.get 3 (by decide)
   obtain ⟨_, f5, v5⟩ := Ht.out.tB.blk.get 5 (by decide)
   obtain ⟨_, f6, v6⟩ := Ht.out.tB.blk.get 6 (by decide)
   rcases hi with ⟨rfl, hc⟩ | ⟨rfl, hc⟩ | ⟨rfl, hc⟩ | ⟨rfl, hc⟩
   all_goals
    rw [hc]
    have Hig := Lib.hid hig
    clear hc hig
    go_wp2_with fail
   all_goals
    go_roundg g
    case measure => omega
    case rel =>
     have hr := Hr.out
     first
      | exact ⟨4 - g, t', by have := Hig.out; omega, by first | rfl | (have := Hig.out; congr 1; omega), Hr, Lib.hid (Ht.out.to (Below.heap_alloc _ _ _ htr)), Lib.hid (Hk.out.alloc (fun k hk => hk.2) _)⟩
      | exact ⟨4 - g, { t' with gd := true }, by have := Hig.out; omega, by first | rfl | (have := Hig.out; congr 1; omega), Lib.hid ⟨hr.1, hr.2.1, hr.2.2⟩, Lib.hid ((Ht.out.set_gd _).to (Below.heap_alloc _ _ _ (by simpa using htr))), Lib.hid ((Hk.out.set (fun h => h.1 rfl) _).alloc (fun k hk => hk.2) _)⟩
      | exact ⟨4 - g, { t' with gd := false }, by have := Hig.out; omega, by first | rfl | (have := Hig.out; congr 1; omega), Lib.hid ⟨hr.1, hr.2.1, hr.2.2⟩, Lib.hid ((Ht.out.set_gd _).to (Below.heap_alloc _ _ _ (by simpa using htr))), Lib.hid ((Hk.out.set (fun h => h.1 rfl) _).alloc (fun k hk => hk.2) _)⟩
      | exact ⟨4 - g, { t' with pt := true }, by have := Hig.out; omega, by first | rfl | (have := Hig.out; congr 1; omega), Lib.hid ⟨hr.1, hr.2.1, hr.2.2⟩, Lib.hid ((Ht.out.set_pt _).to (Below.heap_alloc _ _ _ (by simpa using htr))), Lib.hid ((Hk.out.set (fun h => h.1 rfl) _).alloc (fun k hk => hk.2) _)⟩
      | exact ⟨4 - g, { t' with pt := false }, by have := Hig.out; omega, by first | rfl | (have := Hig.out; congr 1; omega), Lib.hid ⟨hr.1, hr.2.1, hr.2.2⟩, Lib.hid ((Ht.out.set_pt _).to (Below.heap_alloc _ _ _ (by simpa using htr))), Lib.hid ((Hk.out.set (fun h => h.1 rfl) _).alloc (fun k hk => hk.2) _)⟩
      | exact ⟨4 - g, { t' with ins := true }, by have := Hig.out; omega, by first | rfl | (have := Hig.out; congr 1; omega), Lib.hid ⟨hr.1, hr.2.1, hr.2.2⟩, Lib.hid ((Ht.out.set_ins _).to (Below.heap_alloc _ _ _ (by simpa using htr))), Lib.hid ((Hk.out.set (fun h => h.1 rfl) _).alloc (fun k hk => hk.2) _)⟩
      | exact ⟨4 - g, { t' with ins := false }, by have := Hig.out; omega, by first | rfl | (have := Hig.out; congr 1; omega), Lib.hid ⟨hr.1, hr.2.1, hr.2.2⟩, Lib.hid ((Ht.out.set_ins _).to (Below.heap_alloc _ _ _ (by simpa using htr))), Lib.hid ((Hk.out.set (fun h => h.1 rfl) _).alloc (fun k hk => hk.2) _)⟩
      | exact ⟨4 - g, { t' with em := true }, by have := Hig.out; omega, by first | rfl | (have := Hig.out; congr 1; omega), Lib.hid ⟨hr.1, hr.2.1, hr.2.2⟩, Lib.hid ((Ht.out.set_em _).to (Below.heap_alloc _ _ _ (by simpa using htr))), Lib.hid ((Hk.out.set (fun h => h.1 rfl) _).alloc (fun k hk => hk.2) _)⟩
      | exact ⟨4 - g, { t' with em := false }, by have := Hig.out; omega, by first | rfl | (have := Hig.out; congr 1; omega), Lib.hid ⟨hr.1, hr.2.1, hr.2.2⟩, Lib.hid ((Ht.out.set_em _).to (Below.heap_alloc _ _ _ (by simpa using htr))), Lib.hid ((Hk.out.set (fun h => h.1 rfl) _).alloc (fun k hk => hk.2) _)⟩
set_option maxHeartbeats 8000000 in
theorem y_modes_113 (w : World) (hK : KB K w) (h : Wy K L tm qb lb w rs cell r c S t f Q ov) :
  Calls Tryz.prog 89 #[.pointer (some ⟨tm, 0, none⟩), .int .u8 113] w fun e w' => e = .returned (.tuple #[]) ∧ (∃ t', Wy K L tm qb lb w' rs cell r c S t' f Q ov ∧ TmRel t t') ∧ Kept K w w' := by
 have HE := Lib.hid (fun W' t' (hk : Kept (fun k => k ≠ tm ∧ k < w.heap.size) w W') ht => h.own2 (W' := W') (t' := t') hK hk ht)
 have Ht := h.ti
 have hlt := blt Ht.t0
 clear h hK
 have j0 := idx187_0 tm
 have j1 := idx187_1 tm
 have j2 := idx187_2 tm
 have j3 := idx187_3 tm
 go_enter Tryz.func89, Tryz.ntmps89
 go_wp2_with fail
 refine gen_wp ?_
 intro u hu0
 have KFu : ∀ W, Below u.heap.size u W → True ∧ True ∧ True := by
  intro W hu
  refine ⟨trivial, trivial, ?_⟩
  ·trivial
 have hT0 := Lib.hid (show TIs u tm L.sb qb t from by rw [hu0]; exact Ht)
 have hK0 := Lib.hid (show Kept (fun k => k ≠ tm ∧ k < w.heap.size) w u from by rw [hu0]; exact Kept.refl _ _)
 have hB0 : Below w.heap.size w u := by rw [hu0]; exact Below.refl _ _
 have FB := hB0
 clear hu0 Ht
 refine wp_region_held_drew (S := fun W => True ∧ True ∧ True) (by kernel_rfl) (KFu _ (Below.refl _ _).drew) (fun hHeld => ?_)
 have FB := FB.drew
 refine sY 0 6 ?_
 refine sY 1 7 ?_
 refine sY 2 8 ?_
 refine sY 3 9 ?_
 refine sY 4 10 ?_
 refine sY 5 11 ?_
 refine sY 6 12 ?_
 refine sY 7 13 ?_
 refine sY 8 14 ?_
 refine sY 9 15 ?_
 refine sY 10 16 ?_
 refine sY 11 17 ?_
 refine sY 12 18 ?_
 refine sY 13 19 ?_
 refine sY 14 20 ?_
 refine sY 15 21 ?_
 refine sY 16 22 ?_
 refine sY 17 23 ?_
 refine sY 18 24 ?_
 refine sY 19 25 ?_
 refine sY 20 26 ?_
 refine sY 21 27 ?_
 refine wpAnyH_done (by kernel_rfl) ?_ _
 have hT1 := Lib.hid (show TIs u.drew tm L.sb qb t from hT0.out.to rfl)
 have hK1 := Lib.hid (hK0.out.drew)
 clear hT0 hK0 hHeld FB hB0 KFu
 (try simp only [Exit.inBlock, Exit.then])
 go_wp2_with fail
 go_loopg [27] 4 (fun g s27 wx => ∃ (i : Nat) (t' : Tm), i + g = 4 ∧ s27 = .int .i64 i ∧ Hid (TmRel t t') ∧ Hid (TIs wx tm L.sb qb t') ∧ Hid (Kept (fun k => k ≠ tm ∧ k < w.heap.size) w wx))
 case atStart => exact ⟨0, _, rfl, rfl, Lib.hid (⟨rfl, rfl, rfl⟩), hT1, hK1⟩
 case round =>
  obtain ⟨i, t', hig, rfl, Hr, Ht, Hk⟩ := hrel
  clear hT1 hK1
  cases gk with
  | zero =>
   obtain rfl : i = 4 := by omega
   go_wp2_with fail
   go_end0
   exact ⟨rfl, ⟨t', (HE.out _ _ Hk.out Ht.out).1, Hr.out⟩, (HE.out _ _ Hk.out Ht.out).2⟩
  | succ g =>
   have hi : (i = 0 ∧ (i : Int) = 0) ∨ (i = 1 ∧ (i : Int) = 1) ∨ (i = 2 ∧ (i : Int) = 2) ∨ (i = 3 ∧ (i : Int) = 3) := by omega
   have htr := Ht.out.tB.blk.lt
   obtain ⟨_, f2, v2⟩ := Ht.out.tB.blk.get 2 (by decide)
   obtain ⟨_, f3, v3⟩ := Ht.out.tB.blk.get 3 (by decide)
   obtain ⟨_, f5, v5⟩ := Ht.out.tB.blk.get 5 (by decide)
   obtain ⟨_, f6, v6⟩ := Ht.out.tB.blk.get 6 (by decide)
   rcases hi with ⟨rfl, hc⟩ | ⟨rfl, hc⟩ | ⟨rfl, hc⟩ | ⟨rfl, hc⟩
   all_goals
    rw [hc]
    have Hig := Lib.hid hig
    clear hc hig
    go_wp2_with fail
   all_goals
    go_roundg g
    case measure => omega
    case rel =>
     have hr := Hr.out
     first
      | exact ⟨4 - g, t', by have := Hig.out; omega, by first | rfl | (have := Hig.out; congr 1; omega), Hr, Lib.hid (Ht.out.to (Below.heap_alloc _ _ _ htr)), Lib.hid (Hk.out.alloc (fun k hk => hk.2) _)⟩
      | exact ⟨4 - g, { t' with gd := true }, by have := Hig.out; omega, by first | rfl | (have := Hig.out; congr 1; omega), Lib.hid ⟨hr.1, hr.2.1, hr.2.2⟩, Lib.hid ((Ht.out.set_gd _).to (Below.heap_alloc _ _ _ (by simpa using htr))), Lib.hid ((Hk.out.set (fun h => h.1 rfl) _).alloc (fun k hk => hk.2) _)⟩
      | exact ⟨4 - g, { t' with gd := false }, by have := Hig.out; omega, by first | rfl | (have := Hig.out; congr 1; omega), Lib.hid ⟨hr.1, hr.2.1, hr.2.2⟩, Lib.hid ((Ht.out.set_gd _).to (Below.heap_alloc _ _ _ (by simpa using htr))), Lib.hid ((Hk.out.set (fun h => h.1 rfl) _).alloc (fun k hk => hk.2) _)⟩
      | exact ⟨4 - g, { t' with pt := true }, by have := Hig.out; omega, by first | rfl | (have := Hig.out; congr 1; omega), Lib.hid ⟨hr.1, hr.2.1, hr.2.2⟩, Lib.hid ((Ht.out.set_pt _).to (Below.heap_alloc _ _ _ (by simpa using htr))), Lib.hid ((Hk.out.set (fun h => h.1 rfl) _).alloc (fun k hk => hk.2) _)⟩
      | exact ⟨4 - g, { t' with pt := false }, by have := Hig.out; omega, by first | rfl | (have := Hig.out; congr 1; omega), Lib.hid ⟨hr.1, hr.2.1, hr.2.2⟩, Lib.hid ((Ht.out.set_pt _).to (Below.heap_alloc _ _ _ (by simpa using htr))), Lib.hid ((Hk.out.set (fun h => h.1 rfl) _).alloc (fun k hk => hk.2) _)⟩
      | exact ⟨4 - g, { t' with ins := true }, by have := Hig.out; omega, by first | rfl | (have := Hig.out; congr 1; omega), Lib.hid ⟨hr.1, hr.2.1, hr.2.2⟩, Lib.hid ((Ht.out.set_ins _).to (Below.heap_alloc _ _ _ (by simpa using htr))), Lib.hid ((Hk.out.set (fun h => h.1 rfl) _).alloc (fun k hk => hk.2) _)⟩
      | exact ⟨4 - g, { t' with ins := false }, by have := Hig.out; omega, by first | rfl | (have := Hig.out; congr 1; omega), Lib.hid ⟨hr.1, hr.2.1, hr.2.2⟩, Lib.hid ((Ht.out.set_ins _).to (Below.heap_alloc _ _ _ (by simpa using htr))), Lib.hid ((Hk.out.set (fun h => h.1 rfl) _).alloc (fun k hk => hk.2) _)⟩
      | exact ⟨4 - g, { t' with em := true }, by have := Hig.out; omega, by first | rfl | (have := Hig.out; congr 1; omega), Lib.hid ⟨hr.1, hr.2.1, hr.2.2⟩, Lib.hid ((Ht.out.set_em _).to (Below.heap_alloc _ _ _ (by simpa using htr))), Lib.hid ((Hk.out.set (fun h => h.1 rfl) _).alloc (fun k hk => hk.2) _)⟩
      | exact ⟨4 - g, { t' with em := false }, by have := Hig.out; omega, by first | rfl | (have := Hig.out; congr 1; omega), Lib.hid ⟨hr.1, hr.2.1, hr.2.2⟩, Lib.hid ((Ht.out.set_em _).to (Below.heap_alloc _ _ _ (by simpa using htr))), Lib.hid ((Hk.out.set (fun h => h.1 rfl) _).alloc (fun k hk => hk.2) _)⟩
set_option maxHeartbeats 8000000 in
theorem y_modes_114 (w : World) (hK : KB K w) (h : Wy K L tm qb lb w rs cell r c S t f Q ov) :
  Calls Tryz.prog 89 #[.pointer (some ⟨tm, 0, none⟩), .int .u8 114] w fun e w' => e = .returned (.tuple #[]) ∧ (∃ t', Wy K L tm qb lb w' rs cell r c S t' f Q ov ∧ TmRel t t') ∧ Kept K w w' := by
 have HE := Lib.hid (fun W' t' (hk : Kept (fun k => k ≠ tm ∧ k < w.heap.size) w W') ht => h.own2 (W' := W') (t' := t') hK hk ht)
 have Ht := h.ti
 have hlt := blt Ht.t0
 clear h hK
 have j0 := idx187_0 tm
 have j1 := idx187_1 tm
 have j2 := idx187_2 tm
 have j3 := idx187_3 tm
 go_enter Tryz.func89, Tryz.ntmps89
 go_wp2_with fail
 refine gen_wp ?_
 intro u hu0
 have KFu : ∀ W, Below u.heap.size u W → True ∧ True ∧ True := by
  intro W hu
  refine ⟨trivial, trivial, ?_⟩
  ·trivial
 have hT0 := Lib.hid (show TIs u tm L.sb qb t from by rw [hu0]; exact Ht)
 have hK0 := Lib.hid (show Kept (fun k => k ≠ tm ∧ k < w.heap.size) w u from by rw [hu0]; exact Kept.refl _ _)
 have hB0 : Below w.heap.size w u := by rw [hu0]; exact Below.refl _ _
 have FB := hB0
 clear hu0 Ht
 refine wp_region_held_drew (S := fun W => True ∧ True ∧ True) (by kernel_rfl) (KFu _ (Below.refl _ _).drew) (fun hHeld => ?_)
 have FB := FB.drew
 refine sY 0 6 ?_
 refine sY 1 7 ?_
 refine sY 2 8 ?_
 refine sY 3 9 ?_
 refine sY 4 10 ?_
 refine sY 5 11 ?_
 refine sY 6 12 ?_
 refine sY 7 13 ?_
 refine sY 8 14 ?_
 refine sY 9 15 ?_
 refine sY 10 16 ?_
 refine sY 11 17 ?_
 refine sY 12 18 ?_
 refine sY 13 19 ?_
 refine sY 14 20 ?_
 refine sY 15 21 ?_
 refine sY 16 22 ?_
 refine sY 17 23 ?_
 refine sY 18 24 ?_
 refine sY 19 25 ?_
 refine sY 20 26 ?_
 refine sY 21 27 ?_
 refine wpAnyH_done (by kernel_rfl) ?_ _
 have hT1 := Lib.hid (show TIs u.drew tm L.sb qb t from hT0.out.to rfl)
 have hK1 := Lib.hid (hK0.out.drew)
 clear hT0 hK0 hHeld FB hB0 KFu
 (try simp only [Exit.inBlock, Exit.then])
 go_wp2_with fail
 go_loopg [27] 4 (fun g s27 wx => ∃ (i : Nat) (t' : Tm), i + g = 4 ∧ s27 = .int .i64 i ∧ Hid (TmRel t t') ∧ Hid (TIs wx tm L.sb qb t') ∧ Hid (Kept (fun k => k ≠ tm ∧ k < w.heap.size) w wx))
 case atStart => exact ⟨0, _, rfl, rfl, Lib.hid (⟨rfl, rfl, rfl⟩), hT1, hK1⟩
 case round =>
  obtain ⟨i, t', hig, rfl, Hr, Ht, Hk⟩ := hrel
  clear hT1 hK1
  cases gk with
  | zero =>
   obtain rfl : i = 4 := by omega
   go_wp2_with fail
   go_end0
   exact ⟨rfl, ⟨t', (HE.out _ _ Hk.out Ht.out).1, Hr.out⟩, (HE.out _ _ Hk.out Ht.out).2⟩
  | succ g =>
   have hi : (i = 0 ∧ (i : Int) = 0) ∨ (i = 1 ∧ (i : Int) = 1) ∨ (i = 2 ∧ (i : Int) = 2) ∨ (i = 3 ∧ (i : Int) = 3) := by omega
   have htr := Ht.out.tB.blk.lt
   obtain ⟨_, f2, v2⟩ := Ht.out.tB.blk.get 2 (by decide)
   obtain ⟨_, f3, v3⟩ := Ht.out.tB.blk.get 3 (by decide)
   obtain ⟨_, f5, v5⟩ := Ht.out.tB.blk.get 5 (by decide)
   obtain ⟨_, f6, v6⟩ := Ht.out.tB.blk.get 6 (by decide)
   rcases hi with ⟨rfl, hc⟩ | ⟨rfl, hc⟩ | ⟨rfl, hc⟩ | ⟨rfl, hc⟩
   all_goals
    rw [hc]
    have Hig := Lib.hid hig
    clear hc hig
    go_wp2_with fail
   all_goals
    go_roundg g
    case measure => omega
    case rel =>
     have hr := Hr.out
     first
      | exact ⟨4 - g, t', by have := Hig.out; omega, by first | rfl | (have := Hig.out; congr 1; omega), Hr, Lib.hid (Ht.out.to (Below.heap_alloc _ _ _ htr)), Lib.hid (Hk.out.alloc (fun k hk => hk.2) _)⟩
      | exact ⟨4 - g, { t' with gd := true }, by have := Hig.out; omega, by first | rfl | (have := Hig.out; congr 1; omega), Lib.hid ⟨hr.1, hr.2.1, hr.2.2⟩, Lib.hid ((Ht.out.set_gd _).to (Below.heap_alloc _ _ _ (by simpa using htr))), Lib.hid ((Hk.out.set (fun h => h.1 rfl) _).alloc (fun k hk => hk.2) _)⟩
      | exact ⟨4 - g, { t' with gd := false }, by have := Hig.out; omega, by first | rfl | (have := Hig.out; congr 1; omega), Lib.hid ⟨hr.1, hr.2.1, hr.2.2⟩, Lib.hid ((Ht.out.set_gd _).to (Below.heap_alloc _ _ _ (by simpa using htr))), Lib.hid ((Hk.out.set (fun h => h.1 rfl) _).alloc (fun k hk => hk.2) _)⟩
      | exact ⟨4 - g, { t' with pt := true }, by have := Hig.out; omega, by first | rfl | (have := Hig.out; congr 1; omega), Lib.hid ⟨hr.1, hr.2.1, hr.2.2⟩, Lib.hid ((Ht.out.set_pt _).to (Below.heap_alloc _ _ _ (by simpa using htr))), Lib.hid ((Hk.out.set (fun h => h.1 rfl) _).alloc (fun k hk => hk.2) _)⟩
      | exact ⟨4 - g, { t' with pt := false }, by have := Hig.out; omega, by first | rfl | (have := Hig.out; congr 1; omega), Lib.hid ⟨hr.1, hr.2.1, hr.2.2⟩, Lib.hid ((Ht.out.set_pt _).to (Below.heap_alloc _ _ _ (by simpa using htr))), Lib.hid ((Hk.out.set (fun h => h.1 rfl) _).alloc (fun k hk => hk.2) _)⟩
      | exact ⟨4 - g, { t' with ins := true }, by have := Hig.out; omega, by first | rfl | (have := Hig.out; congr 1; omega), Lib.hid ⟨hr.1, hr.2.1, hr.2.2⟩, Lib.hid ((Ht.out.set_ins _).to (Below.heap_alloc _ _ _ (by simpa using htr))), Lib.hid ((Hk.out.set (fun h => h.1 rfl) _).alloc (fun k hk => hk.2) _)⟩
      | exact ⟨4 - g, { t' with ins := false }, by have := Hig.out; omega, by first | rfl | (have := Hig.out; congr 1; omega), Lib.hid ⟨hr.1, hr.2.1, hr.2.2⟩, Lib.hid ((Ht.out.set_ins _).to (Below.heap_alloc _ _ _ (by simpa using htr))), Lib.hid ((Hk.out.set (fun h => h.1 rfl) _).alloc (fun k hk => hk.2) _)⟩
      | exact ⟨4 - g, { t' with em := true }, by have := Hig.out; omega, by first | rfl | (have := Hig.out; congr 1; omega), Lib.hid ⟨hr.1, hr.2.1, hr.2.2⟩, Lib.hid ((Ht.out.set_em _).to (Below.heap_alloc _ _ _ (by simpa using htr))), Lib.hid ((Hk.out.set (fun h => h.1 rfl) _).alloc (fun k hk => hk.2) _)⟩
      | exact ⟨4 - g, { t' with em := false }, by have := Hig.out; omega, by first | rfl | (have := Hig.out; congr 1; omega), Lib.hid ⟨hr.1, hr.2.1, hr.2.2⟩, Lib.hid ((Ht.out.set_em _).to (Below.heap_alloc _ _ _ (by simpa using htr))), Lib.hid ((Hk.out.set (fun h => h.1 rfl) _).alloc (fun k hk => hk.2) _)⟩
set_option maxHeartbeats 8000000 in
theorem y_modes_65 (w : World) (hK : KB K w) (h : Wy K L tm qb lb w rs cell r c S t f Q ov) :
  Calls Tryz.prog 89 #[.pointer (some ⟨tm, 0, none⟩), .int .u8 65] w fun e w' => e = .returned (.tuple #[]) ∧ (∃ t', Wy K L tm qb lb w' rs cell r c S t' f Q ov ∧ TmRel t t') ∧ Kept K w w' := by
 have HE := Lib.hid (fun W' t' (hk : Kept (fun k => k ≠ tm ∧ k < w.heap.size) w W') ht => h.own2 (W' := W') (t' := t') hK hk ht)
 have Ht := h.ti
 have hlt := blt Ht.t0
 clear h hK
 have j0 := idx187_0 tm
 have j1 := idx187_1 tm
 have j2 := idx187_2 tm
 have j3 := idx187_3 tm
 go_enter Tryz.func89, Tryz.ntmps89
 go_wp2_with fail
 refine gen_wp ?_
 intro u hu0
 have KFu : ∀ W, Below u.heap.size u W → True ∧ True ∧ True := by
  intro W hu
  refine ⟨trivial, trivial, ?_⟩
  ·trivial
 have hT0 := Lib.hid (show TIs u tm L.sb qb t from by rw [hu0]; exact Ht)
 have hK0 := Lib.hid (show Kept (fun k => k ≠ tm ∧ k < w.heap.size) w u from by rw [hu0]; exact Kept.refl _ _)
 have hB0 : Below w.heap.size w u := by rw [hu0]; exact Below.refl _ _
 have FB := hB0
 clear hu0 Ht
 refine wp_region_held_drew (S := fun W => True ∧ True ∧ True) (by kernel_rfl) (KFu _ (Below.refl _ _).drew) (fun hHeld => ?_)
 have FB := FB.drew
 refine sY 0 6 ?_
 refine sY 1 7 ?_
 refine sY 2 8 ?_
 refine sY 3 9 ?_
 refine sY 4 10 ?_
 refine sY 5 11 ?_
 refine sY 6 12 ?_
 refine sY 7 13 ?_
 refine sY 8 14 ?_
 refine sY 9 15 ?_
 refine sY 10 16 ?_
 refine sY 11 17 ?_
 refine sY 12 18 ?_
 refine sY 13 19 ?_
 refine sY 14 20 ?_
 refine sY 15 21 ?_
 refine sY 16 22 ?_
 refine sY 17 23 ?_
 refine sY 18 24 ?_
 refine sY 19 25 ?_
 refine sY 20 26 ?_
 refine sY 21 27 ?_
 refine wpAnyH_done (by kernel_rfl) ?_ _
 have hT1 := Lib.hid (show TIs u.drew tm L.sb qb t from hT0.out.to rfl)
 have hK1 := Lib.hid (hK0.out.drew)
 clear hT0 hK0 hHeld FB hB0 KFu
 (try simp only [Exit.inBlock, Exit.then])
 go_wp2_with fail
 go_loopg [27] 4 (fun g s27 wx => ∃ (i : Nat) (t' : Tm), i + g = 4 ∧ s27 = .int .i64 i ∧ Hid (TmRel t t') ∧ Hid (TIs wx tm L.sb qb t') ∧ Hid (Kept (fun k => k ≠ tm ∧ k < w.heap.size) w wx))
 case atStart => exact ⟨0, _, rfl, rfl, Lib.hid (⟨rfl, rfl, rfl⟩), hT1, hK1⟩
 case round =>
  obtain ⟨i, t', hig, rfl, Hr, Ht, Hk⟩ := hrel
  clear hT1 hK1
  cases gk with
  | zero =>
   obtain rfl : i = 4 := by omega
   go_wp2_with fail
   go_end0
   exact ⟨rfl, ⟨t', (HE.out _ _ Hk.out Ht.out).1, Hr.out⟩, (HE.out _ _ Hk.out Ht.out).2⟩
  | succ g =>
   have hi : (i = 0 ∧ (i : Int) = 0) ∨ (i = 1 ∧ (i : Int) = 1) ∨ (i = 2 ∧ (i : Int) = 2) ∨ (i = 3 ∧ (i : Int) = 3) := by omega
   have htr := Ht.out.tB.blk.lt
   obtain ⟨_, f2, v2⟩ := Ht.out.tB.blk.get 2 (by decide)
   obtain ⟨_, f3, v3⟩ := Ht.out.tB.blk.get 3 (by decide)
   obtain ⟨_, f5, v5⟩ := Ht.out.tB.blk.get 5 (by decide)
   obtain ⟨_, f6, v6⟩ := Ht.out.tB.blk.get 6 (by decide)
   rcases hi with ⟨rfl, hc⟩ | ⟨rfl, hc⟩ | ⟨rfl, hc⟩ | ⟨rfl, hc⟩
   all_goals
    rw [hc]
    have Hig := Lib.hid hig
    clear hc hig
    go_wp2_with fail
   all_goals
    go_roundg g
    case measure => omega
    case rel =>
     have hr := Hr.out
     first
      | exact ⟨4 - g, t', by have := Hig.out; omega, by first | rfl | (have := Hig.out; congr 1; omega), Hr, Lib.hid (Ht.out.to (Below.heap_alloc _ _ _ htr)), Lib.hid (Hk.out.alloc (fun k hk => hk.2) _)⟩
      | exact ⟨4 - g, { t' with gd := true }, by have := Hig.out; omega, by first | rfl | (have := Hig.out; congr 1; omega), Lib.hid ⟨hr.1, hr.2.1, hr.2.2⟩, Lib.hid ((Ht.out.set_gd _).to (Below.heap_alloc _ _ _ (by simpa using htr))), Lib.hid ((Hk.out.set (fun h => h.1 rfl) _).alloc (fun k hk => hk.2) _)⟩
      | exact ⟨4 - g, { t' with gd := false }, by have := Hig.out; omega, by first | rfl | (have := Hig.out; congr 1; omega), Lib.hid ⟨hr.1, hr.2.1, hr.2.2⟩, Lib.hid ((Ht.out.set_gd _).to (Below.heap_alloc _ _ _ (by simpa using htr))), Lib.hid ((Hk.out.set (fun h => h.1 rfl) _).alloc (fun k hk => hk.2) _)⟩
      | exact ⟨4 - g, { t' with pt := true }, by have := Hig.out; omega, by first | rfl | (have := Hig.out; congr 1; omega), Lib.hid ⟨hr.1, hr.2.1, hr.2.2⟩, Lib.hid ((Ht.out.set_pt _).to (Below.heap_alloc _ _ _ (by simpa using htr))), Lib.hid ((Hk.out.set (fun h => h.1 rfl) _).alloc (fun k hk => hk.2) _)⟩
      | exact ⟨4 - g, { t' with pt := false }, by have := Hig.out; omega, by first | rfl | (have := Hig.out; congr 1; omega), Lib.hid ⟨hr.1, hr.2.1, hr.2.2⟩, Lib.hid ((Ht.out.set_pt _).to (Below.heap_alloc _ _ _ (by simpa using htr))), Lib.hid ((Hk.out.set (fun h => h.1 rfl) _).alloc (fun k hk => hk.2) _)⟩
      | exact ⟨4 - g, { t' with ins := true }, by have := Hig.out; omega, by first | rfl | (have := Hig.out; congr 1; omega), Lib.hid ⟨hr.1, hr.2.1, hr.2.2⟩, Lib.hid ((Ht.out.set_ins _).to (Below.heap_alloc _ _ _ (by simpa using htr))), Lib.hid ((Hk.out.set (fun h => h.1 rfl) _).alloc (fun k hk => hk.2) _)⟩
      | exact ⟨4 - g, { t' with ins := false }, by have := Hig.out; omega, by first | rfl | (have := Hig.out; congr 1; omega), Lib.hid ⟨hr.1, hr.2.1, hr.2.2⟩, Lib.hid ((Ht.out.set_ins _).to (Below.heap_alloc _ _ _ (by simpa using htr))), Lib.hid ((Hk.out.set (fun h => h.1 rfl) _).alloc (fun k hk => hk.2) _)⟩
      | exact ⟨4 - g, { t' with em := true }, by have := Hig.out; omega, by first | rfl | (have := Hig.out; congr 1; omega), Lib.hid ⟨hr.1, hr.2.1, hr.2.2⟩, Lib.hid ((Ht.out.set_em _).to (Below.heap_alloc _ _ _ (by simpa using htr))), Lib.hid ((Hk.out.set (fun h => h.1 rfl) _).alloc (fun k hk => hk.2) _)⟩
      | exact ⟨4 - g, { t' with em := false }, by have := Hig.out; omega, by first | rfl | (have := Hig.out; congr 1; omega), Lib.hid ⟨hr.1, hr.2.1, hr.2.2⟩, Lib.hid ((Ht.out.set_em _).to (Below.heap_alloc _ _ _ (by simpa using htr))), Lib.hid ((Hk.out.set (fun h => h.1 rfl) _).alloc (fun k hk => hk.2) _)⟩
set_option maxHeartbeats 8000000 in
theorem y_modes_66 (w : World) (hK : KB K w) (h : Wy K L tm qb lb w rs cell r c S t f Q ov) :
  Calls Tryz.prog 89 #[.pointer (some ⟨tm, 0, none⟩), .int .u8 66] w fun e w' => e = .returned (.tuple #[]) ∧ (∃ t', Wy K L tm qb lb w' rs cell r c S t' f Q ov ∧ TmRel t t') ∧ Kept K w w' := by
 have HE := Lib.hid (fun W' t' (hk : Kept (fun k => k ≠ tm ∧ k < w.heap.size) w W') ht => h.own2 (W' := W') (t' := t') hK hk ht)
 have Ht := h.ti
 have hlt := blt Ht.t0
 clear h hK
 have j0 := idx187_0 tm
 have j1 := idx187_1 tm
 have j2 := idx187_2 tm
 have j3 := idx187_3 tm
 go_enter Tryz.func89, Tryz.ntmps89
 go_wp2_with fail
 refine gen_wp ?_
 intro u hu0
 have KFu : ∀ W, Below u.heap.size u W → True ∧ True ∧ True := by
  intro W hu
  refine ⟨trivial, trivial, ?_⟩
  ·trivial
 have hT0 := Lib.hid (show TIs u tm L.sb qb t from by rw [hu0]; exact Ht)
 have hK0 := Lib.hid (show Kept (fun k => k ≠ tm ∧ k < w.heap.size) w u from by rw [hu0]; exact Kept.refl _ _)
 have hB0 : Below w.heap.size w u := by rw [hu0]; exact Below.refl _ _
 have FB := hB0
 clear hu0 Ht
 refine wp_region_held_drew (S := fun W => True ∧ True ∧ True) (by kernel_rfl) (KFu _ (Below.refl _ _).drew) (fun hHeld => ?_)
 have FB := FB.drew
 refine sY 0 6 ?_
 refine sY 1 7 ?_
 refine sY 2 8 ?_
 refine sY 3 9 ?_
 refine sY 4 10 ?_
 refine sY 5 11 ?_
 refine sY 6 12 ?_
 refine sY 7 13 ?_
 refine sY 8 14 ?_
 refine sY 9 15 ?_
 refine sY 10 16 ?_
 refine sY 11 17 ?_
 refine sY 12 18 ?_
 refine sY 13 19 ?_
 refine sY 14 20 ?_
 refine sY 15 21 ?_
 refine sY 16 22 ?_
 refine sY 17 23 ?_
 refine sY 18 24 ?_
 refine sY 19 25 ?_
 refine sY 20 26 ?_
 refine sY 21 27 ?_
 refine wpAnyH_done (by kernel_rfl) ?_ _
 have hT1 := Lib.hid (show TIs u.drew tm L.sb qb t from hT0.out.to rfl)
 have hK1 := Lib.hid (hK0.out.drew)
 clear hT0 hK0 hHeld FB hB0 KFu
 (try simp only [Exit.inBlock, Exit.then])
 go_wp2_with fail
 go_loopg [27] 4 (fun g s27 wx => ∃ (i : Nat) (t' : Tm), i + g = 4 ∧ s27 = .int .i64 i ∧ Hid (TmRel t t') ∧ Hid (TIs wx tm L.sb qb t') ∧ Hid (Kept (fun k => k ≠ tm ∧ k < w.heap.size) w wx))
 case atStart => exact ⟨0, _, rfl, rfl, Lib.hid (⟨rfl, rfl, rfl⟩), hT1, hK1⟩
 case round =>
  obtain ⟨i, t', hig, rfl, Hr, Ht, Hk⟩ := hrel
  clear hT1 hK1
  cases gk with
  | zero =>
   obtain rfl : i = 4 := by omega
   go_wp2_with fail
   go_end0
   exact ⟨rfl, ⟨t', (HE.out _ _ Hk.out Ht.out).1, Hr.out⟩, (HE.out _ _ Hk.out Ht.out).2⟩
  | succ g =>
   have hi : (i = 0 ∧ (i : Int) = 0) ∨ (i = 1 ∧ (i : Int) = 1) ∨ (i = 2 ∧ (i : Int) = 2) ∨ (i = 3 ∧ (i : Int) = 3) := by omega
   have htr := Ht.out.tB.blk.lt
   obtain ⟨_, f2, v2⟩ := Ht.out.tB.blk.get 2 (by decide)
   obtain ⟨_, f3, v3⟩ := Ht.out.tB.blk.get 3 (by decide)
   obtain ⟨_, f5, v5⟩ := Ht.out.tB.blk.get 5 (by decide)
   obtain ⟨_, f6, v6⟩ := Ht.out.tB.blk.get 6 (by decide)
   rcases hi with ⟨rfl, hc⟩ | ⟨rfl, hc⟩ | ⟨rfl, hc⟩ | ⟨rfl, hc⟩
   all_goals
    rw [hc]
    have Hig := Lib.hid hig
    clear hc hig
    go_wp2_with fail
   all_goals
    go_roundg g
    case measure => omega
    case rel =>
     have hr := Hr.out
     first
      | exact ⟨4 - g, t', by have := Hig.out; omega, by first | rfl | (have := Hig.out; congr 1; omega), Hr, Lib.hid (Ht.out.to (Below.heap_alloc _ _ _ htr)), Lib.hid (Hk.out.alloc (fun k hk => hk.2) _)⟩
      | exact ⟨4 - g, { t' with gd := true }, by have := Hig.out; omega, by first | rfl | (have := Hig.out; congr 1; omega), Lib.hid ⟨hr.1, hr.2.1, hr.2.2⟩, Lib.hid ((Ht.out.set_gd _).to (Below.heap_alloc _ _ _ (by simpa using htr))), Lib.hid ((Hk.out.set (fun h => h.1 rfl) _).alloc (fun k hk => hk.2) _)⟩
      | exact ⟨4 - g, { t' with gd := false }, by have := Hig.out; omega, by first | rfl | (have := Hig.out; congr 1; omega), Lib.hid ⟨hr.1, hr.2.1, hr.2.2⟩, Lib.hid ((Ht.out.set_gd _).to (Below.heap_alloc _ _ _ (by simpa using htr))), Lib.hid ((Hk.out.set (fun h => h.1 rfl) _).alloc (fun k hk => hk.2) _)⟩
      | exact ⟨4 - g, { t' with pt := true }, by have := Hig.out; omega, by first | rfl | (have := Hig.out; congr 1; omega), Lib.hid ⟨hr.1, hr.2.1, hr.2.2⟩, Lib.hid ((Ht.out.set_pt _).to (Below.heap_alloc _ _ _ (by simpa using htr))), Lib.hid ((Hk.out.set (fun h => h.1 rfl) _).alloc (fun k hk => hk.2) _)⟩
      | exact ⟨4 - g, { t' with pt := false }, by have := Hig.out; omega, by first | rfl | (have := Hig.out; congr 1; omega), Lib.hid ⟨hr.1, hr.2.1, hr.2.2⟩, Lib.hid ((Ht.out.set_pt _).to (Below.heap_alloc _ _ _ (by simpa using htr))), Lib.hid ((Hk.out.set (fun h => h.1 rfl) _).alloc (fun k hk => hk.2) _)⟩
      | exact ⟨4 - g, { t' with ins := true }, by have := Hig.out; omega, by first | rfl | (have := Hig.out; congr 1; omega), Lib.hid ⟨hr.1, hr.2.1, hr.2.2⟩, Lib.hid ((Ht.out.set_ins _).to (Below.heap_alloc _ _ _ (by simpa using htr))), Lib.hid ((Hk.out.set (fun h => h.1 rfl) _).alloc (fun k hk => hk.2) _)⟩
      | exact ⟨4 - g, { t' with ins := false }, by have := Hig.out; omega, by first | rfl | (have := Hig.out; congr 1; omega), Lib.hid ⟨hr.1, hr.2.1, hr.2.2⟩, Lib.hid ((Ht.out.set_ins _).to (Below.heap_alloc _ _ _ (by simpa using htr))), Lib.hid ((Hk.out.set (fun h => h.1 rfl) _).alloc (fun k hk => hk.2) _)⟩
      | exact ⟨4 - g, { t' with em := true }, by have := Hig.out; omega, by first | rfl | (have := Hig.out; congr 1; omega), Lib.hid ⟨hr.1, hr.2.1, hr.2.2⟩, Lib.hid ((Ht.out.set_em _).to (Below.heap_alloc _ _ _ (by simpa using htr))), Lib.hid ((Hk.out.set (fun h => h.1 rfl) _).alloc (fun k hk => hk.2) _)⟩
      | exact ⟨4 - g, { t' with em := false }, by have := Hig.out; omega, by first | rfl | (have := Hig.out; congr 1; omega), Lib.hid ⟨hr.1, hr.2.1, hr.2.2⟩, Lib.hid ((Ht.out.set_em _).to (Below.heap_alloc _ _ _ (by simpa using htr))), Lib.hid ((Hk.out.set (fun h => h.1 rfl) _).alloc (fun k hk => hk.2) _)⟩
theorem y_modes (w : World) (hK : KB K w) (h : Wy K L tm qb lb w rs cell r c S t f Q ov) (b : Nat) :
  Calls Tryz.prog 89 #[.pointer (some ⟨tm, 0, none⟩), .int .u8 b] w fun e w' => e = .returned (.tuple #[]) ∧ (∃ t', Wy K L tm qb lb w' rs cell r c S t' f Q ov ∧ TmRel t t') ∧ Kept K w w' := by
 by_cases q41 : (b : Int) = 41
 ·rw [q41]; exact y_modes_41 w hK h
 by_cases q40 : (b : Int) = 40
 ·rw [q40]; exact y_modes_40 w hK h
 by_cases q38 : (b : Int) = 38
 ·rw [q38]; exact y_modes_38 w hK h
 by_cases q39 : (b : Int) = 39
 ·rw [q39]; exact y_modes_39 w hK h
 by_cases q113 : (b : Int) = 113
 ·rw [q113]; exact y_modes_113 w hK h
 by_cases q114 : (b : Int) = 114
 ·rw [q114]; exact y_modes_114 w hK h
 by_cases q65 : (b : Int) = 65
 ·rw [q65]; exact y_modes_65 w hK h
 by_cases q66 : (b : Int) = 66
 ·rw [q66]; exact y_modes_66 w hK h
 refine (y_modes_no w hK h b (by simpa using q41) (by simpa using q40) (by simpa using q38) (by simpa using q39) (by simpa using q113) (by simpa using q114) (by simpa using q65) (by simpa using q66)).mono ?_
 rintro e w' ⟨rfl, ⟨t', h1, h3⟩, h2⟩
 cases h3
 exact ⟨rfl, ⟨_, h1, rfl, rfl, rfl⟩, h2⟩
end
end Go.Proofs.YtpjooboohelffaaGreatDoor
