/- TopLooks and TopSends, helper 18 of 27. It holds: the queue: slices.Collect of what is taken; Some, Drain, Clear; a Wyse 60 in memory: its screen, its queue, its own block; a Wyse 60: the screen's steps under it; column, cleared; a Wyse 60: put. Each theorem states its own conditions. -/
import Derived.Test.YtpjooboohelffaaGreatDoorM15
import Derived.Test.YtpjooboohelffaaGreatDoorM16
/- Top: the queue: slices.Collect of what is taken; Some, Drain, Clear. -/
namespace Go.Proofs.YtpjooboohelffaaGreatDoor
open Go.RowKit Go.Shelf F16
set_option linter.unusedVariables false
set_option linter.unusedSimpArgs false
set_option maxRecDepth 100000
attribute [local go_sem] Oper.semAt_some
theorem ownB_own {w : World} {base : Nat} {v : Value} {L : List Int} (h : OwnB w base v L) {k : Nat} (hk : v.ownBlock = some k) : base ≤ k ∧ ∃ cs, w.heap[k]? = some (.cells cs 5 (0, 0)) := by
 rcases h.2 with ⟨rfl, _⟩ | ⟨g, cap, cur, rfl, hg, hgb, _⟩
 ·simp [Value.ownBlock] at hk
 ·simp [Value.ownBlock] at hk
  subst hk
  exact ⟨hg, _, hgb⟩
theorem ownB_blocks {w w' : World} {base : Nat} {v : Value} {L : List Int} (h : OwnB w base v L) (hb : ∀ k, v.ownBlock = some k → w'.heap[k]? = w.heap[k]?) : OwnB w' base v L := by
 obtain ⟨h1, h2⟩ := h
 refine ⟨h1, ?_⟩
 rcases h2 with h2 | ⟨g, cap, cur, hv, hg, hh, r⟩
 ·exact .inl h2
 ·exact .inr ⟨g, cap, cur, hv, hg, (hb g (by rw [hv]; rfl)).trans hh, r⟩
/-- What lies in AppendSeq's box between two rounds. -/
def BoxB (w : World) (qb Bs : Nat) (L : List Int) (W : World) : Prop := (∃ v, W.heap[Bs]? = some (.cells #[v] 84 (0, 0)) ∧ OwnB W w.heap.size v L) ∧ Kept (fun k => k < w.heap.size ∧ k ≠ qb) w W
theorem BoxB.to {w W W' : World} {qb Bs : Nat} {L : List Int} (h : BoxB w qb Bs L W) (hq : qb < w.heap.size) (hB : w.heap.size ≤ Bs) (hk : Kept (fun k => k < W.heap.size ∧ k ≠ qb) W W') : BoxB w qb Bs L W' := by
 obtain ⟨⟨v, h1, h2⟩, h3⟩ := h
 refine ⟨⟨v, (hk.block _ ⟨(Array.getElem?_eq_some_iff.1 h1).1, by omega⟩).trans h1, ownB_blocks h2 (fun k hv => ?_)⟩, h3.trans (hk.less (fun k hh => ⟨Nat.lt_of_lt_of_le hh.1 h3.size, hh.2⟩))⟩
 obtain ⟨h4, cs, h5⟩ := ownB_own h2 hv
 exact hk.block _ ⟨(Array.getElem?_eq_some_iff.1 h5).1, by omega⟩
theorem BoxB.steps {w W W' : World} {qb Bs B : Nat} {L : List Int} {row : Option Nat} (h : BoxB w qb Bs L W) (hB : w.heap.size ≤ B) (hg : W.grownBy W' row) (hr : ∀ r, row = some r → B ≤ r ∧ ∃ o : Obj, W.heap[r]? = some o ∧ o.isCells = false) : BoxB w qb Bs L W' := by
 obtain ⟨⟨v, h1, h2⟩, h3⟩ := h
 have hne : ∀ (k : Nat) (cs : Array Value) (t : TypeId), W.heap[k]? = some (Obj.cells cs t (0, 0)) → W'.heap[k]? = W.heap[k]? := fun k cs t hk => hg.block k (Array.getElem?_eq_some_iff.1 hk).1 (fun e => by
  obtain ⟨_, o, ho, hc⟩ := hr k e.symm
  rw [hk] at ho
  cases ho
  cases hc)
 refine ⟨⟨v, (hne _ _ _ h1).trans h1, ownB_blocks h2 (fun k hv => ?_)⟩, h3.trans ⟨hg.os, hg.tape, hg.output, hg.size, fun k hk => hg.block k (Nat.lt_of_lt_of_le hk.1 h3.size) (fun e => by have := (hr k e.symm).1; omega)⟩⟩
 obtain ⟨h4, cs, h5⟩ := ownB_own h2 hv
 exact hne _ _ _ h5
theorem QAt.steps {W W' : World} {qb lb f n B : Nat} {L : List Int} {ov : Bool} {row : Option Nat} (h : QAt qb lb f L ov n W) (hg : W.grownBy W' row) (hr : ∀ r, row = some r → B ≤ r ∧ ∃ o : Obj, W.heap[r]? = some o ∧ o.isCells = false) : QAt qb lb f L ov n W' := by
 have hne : ∀ (j : Nat) (n : Nat) (t : TypeId), BlkT W j n t → W'.heap[j]? = W.heap[j]? := fun j n t hb => by
  obtain ⟨cs, hk, _⟩ := hb
  exact hg.block j (Array.getElem?_eq_some_iff.1 hk).1 (fun e => by
   obtain ⟨_, o, ho, hc⟩ := hr j e.symm
   rw [hk] at ho
   cases ho
   cases hc)
 exact h.to (hne _ _ _ (QIs.qB h)) (hne _ _ _ (QIs.lB h))
theorem u8_cells (W : World) (x : Int) (j : Nat) (u : Value) (h : [Value.int .u8 x][j]? = some u) : (W.alloc (.cells #[.int .u8 x] 5)).cell? ((⟨W.heap.size, 0, none⟩ : Addr).add j) = some u := by
 have hj2 : j < 1 := by
  have := (List.getElem?_eq_some_iff.1 h).1
  simpa using this
 obtain rfl : j = 0 := by omega
 simp at h; subst h; simp [go_sem, Addr.add]
set_option maxHeartbeats 2000000 in
theorem apseq_b (w : World) (qb lb f bn br : Nat) (L : List Int) (ov : Bool) (hq : QIs w qb lb f L ov) (hbn : w.cell? ⟨bn, 0, none⟩ = some (.int .i64 (L.length : Int))) (hbr : w.cell? ⟨br, 0, none⟩ = some (.pointer (some ⟨qb, 0, none⟩))) (n1 : bn ≠ qb) (n2 : br ≠ qb) :
  Calls Tryz.prog 97 #[.slice none 0 0, .func (.func 98) #[] #[.pointer (some ⟨bn, 0, none⟩), .pointer (some ⟨br, 0, none⟩)]] w fun e w' => ∃ v, e = .returned v ∧ OwnB w' w.heap.size v L ∧ QIs w' qb lb ((f + L.length) % 4096) [] ov ∧ Kept (fun k => k < w.heap.size ∧ k ≠ qb) w w' := by
 refine (callsIn_wide (n := 3)).1 (callsIn_of_wp_marks Tryz.func97 rfl trivial ?_ rfl)
 simp only [Tryz.ntmps97, List.size_toArray, List.length_cons, List.length_nil, Nat.reduceAdd, Nat.reduceSub, Array.replicate_succ, Array.replicate_zero, List.push_toArray, List.append_toArray, List.nil_append, List.cons_append]
 have hB0 : Below w.heap.size w (w.alloc (.cells #[.slice none 0 0] 84)) := bel_alloc (Below.refl _ _) _
 have hL4 := hq.hn
 have hqlt := hq.qB.blk.lt
 have hllt := hq.lB.blk.lt
 have hq0 : QAt qb lb f L ov 0 w := by unfold QAt; simpa [Nat.mod_eq_of_lt hq.hf] using hq
 have HQ := Lib.hid (hq0.to (W' := w.alloc (.cells #[.slice none 0 0] 84)) (hB0.block _ hqlt) (hB0.block _ hllt))
 have HC := Lib.hid (And.intro (cellB (by simpa using hB0) hbn) (cellB (by simpa using hB0) hbr))
 have HCw := Lib.hid (And.intro hbn hbr)
 have hlbn := blt hbn
 have hlbr := blt hbr
 clear hq0 hq hbn hbr
 gi_wp2
 obtain ⟨W0, hW0⟩ : ∃ W0, w.alloc (.cells #[.slice none 0 0] 84) = W0 := ⟨_, rfl⟩
 have hs0 : W0.heap.size = w.heap.size + 1 := by rw [← hW0]; simp
 have hv0 : W0.heap[w.heap.size]? = some (.cells #[.slice none 0 0] 84 (0, 0)) := by rw [← hW0]; exact World.alloc_heap_new w _
 rw [hW0] at hB0 HQ HC ⊢
 clear hW0
 have HB0 := Lib.hid hB0
 have HV0 := Lib.hid hv0
 have HS0 := Lib.hid hs0
 obtain ⟨Bs, hBs⟩ : ∃ Bs, w.heap.size = Bs := ⟨_, rfl⟩
 have HBs := Lib.hid hBs
 clear hB0 hv0 hs0
 have HI00 := Lib.hid (show BoxB w qb Bs [] W0 ∧ QAt qb lb f L ov 0 W0 from ⟨⟨⟨_, by rw [← hBs]; exact HV0.out, OwnB.nil _ _⟩, Kept.ofBelow HB0.out (fun k hk => hk.1)⟩, HQ.out⟩)
 rw [hBs] at HV0 HS0 ⊢
 clear hBs
 have hqB : qb < W0.heap.size := by have := HS0.out; have := HBs.out; omega
 have hlB : lb < W0.heap.size := by have := HS0.out; have := HBs.out; omega
 refine range_lawY (n := 2) (m := 1) (gf := 98) (lb := #[.pointer (some ⟨bn, 0, none⟩), .pointer (some ⟨br, 0, none⟩)]) rfl (enters_of Tryz.func98 (by kernel_rfl) rfl) (encs := encY) (fun _ => rfl)
  (S := fun xs => xs = L) (Sp := fun _ => True) (V := fun pre y => ∃ t, L = pre ++ y :: t) (N := L.length) (Kp := fun _ _ => True) (fun _ _ => trivial) (fun _ _ _ _ _ _ _ _ => trivial)
  (fun pre W => BoxB w qb Bs pre W ∧ QAt qb lb f L ov pre.length W) (fun _ _ _ => False) (fun pre x W => BoxB w qb Bs pre W ∧ QAt qb lb f L ov (pre.length + 1) W) ?hI ?hIy ?hIx HI00.out
  (fun x a' W => a' = { tmps := #[.slice none 0 0, .func (.func 98) #[] #[.pointer (some ⟨bn, 0, none⟩), .pointer (some ⟨br, 0, none⟩)], .pointer (some ⟨Bs, 0, none⟩), undef, .slice none 0 0, .int .u8 x, .func (.func 98) #[] #[.pointer (some ⟨bn, 0, none⟩), .pointer (some ⟨br, 0, none⟩)], .int .u8 x, undef, undef, undef, undef, undef], defers := [] })
  ?hAx ?hit ?assign ?body ?done ?stop
 case hI => exact fun s W W' row h hg hr => ⟨h.1.steps (B := W0.heap.size) HB0.out.size hg hr, h.2.steps (B := W0.heap.size) hg hr⟩
 case hIy => exact fun x s W W' row h hg hr => ⟨h.1.steps (B := W0.heap.size) HB0.out.size hg hr, h.2.steps (B := W0.heap.size) hg hr⟩
 case hIx => exact fun c s W W' row h hg hr => h
 case hAx => exact fun x a' _ W W' row h hg hr => h
 case hit =>
  rintro W1 ⟨o, o', _, _, rfl⟩ hI0
  refine taken_iter 2 (by decide) qb lb f bn br W0.heap.size hqB L ov (fun pre W => BoxB w qb Bs pre W) _ _ (fun pre X X' h hk => h.to hqlt (by have := HBs.out; omega) hk) (fun pre X h => ?_) n1 n2 hL4
  have hk := h.2
  exact ⟨hk.cell ⟨hlbn, n1⟩ HCw.out.1, hk.cell ⟨hlbr, n2⟩ HCw.out.2⟩
 case assign =>
  rintro l pre x W K hI hK
  simp only [encY]
  have hA := hK _ _ (keepsB (Below.refl W.heap.size W)) trivial hI rfl
  gi_wp2
  exact hA
 case body =>
  rintro l pre x a' W hI rfl hlen ⟨t, ht⟩
  obtain ⟨⟨⟨v, hv, hrow⟩, hkb⟩, hqa⟩ := hI
  obtain ⟨c0, cf⟩ := cell_of_box_a hv
  obtain ⟨i0, hi, hz0, hz1, hz2⟩ := info_parts infoQ
  have hlt := (Array.getElem?_eq_some_iff.1 hv).1
  have HO := Lib.hid hrow
  have HV := Lib.hid hv
  have Hkb := Lib.hid hkb
  have Hqa := Lib.hid hqa
  have hwW := hkb.size
  clear hrow hkb hqa
  gi_wp2_with (first
   | (gi_at_builtin; refine wpListIn_append_own _ rfl _ _ 84 rfl w.heap.size 5 i0 (.int .u8 0) 1 1 Tryz.underlying84 hi hz0 hz1 hz2 rfl (by decide) _ _ _ rfl (World.ownsRow.alloc HO.out _) ⟨W.heap.size, 0, none⟩ 1 1 [.int .u8 x] rfl rfl (u8_cells W x) (by simp [Value.oneCell']) (by unfold maxLen; omega) (by omega) (by simp; omega) ?_
      intro v' w3 hown' hg3 hn3
      have hv3 : w3.heap[Bs]? = some (.cells #[v] 84 (0, 0)) := (hg3.block Bs (by simp; omega) (fun e => by
       obtain ⟨_, cs, hc⟩ := ownB_own HO.out e.symm
       rw [HV.out] at hc
       simp at hc)).trans ((Below.heap_alloc _ _ Bs hlt).trans HV.out)
      obtain ⟨c3, cf3⟩ := cell_of_box_a hv3
      obtain ⟨g', cap', rfl⟩ : ∃ g' cap', v' = .slice (some ⟨g', 0, none⟩) (pre.length + 1) cap' := by
       rcases hown'.2 with ⟨_, h0⟩ | ⟨g, cap, cur, hv, _⟩
       ·exact absurd h0 (by omega)
       ·exact ⟨g, cap, hv⟩
      have HOwn := Lib.hid hown'
      have HG3 := Lib.hid (show (W.alloc (.cells #[.int .u8 x] 5)).grownBy w3 v.ownBlock from hg3)
      have HV3 := Lib.hid hv3
      clear hown' hg3 hn3 hv3
      go_frame)
   | gi_in)
  obtain ⟨v2, hv2⟩ : ∃ v2, Value.slice (some ⟨g', 0, none⟩) (pre.length + 1) cap' = v2 := ⟨_, rfl⟩
  rw [hv2] at HOwn ⊢
  clear hv2
  have hBs := HBs.out
  have hKB : KB (fun k => k < w.heap.size) W := fun k hk => Nat.lt_of_lt_of_le hk hwW
  have hKW : Kept (fun k => k < w.heap.size) W (w3.setCell ⟨Bs, 0, none⟩ v2) := (((Kept.refl _ W).alloc hKB (.cells #[.int .u8 x] 5)).grown HG3.out hKB (fun k e hk => by have := (ownB_own HO.out e).1; omega)).set (by simp; omega) _
  have hkf : KeepsFrom W0.heap.size W (w3.setCell ⟨Bs, 0, none⟩ v2) := by
   refine ⟨hKW.size, fun q o hBq hq ho => ?_⟩
   have hql := (Array.getElem?_eq_some_iff.1 hq).1
   have h0 := HS0.out
   rw [Below.heap_setCell _ _ _ _ (by simp; omega)]
   refine (HG3.out.block q (by simp; omega) (fun e => ?_)).trans ((Below.heap_alloc _ _ q hql).trans hq)
   obtain ⟨_, cs, hc⟩ := ownB_own HO.out e.symm
   rw [hq] at hc
   cases hc
   cases ho
  have hrow4 : OwnB (w3.setCell ⟨Bs, 0, none⟩ v2) w.heap.size v2 (pre ++ [x]) := by
   have h1 : OwnB w3 w.heap.size v2 (pre ++ [x]) := by unfold OwnB; simpa using HOwn.out
   refine ownB_blocks h1 fun k hk => Below.heap_setCell _ _ _ _ (fun e => ?_)
   obtain ⟨_, cs, hc⟩ := ownB_own h1 hk
   have : k = Bs := e
   subst this
   rw [HV3.out] at hc
   simp at hc
  exact ⟨hkf, trivial, ⟨⟨_, heap_setCell_box_a _ HV3.out, hrow4⟩, Hkb.out.trans (hKW.less (fun k hk => hk.1))⟩, by
   rw [List.length_append]
   exact Hqa.out.to (hKW.block _ hqlt) (hKW.block _ hllt)⟩
 case done =>
  rintro D xs W hD rfl hI hK
  obtain ⟨⟨⟨v, hv, hrow⟩, hkb⟩, hqa⟩ := hI
  obtain ⟨c0, cf⟩ := cell_of_box_a hv
  have HO := Lib.hid hrow
  have Hkb := Lib.hid hkb
  have Hqa := Lib.hid hqa
  have HK := Lib.hid hK
  clear hv hrow hkb hK hqa
  gi_wp2
  refine ⟨by simp, .inl ⟨_, _, rfl, run_takeDeferred HK.out, ?_⟩⟩
  have hg := grownBy_putObj' W D (.deferred none)
  have hDw : w.heap.size ≤ D := by have := HS0.out; have := HBs.out; omega
  have hqf := Hqa.out.steps (B := 0) hg (fun r e => by cases e; exact ⟨Nat.zero_le _, _, HK.out, rfl⟩)
  unfold QAt at hqf
  rw [List.drop_of_length_le (Nat.le_refl _)] at hqf
  refine ⟨_, results_tmp rfl _ _ _, v, rfl, ownB_blocks HO.out (fun k hk => ?_), hqf, Hkb.out.trans ⟨rfl, rfl, rfl, by simp [World.putObj], fun k hk => hg.block k (Nat.lt_of_lt_of_le hk.1 Hkb.out.size) (fun e => by cases e; have := hk.1; omega)⟩⟩
  obtain ⟨_, cs, hc⟩ := ownB_own HO.out hk
  refine hg.block k (Array.getElem?_eq_some_iff.1 hc).1 (fun e => ?_)
  cases e
  rw [HK.out] at hc
  cases hc
 case stop =>
  rintro D c pre W hD _ hF hK
  exact hF.elim
theorem collect_b (w : World) (qb lb f bn br : Nat) (L : List Int) (ov : Bool) (hq : QIs w qb lb f L ov) (hbn : w.cell? ⟨bn, 0, none⟩ = some (.int .i64 (L.length : Int))) (hbr : w.cell? ⟨br, 0, none⟩ = some (.pointer (some ⟨qb, 0, none⟩))) (n1 : bn ≠ qb) (n2 : br ≠ qb) :
  Calls Tryz.prog 61 #[.func (.func 98) #[] #[.pointer (some ⟨bn, 0, none⟩), .pointer (some ⟨br, 0, none⟩)]] w fun e w' => ∃ v, e = .returned v ∧ OwnB w' w.heap.size v L ∧ QIs w' qb lb ((f + L.length) % 4096) [] ov ∧ Kept (fun k => k < w.heap.size ∧ k ≠ qb) w w' := by
 have HA := Lib.hid (apseq_b w qb lb f bn br L ov hq hbn hbr n1 n2)
 clear hq hbn hbr
 go_enter Tryz.func61, Tryz.ntmps61
 go_wp2_with fail
 refine HA.out.mono ?_
 rintro e w1 ⟨v, rfl, h1, h2, h3⟩
 have HH := Lib.hid (And.intro h1 (And.intro h2 h3))
 clear h1 h2 h3
 go_wp2_with fail
 go_ret
 exact ⟨v, rfl, HH.out⟩
theorem q_some (w : World) (qb lb f : Nat) (L : List Int) (ov : Bool) (hq : QIs w qb lb f L ov) :
  Calls Tryz.prog 35 #[.pointer (some ⟨qb, 0, none⟩), .int .i64 (L.length : Int)] w fun e w' => e = .returned (.string (strOfNums L)) ∧ QIs w' qb lb ((f + L.length) % 4096) [] ov ∧ Kept (fun k => k < w.heap.size ∧ k ≠ qb) w w' := by
 have HT := Lib.hid (fun W n => taken_any W qb n)
 have hlq := hq.qB.blk.lt
 have hn := hq.hn
 have P2 := Lib.hid hq.q2
 have HC := Lib.hid (fun bn br W (hb : Below w.heap.size w W) h1 h2 n1 n2 => collect_b W qb lb f bn br L ov (hq.later hb) h1 h2 n1 n2)
 have mx : max (L.length : Int) 0 = (L.length : Int) := by omega
 have mn : min (L.length : Int) (L.length : Int) = (L.length : Int) := by omega
 clear hq
 go_enter Tryz.func35, Tryz.ntmps35
 go_wp2_with fail
 refine wp_region_held_drew (S := fun _ => True) (by kernel_rfl) (trivial) (fun hHeld => ?_)
 refine sY 0 7 ?_
 refine sY 1 8 ?_
 refine sY 2 9 ?_
 refine sY 3 10 ?_
 refine sY 4 11 ?_
 refine sY 5 12 ?_
 refine sY 6 13 ?_
 refine sY 7 14 ?_
 refine sY 8 15 ?_
 refine sO 9 fun K hK => ?_
 have p0 : w.drew.cell? ⟨qb, 2, none⟩ = some (.int .i64 (L.length : Int)) := P2.out
 go_simp
 (try go_wp2_with fail)
 refine hK.out _ _ ?_ (fun hHeld => ?_)
 ·exact trivial
 clear hK K
 try simp only [Act.put, List.setIfInBounds_toArray, List.set_cons_zero, List.set_cons_succ]
 refine sY 10 17 ?_
 refine sO 11 fun K hK => ?_
 go_simp
 refine (HT.out _ _).mono ?_
 rintro e w1 ⟨rfl, hw1⟩
 have HW1 := Lib.hid hw1
 clear hw1
 (try go_wp2_with fail)
 refine hK.out _ _ ?_ (fun hHeld => ?_)
 ·exact trivial
 clear hK K
 try simp only [Act.put, List.setIfInBounds_toArray, List.set_cons_zero, List.set_cons_succ]
 refine sO 12 fun K hK => ?_
 have b1 : Below w.heap.size w w1 := by rw [HW1.out]; exact bel_alloc (bel_alloc (Below.refl _ _).drew _) _
 go_simp
 refine (HC.out (w.heap.size + 1) w.heap.size _ b1 (by rw [HW1.out]; simp [go_sem]) (by rw [HW1.out]; simp [go_sem]) (by simp <;> omega) (by simp <;> omega)).mono ?_
 rintro e w2 ⟨v, rfl, hown, hq2, hk2⟩
 (try go_wp2_with fail)
 refine hK.out _ _ ?_ (fun hHeld => ?_)
 ·exact trivial
 clear hK K
 try simp only [Act.put, List.setIfInBounds_toArray, List.set_cons_zero, List.set_cons_succ]
 refine sO 13 fun K hK => ?_
 have hcv := conv_own hown
 go_simp
 (try go_wp2_with fail)
 refine hK.out _ _ ?_ (fun hHeld => ?_)
 ·exact trivial
 clear hK K
 try simp only [Act.put, List.setIfInBounds_toArray, List.set_cons_zero, List.set_cons_succ]
 refine sY 14 4 ?_
 refine wpAnyH_done (by kernel_rfl) ?_ _
 have HQ2 := Lib.hid hq2
 have hkw : Kept (fun k => k < w.heap.size ∧ k ≠ qb) w w2 := (Kept.ofBelow b1 (fun k hk => hk.1)).trans (hk2.less (fun k hk => ⟨Nat.lt_of_lt_of_le hk.1 b1.size, hk.2⟩))
 have HKW := Lib.hid hkw
 clear hq2 hk2 hown hkw
 go_wp2_with fail
 go_ret
 exact ⟨rfl, HQ2.out, HKW.out⟩
theorem q_drain (w : World) (qb lb f : Nat) (L : List Int) (ov : Bool) (hq : QIs w qb lb f L ov) :
  Calls Tryz.prog 17 #[.pointer (some ⟨qb, 0, none⟩)] w fun e w' => e = .returned (.string (strOfNums L)) ∧ QIs w' qb lb ((f + L.length) % 4096) [] false ∧ Kept (fun k => k < w.heap.size ∧ k ≠ qb) w w' := by
 have HS := Lib.hid (q_some _ qb lb f L false (hq.over false).1)
 have HK := Lib.hid (show Kept (fun k => k < w.heap.size ∧ k ≠ qb) w (w.setCell ⟨qb, 3, none⟩ (.bool false)) from (Kept.refl _ _).set (fun hh => hh.2 rfl) _)
 have hlq := hq.qB.blk.lt
 have k2 := hq.q2
 have k3 := hq.q3
 obtain ⟨_, -, z3⟩ := hq.qB.blk.get 3 (by decide)
 clear hq
 go_enter Tryz.func17, Tryz.ntmps17
 go_wp2_with fail
 refine HS.out.mono ?_
 rintro e w1 ⟨rfl, h1, h2⟩
 have HH := Lib.hid (And.intro h1 (HK.out.trans (h2.less (fun k hk => ⟨Nat.lt_of_lt_of_le hk.1 HK.out.size, hk.2⟩))))
 clear h1 h2
 go_wp2_with fail
 go_ret
 exact ⟨rfl, HH.out⟩
theorem q_clear (w : World) (qb lb f : Nat) (L : List Int) (ov : Bool) (hq : QIs w qb lb f L ov) :
  Calls Tryz.prog 18 #[.pointer (some ⟨qb, 0, none⟩)] w fun e w' => e = .returned (.tuple #[]) ∧ QIs w' qb lb ((f + L.length) % 4096) [] false ∧ Kept (fun k => k < w.heap.size ∧ k ≠ qb) w w' := by
 have HD := Lib.hid (q_drain w qb lb f L ov hq)
 clear hq
 go_enter Tryz.func18, Tryz.ntmps18
 go_wp2_with fail
 refine HD.out.mono ?_
 rintro e w1 ⟨rfl, h1, h2⟩
 have HH := Lib.hid (And.intro h1 h2)
 clear h1 h2
 go_wp2_with fail
 go_end0
 exact ⟨rfl, HH.out⟩
end Go.Proofs.YtpjooboohelffaaGreatDoor
/- Top: a Wyse 60 in memory: its screen, its queue, its own block. -/
namespace Go.Proofs.YtpjooboohelffaaGreatDoor
open Go.RowKit Go.Shelf T05
set_option linter.unusedVariables false
set_option linter.unusedSimpArgs false
set_option maxRecDepth 100000
/-- A terminal's own fields. -/
structure Tm where
 gd : Bool
 pt : Bool
 gr : Bool
 ins : Bool
 em : Bool
 at_ : Int
 st : ByteArray
 sq : ByteArray
/-- .. in memory. -/
structure TIs (W : World) (tm sb qb : Nat) (t : Tm) : Prop where
 t0 : W.cell? ⟨tm, 0, none⟩ = some (.pointer (some ⟨sb, 0, none⟩))
 t1 : W.cell? ⟨tm, 1, none⟩ = some (.pointer (some ⟨qb, 0, none⟩))
 t2 : W.cell? ⟨tm, 2, none⟩ = some (.bool t.gd)
 t3 : W.cell? ⟨tm, 3, none⟩ = some (.bool t.pt)
 t4 : W.cell? ⟨tm, 4, none⟩ = some (.bool t.gr)
 t5 : W.cell? ⟨tm, 5, none⟩ = some (.bool t.ins)
 t6 : W.cell? ⟨tm, 6, none⟩ = some (.bool t.em)
 t7 : W.cell? ⟨tm, 7, none⟩ = some (.int .i64 t.at_)
 t8 : W.cell? ⟨tm, 8, none⟩ = some (.string t.st)
 t9 : W.cell? ⟨tm, 9, none⟩ = some (.string t.sq)
 tB : BlkT W tm 10 65
theorem TIs.to {W W' : World} {tm sb qb : Nat} {t : Tm} (h : TIs W tm sb qb t) (h1 : W'.heap[tm]? = W.heap[tm]?) : TIs W' tm sb qb t :=
 have c1 := fun o => World.cell?_of_block (a := ⟨tm, o, none⟩) h1
 ⟨(c1 0).trans h.t0, (c1 1).trans h.t1, (c1 2).trans h.t2, (c1 3).trans h.t3, (c1 4).trans h.t4, (c1 5).trans h.t5, (c1 6).trans h.t6, (c1 7).trans h.t7, (c1 8).trans h.t8, (c1 9).trans h.t9, h.tB.to h1⟩
/-- What a screen's step must keep beside K. -/
def KW (K : Nat → Prop) (tm qb lb : Nat) : Nat → Prop := fun k => K k ∨ k = tm ∨ k = qb ∨ k = lb
/-- The whole terminal. -/
structure Wy (K : Nat → Prop) (L : Lay) (tm qb lb : Nat) (W : World) (rs : Nat → Nat) (cell : Nat → Nat → Cl) (r c : Int) (S : Int → Bool) (t : Tm) (f : Nat) (Q : List Int) (ov : Bool) : Prop where
 scr : Scr (KW K tm qb lb) L W rs cell r c S
 ti : TIs W tm L.sb qb t
 q : QIs W qb lb f Q ov
 gk : GK K
 k1 : ¬ K tm
 k2 : ¬ K qb
 k3 : ¬ K lb
 n1 : tm ≠ qb
 n2 : tm ≠ lb
 ap : ∀ k, k = tm ∨ k = qb ∨ k = lb → k ≠ L.g ∧ k ≠ L.tb
section
variable {K K' : Nat → Prop} {L : Lay} {tm qb lb : Nat} {w W W' : World} {rs rs' : Nat → Nat} {cell cell' : Nat → Nat → Cl} {r c r' c' : Int} {S S' : Int → Bool} {t t' : Tm} {f f' : Nat} {Q Q' : List Int} {ov ov' : Bool}
theorem Wy.kb (h : Wy K L tm qb lb W rs cell r c S t f Q ov) (hK : KB K W) : KB (KW K tm qb lb) W := by
 rintro k (hk | rfl | rfl | rfl)
 ·exact hK k hk
 ·exact h.ti.tB.blk.lt
 ·exact h.q.qB.blk.lt
 ·exact h.q.lB.blk.lt
theorem Wy.later (h : Wy K L tm qb lb W rs cell r c S t f Q ov) (hb : Below W.heap.size W W') : Wy K L tm qb lb W' rs cell r c S t f Q ov :=
 ⟨h.scr.later hb, h.ti.to (hb.block _ h.ti.tB.blk.lt), h.q.later hb, h.gk, h.k1, h.k2, h.k3, h.n1, h.n2, h.ap⟩
/-- Behind a screen's step. -/
theorem Wy.step (h : Wy K L tm qb lb w rs cell r c S t f Q ov) (hs : Scr (KW K tm qb lb) L W' rs' cell' r' c' S') (hk : Kept (KW K tm qb lb) w W') : Wy K L tm qb lb W' rs' cell' r' c' S' t f Q ov ∧ Kept K w W' :=
 ⟨⟨hs, h.ti.to (hk.block _ (.inr (.inl rfl))), h.q.to (hk.block _ (.inr (.inr (.inl rfl)))) (hk.block _ (.inr (.inr (.inr rfl)))), h.gk, h.k1, h.k2, h.k3, h.n1, h.n2, h.ap⟩, hk.less (fun k hk => .inl hk)⟩
/-- .. made under more kept blocks, the call's own. -/
theorem Wy.stepB (h : Wy K L tm qb lb w rs cell r c S t f Q ov) (hK : KB K w) (hb : Below w.heap.size w W) (hs : Scr (Loc (KW K tm qb lb) w W) L W' rs' cell' r' c' S') (hk : Kept (Loc (KW K tm qb lb) w W) W W') : Wy K L tm qb lb W' rs' cell' r' c' S' t f Q ov ∧ Kept K w W' := by
 obtain ⟨h1, h2⟩ := Scr.back ⟨hs, hk⟩ (h.kb hK) hb h.scr.gk
 exact h.step h1 h2
theorem loc_mono {w W : World} (hs : ∀ k, K k → K' k) : ∀ k, Loc K w W k → Loc K' w W k := fun k hk => hk.imp_left (hs k)
theorem Wy.loc (h : Wy K L tm qb lb w rs cell r c S t f Q ov) (hb : Below w.heap.size w W) : Wy (Loc K w W) L tm qb lb W rs cell r c S t f Q ov := by
 have h' := h.later hb
 have e : ∀ k, KW (Loc K w W) tm qb lb k → Loc (KW K tm qb lb) w W k := by
  rintro k ((hk | hk) | hk)
  ·exact .inl (.inl hk)
  ·exact .inr hk
  ·exact .inl (.inr hk)
 refine ⟨(h.scr.loc hb).less e ⟨.inl (.inl h.gk.1), .inl (.inl h.gk.2.1), .inl (.inl h.gk.2.2.1), .inl (.inl h.gk.2.2.2)⟩, h'.ti, h'.q, ⟨.inl h.gk.1, .inl h.gk.2.1, .inl h.gk.2.2.1, .inl h.gk.2.2.2⟩, fun hk => ?_, fun hk => ?_, fun hk => ?_, h.n1, h.n2, h.ap⟩
 ·rcases hk with hk | hk
  ·exact h.k1 hk
  ·have := h.ti.tB.blk.lt; omega
 ·rcases hk with hk | hk
  ·exact h.k2 hk
  ·have := h.q.qB.blk.lt; omega
 ·rcases hk with hk | hk
  ·exact h.k3 hk
  ·have := h.q.lB.blk.lt; omega
theorem Wy.less (h : Wy K' L tm qb lb W rs cell r c S t f Q ov) (hs : ∀ k, K k → K' k) (hg : GK K) : Wy K L tm qb lb W rs cell r c S t f Q ov :=
 ⟨h.scr.less (fun k hk => hk.imp_left (hs k)) ⟨.inl hg.1, .inl hg.2.1, .inl hg.2.2.1, .inl hg.2.2.2⟩, h.ti, h.q, hg, fun hk => h.k1 (hs _ hk), fun hk => h.k2 (hs _ hk), fun hk => h.k3 (hs _ hk), h.n1, h.n2, h.ap⟩
theorem Wy.back (h : Wy (Loc K w W) L tm qb lb W' rs cell r c S t f Q ov) (hk : Kept (Loc K w W) W W') (hK : KB K w) (hb : Below w.heap.size w W) (hg : GK K) : Wy K L tm qb lb W' rs cell r c S t f Q ov ∧ Kept K w W' :=
 ⟨h.less (fun k hk => .inl hk) hg, (Kept.ofBelow hb hK).trans (hk.less (fun k hk => .inl hk))⟩
/-- The terminal's own block is turned. -/
theorem Wy.own (h : Wy K L tm qb lb W rs cell r c S t f Q ov) (hk : Kept (fun k => k ≠ tm) W W') (ht : TIs W' tm L.sb qb t') : Wy K L tm qb lb W' rs cell r c S t' f Q ov ∧ Kept K W W' := by
 have hK : Kept K W W' := hk.less (fun k hk e => h.k1 (e ▸ hk))
 have hn := h.ap tm (.inl rfl)
 have e1 : tm ≠ L.sb := fun e => h.scr.ks (e ▸ .inr (.inl rfl))
 have e2 : tm ≠ L.mb := fun e => h.scr.km (e ▸ .inr (.inl rfl))
 refine ⟨⟨h.scr.to (h.scr.gl.kept h.gk hK) (hk.block _ (fun e => e1 e.symm)) (hk.block _ (fun e => hn.1 e.symm)) (hk.block _ (fun e => hn.2 e.symm)) (hk.block _ (fun e => e2 e.symm)) (hk.block _ (fun e => h.scr.gr.kr (.inl (.inr (.inl e))))) (fun i hi => hk.block _ (fun e => h.scr.gr.ks i hi (.inl (.inr (.inl e))))),
  ht, h.q.to (hk.block _ (fun e => h.n1 e.symm)) (hk.block _ (fun e => h.n2 e.symm)), h.gk, h.k1, h.k2, h.k3, h.n1, h.n2, h.ap⟩, hK⟩
/-- The queue is turned. -/
theorem Wy.queue (h : Wy K L tm qb lb W rs cell r c S t f Q ov) (hK : KB K W) (hk : Kept (fun k => k < W.heap.size ∧ k ≠ qb ∧ k ≠ lb) W W') (hq : QIs W' qb lb f' Q' ov') : Wy K L tm qb lb W' rs cell r c S t f' Q' ov' ∧ Kept K W W' := by
 have hKK : Kept K W W' := hk.less (fun k hk => ⟨hK k hk, fun e => h.k2 (e ▸ hk), fun e => h.k3 (e ▸ hk)⟩)
 have hn1 := h.ap qb (.inr (.inl rfl))
 have hn2 := h.ap lb (.inr (.inr rfl))
 have a1 : L.sb ≠ qb ∧ L.sb ≠ lb := ⟨fun e => h.scr.ks (e ▸ .inr (.inr (.inl rfl))), fun e => h.scr.ks (e ▸ .inr (.inr (.inr rfl)))⟩
 have a2 : L.mb ≠ qb ∧ L.mb ≠ lb := ⟨fun e => h.scr.km (e ▸ .inr (.inr (.inl rfl))), fun e => h.scr.km (e ▸ .inr (.inr (.inr rfl)))⟩
 refine ⟨⟨h.scr.to (h.scr.gl.kept h.gk hKK) (hk.block _ ⟨blt h.scr.s0, a1⟩) (hk.block _ ⟨h.scr.gr.glt, fun e => hn1.1 e.symm, fun e => hn2.1 e.symm⟩) (hk.block _ ⟨h.scr.ts.lt, fun e => hn1.2 e.symm, fun e => hn2.2 e.symm⟩) (hk.block _ ⟨h.scr.mlt, a2⟩)
  (hk.block _ ⟨h.scr.gr.rowB.blk.lt, fun e => h.scr.gr.kr (.inl (.inr (.inr (.inl e)))), fun e => h.scr.gr.kr (.inl (.inr (.inr (.inr e))))⟩) (fun i hi => hk.block _ ⟨(h.scr.gr.celB i hi).blk.lt, fun e => h.scr.gr.ks i hi (.inl (.inr (.inr (.inl e)))), fun e => h.scr.gr.ks i hi (.inl (.inr (.inr (.inr e))))⟩),
  h.ti.to (hk.block _ ⟨h.ti.tB.blk.lt, h.n1, h.n2⟩), hq, h.gk, h.k1, h.k2, h.k3, h.n1, h.n2, h.ap⟩, hKK⟩
end
/-- A terminal whose cells are a Wyse 60's. -/
def WyA (K : Nat → Prop) (L : Lay) (tm qb lb : Nat) (W : World) (t : Tm) (f : Nat) (Q : List Int) (ov : Bool) : Prop := ∃ rs cell r c S, Wy K L tm qb lb W rs cell r c S t f Q ov ∧ AllW L.R L.C cell
end Go.Proofs.YtpjooboohelffaaGreatDoor
/- Top: a Wyse 60: the screen's steps under it; column, cleared. -/
namespace Go.Proofs.YtpjooboohelffaaGreatDoor
open Go.RowKit Go.Shelf T05
set_option linter.unusedVariables false
set_option linter.unusedSimpArgs false
set_option maxRecDepth 100000
section
variable {K : Nat → Prop} {L : Lay} {tm qb lb : Nat} {w : World} {rs : Nat → Nat} {cell : Nat → Nat → Cl} {r c : Int} {S : Int → Bool} {t : Tm} {f : Nat} {Q : List Int} {ov : Bool}
theorem Wy.lift {id : Nat} {args : Array Value} (h : Wy K L tm qb lb w rs cell r c S t f Q ov) (hK : KB K w) {W : World} (hb : Below w.heap.size w W)
  (hc : ∀ K2, KB K2 W → Scr K2 L W rs cell r c S → Calls Tryz.prog id args W (fun e w' => e = .returned (.tuple #[]) ∧ (∃ rs' cell' r' c' S', Scr K2 L w' rs' cell' r' c' S' ∧ AllW L.R L.C cell') ∧ Kept K2 W w')) :
  Calls Tryz.prog id args W (fun e w' => e = .returned (.tuple #[]) ∧ WyA K L tm qb lb w' t f Q ov ∧ Kept (Loc (KW K tm qb lb) w W) W w' ∧ Kept K w w') := by
 refine (hc (Loc (KW K tm qb lb) w W) ((h.kb hK).loc hb) (h.scr.loc hb)).mono ?_
 rintro e w' ⟨rfl, ⟨rs', cell', r', c', S', h1, h2⟩, h3⟩
 obtain ⟨h4, h5⟩ := h.stepB hK hb h1 h3
 exact ⟨rfl, ⟨rs', cell', r', c', S', h4, h2⟩, h3, h5⟩
variable (h : Wy K L tm qb lb w rs cell r c S t f Q ov) (ha : AllW L.R L.C cell) (hK : KB K w) {W : World} (hb : Below w.heap.size w W)
include h ha hK hb
theorem w_move (a b : Int) : Calls Tryz.prog 14 #[.pointer (some ⟨L.sb, 0, none⟩), pr a b] W (fun e w' => e = .returned (.tuple #[]) ∧ WyA K L tm qb lb w' t f Q ov ∧ Kept (Loc (KW K tm qb lb) w W) W w' ∧ Kept K w w') :=
 h.lift hK hb fun K2 hk hs => (s_move W hk hs a b).mono fun e w' ⟨h1, h2, h3⟩ => ⟨h1, ⟨_, _, _, _, _, h2, ha⟩, h3⟩
theorem w_step (n m : Int) : Calls Tryz.prog 75 #[.pointer (some ⟨L.sb, 0, none⟩), .int .i64 n, .int .i64 m] W (fun e w' => e = .returned (.tuple #[]) ∧ WyA K L tm qb lb w' t f Q ov ∧ Kept (Loc (KW K tm qb lb) w W) W w' ∧ Kept K w w') :=
 h.lift hK hb fun K2 hk hs => (s_step W hk hs n m).mono fun e w' ⟨h1, ⟨r', c', h2⟩, h3⟩ => ⟨h1, ⟨_, _, _, _, _, h2, ha⟩, h3⟩
theorem w_feed (n : Int) (hn : n = 1 ∨ n = -1) : Calls Tryz.prog 109 #[.pointer (some ⟨L.sb, 0, none⟩), .int .i64 n] W (fun e w' => e = .returned (.tuple #[]) ∧ WyA K L tm qb lb w' t f Q ov ∧ Kept (Loc (KW K tm qb lb) w W) W w' ∧ Kept K w w') :=
 h.lift hK hb fun K2 hk hs => (s_feed W hk hs n hn).mono fun e w' ⟨h1, ⟨rs', cell', r', c', h2, h4⟩, h3⟩ => ⟨h1, ⟨_, _, _, _, _, h2, ha.frm h4 wcell_blank⟩, h3⟩
theorem w_tab (n : Int) (hn : n = 1 ∨ n = -1) : Calls Tryz.prog 107 #[.pointer (some ⟨L.sb, 0, none⟩), .int .i64 n] W (fun e w' => e = .returned (.tuple #[]) ∧ WyA K L tm qb lb w' t f Q ov ∧ Kept (Loc (KW K tm qb lb) w W) W w' ∧ Kept K w w') :=
 h.lift hK hb fun K2 hk hs => (s_tab W hk hs n hn).mono fun e w' ⟨h1, ⟨r', c', h2⟩, h3⟩ => ⟨h1, ⟨_, _, _, _, _, h2, ha⟩, h3⟩
theorem w_stop (col : Int) (on : Bool) : Calls Tryz.prog 120 #[.pointer (some ⟨L.sb, 0, none⟩), .int .i64 col, .bool on] W (fun e w' => e = .returned (.tuple #[]) ∧ WyA K L tm qb lb w' t f Q ov ∧ Kept (Loc (KW K tm qb lb) w W) W w' ∧ Kept K w w') :=
 h.lift hK hb fun K2 hk hs => (s_stop W hk hs col on).mono fun e w' ⟨h1, S', h2, h3⟩ => ⟨h1, ⟨_, _, _, _, _, h2, ha⟩, h3⟩
theorem w_stops : Calls Tryz.prog 121 #[.pointer (some ⟨L.sb, 0, none⟩), .int .i64 0] W (fun e w' => e = .returned (.tuple #[]) ∧ WyA K L tm qb lb w' t f Q ov ∧ Kept (Loc (KW K tm qb lb) w W) W w' ∧ Kept K w w') :=
 h.lift hK hb fun K2 hk hs => (s_stops W hk hs).mono fun e w' ⟨h1, S', h2, h3⟩ => ⟨h1, ⟨_, _, _, _, _, h2, ha⟩, h3⟩
theorem w_chars (n : Int) (gd : Bool) : Calls Tryz.prog 111 #[.pointer (some ⟨L.sb, 0, none⟩), .int .i64 n, blankC.v, .bool gd] W (fun e w' => e = .returned (.tuple #[]) ∧ WyA K L tm qb lb w' t f Q ov ∧ Kept (Loc (KW K tm qb lb) w W) W w' ∧ Kept K w w') :=
 h.lift hK hb fun K2 hk hs => (s_chars W hk hs n blankC gd).mono fun e w' ⟨h1, ⟨⟨rs', cell', h2, h4⟩, h3⟩⟩ => ⟨h1, ⟨_, _, _, _, _, h2, ha.frm h4 wcell_blank⟩, h3⟩
theorem w_lines (n : Int) (gd : Bool) : Calls Tryz.prog 119 #[.pointer (some ⟨L.sb, 0, none⟩), .int .i64 n, blankC.v, .bool gd] W (fun e w' => e = .returned (.tuple #[]) ∧ WyA K L tm qb lb w' t f Q ov ∧ Kept (Loc (KW K tm qb lb) w W) W w' ∧ Kept K w w') :=
 h.lift hK hb fun K2 hk hs => (s_lines W hk hs n blankC gd).mono fun e w' ⟨h1, ⟨⟨rs', cell', h2, h4⟩, h3⟩⟩ => ⟨h1, ⟨_, _, _, _, _, h2, ha.frm h4 wcell_blank⟩, h3⟩
theorem w_part (n : Int) (hn : n = 1 ∨ n = 2 ∨ n = 5) (gd : Bool) : Calls Tryz.prog 110 #[.pointer (some ⟨L.sb, 0, none⟩), .int .i64 n, blankC.v, .bool gd] W (fun e w' => e = .returned (.tuple #[]) ∧ WyA K L tm qb lb w' t f Q ov ∧ Kept (Loc (KW K tm qb lb) w W) W w' ∧ Kept K w w') :=
 h.lift hK hb fun K2 hk hs => (s_part W hk hs n hn blankC gd).mono fun e w' ⟨h1, ⟨⟨rs', cell', h2, h4⟩, h3⟩⟩ => ⟨h1, ⟨_, _, _, _, _, h2, ha.frm h4 wcell_blank⟩, h3⟩
theorem w_put (x : Cl) (hx : WCell x) (gd : Bool) : Calls Tryz.prog 112 #[.pointer (some ⟨L.sb, 0, none⟩), x.v, .int .i64 2, .bool gd] W (fun e w' => e = .returned (.tuple #[]) ∧ WyA K L tm qb lb w' t f Q ov ∧ Kept (Loc (KW K tm qb lb) w W) W w' ∧ Kept K w w') :=
 h.lift hK hb fun K2 hk hs => (s_put W hk hs ha x hx gd).mono fun e w' ⟨h1, ⟨rs', cell', r', c', h2, h4⟩, h3⟩ => ⟨h1, ⟨_, _, _, _, _, h2, h4⟩, h3⟩
end
section
variable {K : Nat → Prop} {L : Lay} {tm qb lb : Nat} {t : Tm} {f : Nat} {Q : List Int} {ov : Bool}
set_option maxHeartbeats 1000000 in
theorem y_column (w : World) (hK : KB K w) (h : WyA K L tm qb lb w t f Q ov) (col : Int) :
  Calls Tryz.prog 78 #[.pointer (some ⟨tm, 0, none⟩), .int .i64 col] w fun e w' => e = .returned (.tuple #[]) ∧ WyA K L tm qb lb w' t f Q ov ∧ Kept K w w' := by
 obtain ⟨rs, cell, r, c, S, h, ha⟩ := h
 have HC := Lib.hid (s_cursor w h.scr)
 have HM := Lib.hid (fun W (hb : Below w.heap.size w W) => w_move h ha hK hb r col)
 have k0 := h.ti.t0
 have hgk := h.gk
 clear h ha hK
 go_enter Tryz.func78, Tryz.ntmps78
 go_wp2_with fail
 refine HC.out.mono ?_
 rintro e w1 ⟨rfl, c1⟩
 have k0' := cellB c1 k0
 have hsz1 := c1.size
 go_wp2_with fail
 refine gen_wp ?_
 intro u hu0
 have FB : Below w.heap.size w u := by rw [hu0]; (repeat first | exact c1 | refine bel_alloc ?_ _ | refine bel_set ?_ (by simp <;> omega) _)
 have hsu := FB.size
 have KFu : ∀ W, Below u.heap.size u W → (W.cell? ⟨tm, 0, none⟩ = some (.pointer (some ⟨L.sb, 0, none⟩)) ∧ W.cell? ⟨w1.heap.size, 0, none⟩ = some (.int .i64 r)) ∧ True ∧ True := by
  intro W hu
  refine ⟨⟨?_, ?_⟩, trivial, ?_⟩
  ·exact cellB (bel_call (by rw [hu0]; (repeat first | exact Below.refl _ _ | refine bel_alloc ?_ _)) hu) (k0')
  ·exact (hu.cell (by rw [hu0]; simp <;> omega)).trans (by rw [hu0]; simp [go_sem])
  ·trivial
 clear hu0 k0 k0' c1
 refine wp_region_held_drew (S := fun W => (W.cell? ⟨tm, 0, none⟩ = some (.pointer (some ⟨L.sb, 0, none⟩)) ∧ W.cell? ⟨w1.heap.size, 0, none⟩ = some (.int .i64 r)) ∧ True ∧ True) (by kernel_rfl) (KFu _ (Below.refl _ _).drew) (fun hHeld => ?_)
 have FB := FB.drew
 refine sY 0 14 ?_
 refine sY 1 15 ?_
 refine sY 2 16 ?_
 refine sY 3 17 ?_
 refine sY 4 18 ?_
 refine sY 5 19 ?_
 refine sY 6 20 ?_
 refine sY 7 21 ?_
 refine sO 8 fun K hK => ?_
 obtain ⟨⟨fc0, fc1⟩, _, fb⟩ := hHeld
 go_simp
 refine (HM.out _ FB).mono ?_
 rintro e w2 ⟨rfl, h1, h2, h3⟩
 (try go_wp2_with fail)
 refine hK.out _ _ ?_ (fun hHeld => ?_)
 ·exact ⟨⟨((h2).cell (.inl (.inr (.inl rfl))) fc0), ((h2).cell (.inr ⟨by first | omega | (simp <;> omega), blt fc1⟩) fc1)⟩, trivial, trivial⟩
 clear hK K
 try simp only [Act.put, List.setIfInBounds_toArray, List.set_cons_zero, List.set_cons_succ]
 refine wpAnyH_done (by kernel_rfl) ?_ _
 go_wp2_with fail
 go_end0
 exact ⟨rfl, h1, h3⟩
set_option maxHeartbeats 1000000 in
theorem y_cleared (w : World) (hK : KB K w) (h : WyA K L tm qb lb w t f Q ov) :
  Calls Tryz.prog 79 #[.pointer (some ⟨tm, 0, none⟩)] w fun e w' => e = .returned (.tuple #[]) ∧ WyA K L tm qb lb w' t f Q ov ∧ Kept K w w' := by
 obtain ⟨rs, cell, r, c, S, h, ha⟩ := h
 have HP := Lib.hid (fun W (hb : Below w.heap.size w W) => w_part h ha hK hb 1 (.inl rfl) t.pt)
 have HM := Lib.hid (fun W (hw : WyA K L tm qb lb W t f Q ov ∧ Kept K w W) => (show W.cell? ⟨tm, 0, none⟩ = some (.pointer (some ⟨L.sb, 0, none⟩)) ∧ Calls Tryz.prog 14 #[.pointer (some ⟨L.sb, 0, none⟩), pr 0 0] W (fun e w' => e = .returned (.tuple #[]) ∧ WyA K L tm qb lb w' t f Q ov ∧ Kept K w w') from by
  obtain ⟨⟨rs, cell, r, c, S, h, ha⟩, hk⟩ := hw
  exact ⟨h.ti.t0, (w_move h ha (hK.later hk) (Below.refl _ _) 0 0).mono fun e w' ⟨h1, h2, _, h3⟩ => ⟨h1, h2, hk.trans h3⟩⟩))
 have k0 := h.ti.t0
 have k3 := h.ti.t3
 have hgk := h.gk
 have hg0 := hgk.1
 obtain ⟨b0, b1', b2', b3'⟩ := h.scr.gl.blank 0 (by decide)
 simp only [Nat.zero_mul, Nat.zero_add, blankC] at b0 b1' b2' b3'
 have hl := blt k0
 have hf0 := blt b0
 clear h ha hK
 simp only [Cl.v, blankC] at HP
 go_enter Tryz.func79, Tryz.ntmps79
 go_wp2_with fail
 refine gen_wp ?_
 intro u hu0
 have FB : Below w.heap.size w u := by rw [hu0]; exact Below.refl _ _
 have KFu : ∀ W, Below u.heap.size u W → (W.cell? ⟨tm, 0, none⟩ = some (.pointer (some ⟨L.sb, 0, none⟩)) ∧ W.cell? ⟨tm, 3, none⟩ = some (.bool t.pt) ∧ W.cell? ⟨0, 0, none⟩ = some (.int .i32 32) ∧ W.cell? ⟨0, 1, none⟩ = some (.int .i64 0) ∧ W.cell? ⟨0, 2, none⟩ = some (.bool false) ∧ W.cell? ⟨0, 3, none⟩ = some (.int .i64 0)) ∧ True ∧ True := by
  intro W hu
  refine ⟨⟨?_, ?_, ?_, ?_, ?_, ?_⟩, trivial, ?_⟩
  ·exact cellB (bel_call (by rw [hu0]; (repeat first | exact Below.refl _ _ | refine bel_alloc ?_ _)) hu) (k0)
  ·exact cellB (bel_call (by rw [hu0]; (repeat first | exact Below.refl _ _ | refine bel_alloc ?_ _)) hu) (k3)
  ·exact cellB (bel_call (by rw [hu0]; (repeat first | exact Below.refl _ _ | refine bel_alloc ?_ _)) hu) (b0)
  ·exact cellB (bel_call (by rw [hu0]; (repeat first | exact Below.refl _ _ | refine bel_alloc ?_ _)) hu) (b1')
  ·exact cellB (bel_call (by rw [hu0]; (repeat first | exact Below.refl _ _ | refine bel_alloc ?_ _)) hu) (b2')
  ·exact cellB (bel_call (by rw [hu0]; (repeat first | exact Below.refl _ _ | refine bel_alloc ?_ _)) hu) (b3')
  ·trivial
 clear hu0 k0 k3 b0 b1' b2' b3'
 refine wp_region_held_drew (S := fun W => (W.cell? ⟨tm, 0, none⟩ = some (.pointer (some ⟨L.sb, 0, none⟩)) ∧ W.cell? ⟨tm, 3, none⟩ = some (.bool t.pt) ∧ W.cell? ⟨0, 0, none⟩ = some (.int .i32 32) ∧ W.cell? ⟨0, 1, none⟩ = some (.int .i64 0) ∧ W.cell? ⟨0, 2, none⟩ = some (.bool false) ∧ W.cell? ⟨0, 3, none⟩ = some (.int .i64 0)) ∧ True ∧ True) (by kernel_rfl) (KFu _ (Below.refl _ _).drew) (fun hHeld => ?_)
 have FB := FB.drew
 refine sY 0 2 ?_
 refine sY 1 3 ?_
 refine sY 2 4 ?_
 refine sY 3 5 ?_
 refine sY 4 6 ?_
 refine sY 5 7 ?_
 refine sY 6 8 ?_
 refine sY 7 9 ?_
 refine sY 8 10 ?_
 refine sY 9 11 ?_
 refine sO 10 fun K hK => ?_
 obtain ⟨⟨fc0, fc1, fc2, fc3, fc4, fc5⟩, _, fb⟩ := hHeld
 go_simp
 refine (HP.out _ FB).mono ?_
 rintro e w1 ⟨rfl, h1, h2, h3⟩
 (try go_wp2_with fail)
 refine hK.out _ _ ?_ (fun hHeld => ?_)
 ·exact ⟨⟨((h2).cell (.inl (.inr (.inl rfl))) fc0), ((h2).cell (.inl (.inr (.inl rfl))) fc1), ((h2).cell (.inl (.inl hgk.1)) fc2), ((h2).cell (.inl (.inl hgk.1)) fc3), ((h2).cell (.inl (.inl hgk.1)) fc4), ((h2).cell (.inl (.inl hgk.1)) fc5)⟩, trivial, trivial⟩
 clear hK K
 try simp only [Act.put, List.setIfInBounds_toArray, List.set_cons_zero, List.set_cons_succ]
 refine wpAnyH_done (by kernel_rfl) ?_ _
 obtain ⟨q0, q1⟩ := HM.out _ ⟨h1, h3⟩
 have Q1 := Lib.hid q1
 clear q1 h1 h2 h3 hHeld
 go_wp2_with fail
 refine Q1.out.mono ?_
 rintro e w2 ⟨rfl, h4, h5⟩
 go_wp2_with fail
 go_end0
 exact ⟨rfl, h4, h5⟩
end
end Go.Proofs.YtpjooboohelffaaGreatDoor
/- Top: a Wyse 60: put. -/
namespace Go.Proofs.YtpjooboohelffaaGreatDoor
open Go.RowKit Go.Shelf T05
set_option linter.unusedVariables false
set_option linter.unusedSimpArgs false
set_option maxRecDepth 100000
section
variable {K : Nat → Prop} {L : Lay} {tm qb lb : Nat} {w W W' : World} {rs : Nat → Nat} {cell : Nat → Nat → Cl} {r c : Int} {S : Int → Bool} {t : Tm} {f : Nat} {Q : List Int} {ov : Bool}
/-- A block that is kept is turned. -/
theorem Wy.poke (h : Wy K L tm qb lb W rs cell r c S t f Q ov) {b : Nat} (hb : K b) (hn : b ≠ L.g ∧ b ≠ L.tb) (hg : b ≠ 0 ∧ b ≠ 3 ∧ b ≠ 4 ∧ b ≠ 5) (hk : Kept (fun k => k ≠ b) W W') : Wy K L tm qb lb W' rs cell r c S t f Q ov := by
 have e : ∀ k, ¬ KW K tm qb lb k → k ≠ b := fun k hk e => hk (e ▸ .inl hb)
 have gl : Glob W' := h.scr.gl.kept (K := fun k => k ≠ b) ⟨hg.1.symm, hg.2.1.symm, hg.2.2.1.symm, hg.2.2.2.symm⟩ hk
 have e1 : tm ≠ b := fun e => h.k1 (e ▸ hb)
 have e2 : qb ≠ b := fun e => h.k2 (e ▸ hb)
 have e3 : lb ≠ b := fun e => h.k3 (e ▸ hb)
 exact ⟨h.scr.to gl (hk.block _ (e _ h.scr.ks)) (hk.block _ hn.1.symm) (hk.block _ hn.2.symm) (hk.block _ (e _ h.scr.km)) (hk.block _ (e _ fun hh => h.scr.gr.kr (.inl hh))) (fun i hi => hk.block _ (e _ fun hh => h.scr.gr.ks i hi (.inl hh))),
  h.ti.to (hk.block _ e1), h.q.to (hk.block _ e2) (hk.block _ e3), h.gk, h.k1, h.k2, h.k3, h.n1, h.n2, h.ap⟩
theorem kept_set (w : World) (b o : Nat) (v : Value) : Kept (fun k => k ≠ b) w (w.setCell ⟨b, o, none⟩ v) := (Kept.refl _ _).set (fun h => h rfl) v
end
section
variable {K : Nat → Prop} {L : Lay} {tm qb lb : Nat} {rs : Nat → Nat} {cell : Nat → Nat → Cl} {r c : Int} {S : Int → Bool} {t : Tm} {f : Nat} {Q : List Int} {ov : Bool}
set_option maxHeartbeats 2000000 in
/-- .. where nothing is inserted. -/
theorem y_put0 (w : World) (hK : KB K w) (h : Wy K L tm qb lb w rs cell r c S t f Q ov) (x : Cl) (hi : t.ins = false) (P : (Nat → Nat → Cl) → Int → Int → (Int → Bool) → Prop)
  (hP : ∀ (K2 : Nat → Prop) W, KB K2 W → Scr K2 L W rs cell r c S → Calls Tryz.prog 112 #[.pointer (some ⟨L.sb, 0, none⟩), (Cl.v ⟨x.g, x.a, t.gd, x.m⟩), .int .i64 2, .bool t.pt] W (fun e w' => e = .returned (.tuple #[]) ∧ (∃ rs' cell' r' c' S', Scr K2 L w' rs' cell' r' c' S' ∧ P cell' r' c' S') ∧ Kept K2 W w')) :
  Calls Tryz.prog 80 #[.pointer (some ⟨tm, 0, none⟩), x.v] w fun e w' => e = .returned (.tuple #[]) ∧ (∃ rs' cell' r' c' S', Wy K L tm qb lb w' rs' cell' r' c' S' t f Q ov ∧ P cell' r' c' S') ∧ Kept K w w' := by
 have HP := Lib.hid (fun W (hb : Below w.heap.size w W) => (hP (Loc (KW K tm qb lb) w W) W ((h.kb hK).loc hb) (h.scr.loc hb)))
 have HE := Lib.hid (fun W w' (hb : Below w.heap.size w W) (hs : (∃ rs' cell' r' c' S', Scr (Loc (KW K tm qb lb) w W) L w' rs' cell' r' c' S' ∧ P cell' r' c' S') ∧ Kept (Loc (KW K tm qb lb) w W) W w') => (show (∃ rs' cell' r' c' S', Wy K L tm qb lb w' rs' cell' r' c' S' t f Q ov ∧ P cell' r' c' S') ∧ Kept K w w' from by
  obtain ⟨⟨rs', cell', r', c', S', h1, h2⟩, h3⟩ := hs
  obtain ⟨h4, h5⟩ := h.stepB hK hb h1 h3
  exact ⟨⟨rs', cell', r', c', S', h4, h2⟩, h5⟩))
 have k0 := h.ti.t0
 have k2 := h.ti.t2
 have k3 := h.ti.t3
 have k5 := h.ti.t5
 rw [hi] at k5
 have hl := blt k0
 clear h hK hP hi
 simp only [Cl.v] at HP ⊢
 go_enter Tryz.func80, Tryz.ntmps80
 go_wp2_with fail
 refine gen_wp ?_
 intro u hu0
 have FB : Below w.heap.size w u := by rw [hu0]; (repeat first | exact Below.refl _ _ | refine bel_alloc ?_ _ | refine bel_set ?_ (by simp <;> omega) _)
 have KFu : ∀ W, Below u.heap.size u W → (W.cell? ⟨tm, 0, none⟩ = some (.pointer (some ⟨L.sb, 0, none⟩)) ∧ W.cell? ⟨tm, 3, none⟩ = some (.bool t.pt) ∧ W.cell? ⟨w.heap.size, 0, none⟩ = some (.int .i32 x.g) ∧ W.cell? ⟨w.heap.size, 1, none⟩ = some (.int .i64 x.a) ∧ W.cell? ⟨w.heap.size, 2, none⟩ = some (.bool t.gd) ∧ W.cell? ⟨w.heap.size, 3, none⟩ = some (.int .i64 x.m)) ∧ True ∧ True := by
  intro W hu
  refine ⟨⟨?_, ?_, ?_, ?_, ?_, ?_⟩, trivial, ?_⟩
  ·exact cellB (bel_call (by rw [hu0]; (repeat first | exact Below.refl _ _ | refine bel_alloc ?_ _)) hu) (k0)
  ·exact cellB (bel_call (by rw [hu0]; (repeat first | exact Below.refl _ _ | refine bel_alloc ?_ _)) hu) (k3)
  ·exact (hu.cell (by rw [hu0]; simp <;> omega)).trans (by rw [hu0]; simp [go_sem])
  ·exact (hu.cell (by rw [hu0]; simp <;> omega)).trans (by rw [hu0]; simp [go_sem])
  ·exact (hu.cell (by rw [hu0]; simp <;> omega)).trans (by rw [hu0]; simp [go_sem])
  ·exact (hu.cell (by rw [hu0]; simp <;> omega)).trans (by rw [hu0]; simp [go_sem])
  ·trivial
 clear hu0 k0 k2 k3 k5
 refine wp_region_held_drew (S := fun W => (W.cell? ⟨tm, 0, none⟩ = some (.pointer (some ⟨L.sb, 0, none⟩)) ∧ W.cell? ⟨tm, 3, none⟩ = some (.bool t.pt) ∧ W.cell? ⟨w.heap.size, 0, none⟩ = some (.int .i32 x.g) ∧ W.cell? ⟨w.heap.size, 1, none⟩ = some (.int .i64 x.a) ∧ W.cell? ⟨w.heap.size, 2, none⟩ = some (.bool t.gd) ∧ W.cell? ⟨w.heap.size, 3, none⟩ = some (.int .i64 x.m)) ∧ True ∧ True) (by kernel_rfl) (KFu _ (Below.refl _ _).drew) (fun hHeld => ?_)
 have FB := FB.drew
 refine sY 0 26 ?_
 refine sY 1 27 ?_
 refine sY 2 28 ?_
 refine sY 3 29 ?_
 refine sY 4 30 ?_
 refine sY 5 31 ?_
 refine sY 6 32 ?_
 refine sY 7 33 ?_
 refine sY 8 34 ?_
 refine sY 9 35 ?_
 refine sO 10 fun K hK => ?_
 obtain ⟨⟨fc0, fc1, fc2, fc3, fc4, fc5⟩, _, fb⟩ := hHeld
 go_simp
 refine (HP.out _ FB).mono ?_
 rintro e w2 ⟨rfl, h1⟩
 (try go_wp2_with fail)
 refine hK.out _ _ ?_ (fun hHeld => ?_)
 ·exact ⟨⟨((h1.2).cell (.inl (.inr (.inl rfl))) fc0), ((h1.2).cell (.inl (.inr (.inl rfl))) fc1), ((h1.2).cell (.inr ⟨by first | omega | (simp <;> omega), blt fc2⟩) fc2), ((h1.2).cell (.inr ⟨by first | omega | (simp <;> omega), blt fc3⟩) fc3), ((h1.2).cell (.inr ⟨by first | omega | (simp <;> omega), blt fc4⟩) fc4), ((h1.2).cell (.inr ⟨by first | omega | (simp <;> omega), blt fc5⟩) fc5)⟩, trivial, trivial⟩
 clear hK K
 try simp only [Act.put, List.setIfInBounds_toArray, List.set_cons_zero, List.set_cons_succ]
 refine wpAnyH_done (by kernel_rfl) ?_ _
 go_wp2_with fail
 go_end0
 exact ⟨rfl, HE.out _ _ FB h1⟩
end
end Go.Proofs.YtpjooboohelffaaGreatDoor
