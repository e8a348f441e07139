/- remap: the document's Set. -/
import Derived.Test.YtnfpfpppnfighaaDoorPB
namespace Go.Proofs.YtnfpfpppnfighaaDoor
open Go.Shelf Go.RowKit Go.Maps Go.Lib
set_option linter.unusedVariables false
set_option linter.unusedSimpArgs false
set_option maxRecDepth 100000
/-- Only block q may have turned. -/
structure T1 (q : Nat) (w w' : World) : Prop where
  os : w'.os = w.os
  tape : w'.tape = w.tape
  output : w'.output = w.output
  size : w.heap.size ≤ w'.heap.size
  block : ∀ k, k < w.heap.size → k ≠ q → w'.heap[k]? = w.heap[k]?
theorem T1.of_below {q : Nat} {w w' : World} (h : Below w.heap.size w w') : T1 q w w' := ⟨h.os, h.tape, h.output, h.size, fun k hk _ => h.block k hk⟩
theorem T1.set {q : Nat} {w w' : World} (h : Below w.heap.size w w') (o : Nat) (u : Value) : T1 q w (w'.setCell ⟨q, o, none⟩ u) :=
  ⟨h.os, h.tape, h.output, Nat.le_trans h.size (by simp [World.setCell]), fun k hk h1 => (Below.heap_setCell _ _ _ _ h1).trans (h.block k hk)⟩
theorem T1.below {q base : Nat} {w w' : World} (h : T1 q w w') (h1 : base ≤ q) (h3 : base ≤ w.heap.size) : Below base w w' :=
  ⟨h.os, h.tape, h.output, h.size, fun k hk => h.block k (by omega) (by omega)⟩
/-- One entry more. -/
theorem wp_appD {ops : Array Oper} {rest : List Oper} {o : Oper} {a : Act} {Q : Exit → Act → World → Prop} (hgd : o.guard = none) (s x : Operand)
    (ho : o.op = .call { callee := .builtin .append, args := #[s, x], argTypes := #[52, 52] }) (base : Nat) (v : Value) (L : List EntD) (W : World) (y : EntD) (ye : Bool) (yn : Int) (yS : ByteArray) (hy : y.num = ye ∧ y.n = yn ∧ st y.text = yS) (B : Nat)
    (hs : a.eval s = v) (hx : a.eval x = .slice (some ⟨B, 0, none⟩) 1 1) (hB : W.heap.size = B) (hown : OwnD W base v L) (hbase : base ≤ W.heap.size) (hn : L.length ≤ 1000000) (NL : Nat) (hNL : L.length + 1 = NL)
    (h : ∀ ad cap w', OwnD w' base (.slice ad NL cap) (L ++ [y]) → Below base W w' → wpList Tryd.prog ops Q rest (a.put o.dst (.slice ad NL cap)) w') :
    wpList Tryd.prog ops Q (o :: rest) a (W.alloc (.cells #[.bool ye, .int .i64 yn, .string yS] 29)) := by
  obtain ⟨rfl, rfl, rfl⟩ := hy
  subst hNL
  obtain ⟨i0, hi, hz0, hz1, hz2⟩ := info_parts info29
  subst hB
  refine wpList_append_own _ hgd s x 52 ho base 29 i0 _ 3 32 Tryd.underlying52 hi hz0 hz1 hz2 rfl (by decide) v L.length _ hs (World.ownsRow.alloc hown _) ⟨W.heap.size, 0, none⟩ 1 1 (dcells y) hx rfl ?_ (by simp [dcells, Value.oneCell']) (by unfold maxLen; omega) (by omega) (by show base ≤ (W.alloc _).heap.size; simp; omega) ?_
  · intro j u hj
    have hj3 : j < 3 := by
      have := (List.getElem?_eq_some_iff.1 hj).1
      simpa [dcells] using this
    have h3 : j = 0 ∨ j = 1 ∨ j = 2 := by omega
    rcases h3 with rfl | rfl | rfl <;> (simp [dcells] at hj; subst hj; simp [go_sem, Addr.add])
  · intro v' w' h1 h2 _
    obtain ⟨ad, cap, rfl⟩ : ∃ ad cap, v' = .slice ad (L.length + 1) cap := by
      rcases h1.2 with ⟨_, h0⟩ | ⟨g, cap, cur, hv, _⟩
      · omega
      · exact ⟨_, cap, hv⟩
    have b1 : Below base W (W.alloc (.cells #[.bool y.num, .int .i64 y.n, .string (st y.text)] 29)) := (Below.refl _ _).alloc hbase _
    refine h ad cap w' (by unfold OwnD; simpa using h1) (b1.grown h2 (by show base ≤ (W.alloc _).heap.size; simp; omega) (fun k hk => ?_))
    have := World.ownsRow.lt hown k hk
    omega
/-- What the document's Set answers, and what it leaves. -/
def rE (most : Int) (L : List EntD) (c : CodeD) (t : List UInt8) : Int := if mayB c.e c.n then (if t ≠ [] ∧ most < (usedS (refPut c t L) : Int) then 13 else 0) else 1
def rL (most : Int) (L : List EntD) (c : CodeD) (t : List UInt8) : List EntD := if mayB c.e c.n then (if t ≠ [] ∧ most < (usedS (refPut c t L) : Int) then L else refPut c t L) else L
def rO (most : Int) (L : List EntD) (over : Bool) (c : CodeD) (t : List UInt8) : Bool := if mayB c.e c.n then (if t ≠ [] ∧ most < (usedS (refPut c t L) : Int) then true else over) else over
theorem fold_len (c : CodeD) (t : List UInt8) : ∀ (L : List EntD) (s : List EntD × Bool), (L.foldl (refStep c t) s).1.length ≤ s.1.length + 2 * L.length
  | [], s => by simp
  | x :: l, s => by
    have h1 : (refStep c t s x).1.length ≤ s.1.length + 2 := by unfold refStep; split <;> (try split) <;> simp
    have := fold_len c t l (refStep c t s x)
    rw [List.foldl_cons, List.length_cons]
    omega
theorem fold_used (c : CodeD) (t : List UInt8) : ∀ (L : List EntD) (s : List EntD × Bool), usedS (L.foldl (refStep c t) s).1 ≤ usedS s.1 + usedS L + L.length * (3 + t.length)
  | [], s => by simp [usedS]
  | x :: l, s => by
    have ih := fold_used c t l (refStep c t s x)
    have h1 : usedS (refStep c t s x).1 ≤ usedS s.1 + (3 + x.text.length) + (3 + t.length) := by
      unfold refStep
      split
      · omega
      · split
        · simp [usedS_append, usedS] <;> omega
        · simp [usedS_append, usedS] <;> omega
    rw [List.foldl_cons, List.length_cons, Nat.succ_mul]
    simp only [usedS]
    omega
theorem refPut_used (c : CodeD) (t : List UInt8) (L : List EntD) : usedS (refPut c t L) ≤ usedS L + L.length * (3 + t.length) + (3 + t.length) := by
  have h := fold_used c t L ([], t.isEmpty)
  unfold refPut refFin
  split
  · simp only [usedS] at h; omega
  · rw [usedS_append]; simp only [usedS] at h ⊢; omega
theorem refPut_len (c : CodeD) (t : List UInt8) (L : List EntD) : (refPut c t L).length ≤ 2 * L.length + 1 := by
  have h := fold_len c t L ([], t.isEmpty)
  unfold refPut refFin
  split
  · simp at h; omega
  · rw [List.length_append]; simp at h ⊢; omega
set_option maxHeartbeats 40000000 in
theorem rset_any (W : World) (q base : Nat) (v : Value) (L : List EntD) (most : Int) (over : Bool) (hq : W.heap[q]? = some (.cells #[v, .int .i64 most, .bool over] 54 (0, 0))) (hO : OwnD W base v L) (hbq : base ≤ q)
    (hl : L.length ≤ 600) (hu : usedS L ≤ 100000000) (e : Bool) (n : Int) (t : List UInt8) (ht : t.length ≤ 100000) :
    Calls Tryd.prog 22 #[.pointer (some ⟨q, 0, none⟩), .bool e, .int .i64 n, .string (st t)] W fun r w' => r = .returned (.int .i64 (rE most L ⟨e, n⟩ t)) ∧
      (∃ v', w'.heap[q]? = some (.cells #[v', .int .i64 most, .bool (rO most L over ⟨e, n⟩ t)] 54 (0, 0)) ∧ OwnD w' base v' (rL most L ⟨e, n⟩ t)) ∧ T1 q W w' := by
  have hql := (Array.getElem?_eq_some_iff.1 hq).1
  by_cases hm : mayB e n = true
  · obtain ⟨S, hS⟩ : ∃ S, st t = S := ⟨_, rfl⟩
    have HS := Lib.hid hS
    obtain ⟨ad, cap, rfl, -⟩ := hO.form
    obtain ⟨N, hN⟩ : ∃ N, L.length = N := ⟨_, rfl⟩
    have HN := Lib.hid hN
    have HR := Lib.hid (rcode_any W e n)
    rw [hm] at HR
    have hb1 : Below W.heap.size W (W.alloc (.cells #[.bool e, .int .i64 n, .string S] 29)) := bel_alloc (Below.refl _ _) _
    have HB1 := Lib.hid hb1
    have HQ := Lib.hid (show (∀ W', Below (W.alloc (.cells #[.bool e, .int .i64 n, .string S] 29)).heap.size (W.alloc (.cells #[.bool e, .int .i64 n, .string S] 29)) W' → ((W'.cell? ⟨q, 0, none⟩ = some (.slice ad L.length cap) ∧ W'.cell? ⟨q, 1, none⟩ = some (.int .i64 most) ∧ W'.cell? ⟨q, 2, none⟩ = some (.bool over)) ∧ (W'.frozen? ⟨q, 0, none⟩ = false ∧ W'.frozen? ⟨q, 2, none⟩ = false)) ∧ (W'.cell? ⟨W.heap.size, 0, none⟩ = some (.bool e) ∧ W'.cell? ⟨W.heap.size, 1, none⟩ = some (.int .i64 n) ∧ W'.cell? ⟨W.heap.size, 2, none⟩ = some (.string S)) ∧ W'.heap[q]? = some (.cells #[.slice ad L.length cap, .int .i64 most, .bool over] 54 (0, 0)) ∧ OwnD W' base (.slice ad L.length cap) L ∧ Below W.heap.size W W') from fun W' hW => by
      have hb := bel_call hb1 hW
      have hq' := (hb.block q hql).trans hq
      exact ⟨⟨⟨by simp [World.cell?, hq'], by simp [World.cell?, hq'], by simp [World.cell?, hq']⟩, Lib.frozen_of_heap hq' 0, Lib.frozen_of_heap hq' 2⟩, ⟨cellB hW (by simp [go_sem]), cellB hW (by simp [go_sem]), cellB hW (by simp [go_sem])⟩, hq', hO.call hb, hb⟩)
    have HE := Lib.hid (show rE most L ⟨e, n⟩ t = (if t ≠ [] ∧ most < (usedS (refPut ⟨e, n⟩ t L) : Int) then 13 else 0) ∧ rL most L ⟨e, n⟩ t = (if t ≠ [] ∧ most < (usedS (refPut ⟨e, n⟩ t L) : Int) then L else refPut ⟨e, n⟩ t L) ∧ rO most L over ⟨e, n⟩ t = (if t ≠ [] ∧ most < (usedS (refPut ⟨e, n⟩ t L) : Int) then true else over) from by
      unfold rE rL rO
      simp only
      rw [if_pos hm, if_pos hm, if_pos hm]
      exact ⟨rfl, rfl, rfl⟩)
    have HUs := Lib.hid (show usedS (refPut ⟨e, n⟩ t L) ≤ 1000000000 from by
      have h1 := refPut_used ⟨e, n⟩ t L
      have h2 : L.length * (3 + t.length) ≤ 600 * 100003 := Nat.mul_le_mul hl (by omega)
      omega)
    have HLn := Lib.hid (refPut_len ⟨e, n⟩ t L)
    have hsz := hb1.size
    rw [hS]
    clear hq hO hb1 hS
    have hll : L.length = N := hN
    rw [hll] at HQ HLn hl
    clear hll hN
    obtain ⟨b0, hb0⟩ : ∃ b, t.isEmpty = b := ⟨_, rfl⟩
    have hSb : (S = ⟨#[]⟩ ∧ b0 = true ∧ t = []) ∨ (¬ S.toList = [] ∧ S.toList.isEmpty = false ∧ b0 = false ∧ t ≠ []) := by
      by_cases h : t = []
      · left; subst h; exact ⟨by rw [← HS.out]; rfl, by rw [← hb0]; rfl, rfl⟩
      · right
        obtain ⟨h1, h2⟩ := st_full h
        rw [HS.out] at h1 h2
        exact ⟨h1, h2, by rw [← hb0]; simpa using h, h⟩
    have HSb := Lib.hid hSb
    have HBq := Lib.hid hbq
    have HB0 := Lib.hid hb0
    clear hb0 hbq
    have hSE : S.toList.isEmpty = b0 := by
      rcases hSb with ⟨rfl, rfl, rfl⟩ | ⟨s1, s2, rfl, htn⟩
      · rw [ByteArray.toList_eq]; rfl
      · exact s2
    clear hSb
    go_enter Tryd.func22, Tryd.ntmps22
    go_wp2_with fail
    refine HR.out.mono ?_
    rintro r w1 ⟨rfl, rfl⟩
    go_wp2_with fail
    obtain ⟨W1, hW1⟩ : ∃ W1, w1.alloc (.cells #[.bool e, .int .i64 n, .string S] 29) = W1 := ⟨_, rfl⟩
    rw [hW1] at HQ HB1 ⊢
    obtain ⟨B1, hB1⟩ : ∃ B1, W1.heap.size = B1 := ⟨_, rfl⟩
    rw [hB1] at HQ
    obtain ⟨Bx, hBx⟩ : ∃ Bx, w1.heap.size = Bx := ⟨_, rfl⟩
    have HBx := Lib.hid (show w1.heap.size = Bx ∧ w1.heap.size ≤ B1 ∧ W1.heap.size = B1 from ⟨hBx, by rw [← hB1]; exact HB1.out.size, hB1⟩)
    rw [hBx] at HQ ⊢
    clear hW1 hB1 hBx
    obtain ⟨⟨⟨k0, -, -⟩, -⟩, -⟩ := HQ.out W1 (Below.refl _ _)
    go_loopw [10, 11, 12] (fun l pt i wr => ∃ (k : Nat) (acc : List EntD) (pb : Bool) (ad1 : Option Addr) (cap1 : Nat), k ≤ N ∧ i = .int .i64 (k : Int) ∧ (L.take k).foldl (refStep ⟨e, n⟩ t) ([], b0) = (acc, pb) ∧ pt = .bool pb ∧ l = .slice ad1 acc.length cap1 ∧ OwnD wr B1 (.slice ad1 acc.length cap1) acc ∧ Below B1 W1 wr) (fun _ _ i _ => N - (intOf i).toNat)
    case atStart => exact ⟨0, [], b0, none, 0, Nat.zero_le _, rfl, rfl, rfl, rfl, OwnD.nil _ _, Below.refl _ _⟩
    case round =>
      obtain ⟨k, acc, pb, ad1, cap1, hk, rfl, hfold, rfl, rfl, how, hbw⟩ := hrel
      have HOw := Lib.hid how
      have Hbw := Lib.hid hbw
      have HFo := Lib.hid hfold
      obtain ⟨⟨⟨k1, k2, k3⟩, f1, f2⟩, ⟨x0, x1, x2⟩, -, hod, -⟩ := HQ.out wr hbw
      have hacc : acc.length ≤ 2 * k := by
        have h := fold_len ⟨e, n⟩ t (L.take k) ([], b0)
        rw [hfold] at h
        simp at h
        omega
      have hBs : B1 ≤ wr.heap.size := by have := hbw.size; have := HBx.out; omega
      obtain ⟨A, hA⟩ : ∃ A, acc.length = A := ⟨_, rfl⟩
      have HA := Lib.hid hA
      have HBs := Lib.hid hBs
      rw [hA] at HOw hacc ⊢
      clear how hbw hfold hA k0
      by_cases hlt : k < N
      · have q1 : (k : Int) < (N : Int) := by omega
        have hkL : k < L.length := by rw [HN.out]; exact hlt
        obtain ⟨ad', cap', hv', hx⟩ := hod.form
        rw [HN.out] at hv'
        simp only [Value.slice.injEq] at hv'
        obtain ⟨rfl, -, rfl⟩ := hv'
        obtain ⟨g, rfl, -, hc⟩ := hx (by rw [HN.out]; omega)
        obtain ⟨d0, d1, d2⟩ := hc k hkL
        have HTk := Lib.hid (show (L.take (k + 1)).foldl (refStep ⟨e, n⟩ t) ([], b0) = refStep ⟨e, n⟩ t (acc, pb) L[k] from by
          rw [List.take_add_one, List.getElem?_eq_getElem hkL, List.foldl_append, HFo.out]
          rfl)
        have HCk := Lib.hid (show ∀ W', Below B1 W1 W' → (W'.cell? ⟨g, k * 3, none⟩ = some (.bool L[k].num) ∧ W'.cell? ⟨g, k * 3 + 1, none⟩ = some (.int .i64 L[k].n) ∧ W'.cell? ⟨g, k * 3 + 2, none⟩ = some (.string (st L[k].text))) from fun W' hW => by
          obtain ⟨-, -, -, hod', -⟩ := HQ.out W' hW
          obtain ⟨ad'', cap'', hv'', hx''⟩ := hod'.form
          rw [HN.out] at hv''
          simp only [Value.slice.injEq] at hv''
          obtain ⟨rfl, -, rfl⟩ := hv''
          obtain ⟨g', hg', -, hc'⟩ := hx'' (by rw [HN.out]; omega)
          simp only [Option.some.injEq, Addr.mk.injEq] at hg'
          obtain ⟨rfl, -⟩ := hg'
          exact hc' k hkL)
        clear hc hx hod
        generalize L[k]'hkL = x at *
        by_cases hs : x.num = e ∧ x.n = n
        · rw [hs.1] at d0
          rw [hs.2] at d1
          have HSt := Lib.hid (show refStep ⟨e, n⟩ t (acc, pb) x = (acc, pb) from by unfold refStep; rw [if_pos hs])
          clear hs
          go_wp2_with fail
          go_roundw
          case rel => exact ⟨k + 1, acc, pb, ad1, cap1, by omega, by go_num, by rw [HTk.out, HSt.out], rfl, by rw [HA.out], by rw [HA.out]; exact HOw.out, Hbw.out⟩
          case measure => simp [intOf]; omega
        · have HNs := Lib.hid hs
          have hs' : (e = false ∧ x.num = true) ∨ (e = true ∧ x.num = false) ∨ (e = x.num ∧ (x.n == n) = false) := by
            by_cases he : x.num = e
            · exact .inr (.inr ⟨he.symm, by simpa using fun h => hs ⟨he, h⟩⟩)
            · revert he; cases x.num <;> cases e <;> simp
          clear hs
          obtain ⟨xe, hxe⟩ : ∃ xe, x.num = xe := ⟨_, rfl⟩
          obtain ⟨xn, hxn⟩ : ∃ xn, x.n = xn := ⟨_, rfl⟩
          obtain ⟨xS, hxS⟩ : ∃ xS, st x.text = xS := ⟨_, rfl⟩
          have HX := Lib.hid (And.intro hxe (And.intro hxn hxS))
          rw [hxe] at d0 hs' HCk
          rw [hxn] at d1 hs' HCk
          rw [hxS] at d2 HCk
          clear hxe hxn hxS
          have HSS := Lib.hid (show ∀ W', Below wr.heap.size wr W' → ((W'.cell? ⟨q, 0, none⟩ = some (.slice (some ⟨g, 0, none⟩) N cap) ∧ (W'.cell? ⟨Bx, 0, none⟩ = some (.bool e) ∧ W'.cell? ⟨Bx, 1, none⟩ = some (.int .i64 n) ∧ W'.cell? ⟨Bx, 2, none⟩ = some (.string S)) ∧ (W'.cell? ⟨g, k * 3, none⟩ = some (.bool xe) ∧ W'.cell? ⟨g, k * 3 + 1, none⟩ = some (.int .i64 xn) ∧ W'.cell? ⟨g, k * 3 + 2, none⟩ = some (.string xS))) ∧ OwnD W' B1 (.slice ad1 A cap1) acc ∧ Below B1 W1 W') from fun W' hW => by
            have hb := Hbw.out.trans (hW.mono HBs.out)
            obtain ⟨⟨⟨y0, -, -⟩, -⟩, hy, -⟩ := HQ.out W' hb
            exact ⟨⟨y0, hy, HCk.out W' hb⟩, HOw.out.call hW, hb⟩)
          cases pb
          · -- not yet put
            have HAh := Lib.hid (show ∀ W', Calls Tryd.prog 36 #[.agg #[.bool e, .int .i64 n, .string S], .agg #[.bool xe, .int .i64 xn, .string xS]] W' fun e' w' => e' = .returned (.bool (aheadB ⟨e, n⟩ (cd x))) ∧ Below W'.heap.size W' w' from fun W' => by
              have h := ahead_any W' ⟨e, n, t⟩ x
              unfold EntD.val at h
              rw [HX.out.1, HX.out.2.1, HX.out.2.2] at h
              simp only at h
              rw [show st t = S from HS.out] at h
              exact h)
            obtain ⟨AH, hAH⟩ : ∃ AH, aheadB ⟨e, n⟩ (cd x) = AH := ⟨_, rfl⟩
            rw [hAH] at HAh
            have HAH := Lib.hid hAH
            clear hAH
            rcases hs' with ⟨rfl, rfl⟩ | ⟨rfl, rfl⟩ | ⟨rfl, hR⟩
            · skip
              go_upto_region 10 with fail
              refine wp_region_held_drew (S := fun W' => (W'.cell? ⟨q, 0, none⟩ = some (.slice (some ⟨g, 0, none⟩) N cap) ∧ (W'.cell? ⟨Bx, 0, none⟩ = some (.bool false) ∧ W'.cell? ⟨Bx, 1, none⟩ = some (.int .i64 n) ∧ W'.cell? ⟨Bx, 2, none⟩ = some (.string S)) ∧ (W'.cell? ⟨g, k * 3, none⟩ = some (.bool true) ∧ W'.cell? ⟨g, k * 3 + 1, none⟩ = some (.int .i64 xn) ∧ W'.cell? ⟨g, k * 3 + 2, none⟩ = some (.string xS))) ∧ OwnD W' B1 (.slice ad1 A cap1) acc ∧ Below B1 W1 W') (by kernel_rfl) (HSS.out _ (Below.refl wr.heap.size wr).drew) (fun hHeld => ?_)
              refine wpAnyH_step (i := 0) (d := some 55) (v := ?_) rfl rfl (by kernel_rfl) (by kernel_rfl) (by kernel_rfl) (fun _ _ _ h => h) (Or.inl ⟨by rfl, ?_⟩) (by assumption) ?_
              rotate_left
              · intro w hSw; (try dsimp only at hSw); go_simp; (try with_reducible rfl)
              try simp only [Act.put, List.setIfInBounds_toArray, List.set_cons_zero, List.set_cons_succ]
              refine wpAnyH_step (i := 1) (d := some 56) (v := ?_) rfl rfl (by kernel_rfl) (by kernel_rfl) (by kernel_rfl) (fun _ _ _ h => h) (Or.inl ⟨by rfl, ?_⟩) (by assumption) ?_
              rotate_left
              · intro w hSw; (try dsimp only at hSw); go_simp; (try with_reducible rfl)
              try simp only [Act.put, List.setIfInBounds_toArray, List.set_cons_zero, List.set_cons_succ]
              refine wpAnyH_step (i := 2) (d := some 57) (v := ?_) rfl rfl (by kernel_rfl) (by kernel_rfl) (by kernel_rfl) (fun _ _ _ h => h) (Or.inl ⟨by rfl, ?_⟩) (by assumption) ?_
              rotate_left
              · intro w hSw; (try dsimp only at hSw); go_simp; (try with_reducible rfl)
              try simp only [Act.put, List.setIfInBounds_toArray, List.set_cons_zero, List.set_cons_succ]
              refine wpAnyH_step (i := 3) (d := some 58) (v := ?_) rfl rfl (by kernel_rfl) (by kernel_rfl) (by kernel_rfl) (fun _ _ _ h => h) (Or.inl ⟨by rfl, ?_⟩) (by assumption) ?_
              rotate_left
              · intro w hSw; (try dsimp only at hSw); go_simp; (try with_reducible rfl)
              try simp only [Act.put, List.setIfInBounds_toArray, List.set_cons_zero, List.set_cons_succ]
              refine wpAnyH_step (i := 4) (d := some 59) (v := ?_) rfl rfl (by kernel_rfl) (by kernel_rfl) (by kernel_rfl) (fun _ _ _ h => h) (Or.inl ⟨by rfl, ?_⟩) (by assumption) ?_
              rotate_left
              · intro w hSw; (try dsimp only at hSw); go_simp; (try with_reducible rfl)
              try simp only [Act.put, List.setIfInBounds_toArray, List.set_cons_zero, List.set_cons_succ]
              refine wpAnyH_step (i := 5) (d := some 60) (v := ?_) rfl rfl (by kernel_rfl) (by kernel_rfl) (by kernel_rfl) (fun _ _ _ h => h) (Or.inl ⟨by rfl, ?_⟩) (by assumption) ?_
              rotate_left
              · intro w hSw; (try dsimp only at hSw); go_simp; (try with_reducible rfl)
              try simp only [Act.put, List.setIfInBounds_toArray, List.set_cons_zero, List.set_cons_succ]
              refine wpAnyH_step (i := 6) (d := some 61) (v := ?_) rfl rfl (by kernel_rfl) (by kernel_rfl) (by kernel_rfl) (fun _ _ _ h => h) (Or.inl ⟨by rfl, ?_⟩) (by assumption) ?_
              rotate_left
              · intro w hSw; (try dsimp only at hSw); go_simp; (try with_reducible rfl)
              try simp only [Act.put, List.setIfInBounds_toArray, List.set_cons_zero, List.set_cons_succ]
              refine wpAnyH_step (i := 7) (d := some 62) (v := ?_) rfl rfl (by kernel_rfl) (by kernel_rfl) (by kernel_rfl) (fun _ _ _ h => h) (Or.inl ⟨by rfl, ?_⟩) (by assumption) ?_
              rotate_left
              · intro w hSw; (try dsimp only at hSw); go_simp; (try with_reducible rfl)
              try simp only [Act.put, List.setIfInBounds_toArray, List.set_cons_zero, List.set_cons_succ]
              refine wpAnyH_step (i := 8) (d := some 63) (v := ?_) rfl rfl (by kernel_rfl) (by kernel_rfl) (by kernel_rfl) (fun _ _ _ h => h) (Or.inl ⟨by rfl, ?_⟩) (by assumption) ?_
              rotate_left
              · intro w hSw; (try dsimp only at hSw); go_simp; (try with_reducible rfl)
              try simp only [Act.put, List.setIfInBounds_toArray, List.set_cons_zero, List.set_cons_succ]
              refine wpAnyH_step (i := 9) (d := some 64) (v := ?_) rfl rfl (by kernel_rfl) (by kernel_rfl) (by kernel_rfl) (fun _ _ _ h => h) (Or.inl ⟨by rfl, ?_⟩) (by assumption) ?_
              rotate_left
              · intro w hSw; (try dsimp only at hSw); go_simp; (try with_reducible rfl)
              try simp only [Act.put, List.setIfInBounds_toArray, List.set_cons_zero, List.set_cons_succ]
              refine wpAnyH_step (i := 10) (d := some 65) (v := ?_) rfl rfl (by kernel_rfl) (by kernel_rfl) (by kernel_rfl) (fun _ _ _ h => h) (Or.inl ⟨by rfl, ?_⟩) (by assumption) ?_
              rotate_left
              · intro w hSw; (try dsimp only at hSw); go_simp; (try with_reducible rfl)
              try simp only [Act.put, List.setIfInBounds_toArray, List.set_cons_zero, List.set_cons_succ]
              refine wpAnyH_ready (rs := [11]) (by kernel_rfl) (by simp) ?_
              refine AllReadyH.cons rfl (fun K hK => ?_) AllReadyH.nil
              go_simp
              refine (HAh.out _).mono ?_
              rintro r w3 ⟨rfl, hb3⟩
              (try go_wp2_with fail)
              refine hK.out _ _ ?_ (fun hHeld => ?_)
              · exact HSS.out _ ((Below.refl wr.heap.size wr).drew.trans hb3)
              clear hK K
              try simp only [Act.put, List.setIfInBounds_toArray, List.set_cons_zero, List.set_cons_succ]
              refine wpAnyH_step (i := 12) (d := some 67) (v := ?_) rfl rfl (by kernel_rfl) (by kernel_rfl) (by kernel_rfl) (fun _ _ _ h => h) (Or.inl ⟨by rfl, ?_⟩) (by assumption) ?_
              rotate_left
              · intro w hSw; (try dsimp only at hSw); go_simp; (try with_reducible rfl)
              try simp only [Act.put, List.setIfInBounds_toArray, List.set_cons_zero, List.set_cons_succ]
              refine wpAnyH_done (by kernel_rfl) ?_ _
              obtain ⟨⟨y0, hy, hg0, hg1, hg2⟩, how3, hbw3⟩ := hHeld
              have HOw3 := Lib.hid how3
              have Hbw3 := Lib.hid hbw3
              clear how3 hbw3 HSS HAh HOw Hbw d0 d1 d2 x0 x1 x2 k1 k2 k3 f1 f2
              cases AH
              · have HSt := Lib.hid (show refStep ⟨false, n⟩ t (acc, false) x = (acc ++ [x], false) from by
                  unfold refStep
                  rw [if_neg HNs.out, if_neg (by rw [HAH.out]; simp)])
                obtain ⟨A4, hA4⟩ : ∃ a, (acc).length + 1 = a := ⟨_, rfl⟩
                have HA4 := Lib.hid hA4
                clear hA4
                go_upto_region 8 with (first | (at_builtin; refine wp_appD rfl (.tmp 72) (.tmp 80) rfl B1 _ acc _ x true xn xS HX.out _ rfl rfl rfl HOw3.out (by have := (Hbw3.out).size; have := HBx.out; omega) (by have := HA.out; simp; omega) A4 HA4.out ?_; intro ad4 cap4 w4 hown4 hb4; have HOw4 := Lib.hid hown4; have Hbw4 := Lib.hid (Below.trans (Hbw3.out) hb4); clear hown4 hb4))
                go_wp2_with fail
                go_roundw
                case rel => exact ⟨k + 1, acc ++ [x], false, _, _, by omega, by go_num, by rw [HTk.out, HSt.out], rfl, by rw [show A4 = (acc ++ [x]).length from by have := HA.out; have h7 := HA4.out; simp at h7 ⊢; omega], by rw [← show A4 = (acc ++ [x]).length from by have := HA.out; have h7 := HA4.out; simp at h7 ⊢; omega]; exact HOw4.out, Hbw4.out⟩
                case measure => simp [intOf]; omega
              · have HSt := Lib.hid (show refStep ⟨false, n⟩ t (acc, false) x = (acc ++ [⟨false, n, t⟩] ++ [x], true) from by
                  unfold refStep
                  rw [if_neg HNs.out, if_pos ⟨rfl, HAH.out⟩])
                obtain ⟨A4, hA4⟩ : ∃ a, (acc).length + 1 = a := ⟨_, rfl⟩
                have HA4 := Lib.hid hA4
                clear hA4
                go_upto_region 12 with (first | (at_builtin; refine wp_appD rfl (.tmp 68) (.tmp 70) rfl B1 _ acc _ ⟨false, n, t⟩ false n S ⟨rfl, rfl, HS.out⟩ _ rfl rfl rfl HOw3.out (by have := (Hbw3.out).size; have := HBx.out; omega) (by have := HA.out; simp; omega) A4 HA4.out ?_; intro ad4 cap4 w4 hown4 hb4; have HOw4 := Lib.hid hown4; have Hbw4 := Lib.hid (Below.trans (Hbw3.out) hb4); clear hown4 hb4))
                have HG4 := Lib.hid (And.intro (HCk.out _ Hbw4.out) (HQ.out _ Hbw4.out).1.1.1)
                obtain ⟨⟨g0, g1, g2⟩, y4⟩ := HG4.out
                clear y0 hg0 hg1 hg2 hy
                obtain ⟨A5, hA5⟩ : ∃ a, ((acc ++ [(⟨false, n, t⟩ : EntD)])).length + 1 = a := ⟨_, rfl⟩
                have HA5 := Lib.hid hA5
                clear hA5
                go_upto_region 8 with (first | (at_builtin; refine wp_appD rfl (.tmp 72) (.tmp 80) rfl B1 _ (acc ++ [(⟨false, n, t⟩ : EntD)]) _ x true xn xS HX.out _ rfl rfl rfl HOw4.out (by have := (Hbw4.out).size; have := HBx.out; omega) (by have := HA.out; have := HA4.out; simp; omega) A5 HA5.out ?_; intro ad5 cap5 w5 hown5 hb5; have HOw5 := Lib.hid hown5; have Hbw5 := Lib.hid (Below.trans (Hbw4.out) hb5); clear hown5 hb5))
                go_wp2_with fail
                go_roundw
                case rel => exact ⟨k + 1, acc ++ [(⟨false, n, t⟩ : EntD)] ++ [x], true, _, _, by omega, by go_num, by rw [HTk.out, HSt.out], rfl, by rw [show A5 = (acc ++ [(⟨false, n, t⟩ : EntD)] ++ [x]).length from by have := HA.out; have h7 := HA5.out; simp at h7 ⊢; omega], by rw [← show A5 = (acc ++ [(⟨false, n, t⟩ : EntD)] ++ [x]).length from by have := HA.out; have h7 := HA5.out; simp at h7 ⊢; omega]; exact HOw5.out, Hbw5.out⟩
                case measure => simp [intOf]; omega
            · skip
              go_upto_region 10 with fail
              refine wp_region_held_drew (S := fun W' => (W'.cell? ⟨q, 0, none⟩ = some (.slice (some ⟨g, 0, none⟩) N cap) ∧ (W'.cell? ⟨Bx, 0, none⟩ = some (.bool true) ∧ W'.cell? ⟨Bx, 1, none⟩ = some (.int .i64 n) ∧ W'.cell? ⟨Bx, 2, none⟩ = some (.string S)) ∧ (W'.cell? ⟨g, k * 3, none⟩ = some (.bool false) ∧ W'.cell? ⟨g, k * 3 + 1, none⟩ = some (.int .i64 xn) ∧ W'.cell? ⟨g, k * 3 + 2, none⟩ = some (.string xS))) ∧ OwnD W' B1 (.slice ad1 A cap1) acc ∧ Below B1 W1 W') (by kernel_rfl) (HSS.out _ (Below.refl wr.heap.size wr).drew) (fun hHeld => ?_)
              refine wpAnyH_step (i := 0) (d := some 55) (v := ?_) rfl rfl (by kernel_rfl) (by kernel_rfl) (by kernel_rfl) (fun _ _ _ h => h) (Or.inl ⟨by rfl, ?_⟩) (by assumption) ?_
              rotate_left
              · intro w hSw; (try dsimp only at hSw); go_simp; (try with_reducible rfl)
              try simp only [Act.put, List.setIfInBounds_toArray, List.set_cons_zero, List.set_cons_succ]
              refine wpAnyH_step (i := 1) (d := some 56) (v := ?_) rfl rfl (by kernel_rfl) (by kernel_rfl) (by kernel_rfl) (fun _ _ _ h => h) (Or.inl ⟨by rfl, ?_⟩) (by assumption) ?_
              rotate_left
              · intro w hSw; (try dsimp only at hSw); go_simp; (try with_reducible rfl)
              try simp only [Act.put, List.setIfInBounds_toArray, List.set_cons_zero, List.set_cons_succ]
              refine wpAnyH_step (i := 2) (d := some 57) (v := ?_) rfl rfl (by kernel_rfl) (by kernel_rfl) (by kernel_rfl) (fun _ _ _ h => h) (Or.inl ⟨by rfl, ?_⟩) (by assumption) ?_
              rotate_left
              · intro w hSw; (try dsimp only at hSw); go_simp; (try with_reducible rfl)
              try simp only [Act.put, List.setIfInBounds_toArray, List.set_cons_zero, List.set_cons_succ]
              refine wpAnyH_step (i := 3) (d := some 58) (v := ?_) rfl rfl (by kernel_rfl) (by kernel_rfl) (by kernel_rfl) (fun _ _ _ h => h) (Or.inl ⟨by rfl, ?_⟩) (by assumption) ?_
              rotate_left
              · intro w hSw; (try dsimp only at hSw); go_simp; (try with_reducible rfl)
              try simp only [Act.put, List.setIfInBounds_toArray, List.set_cons_zero, List.set_cons_succ]
              refine wpAnyH_step (i := 4) (d := some 59) (v := ?_) rfl rfl (by kernel_rfl) (by kernel_rfl) (by kernel_rfl) (fun _ _ _ h => h) (Or.inl ⟨by rfl, ?_⟩) (by assumption) ?_
              rotate_left
              · intro w hSw; (try dsimp only at hSw); go_simp; (try with_reducible rfl)
              try simp only [Act.put, List.setIfInBounds_toArray, List.set_cons_zero, List.set_cons_succ]
              refine wpAnyH_step (i := 5) (d := some 60) (v := ?_) rfl rfl (by kernel_rfl) (by kernel_rfl) (by kernel_rfl) (fun _ _ _ h => h) (Or.inl ⟨by rfl, ?_⟩) (by assumption) ?_
              rotate_left
              · intro w hSw; (try dsimp only at hSw); go_simp; (try with_reducible rfl)
              try simp only [Act.put, List.setIfInBounds_toArray, List.set_cons_zero, List.set_cons_succ]
              refine wpAnyH_step (i := 6) (d := some 61) (v := ?_) rfl rfl (by kernel_rfl) (by kernel_rfl) (by kernel_rfl) (fun _ _ _ h => h) (Or.inl ⟨by rfl, ?_⟩) (by assumption) ?_
              rotate_left
              · intro w hSw; (try dsimp only at hSw); go_simp; (try with_reducible rfl)
              try simp only [Act.put, List.setIfInBounds_toArray, List.set_cons_zero, List.set_cons_succ]
              refine wpAnyH_step (i := 7) (d := some 62) (v := ?_) rfl rfl (by kernel_rfl) (by kernel_rfl) (by kernel_rfl) (fun _ _ _ h => h) (Or.inl ⟨by rfl, ?_⟩) (by assumption) ?_
              rotate_left
              · intro w hSw; (try dsimp only at hSw); go_simp; (try with_reducible rfl)
              try simp only [Act.put, List.setIfInBounds_toArray, List.set_cons_zero, List.set_cons_succ]
              refine wpAnyH_step (i := 8) (d := some 63) (v := ?_) rfl rfl (by kernel_rfl) (by kernel_rfl) (by kernel_rfl) (fun _ _ _ h => h) (Or.inl ⟨by rfl, ?_⟩) (by assumption) ?_
              rotate_left
              · intro w hSw; (try dsimp only at hSw); go_simp; (try with_reducible rfl)
              try simp only [Act.put, List.setIfInBounds_toArray, List.set_cons_zero, List.set_cons_succ]
              refine wpAnyH_step (i := 9) (d := some 64) (v := ?_) rfl rfl (by kernel_rfl) (by kernel_rfl) (by kernel_rfl) (fun _ _ _ h => h) (Or.inl ⟨by rfl, ?_⟩) (by assumption) ?_
              rotate_left
              · intro w hSw; (try dsimp only at hSw); go_simp; (try with_reducible rfl)
              try simp only [Act.put, List.setIfInBounds_toArray, List.set_cons_zero, List.set_cons_succ]
              refine wpAnyH_step (i := 10) (d := some 65) (v := ?_) rfl rfl (by kernel_rfl) (by kernel_rfl) (by kernel_rfl) (fun _ _ _ h => h) (Or.inl ⟨by rfl, ?_⟩) (by assumption) ?_
              rotate_left
              · intro w hSw; (try dsimp only at hSw); go_simp; (try with_reducible rfl)
              try simp only [Act.put, List.setIfInBounds_toArray, List.set_cons_zero, List.set_cons_succ]
              refine wpAnyH_ready (rs := [11]) (by kernel_rfl) (by simp) ?_
              refine AllReadyH.cons rfl (fun K hK => ?_) AllReadyH.nil
              go_simp
              refine (HAh.out _).mono ?_
              rintro r w3 ⟨rfl, hb3⟩
              (try go_wp2_with fail)
              refine hK.out _ _ ?_ (fun hHeld => ?_)
              · exact HSS.out _ ((Below.refl wr.heap.size wr).drew.trans hb3)
              clear hK K
              try simp only [Act.put, List.setIfInBounds_toArray, List.set_cons_zero, List.set_cons_succ]
              refine wpAnyH_step (i := 12) (d := some 67) (v := ?_) rfl rfl (by kernel_rfl) (by kernel_rfl) (by kernel_rfl) (fun _ _ _ h => h) (Or.inl ⟨by rfl, ?_⟩) (by assumption) ?_
              rotate_left
              · intro w hSw; (try dsimp only at hSw); go_simp; (try with_reducible rfl)
              try simp only [Act.put, List.setIfInBounds_toArray, List.set_cons_zero, List.set_cons_succ]
              refine wpAnyH_done (by kernel_rfl) ?_ _
              obtain ⟨⟨y0, hy, hg0, hg1, hg2⟩, how3, hbw3⟩ := hHeld
              have HOw3 := Lib.hid how3
              have Hbw3 := Lib.hid hbw3
              clear how3 hbw3 HSS HAh HOw Hbw d0 d1 d2 x0 x1 x2 k1 k2 k3 f1 f2
              cases AH
              · have HSt := Lib.hid (show refStep ⟨true, n⟩ t (acc, false) x = (acc ++ [x], false) from by
                  unfold refStep
                  rw [if_neg HNs.out, if_neg (by rw [HAH.out]; simp)])
                obtain ⟨A4, hA4⟩ : ∃ a, (acc).length + 1 = a := ⟨_, rfl⟩
                have HA4 := Lib.hid hA4
                clear hA4
                go_upto_region 8 with (first | (at_builtin; refine wp_appD rfl (.tmp 72) (.tmp 80) rfl B1 _ acc _ x false xn xS HX.out _ rfl rfl rfl HOw3.out (by have := (Hbw3.out).size; have := HBx.out; omega) (by have := HA.out; simp; omega) A4 HA4.out ?_; intro ad4 cap4 w4 hown4 hb4; have HOw4 := Lib.hid hown4; have Hbw4 := Lib.hid (Below.trans (Hbw3.out) hb4); clear hown4 hb4))
                go_wp2_with fail
                go_roundw
                case rel => exact ⟨k + 1, acc ++ [x], false, _, _, by omega, by go_num, by rw [HTk.out, HSt.out], rfl, by rw [show A4 = (acc ++ [x]).length from by have := HA.out; have h7 := HA4.out; simp at h7 ⊢; omega], by rw [← show A4 = (acc ++ [x]).length from by have := HA.out; have h7 := HA4.out; simp at h7 ⊢; omega]; exact HOw4.out, Hbw4.out⟩
                case measure => simp [intOf]; omega
              · have HSt := Lib.hid (show refStep ⟨true, n⟩ t (acc, false) x = (acc ++ [⟨true, n, t⟩] ++ [x], true) from by
                  unfold refStep
                  rw [if_neg HNs.out, if_pos ⟨rfl, HAH.out⟩])
                obtain ⟨A4, hA4⟩ : ∃ a, (acc).length + 1 = a := ⟨_, rfl⟩
                have HA4 := Lib.hid hA4
                clear hA4
                go_upto_region 12 with (first | (at_builtin; refine wp_appD rfl (.tmp 68) (.tmp 70) rfl B1 _ acc _ ⟨true, n, t⟩ true n S ⟨rfl, rfl, HS.out⟩ _ rfl rfl rfl HOw3.out (by have := (Hbw3.out).size; have := HBx.out; omega) (by have := HA.out; simp; omega) A4 HA4.out ?_; intro ad4 cap4 w4 hown4 hb4; have HOw4 := Lib.hid hown4; have Hbw4 := Lib.hid (Below.trans (Hbw3.out) hb4); clear hown4 hb4))
                have HG4 := Lib.hid (And.intro (HCk.out _ Hbw4.out) (HQ.out _ Hbw4.out).1.1.1)
                obtain ⟨⟨g0, g1, g2⟩, y4⟩ := HG4.out
                clear y0 hg0 hg1 hg2 hy
                obtain ⟨A5, hA5⟩ : ∃ a, ((acc ++ [(⟨true, n, t⟩ : EntD)])).length + 1 = a := ⟨_, rfl⟩
                have HA5 := Lib.hid hA5
                clear hA5
                go_upto_region 8 with (first | (at_builtin; refine wp_appD rfl (.tmp 72) (.tmp 80) rfl B1 _ (acc ++ [(⟨true, n, t⟩ : EntD)]) _ x false xn xS HX.out _ rfl rfl rfl HOw4.out (by have := (Hbw4.out).size; have := HBx.out; omega) (by have := HA.out; have := HA4.out; simp; omega) A5 HA5.out ?_; intro ad5 cap5 w5 hown5 hb5; have HOw5 := Lib.hid hown5; have Hbw5 := Lib.hid (Below.trans (Hbw4.out) hb5); clear hown5 hb5))
                go_wp2_with fail
                go_roundw
                case rel => exact ⟨k + 1, acc ++ [(⟨true, n, t⟩ : EntD)] ++ [x], true, _, _, by omega, by go_num, by rw [HTk.out, HSt.out], rfl, by rw [show A5 = (acc ++ [(⟨true, n, t⟩ : EntD)] ++ [x]).length from by have := HA.out; have h7 := HA5.out; simp at h7 ⊢; omega], by rw [← show A5 = (acc ++ [(⟨true, n, t⟩ : EntD)] ++ [x]).length from by have := HA.out; have h7 := HA5.out; simp at h7 ⊢; omega]; exact HOw5.out, Hbw5.out⟩
                case measure => simp [intOf]; omega
            · skip
              go_upto_region 10 with fail
              refine wp_region_held_drew (S := fun W' => (W'.cell? ⟨q, 0, none⟩ = some (.slice (some ⟨g, 0, none⟩) N cap) ∧ (W'.cell? ⟨Bx, 0, none⟩ = some (.bool e) ∧ W'.cell? ⟨Bx, 1, none⟩ = some (.int .i64 n) ∧ W'.cell? ⟨Bx, 2, none⟩ = some (.string S)) ∧ (W'.cell? ⟨g, k * 3, none⟩ = some (.bool e) ∧ W'.cell? ⟨g, k * 3 + 1, none⟩ = some (.int .i64 xn) ∧ W'.cell? ⟨g, k * 3 + 2, none⟩ = some (.string xS))) ∧ OwnD W' B1 (.slice ad1 A cap1) acc ∧ Below B1 W1 W') (by kernel_rfl) (HSS.out _ (Below.refl wr.heap.size wr).drew) (fun hHeld => ?_)
              refine wpAnyH_step (i := 0) (d := some 55) (v := ?_) rfl rfl (by kernel_rfl) (by kernel_rfl) (by kernel_rfl) (fun _ _ _ h => h) (Or.inl ⟨by rfl, ?_⟩) (by assumption) ?_
              rotate_left
              · intro w hSw; (try dsimp only at hSw); go_simp; (try with_reducible rfl)
              try simp only [Act.put, List.setIfInBounds_toArray, List.set_cons_zero, List.set_cons_succ]
              refine wpAnyH_step (i := 1) (d := some 56) (v := ?_) rfl rfl (by kernel_rfl) (by kernel_rfl) (by kernel_rfl) (fun _ _ _ h => h) (Or.inl ⟨by rfl, ?_⟩) (by assumption) ?_
              rotate_left
              · intro w hSw; (try dsimp only at hSw); go_simp; (try with_reducible rfl)
              try simp only [Act.put, List.setIfInBounds_toArray, List.set_cons_zero, List.set_cons_succ]
              refine wpAnyH_step (i := 2) (d := some 57) (v := ?_) rfl rfl (by kernel_rfl) (by kernel_rfl) (by kernel_rfl) (fun _ _ _ h => h) (Or.inl ⟨by rfl, ?_⟩) (by assumption) ?_
              rotate_left
              · intro w hSw; (try dsimp only at hSw); go_simp; (try with_reducible rfl)
              try simp only [Act.put, List.setIfInBounds_toArray, List.set_cons_zero, List.set_cons_succ]
              refine wpAnyH_step (i := 3) (d := some 58) (v := ?_) rfl rfl (by kernel_rfl) (by kernel_rfl) (by kernel_rfl) (fun _ _ _ h => h) (Or.inl ⟨by rfl, ?_⟩) (by assumption) ?_
              rotate_left
              · intro w hSw; (try dsimp only at hSw); go_simp; (try with_reducible rfl)
              try simp only [Act.put, List.setIfInBounds_toArray, List.set_cons_zero, List.set_cons_succ]
              refine wpAnyH_step (i := 4) (d := some 59) (v := ?_) rfl rfl (by kernel_rfl) (by kernel_rfl) (by kernel_rfl) (fun _ _ _ h => h) (Or.inl ⟨by rfl, ?_⟩) (by assumption) ?_
              rotate_left
              · intro w hSw; (try dsimp only at hSw); go_simp; (try with_reducible rfl)
              try simp only [Act.put, List.setIfInBounds_toArray, List.set_cons_zero, List.set_cons_succ]
              refine wpAnyH_step (i := 5) (d := some 60) (v := ?_) rfl rfl (by kernel_rfl) (by kernel_rfl) (by kernel_rfl) (fun _ _ _ h => h) (Or.inl ⟨by rfl, ?_⟩) (by assumption) ?_
              rotate_left
              · intro w hSw; (try dsimp only at hSw); go_simp; (try with_reducible rfl)
              try simp only [Act.put, List.setIfInBounds_toArray, List.set_cons_zero, List.set_cons_succ]
              refine wpAnyH_step (i := 6) (d := some 61) (v := ?_) rfl rfl (by kernel_rfl) (by kernel_rfl) (by kernel_rfl) (fun _ _ _ h => h) (Or.inl ⟨by rfl, ?_⟩) (by assumption) ?_
              rotate_left
              · intro w hSw; (try dsimp only at hSw); go_simp; (try with_reducible rfl)
              try simp only [Act.put, List.setIfInBounds_toArray, List.set_cons_zero, List.set_cons_succ]
              refine wpAnyH_step (i := 7) (d := some 62) (v := ?_) rfl rfl (by kernel_rfl) (by kernel_rfl) (by kernel_rfl) (fun _ _ _ h => h) (Or.inl ⟨by rfl, ?_⟩) (by assumption) ?_
              rotate_left
              · intro w hSw; (try dsimp only at hSw); go_simp; (try with_reducible rfl)
              try simp only [Act.put, List.setIfInBounds_toArray, List.set_cons_zero, List.set_cons_succ]
              refine wpAnyH_step (i := 8) (d := some 63) (v := ?_) rfl rfl (by kernel_rfl) (by kernel_rfl) (by kernel_rfl) (fun _ _ _ h => h) (Or.inl ⟨by rfl, ?_⟩) (by assumption) ?_
              rotate_left
              · intro w hSw; (try dsimp only at hSw); go_simp; (try with_reducible rfl)
              try simp only [Act.put, List.setIfInBounds_toArray, List.set_cons_zero, List.set_cons_succ]
              refine wpAnyH_step (i := 9) (d := some 64) (v := ?_) rfl rfl (by kernel_rfl) (by kernel_rfl) (by kernel_rfl) (fun _ _ _ h => h) (Or.inl ⟨by rfl, ?_⟩) (by assumption) ?_
              rotate_left
              · intro w hSw; (try dsimp only at hSw); go_simp; (try with_reducible rfl)
              try simp only [Act.put, List.setIfInBounds_toArray, List.set_cons_zero, List.set_cons_succ]
              refine wpAnyH_step (i := 10) (d := some 65) (v := ?_) rfl rfl (by kernel_rfl) (by kernel_rfl) (by kernel_rfl) (fun _ _ _ h => h) (Or.inl ⟨by rfl, ?_⟩) (by assumption) ?_
              rotate_left
              · intro w hSw; (try dsimp only at hSw); go_simp; (try with_reducible rfl)
              try simp only [Act.put, List.setIfInBounds_toArray, List.set_cons_zero, List.set_cons_succ]
              refine wpAnyH_ready (rs := [11]) (by kernel_rfl) (by simp) ?_
              refine AllReadyH.cons rfl (fun K hK => ?_) AllReadyH.nil
              go_simp
              refine (HAh.out _).mono ?_
              rintro r w3 ⟨rfl, hb3⟩
              (try go_wp2_with fail)
              refine hK.out _ _ ?_ (fun hHeld => ?_)
              · exact HSS.out _ ((Below.refl wr.heap.size wr).drew.trans hb3)
              clear hK K
              try simp only [Act.put, List.setIfInBounds_toArray, List.set_cons_zero, List.set_cons_succ]
              refine wpAnyH_step (i := 12) (d := some 67) (v := ?_) rfl rfl (by kernel_rfl) (by kernel_rfl) (by kernel_rfl) (fun _ _ _ h => h) (Or.inl ⟨by rfl, ?_⟩) (by assumption) ?_
              rotate_left
              · intro w hSw; (try dsimp only at hSw); go_simp; (try with_reducible rfl)
              try simp only [Act.put, List.setIfInBounds_toArray, List.set_cons_zero, List.set_cons_succ]
              refine wpAnyH_done (by kernel_rfl) ?_ _
              obtain ⟨⟨y0, hy, hg0, hg1, hg2⟩, how3, hbw3⟩ := hHeld
              have HOw3 := Lib.hid how3
              have Hbw3 := Lib.hid hbw3
              clear how3 hbw3 HSS HAh HOw Hbw d0 d1 d2 x0 x1 x2 k1 k2 k3 f1 f2
              cases AH
              · have HSt := Lib.hid (show refStep ⟨e, n⟩ t (acc, false) x = (acc ++ [x], false) from by
                  unfold refStep
                  rw [if_neg HNs.out, if_neg (by rw [HAH.out]; simp)])
                obtain ⟨A4, hA4⟩ : ∃ a, (acc).length + 1 = a := ⟨_, rfl⟩
                have HA4 := Lib.hid hA4
                clear hA4
                go_upto_region 8 with (first | (at_builtin; refine wp_appD rfl (.tmp 72) (.tmp 80) rfl B1 _ acc _ x e xn xS HX.out _ rfl rfl rfl HOw3.out (by have := (Hbw3.out).size; have := HBx.out; omega) (by have := HA.out; simp; omega) A4 HA4.out ?_; intro ad4 cap4 w4 hown4 hb4; have HOw4 := Lib.hid hown4; have Hbw4 := Lib.hid (Below.trans (Hbw3.out) hb4); clear hown4 hb4))
                go_wp2_with fail
                go_roundw
                case rel => exact ⟨k + 1, acc ++ [x], false, _, _, by omega, by go_num, by rw [HTk.out, HSt.out], rfl, by rw [show A4 = (acc ++ [x]).length from by have := HA.out; have h7 := HA4.out; simp at h7 ⊢; omega], by rw [← show A4 = (acc ++ [x]).length from by have := HA.out; have h7 := HA4.out; simp at h7 ⊢; omega]; exact HOw4.out, Hbw4.out⟩
                case measure => simp [intOf]; omega
              · have HSt := Lib.hid (show refStep ⟨e, n⟩ t (acc, false) x = (acc ++ [⟨e, n, t⟩] ++ [x], true) from by
                  unfold refStep
                  rw [if_neg HNs.out, if_pos ⟨rfl, HAH.out⟩])
                obtain ⟨A4, hA4⟩ : ∃ a, (acc).length + 1 = a := ⟨_, rfl⟩
                have HA4 := Lib.hid hA4
                clear hA4
                go_upto_region 12 with (first | (at_builtin; refine wp_appD rfl (.tmp 68) (.tmp 70) rfl B1 _ acc _ ⟨e, n, t⟩ e n S ⟨rfl, rfl, HS.out⟩ _ rfl rfl rfl HOw3.out (by have := (Hbw3.out).size; have := HBx.out; omega) (by have := HA.out; simp; omega) A4 HA4.out ?_; intro ad4 cap4 w4 hown4 hb4; have HOw4 := Lib.hid hown4; have Hbw4 := Lib.hid (Below.trans (Hbw3.out) hb4); clear hown4 hb4))
                have HG4 := Lib.hid (And.intro (HCk.out _ Hbw4.out) (HQ.out _ Hbw4.out).1.1.1)
                obtain ⟨⟨g0, g1, g2⟩, y4⟩ := HG4.out
                clear y0 hg0 hg1 hg2 hy
                obtain ⟨A5, hA5⟩ : ∃ a, ((acc ++ [(⟨e, n, t⟩ : EntD)])).length + 1 = a := ⟨_, rfl⟩
                have HA5 := Lib.hid hA5
                clear hA5
                go_upto_region 8 with (first | (at_builtin; refine wp_appD rfl (.tmp 72) (.tmp 80) rfl B1 _ (acc ++ [(⟨e, n, t⟩ : EntD)]) _ x e xn xS HX.out _ rfl rfl rfl HOw4.out (by have := (Hbw4.out).size; have := HBx.out; omega) (by have := HA.out; have := HA4.out; simp; omega) A5 HA5.out ?_; intro ad5 cap5 w5 hown5 hb5; have HOw5 := Lib.hid hown5; have Hbw5 := Lib.hid (Below.trans (Hbw4.out) hb5); clear hown5 hb5))
                go_wp2_with fail
                go_roundw
                case rel => exact ⟨k + 1, acc ++ [(⟨e, n, t⟩ : EntD)] ++ [x], true, _, _, by omega, by go_num, by rw [HTk.out, HSt.out], rfl, by rw [show A5 = (acc ++ [(⟨e, n, t⟩ : EntD)] ++ [x]).length from by have := HA.out; have h7 := HA5.out; simp at h7 ⊢; omega], by rw [← show A5 = (acc ++ [(⟨e, n, t⟩ : EntD)] ++ [x]).length from by have := HA.out; have h7 := HA5.out; simp at h7 ⊢; omega]; exact HOw5.out, Hbw5.out⟩
                case measure => simp [intOf]; omega
          · -- it is put
            have HSt := Lib.hid (show refStep ⟨e, n⟩ t (acc, true) x = (acc ++ [x], true) from by
              unfold refStep
              rw [if_neg HNs.out, if_neg (by simp)])
            rcases hs' with ⟨rfl, rfl⟩ | ⟨rfl, rfl⟩ | ⟨rfl, hR⟩
            · skip
              go_upto_region 10 with fail
              go_quiet (fail)
              have HG4 := Lib.hid (HSS.out (wr.drewN nq) (bel_drewN (Below.refl wr.heap.size wr) _))
              obtain ⟨⟨y0, hy, hg0, hg1, hg2⟩, how3, hbw3⟩ := HG4.out
              obtain ⟨w3, hw3⟩ : ∃ w3, wr.drewN nq = w3 := ⟨_, rfl⟩
              rw [hw3] at y0 hy hg0 hg1 hg2 how3 hbw3 ⊢
              have HOw3 := Lib.hid how3
              have Hbw3 := Lib.hid hbw3
              clear how3 hbw3 HSS HG4 hw3 HOw Hbw d0 d1 d2 x0 x1 x2 k1 k2 k3 f1 f2
              obtain ⟨A4, hA4⟩ : ∃ a, (acc).length + 1 = a := ⟨_, rfl⟩
              have HA4 := Lib.hid hA4
              clear hA4
              go_upto_region 8 with (first | (at_builtin; refine wp_appD rfl (.tmp 72) (.tmp 80) rfl B1 _ acc _ x true xn xS HX.out _ rfl rfl rfl HOw3.out (by have := (Hbw3.out).size; have := HBx.out; omega) (by have := HA.out; simp; omega) A4 HA4.out ?_; intro ad4 cap4 w4 hown4 hb4; have HOw4 := Lib.hid hown4; have Hbw4 := Lib.hid (Below.trans (Hbw3.out) hb4); clear hown4 hb4))
              go_wp2_with fail
              go_roundw
              case rel => exact ⟨k + 1, acc ++ [x], true, _, _, by omega, by go_num, by rw [HTk.out, HSt.out], rfl, by rw [show A4 = (acc ++ [x]).length from by have := HA.out; have h7 := HA4.out; simp at h7 ⊢; omega], by rw [← show A4 = (acc ++ [x]).length from by have := HA.out; have h7 := HA4.out; simp at h7 ⊢; omega]; exact HOw4.out, Hbw4.out⟩
              case measure => simp [intOf]; omega
            · skip
              go_upto_region 10 with fail
              go_quiet (fail)
              have HG4 := Lib.hid (HSS.out (wr.drewN nq) (bel_drewN (Below.refl wr.heap.size wr) _))
              obtain ⟨⟨y0, hy, hg0, hg1, hg2⟩, how3, hbw3⟩ := HG4.out
              obtain ⟨w3, hw3⟩ : ∃ w3, wr.drewN nq = w3 := ⟨_, rfl⟩
              rw [hw3] at y0 hy hg0 hg1 hg2 how3 hbw3 ⊢
              have HOw3 := Lib.hid how3
              have Hbw3 := Lib.hid hbw3
              clear how3 hbw3 HSS HG4 hw3 HOw Hbw d0 d1 d2 x0 x1 x2 k1 k2 k3 f1 f2
              obtain ⟨A4, hA4⟩ : ∃ a, (acc).length + 1 = a := ⟨_, rfl⟩
              have HA4 := Lib.hid hA4
              clear hA4
              go_upto_region 8 with (first | (at_builtin; refine wp_appD rfl (.tmp 72) (.tmp 80) rfl B1 _ acc _ x false xn xS HX.out _ rfl rfl rfl HOw3.out (by have := (Hbw3.out).size; have := HBx.out; omega) (by have := HA.out; simp; omega) A4 HA4.out ?_; intro ad4 cap4 w4 hown4 hb4; have HOw4 := Lib.hid hown4; have Hbw4 := Lib.hid (Below.trans (Hbw3.out) hb4); clear hown4 hb4))
              go_wp2_with fail
              go_roundw
              case rel => exact ⟨k + 1, acc ++ [x], true, _, _, by omega, by go_num, by rw [HTk.out, HSt.out], rfl, by rw [show A4 = (acc ++ [x]).length from by have := HA.out; have h7 := HA4.out; simp at h7 ⊢; omega], by rw [← show A4 = (acc ++ [x]).length from by have := HA.out; have h7 := HA4.out; simp at h7 ⊢; omega]; exact HOw4.out, Hbw4.out⟩
              case measure => simp [intOf]; omega
            · skip
              go_upto_region 10 with fail
              go_quiet (fail)
              have HG4 := Lib.hid (HSS.out (wr.drewN nq) (bel_drewN (Below.refl wr.heap.size wr) _))
              obtain ⟨⟨y0, hy, hg0, hg1, hg2⟩, how3, hbw3⟩ := HG4.out
              obtain ⟨w3, hw3⟩ : ∃ w3, wr.drewN nq = w3 := ⟨_, rfl⟩
              rw [hw3] at y0 hy hg0 hg1 hg2 how3 hbw3 ⊢
              have HOw3 := Lib.hid how3
              have Hbw3 := Lib.hid hbw3
              clear how3 hbw3 HSS HG4 hw3 HOw Hbw d0 d1 d2 x0 x1 x2 k1 k2 k3 f1 f2
              obtain ⟨A4, hA4⟩ : ∃ a, (acc).length + 1 = a := ⟨_, rfl⟩
              have HA4 := Lib.hid hA4
              clear hA4
              go_upto_region 8 with (first | (at_builtin; refine wp_appD rfl (.tmp 72) (.tmp 80) rfl B1 _ acc _ x e xn xS HX.out _ rfl rfl rfl HOw3.out (by have := (Hbw3.out).size; have := HBx.out; omega) (by have := HA.out; simp; omega) A4 HA4.out ?_; intro ad4 cap4 w4 hown4 hb4; have HOw4 := Lib.hid hown4; have Hbw4 := Lib.hid (Below.trans (Hbw3.out) hb4); clear hown4 hb4))
              go_wp2_with fail
              go_roundw
              case rel => exact ⟨k + 1, acc ++ [x], true, _, _, by omega, by go_num, by rw [HTk.out, HSt.out], rfl, by rw [show A4 = (acc ++ [x]).length from by have := HA.out; have h7 := HA4.out; simp at h7 ⊢; omega], by rw [← show A4 = (acc ++ [x]).length from by have := HA.out; have h7 := HA4.out; simp at h7 ⊢; omega]; exact HOw4.out, Hbw4.out⟩
              case measure => simp [intOf]; omega
      · have q1 : ¬ (k : Int) < (N : Int) := by omega
        obtain rfl : k = N := by omega
        have hfin := HFo.out
        rw [← HN.out, List.take_length] at hfin
        cases pb
        · have HF := Lib.hid (show refPut ⟨e, n⟩ t L = acc ++ [⟨e, n, t⟩] from by
            unfold refPut
            rw [show List.isEmpty t = b0 from HB0.out, hfin]
            rfl)
          clear hfin
          obtain ⟨A4, hA4⟩ : ∃ a, (acc).length + 1 = a := ⟨_, rfl⟩
          have HA4 := Lib.hid hA4
          clear hA4
          go_upto_region 16 with (first | (at_builtin; refine wp_appD rfl (.tmp 84) (.tmp 86) rfl B1 _ acc _ ⟨e, n, t⟩ e n S ⟨rfl, rfl, HS.out⟩ _ rfl rfl rfl HOw.out (by have := (Hbw.out).size; have := HBx.out; omega) (by have := HA.out; simp; omega) A4 HA4.out ?_; intro ad4 cap4 w4 hown4 hb4; have HOw4 := Lib.hid hown4; have Hbw4 := Lib.hid (Below.trans (Hbw.out) hb4); clear hown4 hb4))
          have HO5 := Lib.hid (show OwnD w4 B1 (.slice ad4 A4 cap4) (acc ++ [⟨e, n, t⟩]) from HOw4.out)
          have HB5 := Lib.hid Hbw4.out
          obtain ⟨F, hF⟩ : ∃ F, acc ++ [(⟨e, n, t⟩ : EntD)] = F := ⟨_, rfl⟩
          rw [hF] at HF HO5
          clear hF HOw4 Hbw4 HOw Hbw
          rcases HSb.out with ⟨hx1, hx2, hx3⟩ | ⟨s1, s2, hx2, htn⟩
          · subst hx1 hx2 hx3
            clear HSb
            obtain ⟨wF, hwF⟩ : ∃ wF, w4 = wF := ⟨_, rfl⟩
            rw [hwF] at HO5 HB5 ⊢
            clear hwF
            have HQF := Lib.hid (HQ.out _ HB5.out)
            have HbF := Lib.hid HQF.out.2.2.2.2
            obtain ⟨⟨⟨-, z1, -⟩, -, -⟩, -, -, -, -⟩ := HQF.out
            have HUF := Lib.hid (show usedS F ≤ 1000000000 ∧ F.length ≤ 1000000 from by
              have h1 := HUs.out
              have h2 := HLn.out
              rw [HF.out] at h1 h2
              exact ⟨h1, by omega⟩)
            have HSF := Lib.hid (show ∀ W', Below (wF.alloc (.cells #[.slice ad4 A4 cap4, .int .i64 most, .bool false] 54)).heap.size (wF.alloc (.cells #[.slice ad4 A4 cap4, .int .i64 most, .bool false] 54)) W' → ((W'.cell? ⟨wF.heap.size, 0, none⟩ = some (.slice ad4 A4 cap4) ∧ W'.cell? ⟨wF.heap.size, 1, none⟩ = some (.int .i64 most) ∧ W'.cell? ⟨wF.heap.size, 2, none⟩ = some (.bool false)) ∧ W'.cell? ⟨q, 1, none⟩ = some (.int .i64 most) ∧ W'.frozen? ⟨q, 0, none⟩ = false ∧ W'.frozen? ⟨q, 2, none⟩ = false) ∧ W'.heap[q]? = some (.cells #[.slice ad k cap, .int .i64 most, .bool over] 54 (0, 0)) ∧ OwnD W' B1 (.slice ad4 A4 cap4) F ∧ OwnD W' base (.slice ad k cap) L ∧ Below w1.heap.size w1 W' from fun W' hW => by
              have hb := bel_call (bel_alloc (Below.refl wF.heap.size wF) (.cells #[.slice ad4 A4 cap4, .int .i64 most, .bool false] 54)) hW
              have hbB : Below B1 W1 W' := HB5.out.trans (hb.mono (by have := HB5.out.size; have := HBx.out; omega))
              obtain ⟨⟨⟨-, y1, -⟩, y2, y3⟩, -, y4, y5, y6⟩ := HQ.out W' hbB
              exact ⟨⟨⟨cellB hW (by simp [go_sem]), cellB hW (by simp [go_sem]), cellB hW (by simp [go_sem])⟩, y1, y2, y3⟩, y4, HO5.out.call hb, y5, by rw [HBx.out.1]; exact y6⟩)
            go_upto_region 17 with fail
            go_quiet (fail)
            have HWX := Lib.hid (show Below (wF.alloc (.cells #[.slice ad4 A4 cap4, .int .i64 most, .bool false] 54)).heap.size (wF.alloc (.cells #[.slice ad4 A4 cap4, .int .i64 most, .bool false] 54)) ((wF.alloc (.cells #[.slice ad4 A4 cap4, .int .i64 most, .bool false] 54)).drewN nq) from bel_drewN (Below.refl _ _) _)
            obtain ⟨WX, hWX⟩ : ∃ WX, (wF.alloc (.cells #[.slice ad4 A4 cap4, .int .i64 most, .bool false] 54)).drewN nq = WX := ⟨_, rfl⟩
            rw [hWX] at HWX ⊢
            clear hWX
            obtain ⟨⟨-, zq, zf, zf2⟩, zh, -⟩ := HSF.out _ HWX.out
            have zc0 : WX.cell? ⟨q, 0, none⟩ = some (.slice ad k cap) := by simp [World.cell?, zh]
            have zc2 : WX.cell? ⟨q, 2, none⟩ = some (.bool over) := by simp [World.cell?, zh]
            clear zh
            obtain ⟨-, y4, y5, -, y6⟩ := HSF.out _ HWX.out
            have hO7 : OwnD (WX.setCell ⟨q, 0, none⟩ (.slice ad4 A4 cap4)) base (.slice ad4 A4 cap4) F := by
              have h1 := y5.low (show base ≤ B1 from by have := HBx.out; have := HBq.out; omega)
              refine h1.blocks fun j hj => Below.heap_setCell _ _ _ _ (fun e1 => ?_)
              obtain ⟨_, cs, hc⟩ := h1.own hj
              have : j = q := e1
              subst this
              rw [y4] at hc
              simp at hc
            have hq7 := heap_setCell_same WX q 0 _ _ (.slice ad4 A4 cap4) y4
            have HE7 := Lib.hid (And.intro hO7 (And.intro hq7 (T1.set (q := q) y6 0 (.slice ad4 A4 cap4))))
            clear y4 y5 y6 hO7 hq7
            go_wp2_with fail
            go_ret
            rw [HE.out.1, HE.out.2.1, HE.out.2.2, HF.out, if_neg (fun h => h.1 rfl), if_neg (fun h => h.1 rfl), if_neg (fun h => h.1 rfl)]
            exact ⟨rfl, ⟨_, by have h := HE7.out.2.1; exact h, HE7.out.1⟩, HE7.out.2.2⟩
          · subst hx2
            have HTn := Lib.hid htn
            clear HSb htn
            obtain ⟨wF, hwF⟩ : ∃ wF, w4 = wF := ⟨_, rfl⟩
            rw [hwF] at HO5 HB5 ⊢
            clear hwF
            have HQF := Lib.hid (HQ.out _ HB5.out)
            have HbF := Lib.hid HQF.out.2.2.2.2
            obtain ⟨⟨⟨-, z1, -⟩, -, -⟩, -, -, -, -⟩ := HQF.out
            have HUF := Lib.hid (show usedS F ≤ 1000000000 ∧ F.length ≤ 1000000 from by
              have h1 := HUs.out
              have h2 := HLn.out
              rw [HF.out] at h1 h2
              exact ⟨h1, by omega⟩)
            have HSF := Lib.hid (show ∀ W', Below (wF.alloc (.cells #[.slice ad4 A4 cap4, .int .i64 most, .bool false] 54)).heap.size (wF.alloc (.cells #[.slice ad4 A4 cap4, .int .i64 most, .bool false] 54)) W' → ((W'.cell? ⟨wF.heap.size, 0, none⟩ = some (.slice ad4 A4 cap4) ∧ W'.cell? ⟨wF.heap.size, 1, none⟩ = some (.int .i64 most) ∧ W'.cell? ⟨wF.heap.size, 2, none⟩ = some (.bool false)) ∧ W'.cell? ⟨q, 1, none⟩ = some (.int .i64 most) ∧ W'.frozen? ⟨q, 0, none⟩ = false ∧ W'.frozen? ⟨q, 2, none⟩ = false) ∧ W'.heap[q]? = some (.cells #[.slice ad k cap, .int .i64 most, .bool over] 54 (0, 0)) ∧ OwnD W' B1 (.slice ad4 A4 cap4) F ∧ OwnD W' base (.slice ad k cap) L ∧ Below w1.heap.size w1 W' from fun W' hW => by
              have hb := bel_call (bel_alloc (Below.refl wF.heap.size wF) (.cells #[.slice ad4 A4 cap4, .int .i64 most, .bool false] 54)) hW
              have hbB : Below B1 W1 W' := HB5.out.trans (hb.mono (by have := HB5.out.size; have := HBx.out; omega))
              obtain ⟨⟨⟨-, y1, -⟩, y2, y3⟩, -, y4, y5, y6⟩ := HQ.out W' hbB
              exact ⟨⟨⟨cellB hW (by simp [go_sem]), cellB hW (by simp [go_sem]), cellB hW (by simp [go_sem])⟩, y1, y2, y3⟩, y4, HO5.out.call hb, y5, by rw [HBx.out.1]; exact y6⟩)
            have HUd := Lib.hid (fun W' (h : OwnD W' B1 (.slice ad4 A4 cap4) F) => usedD_any W' B1 _ F most false h HUF.out.1 HUF.out.2)
            obtain ⟨U, hU⟩ : ∃ U, usedS F = U := ⟨_, rfl⟩
            rw [hU] at HUd HUF
            have HU := Lib.hid hU
            clear hU
            go_upto_region 17 with fail
            refine wp_region_held_drew (S := fun W' => (W'.cell? ⟨wF.heap.size, 0, none⟩ = some (.slice ad4 A4 cap4) ∧ W'.cell? ⟨wF.heap.size, 1, none⟩ = some (.int .i64 most) ∧ W'.cell? ⟨wF.heap.size, 2, none⟩ = some (.bool false)) ∧ W'.cell? ⟨q, 1, none⟩ = some (.int .i64 most) ∧ Below (wF.alloc (.cells #[.slice ad4 A4 cap4, .int .i64 most, .bool false] 54)).heap.size (wF.alloc (.cells #[.slice ad4 A4 cap4, .int .i64 most, .bool false] 54)) W') (by kernel_rfl) ⟨(HSF.out _ (Below.refl _ _).drew).1.1, (HSF.out _ (Below.refl _ _).drew).1.2.1, (Below.refl _ _).drew⟩ (fun hHeld => ?_)
            refine wpAnyH_step (i := 0) (d := some 94) (v := ?_) rfl rfl (by kernel_rfl) (by kernel_rfl) (by kernel_rfl) (fun _ _ _ h => h) (Or.inl ⟨by rfl, ?_⟩) (by assumption) ?_
            rotate_left
            · intro w hSw; (try dsimp only at hSw); go_simp; (try with_reducible rfl)
            try simp only [Act.put, List.setIfInBounds_toArray, List.set_cons_zero, List.set_cons_succ]
            refine wpAnyH_step (i := 1) (d := some 95) (v := ?_) rfl rfl (by kernel_rfl) (by kernel_rfl) (by kernel_rfl) (fun _ _ _ h => h) (Or.inl ⟨by rfl, ?_⟩) (by assumption) ?_
            rotate_left
            · intro w hSw; (try dsimp only at hSw); go_simp; (try with_reducible rfl)
            try simp only [Act.put, List.setIfInBounds_toArray, List.set_cons_zero, List.set_cons_succ]
            refine wpAnyH_step (i := 2) (d := some 96) (v := ?_) rfl rfl (by kernel_rfl) (by kernel_rfl) (by kernel_rfl) (fun _ _ _ h => h) (Or.inl ⟨by rfl, ?_⟩) (by assumption) ?_
            rotate_left
            · intro w hSw; (try dsimp only at hSw); go_simp; (try with_reducible rfl)
            try simp only [Act.put, List.setIfInBounds_toArray, List.set_cons_zero, List.set_cons_succ]
            refine wpAnyH_step (i := 3) (d := some 97) (v := ?_) rfl rfl (by kernel_rfl) (by kernel_rfl) (by kernel_rfl) (fun _ _ _ h => h) (Or.inl ⟨by rfl, ?_⟩) (by assumption) ?_
            rotate_left
            · intro w hSw; (try dsimp only at hSw); go_simp; (try with_reducible rfl)
            try simp only [Act.put, List.setIfInBounds_toArray, List.set_cons_zero, List.set_cons_succ]
            refine wpAnyH_step (i := 5) (d := some 99) (v := ?_) rfl rfl (by kernel_rfl) (by kernel_rfl) (by kernel_rfl) (fun _ _ _ h => h) (Or.inl ⟨by rfl, ?_⟩) (by assumption) ?_
            rotate_left
            · intro w hSw; (try dsimp only at hSw); go_simp; (try with_reducible rfl)
            try simp only [Act.put, List.setIfInBounds_toArray, List.set_cons_zero, List.set_cons_succ]
            refine wpAnyH_step (i := 6) (d := some 100) (v := ?_) rfl rfl (by kernel_rfl) (by kernel_rfl) (by kernel_rfl) (fun _ _ _ h => h) (Or.inl ⟨by rfl, ?_⟩) (by assumption) ?_
            rotate_left
            · intro w hSw; (try dsimp only at hSw); go_simp; (try with_reducible rfl)
            try simp only [Act.put, List.setIfInBounds_toArray, List.set_cons_zero, List.set_cons_succ]
            refine wpAnyH_step (i := 7) (d := some 101) (v := ?_) rfl rfl (by kernel_rfl) (by kernel_rfl) (by kernel_rfl) (fun _ _ _ h => h) (Or.inl ⟨by rfl, ?_⟩) (by assumption) ?_
            rotate_left
            · intro w hSw; (try dsimp only at hSw); go_simp; (try with_reducible rfl)
            try simp only [Act.put, List.setIfInBounds_toArray, List.set_cons_zero, List.set_cons_succ]
            refine wpAnyH_step (i := 8) (d := some 102) (v := ?_) rfl rfl (by kernel_rfl) (by kernel_rfl) (by kernel_rfl) (fun _ _ _ h => h) (Or.inl ⟨by rfl, ?_⟩) (by assumption) ?_
            rotate_left
            · intro w hSw; (try dsimp only at hSw); go_simp; (try with_reducible rfl)
            try simp only [Act.put, List.setIfInBounds_toArray, List.set_cons_zero, List.set_cons_succ]
            refine wpAnyH_ready (rs := [4]) (by kernel_rfl) (by simp) ?_
            refine AllReadyH.cons rfl (fun K hK => ?_) AllReadyH.nil
            go_simp
            refine (HUd.out _ (HSF.out _ (Below.refl _ _).drew).2.2.1).mono ?_
            rintro r w3 ⟨rfl, hb3⟩
            (try go_wp2_with fail)
            refine hK.out _ _ ?_ (fun hHeld => ?_)
            · exact ⟨(HSF.out _ ((Below.refl _ _).drew.trans hb3)).1.1, (HSF.out _ ((Below.refl _ _).drew.trans hb3)).1.2.1, (Below.refl _ _).drew.trans hb3⟩
            clear hK K
            try simp only [Act.put, List.setIfInBounds_toArray, List.set_cons_zero, List.set_cons_succ]
            refine wpAnyH_step (i := 9) (d := some 103) (v := ?_) rfl rfl (by kernel_rfl) (by kernel_rfl) (by kernel_rfl) (fun _ _ _ h => h) (Or.inl ⟨by rfl, ?_⟩) (by assumption) ?_
            rotate_left
            · intro w hSw; (try dsimp only at hSw); go_simp; (try with_reducible rfl)
            try simp only [Act.put, List.setIfInBounds_toArray, List.set_cons_zero, List.set_cons_succ]
            refine wpAnyH_step (i := 10) (d := some 104) (v := ?_) rfl rfl (by kernel_rfl) (by kernel_rfl) (by kernel_rfl) (fun _ _ _ h => h) (Or.inl ⟨by rfl, ?_⟩) (by assumption) ?_
            rotate_left
            · intro w hSw; (try dsimp only at hSw); go_simp; (try with_reducible rfl)
            try simp only [Act.put, List.setIfInBounds_toArray, List.set_cons_zero, List.set_cons_succ]
            refine wpAnyH_done (by kernel_rfl) ?_ _
            obtain ⟨WX, hWX⟩ : ∃ WX, w3 = WX := ⟨_, rfl⟩
            rw [hWX] at hHeld ⊢
            have HWX := Lib.hid hHeld.2.2
            clear hHeld hWX
            by_cases hov : most < (U : Int)
            · obtain ⟨⟨-, zq, zf, zf2⟩, zh, -⟩ := HSF.out _ HWX.out
              have zc0 : WX.cell? ⟨q, 0, none⟩ = some (.slice ad k cap) := by simp [World.cell?, zh]
              have zc2 : WX.cell? ⟨q, 2, none⟩ = some (.bool over) := by simp [World.cell?, zh]
              clear zh
              obtain ⟨-, y4, -, y5, y6⟩ := HSF.out _ HWX.out
              have hO7 : OwnD (WX.setCell ⟨q, 2, none⟩ (.bool true)) base (.slice ad k cap) L := by
                refine y5.blocks fun j hj => Below.heap_setCell _ _ _ _ (fun e1 => ?_)
                obtain ⟨_, cs, hc⟩ := y5.own hj
                have : j = q := e1
                subst this
                rw [y4] at hc
                simp at hc
              have hq7 := heap_setCell_same WX q 2 _ _ (.bool true) y4
              have HE7 := Lib.hid (And.intro hO7 (And.intro hq7 (T1.set (q := q) y6 2 (.bool true))))
              have HCn := Lib.hid (show t ≠ [] ∧ most < (usedS F : Int) from ⟨HTn.out, by rw [HU.out]; exact hov⟩)
              clear y4 y5 y6 hO7 hq7
              go_wp2_with fail
              go_ret
              rw [HE.out.1, HE.out.2.1, HE.out.2.2, HF.out, if_pos HCn.out, if_pos HCn.out, if_pos HCn.out]
              exact ⟨rfl, ⟨_, by have h := HE7.out.2.1; exact h, HE7.out.1⟩, HE7.out.2.2⟩
            · obtain ⟨⟨-, zq, zf, zf2⟩, zh, -⟩ := HSF.out _ HWX.out
              have zc0 : WX.cell? ⟨q, 0, none⟩ = some (.slice ad k cap) := by simp [World.cell?, zh]
              have zc2 : WX.cell? ⟨q, 2, none⟩ = some (.bool over) := by simp [World.cell?, zh]
              clear zh
              obtain ⟨-, y4, y5, -, y6⟩ := HSF.out _ HWX.out
              have hO7 : OwnD (WX.setCell ⟨q, 0, none⟩ (.slice ad4 A4 cap4)) base (.slice ad4 A4 cap4) F := by
                have h1 := y5.low (show base ≤ B1 from by have := HBx.out; have := HBq.out; omega)
                refine h1.blocks fun j hj => Below.heap_setCell _ _ _ _ (fun e1 => ?_)
                obtain ⟨_, cs, hc⟩ := h1.own hj
                have : j = q := e1
                subst this
                rw [y4] at hc
                simp at hc
              have hq7 := heap_setCell_same WX q 0 _ _ (.slice ad4 A4 cap4) y4
              have HE7 := Lib.hid (And.intro hO7 (And.intro hq7 (T1.set (q := q) y6 0 (.slice ad4 A4 cap4))))
              clear y4 y5 y6 hO7 hq7
              have HCn := Lib.hid (show ¬ (t ≠ [] ∧ most < (usedS F : Int)) from fun h => hov (by have := h.2; rw [HU.out] at this; exact this))
              go_wp2_with fail
              go_ret
              rw [HE.out.1, HE.out.2.1, HE.out.2.2, HF.out, if_neg HCn.out, if_neg HCn.out, if_neg HCn.out]
              exact ⟨rfl, ⟨_, by have h := HE7.out.2.1; exact h, HE7.out.1⟩, HE7.out.2.2⟩
        · have HF := Lib.hid (show refPut ⟨e, n⟩ t L = acc from by
            unfold refPut
            rw [show List.isEmpty t = b0 from HB0.out, hfin]
            rfl)
          clear hfin
          go_upto_region 14 with fail
          have HO5 := Lib.hid HOw.out
          have HB5 := Lib.hid Hbw.out
          obtain ⟨F, hF⟩ : ∃ F, acc = F := ⟨_, rfl⟩
          rw [hF] at HF HO5
          clear HOw Hbw
          rcases HSb.out with ⟨hx1, hx2, hx3⟩ | ⟨s1, s2, hx2, htn⟩
          · subst hx1 hx2 hx3
            clear HSb
            obtain ⟨wF, hwF⟩ : ∃ wF, wr = wF := ⟨_, rfl⟩
            rw [hwF] at HO5 HB5 ⊢
            clear hwF
            have HQF := Lib.hid (HQ.out _ HB5.out)
            have HbF := Lib.hid HQF.out.2.2.2.2
            obtain ⟨⟨⟨-, z1, -⟩, -, -⟩, -, -, -, -⟩ := HQF.out
            have HUF := Lib.hid (show usedS F ≤ 1000000000 ∧ F.length ≤ 1000000 from by
              have h1 := HUs.out
              have h2 := HLn.out
              rw [HF.out] at h1 h2
              exact ⟨h1, by omega⟩)
            have HSF := Lib.hid (show ∀ W', Below (wF.alloc (.cells #[.slice ad1 A cap1, .int .i64 most, .bool false] 54)).heap.size (wF.alloc (.cells #[.slice ad1 A cap1, .int .i64 most, .bool false] 54)) W' → ((W'.cell? ⟨wF.heap.size, 0, none⟩ = some (.slice ad1 A cap1) ∧ W'.cell? ⟨wF.heap.size, 1, none⟩ = some (.int .i64 most) ∧ W'.cell? ⟨wF.heap.size, 2, none⟩ = some (.bool false)) ∧ W'.cell? ⟨q, 1, none⟩ = some (.int .i64 most) ∧ W'.frozen? ⟨q, 0, none⟩ = false ∧ W'.frozen? ⟨q, 2, none⟩ = false) ∧ W'.heap[q]? = some (.cells #[.slice ad k cap, .int .i64 most, .bool over] 54 (0, 0)) ∧ OwnD W' B1 (.slice ad1 A cap1) F ∧ OwnD W' base (.slice ad k cap) L ∧ Below w1.heap.size w1 W' from fun W' hW => by
              have hb := bel_call (bel_alloc (Below.refl wF.heap.size wF) (.cells #[.slice ad1 A cap1, .int .i64 most, .bool false] 54)) hW
              have hbB : Below B1 W1 W' := HB5.out.trans (hb.mono (by have := HB5.out.size; have := HBx.out; omega))
              obtain ⟨⟨⟨-, y1, -⟩, y2, y3⟩, -, y4, y5, y6⟩ := HQ.out W' hbB
              exact ⟨⟨⟨cellB hW (by simp [go_sem]), cellB hW (by simp [go_sem]), cellB hW (by simp [go_sem])⟩, y1, y2, y3⟩, y4, HO5.out.call hb, y5, by rw [HBx.out.1]; exact y6⟩)
            go_upto_region 17 with fail
            go_quiet (fail)
            have HWX := Lib.hid (show Below (wF.alloc (.cells #[.slice ad1 A cap1, .int .i64 most, .bool false] 54)).heap.size (wF.alloc (.cells #[.slice ad1 A cap1, .int .i64 most, .bool false] 54)) ((wF.alloc (.cells #[.slice ad1 A cap1, .int .i64 most, .bool false] 54)).drewN nq) from bel_drewN (Below.refl _ _) _)
            obtain ⟨WX, hWX⟩ : ∃ WX, (wF.alloc (.cells #[.slice ad1 A cap1, .int .i64 most, .bool false] 54)).drewN nq = WX := ⟨_, rfl⟩
            rw [hWX] at HWX ⊢
            clear hWX
            obtain ⟨⟨-, zq, zf, zf2⟩, zh, -⟩ := HSF.out _ HWX.out
            have zc0 : WX.cell? ⟨q, 0, none⟩ = some (.slice ad k cap) := by simp [World.cell?, zh]
            have zc2 : WX.cell? ⟨q, 2, none⟩ = some (.bool over) := by simp [World.cell?, zh]
            clear zh
            obtain ⟨-, y4, y5, -, y6⟩ := HSF.out _ HWX.out
            have hO7 : OwnD (WX.setCell ⟨q, 0, none⟩ (.slice ad1 A cap1)) base (.slice ad1 A cap1) F := by
              have h1 := y5.low (show base ≤ B1 from by have := HBx.out; have := HBq.out; omega)
              refine h1.blocks fun j hj => Below.heap_setCell _ _ _ _ (fun e1 => ?_)
              obtain ⟨_, cs, hc⟩ := h1.own hj
              have : j = q := e1
              subst this
              rw [y4] at hc
              simp at hc
            have hq7 := heap_setCell_same WX q 0 _ _ (.slice ad1 A cap1) y4
            have HE7 := Lib.hid (And.intro hO7 (And.intro hq7 (T1.set (q := q) y6 0 (.slice ad1 A cap1))))
            clear y4 y5 y6 hO7 hq7
            go_wp2_with fail
            go_ret
            rw [HE.out.1, HE.out.2.1, HE.out.2.2, HF.out, if_neg (fun h => h.1 rfl), if_neg (fun h => h.1 rfl), if_neg (fun h => h.1 rfl)]
            exact ⟨rfl, ⟨_, by have h := HE7.out.2.1; exact h, HE7.out.1⟩, HE7.out.2.2⟩
          · subst hx2
            have HTn := Lib.hid htn
            clear HSb htn
            obtain ⟨wF, hwF⟩ : ∃ wF, wr = wF := ⟨_, rfl⟩
            rw [hwF] at HO5 HB5 ⊢
            clear hwF
            have HQF := Lib.hid (HQ.out _ HB5.out)
            have HbF := Lib.hid HQF.out.2.2.2.2
            obtain ⟨⟨⟨-, z1, -⟩, -, -⟩, -, -, -, -⟩ := HQF.out
            have HUF := Lib.hid (show usedS F ≤ 1000000000 ∧ F.length ≤ 1000000 from by
              have h1 := HUs.out
              have h2 := HLn.out
              rw [HF.out] at h1 h2
              exact ⟨h1, by omega⟩)
            have HSF := Lib.hid (show ∀ W', Below (wF.alloc (.cells #[.slice ad1 A cap1, .int .i64 most, .bool false] 54)).heap.size (wF.alloc (.cells #[.slice ad1 A cap1, .int .i64 most, .bool false] 54)) W' → ((W'.cell? ⟨wF.heap.size, 0, none⟩ = some (.slice ad1 A cap1) ∧ W'.cell? ⟨wF.heap.size, 1, none⟩ = some (.int .i64 most) ∧ W'.cell? ⟨wF.heap.size, 2, none⟩ = some (.bool false)) ∧ W'.cell? ⟨q, 1, none⟩ = some (.int .i64 most) ∧ W'.frozen? ⟨q, 0, none⟩ = false ∧ W'.frozen? ⟨q, 2, none⟩ = false) ∧ W'.heap[q]? = some (.cells #[.slice ad k cap, .int .i64 most, .bool over] 54 (0, 0)) ∧ OwnD W' B1 (.slice ad1 A cap1) F ∧ OwnD W' base (.slice ad k cap) L ∧ Below w1.heap.size w1 W' from fun W' hW => by
              have hb := bel_call (bel_alloc (Below.refl wF.heap.size wF) (.cells #[.slice ad1 A cap1, .int .i64 most, .bool false] 54)) hW
              have hbB : Below B1 W1 W' := HB5.out.trans (hb.mono (by have := HB5.out.size; have := HBx.out; omega))
              obtain ⟨⟨⟨-, y1, -⟩, y2, y3⟩, -, y4, y5, y6⟩ := HQ.out W' hbB
              exact ⟨⟨⟨cellB hW (by simp [go_sem]), cellB hW (by simp [go_sem]), cellB hW (by simp [go_sem])⟩, y1, y2, y3⟩, y4, HO5.out.call hb, y5, by rw [HBx.out.1]; exact y6⟩)
            have HUd := Lib.hid (fun W' (h : OwnD W' B1 (.slice ad1 A cap1) F) => usedD_any W' B1 _ F most false h HUF.out.1 HUF.out.2)
            obtain ⟨U, hU⟩ : ∃ U, usedS F = U := ⟨_, rfl⟩
            rw [hU] at HUd HUF
            have HU := Lib.hid hU
            clear hU
            go_upto_region 17 with fail
            refine wp_region_held_drew (S := fun W' => (W'.cell? ⟨wF.heap.size, 0, none⟩ = some (.slice ad1 A cap1) ∧ W'.cell? ⟨wF.heap.size, 1, none⟩ = some (.int .i64 most) ∧ W'.cell? ⟨wF.heap.size, 2, none⟩ = some (.bool false)) ∧ W'.cell? ⟨q, 1, none⟩ = some (.int .i64 most) ∧ Below (wF.alloc (.cells #[.slice ad1 A cap1, .int .i64 most, .bool false] 54)).heap.size (wF.alloc (.cells #[.slice ad1 A cap1, .int .i64 most, .bool false] 54)) W') (by kernel_rfl) ⟨(HSF.out _ (Below.refl _ _).drew).1.1, (HSF.out _ (Below.refl _ _).drew).1.2.1, (Below.refl _ _).drew⟩ (fun hHeld => ?_)
            refine wpAnyH_step (i := 0) (d := some 94) (v := ?_) rfl rfl (by kernel_rfl) (by kernel_rfl) (by kernel_rfl) (fun _ _ _ h => h) (Or.inl ⟨by rfl, ?_⟩) (by assumption) ?_
            rotate_left
            · intro w hSw; (try dsimp only at hSw); go_simp; (try with_reducible rfl)
            try simp only [Act.put, List.setIfInBounds_toArray, List.set_cons_zero, List.set_cons_succ]
            refine wpAnyH_step (i := 1) (d := some 95) (v := ?_) rfl rfl (by kernel_rfl) (by kernel_rfl) (by kernel_rfl) (fun _ _ _ h => h) (Or.inl ⟨by rfl, ?_⟩) (by assumption) ?_
            rotate_left
            · intro w hSw; (try dsimp only at hSw); go_simp; (try with_reducible rfl)
            try simp only [Act.put, List.setIfInBounds_toArray, List.set_cons_zero, List.set_cons_succ]
            refine wpAnyH_step (i := 2) (d := some 96) (v := ?_) rfl rfl (by kernel_rfl) (by kernel_rfl) (by kernel_rfl) (fun _ _ _ h => h) (Or.inl ⟨by rfl, ?_⟩) (by assumption) ?_
            rotate_left
            · intro w hSw; (try dsimp only at hSw); go_simp; (try with_reducible rfl)
            try simp only [Act.put, List.setIfInBounds_toArray, List.set_cons_zero, List.set_cons_succ]
            refine wpAnyH_step (i := 3) (d := some 97) (v := ?_) rfl rfl (by kernel_rfl) (by kernel_rfl) (by kernel_rfl) (fun _ _ _ h => h) (Or.inl ⟨by rfl, ?_⟩) (by assumption) ?_
            rotate_left
            · intro w hSw; (try dsimp only at hSw); go_simp; (try with_reducible rfl)
            try simp only [Act.put, List.setIfInBounds_toArray, List.set_cons_zero, List.set_cons_succ]
            refine wpAnyH_step (i := 5) (d := some 99) (v := ?_) rfl rfl (by kernel_rfl) (by kernel_rfl) (by kernel_rfl) (fun _ _ _ h => h) (Or.inl ⟨by rfl, ?_⟩) (by assumption) ?_
            rotate_left
            · intro w hSw; (try dsimp only at hSw); go_simp; (try with_reducible rfl)
            try simp only [Act.put, List.setIfInBounds_toArray, List.set_cons_zero, List.set_cons_succ]
            refine wpAnyH_step (i := 6) (d := some 100) (v := ?_) rfl rfl (by kernel_rfl) (by kernel_rfl) (by kernel_rfl) (fun _ _ _ h => h) (Or.inl ⟨by rfl, ?_⟩) (by assumption) ?_
            rotate_left
            · intro w hSw; (try dsimp only at hSw); go_simp; (try with_reducible rfl)
            try simp only [Act.put, List.setIfInBounds_toArray, List.set_cons_zero, List.set_cons_succ]
            refine wpAnyH_step (i := 7) (d := some 101) (v := ?_) rfl rfl (by kernel_rfl) (by kernel_rfl) (by kernel_rfl) (fun _ _ _ h => h) (Or.inl ⟨by rfl, ?_⟩) (by assumption) ?_
            rotate_left
            · intro w hSw; (try dsimp only at hSw); go_simp; (try with_reducible rfl)
            try simp only [Act.put, List.setIfInBounds_toArray, List.set_cons_zero, List.set_cons_succ]
            refine wpAnyH_step (i := 8) (d := some 102) (v := ?_) rfl rfl (by kernel_rfl) (by kernel_rfl) (by kernel_rfl) (fun _ _ _ h => h) (Or.inl ⟨by rfl, ?_⟩) (by assumption) ?_
            rotate_left
            · intro w hSw; (try dsimp only at hSw); go_simp; (try with_reducible rfl)
            try simp only [Act.put, List.setIfInBounds_toArray, List.set_cons_zero, List.set_cons_succ]
            refine wpAnyH_ready (rs := [4]) (by kernel_rfl) (by simp) ?_
            refine AllReadyH.cons rfl (fun K hK => ?_) AllReadyH.nil
            go_simp
            refine (HUd.out _ (HSF.out _ (Below.refl _ _).drew).2.2.1).mono ?_
            rintro r w3 ⟨rfl, hb3⟩
            (try go_wp2_with fail)
            refine hK.out _ _ ?_ (fun hHeld => ?_)
            · exact ⟨(HSF.out _ ((Below.refl _ _).drew.trans hb3)).1.1, (HSF.out _ ((Below.refl _ _).drew.trans hb3)).1.2.1, (Below.refl _ _).drew.trans hb3⟩
            clear hK K
            try simp only [Act.put, List.setIfInBounds_toArray, List.set_cons_zero, List.set_cons_succ]
            refine wpAnyH_step (i := 9) (d := some 103) (v := ?_) rfl rfl (by kernel_rfl) (by kernel_rfl) (by kernel_rfl) (fun _ _ _ h => h) (Or.inl ⟨by rfl, ?_⟩) (by assumption) ?_
            rotate_left
            · intro w hSw; (try dsimp only at hSw); go_simp; (try with_reducible rfl)
            try simp only [Act.put, List.setIfInBounds_toArray, List.set_cons_zero, List.set_cons_succ]
            refine wpAnyH_step (i := 10) (d := some 104) (v := ?_) rfl rfl (by kernel_rfl) (by kernel_rfl) (by kernel_rfl) (fun _ _ _ h => h) (Or.inl ⟨by rfl, ?_⟩) (by assumption) ?_
            rotate_left
            · intro w hSw; (try dsimp only at hSw); go_simp; (try with_reducible rfl)
            try simp only [Act.put, List.setIfInBounds_toArray, List.set_cons_zero, List.set_cons_succ]
            refine wpAnyH_done (by kernel_rfl) ?_ _
            obtain ⟨WX, hWX⟩ : ∃ WX, w3 = WX := ⟨_, rfl⟩
            rw [hWX] at hHeld ⊢
            have HWX := Lib.hid hHeld.2.2
            clear hHeld hWX
            by_cases hov : most < (U : Int)
            · obtain ⟨⟨-, zq, zf, zf2⟩, zh, -⟩ := HSF.out _ HWX.out
              have zc0 : WX.cell? ⟨q, 0, none⟩ = some (.slice ad k cap) := by simp [World.cell?, zh]
              have zc2 : WX.cell? ⟨q, 2, none⟩ = some (.bool over) := by simp [World.cell?, zh]
              clear zh
              obtain ⟨-, y4, -, y5, y6⟩ := HSF.out _ HWX.out
              have hO7 : OwnD (WX.setCell ⟨q, 2, none⟩ (.bool true)) base (.slice ad k cap) L := by
                refine y5.blocks fun j hj => Below.heap_setCell _ _ _ _ (fun e1 => ?_)
                obtain ⟨_, cs, hc⟩ := y5.own hj
                have : j = q := e1
                subst this
                rw [y4] at hc
                simp at hc
              have hq7 := heap_setCell_same WX q 2 _ _ (.bool true) y4
              have HE7 := Lib.hid (And.intro hO7 (And.intro hq7 (T1.set (q := q) y6 2 (.bool true))))
              have HCn := Lib.hid (show t ≠ [] ∧ most < (usedS F : Int) from ⟨HTn.out, by rw [HU.out]; exact hov⟩)
              clear y4 y5 y6 hO7 hq7
              go_wp2_with fail
              go_ret
              rw [HE.out.1, HE.out.2.1, HE.out.2.2, HF.out, if_pos HCn.out, if_pos HCn.out, if_pos HCn.out]
              exact ⟨rfl, ⟨_, by have h := HE7.out.2.1; exact h, HE7.out.1⟩, HE7.out.2.2⟩
            · obtain ⟨⟨-, zq, zf, zf2⟩, zh, -⟩ := HSF.out _ HWX.out
              have zc0 : WX.cell? ⟨q, 0, none⟩ = some (.slice ad k cap) := by simp [World.cell?, zh]
              have zc2 : WX.cell? ⟨q, 2, none⟩ = some (.bool over) := by simp [World.cell?, zh]
              clear zh
              obtain ⟨-, y4, y5, -, y6⟩ := HSF.out _ HWX.out
              have hO7 : OwnD (WX.setCell ⟨q, 0, none⟩ (.slice ad1 A cap1)) base (.slice ad1 A cap1) F := by
                have h1 := y5.low (show base ≤ B1 from by have := HBx.out; have := HBq.out; omega)
                refine h1.blocks fun j hj => Below.heap_setCell _ _ _ _ (fun e1 => ?_)
                obtain ⟨_, cs, hc⟩ := h1.own hj
                have : j = q := e1
                subst this
                rw [y4] at hc
                simp at hc
              have hq7 := heap_setCell_same WX q 0 _ _ (.slice ad1 A cap1) y4
              have HE7 := Lib.hid (And.intro hO7 (And.intro hq7 (T1.set (q := q) y6 0 (.slice ad1 A cap1))))
              clear y4 y5 y6 hO7 hq7
              have HCn := Lib.hid (show ¬ (t ≠ [] ∧ most < (usedS F : Int)) from fun h => hov (by have := h.2; rw [HU.out] at this; exact this))
              go_wp2_with fail
              go_ret
              rw [HE.out.1, HE.out.2.1, HE.out.2.2, HF.out, if_neg HCn.out, if_neg HCn.out, if_neg HCn.out]
              exact ⟨rfl, ⟨_, by have h := HE7.out.2.1; exact h, HE7.out.1⟩, HE7.out.2.2⟩
  · have hm' : mayB e n = false := by simpa using hm
    have HR := Lib.hid (rcode_any W e n)
    rw [hm'] at HR
    have HE := Lib.hid (show rE most L ⟨e, n⟩ t = 1 ∧ rL most L ⟨e, n⟩ t = L ∧ rO most L over ⟨e, n⟩ t = over from by
      unfold rE rL rO
      simp only
      rw [if_neg hm, if_neg hm, if_neg hm]
      exact ⟨rfl, rfl, rfl⟩)
    have HO := Lib.hid (And.intro hq hO)
    obtain ⟨ad, cap, rfl, -⟩ := hO.form
    generalize st t = S
    clear hq hO
    go_enter Tryd.func22, Tryd.ntmps22
    go_wp2_with fail
    refine HR.out.mono ?_
    rintro r w1 ⟨rfl, rfl⟩
    go_wp2_with fail
    go_ret
    rw [HE.out.1, HE.out.2.1, HE.out.2.2]
    exact ⟨rfl, ⟨_, HO.out.1, HO.out.2⟩, T1.of_below (Below.refl _ _)⟩
end Go.Proofs.YtnfpfpppnfighaaDoor
