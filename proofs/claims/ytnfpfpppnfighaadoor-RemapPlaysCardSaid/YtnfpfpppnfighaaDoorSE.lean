/- remap: All's iterator. -/
import Derived.Test.YtnfpfpppnfighaaDoorSD
import Derived.Stop.RegionWithIn
namespace Go.Proofs.YtnfpfpppnfighaaDoor
open Go.Shelf Go.RowKit Go.Maps Go.Lib
set_option linter.unusedVariables false
set_option linter.unusedSimpArgs false
set_option maxRecDepth 100000
attribute [local go_sem] Oper.semAt_some
theorem MapT.look1 {W : World} {b N : Nat} {m : MF} (h : MapT W b N m) (e : Bool) (n : Int) (h0 : -9223372036854775808 ≤ n) (h1 : n ≤ 9223372036854775807) :
    (Instr.lookup 83 (.map (some b)) (codeV e n) false).run Tryd.prog W = .ok (.string (st ((m e n).getD []))) W := by
  obtain ⟨D, hD, hm⟩ := h
  obtain ⟨l, hl⟩ := key24 e n h0 h1
  have hz0 : plainElem (H := Unit) Tryd.prog 9 (.string { data := #[] }) = some (.lit (.string []), []) := plainElem_string Tryd.underlying9 (by decide)
  obtain ⟨v, ps, hrun, hv⟩ := hD.lookup keyed24 Tryd.underlying83 (z := .string { data := #[] }) (zd := .lit (.string [])) (zp := []) (by kernel_rfl) hz0 hl
  obtain ⟨k1, k2⟩ := hm e n l hl
  rw [hrun]
  obtain ⟨s, rfl, hs, _⟩ := plainElem_string_inv Tryd.underlying9 hv
  cases hc : m e n with
  | none =>
    rw [hc] at k1
    rw [Maps.atKey_of_not_has k1] at hs
    simp only [Prod.mk.injEq] at hs
    obtain ⟨hs, _⟩ := hs
    have : s.data.toList = [] := by
      have := hs
      simp at this
      simpa using this.symm
    rw [st_of_list this]
    rfl
  | some t =>
    rw [k2 t hc] at hs
    have : s.data.toList = t := by
      simp at hs
      exact hs.1.symm
    rw [st_of_list this]
    rfl
theorem all_any (v : Value) (hv : v = .pointer none ∨ ∃ p, v = .pointer (some ⟨p, 0, none⟩)) (w : World) : Calls Tryd.prog 26 #[v] w fun e w' => e = .returned (.func (.func 38) #[] #[.pointer (some ⟨w.heap.size, 0, none⟩)]) ∧ w' = w.alloc (.cells #[v] 42) := by
  rcases hv with rfl | ⟨p, rfl⟩
  all_goals (
    go_enter Tryd.func26, Tryd.ntmps26
    go_wp2_with fail
    go_ret
    exact ⟨rfl, rfl⟩)
def encA (m : MF) (x : CodeD) : Array Value := #[codeV x.e x.n, .string (st ((m x.e x.n).getD []))]
set_option maxHeartbeats 2000000 in
theorem all_none (n : Nat) (Bx B : Nat) (m : MF) (I : List CodeD → World → Prop) (Kp : World → World → Prop) (W0 : World) (hc : W0.cell? ⟨Bx, 0, none⟩ = some (.pointer none)) :
    Iterates Tryd.prog n (n - 1) 38 #[.pointer (some ⟨Bx, 0, none⟩)] (encA m) (fun ys => ys = []) (fun _ => False) (fun _ _ => False) 512 B I Kp W0 := by
  intro l J Jx hJ0 _ _ _ _
  have HJ := Lib.hid hJ0
  clear hJ0
  refine callsIn_of_wp Tryd.func38 rfl trivial ?_ rfl
  simp only [Tryd.ntmps38, List.size_toArray, List.length_cons, List.length_nil, Nat.reduceAdd, Nat.reduceSub, Array.replicate_succ, Array.replicate_zero, List.push_toArray, List.append_toArray, List.nil_append, List.cons_append]
  gi_wp2_with fail
  refine bodyPost_ret (results_none rfl _ _ _) rfl ?_
  exact ⟨⟨_, rfl⟩, HJ.out⟩
set_option maxHeartbeats 4000000 in
theorem all_iter (n : Nat) (hn : 1 ≤ n) (Bx B p b N base : Nat) (most : Int) (m : MF) (over : Bool) (hd : Dom m) (I : List CodeD → World → Prop) (Kp : World → World → Prop) (W0 : World) (hB : B ≤ W0.heap.size)
    (hIs : ∀ pre X X', I pre X → Below X.heap.size X X' → I pre X') (hIc : ∀ pre X, I pre X → X.cell? ⟨Bx, 0, none⟩ = some (.pointer (some ⟨p, 0, none⟩)) ∧ MObj X base p b N most m over)
    (hKp : ∀ X X', Kp X X' → KeepsCells B X X') :
    Iterates Tryd.prog n (n - 1) 38 #[.pointer (some ⟨Bx, 0, none⟩)] (encA m) (fun ys => ys = ksOf m) (fun pre => ∃ t, ksOf m = pre ++ t) (fun pre x => ∃ t, ksOf m = pre ++ x :: t) 512 B I Kp W0 := by
  intro l J Jx hJ0 hJk _ hJI hY
  have hJs : ∀ s X X', J s X → Below X.heap.size X X' → J s X' := fun s X X' hj hb => hJk s X X' hj (hIs _ _ _ (hJI _ _ hj) hb) (keepsB hb)
  have hJc : ∀ s X, J s X → X.cell? ⟨Bx, 0, none⟩ = some (.pointer (some ⟨p, 0, none⟩)) ∧ MObj X base p b N most m over := fun s X h => hIc _ _ (hJI _ _ h)
  obtain ⟨cx, hmo⟩ := hJc _ _ hJ0
  have hmo2 := hmo.later (bel_alloc (Below.refl W0.heap.size W0) (.cells #[.map (some b)] 83))
  have HSo := Lib.hid (sortedf_any (W0.alloc (.cells #[.map (some b)] 83)) W0.heap.size b N m hd (by simp [go_sem]) hmo2.map)
  have HKe := Lib.hid (fun mb W => keys_any mb W)
  obtain ⟨⟨c0, -, -, -⟩, -⟩ := hmo.cells
  have HJ := Lib.hid hJ0
  have HJs := Lib.hid hJs
  have HJc := Lib.hid hJc
  have HY := Lib.hid hY
  have HKp := Lib.hid hKp
  have HB := Lib.hid hB
  have HD := Lib.hid hd
  obtain ⟨nn, hnn⟩ : ∃ nn, (ksOf m).length = nn := ⟨_, rfl⟩
  have HN := Lib.hid hnn
  have hn5 : nn ≤ 512 := by rw [← hnn]; exact len_ks m
  clear hnn hJ0 hJs hJc hY hKp hB hJk hJI hIs hIc hmo hmo2 hd
  refine callsIn_of_wp Tryd.func38 rfl trivial ?_ rfl
  simp only [Tryd.ntmps38, List.size_toArray, List.length_cons, List.length_nil, Nat.reduceAdd, Nat.reduceSub, Array.replicate_succ, Array.replicate_zero, List.push_toArray, List.append_toArray, List.nil_append, List.cons_append]
  gi_wp2_with (first
    | (refine ⟨trivial, ?_⟩; gi_at_call 40; refine (callsIn_wide.2 (HKe.out _ _)).mono ?_; rintro e w1 ⟨rfl, rfl⟩)
    | (refine ⟨trivial, ?_⟩; gi_at_call 39; refine (callsIn_wide.2 HSo.out).mono ?_; rintro e w1 ⟨v, rfl, hat, hb1⟩; obtain ⟨ad, cap, hv, -⟩ := id hat; rw [HN.out] at hv; subst hv; have Hat := Lib.hid hat; have Hb1 := Lib.hid hb1; clear hat hb1))
  have HJ1 := Lib.hid (HJs.out _ _ _ HJ.out (bel_call (bel_alloc (Below.refl W0.heap.size W0) (.cells #[.map (some b)] 83)) Hb1.out))
  have HCA := Lib.hid (show ∃ base', B ≤ base' ∧ CodesAt w1 base' (.slice ad nn cap) (ksOf m) from ⟨_, by have := HB.out; simp; omega, Hat.out⟩)
  obtain ⟨base', hbase', hca⟩ := HCA.out
  have Hca := Lib.hid hca
  have HBb := Lib.hid hbase'
  clear hca hbase' HCA HSo HKe c0 cx Hb1
  gi_loopw [14] (fun i wr => ∃ k : Nat, k ≤ nn ∧ i = .int .i64 (k : Int) ∧ J ((ksOf m).take k) wr ∧ CodesAt wr base' (.slice ad nn cap) (ksOf m)) (fun i _ => nn - (intOf i).toNat)
  case atStart => exact ⟨0, Nat.zero_le _, rfl, by simpa using HJ1.out, Hca.out⟩
  case round =>
    obtain ⟨k, hk, rfl, hJ, hca⟩ := hrel
    have HJr := Lib.hid hJ
    have HCr := Lib.hid hca
    clear hJ hca
    by_cases hlt : k < nn
    · have q1 : (k : Int) < (nn : Int) := by omega
      have hkL : k < (ksOf m).length := by rw [HN.out]; exact hlt
      obtain ⟨cx, hmo⟩ := HJc.out _ _ HJr.out
      obtain ⟨⟨c0, -, -, -⟩, -⟩ := hmo.cells
      obtain ⟨ad', cap', hv', hx⟩ := HCr.out
      rw [HN.out] at hv'
      simp only [Value.slice.injEq] at hv'
      obtain ⟨rfl, -, rfl⟩ := hv'
      obtain ⟨g, rfl, hg, hc⟩ := hx (by rw [HN.out]; omega)
      obtain ⟨d0, d1⟩ := hc k hkL
      have hks : (ksOf m) = (ksOf m).take k ++ (ksOf m)[k] :: (ksOf m).drop (k + 1) := by
        rw [← List.drop_eq_getElem_cons hkL, List.take_append_drop]
      have hks2 : (ksOf m).take (k + 1) = (ksOf m).take k ++ [(ksOf m)[k]] := by
        rw [List.take_add_one, List.getElem?_eq_getElem hkL]; rfl
      have hmem : (ksOf m)[k] ∈ ksOf m := List.getElem_mem hkL
      have hmy : mayB (ksOf m)[k].e (ksOf m)[k].n = true := HD.out _ _ ((mem_ks m HD.out _).1 hmem)
      have hbd : -9223372036854775808 ≤ (ksOf m)[k].n ∧ (ksOf m)[k].n ≤ 9223372036854775807 := by
        unfold mayB at hmy
        simp only [Bool.and_eq_true, decide_eq_true_eq] at hmy
        omega
      have HPre := Lib.hid (show ∃ t, ksOf m = (ksOf m).take k ++ (ksOf m)[k] :: t from ⟨_, hks⟩)
      have HTk := Lib.hid hks2
      generalize (ksOf m)[k] = x at *
      have hbx : Below wr.heap.size wr (wr.alloc (.cells #[.bool x.e, .int .i64 x.n] 24)).drew := (bel_alloc (Below.refl wr.heap.size wr) (.cells #[.bool x.e, .int .i64 x.n] 24)).drew
      have hJx := HJs.out _ _ _ HJr.out hbx
      obtain ⟨fn, tmps, assign, body, hy, hR⟩ := HY.out _ x _ hJx (by rw [List.length_take]; omega) HPre.out
      have hlk := ((hmo.later hbx).map).look1 x.e x.n hbd.1 hbd.2
      have HCx := Lib.hid (HCr.out.later hbx)
      simp only [encA, codeV] at hy hlk
      have hR' := (roundIn_any (m := n - 1) hR).mono (R' := fun e X' => ∃ r : Bool, e = .returned (.bool r) ∧ Hid ((r = true ∧ J ((ksOf m).take (k + 1)) X' ∧ KeepsCells B (wr.alloc (.cells #[.bool x.e, .int .i64 x.n] 24)).drew X') ∨ (r = false ∧ ∃ pre, (∃ t, ksOf m = pre ++ t) ∧ Jx pre X'))) (fun e X' h => by
        rcases h with ⟨rfl, a, c⟩ | ⟨rfl, a⟩
        · exact ⟨true, rfl, .inl ⟨rfl, by rw [HTk.out]; exact a, HKp.out _ _ c⟩⟩
        · obtain ⟨t, ht⟩ := HPre.out
          exact ⟨false, rfl, .inr ⟨rfl, _, ⟨t, by rw [List.append_assoc]; exact ht⟩, a⟩⟩)
      clear hR hc hx hg hks hks2 hmem hmy hbd hmo hJx hbx
      obtain ⟨E, hE⟩ : ∃ E, x.e = E := ⟨_, rfl⟩
      obtain ⟨R, hRr⟩ : ∃ R, x.n = R := ⟨_, rfl⟩
      obtain ⟨S, hS⟩ : ∃ S, st ((m x.e x.n).getD []) = S := ⟨_, rfl⟩
      rw [hS] at hy hlk
      rw [hE, hRr] at hy hlk hR' HCx
      rw [hE] at d0
      rw [hRr] at d1
      clear hE hRr hS hkL
      have hB1 : Bx < wr.heap.size := World.block_lt_of_cell? wr ⟨Bx, 0, none⟩ cx
      have hB2 : p < wr.heap.size := World.block_lt_of_cell? wr ⟨p, 0, none⟩ c0
      have hB3 : ¬ Bx = wr.heap.size := by omega
      have hB4 : ¬ p = wr.heap.size := by omega
      gi_wp2_with fail
      gi_region_with (refine hR'.mono ?_; rintro e W' ⟨r, rfl, hpost⟩)
      all_goals cases r
      all_goals rcases hpost with ⟨hr, hJ', hk'⟩ | ⟨hr, hJx'⟩
      all_goals first | cases hr | skip
      all_goals try (have t_ := hJx'; clear t_; have HJx := Lib.hid hJx'; clear hJx'; gi_wp2_with fail; refine bodyPost_ret (results_none rfl _ _ _) rfl ?_)
      all_goals first
        | exact ⟨⟨_, rfl⟩, .inr HJx.out⟩
        | (have HJ' := Lib.hid hJ'
           have HC' := Lib.hid (HCx.out.keep HBb.out hk')
           clear hJ' hk'
           gi_wp2_with fail
           go_roundw
           case rel => exact ⟨k + 1, by omega, by go_num, HJ'.out, HC'.out⟩
           case measure => simp [intOf]; omega)
    · gi_wp2_with fail
      obtain rfl : k = nn := by omega
      go_end0
      exact ⟨⟨_, rfl⟩, .inl ⟨_, rfl, by have h := HJr.out; rw [← HN.out, List.take_length] at h; exact h⟩⟩
end Go.Proofs.YtnfpfpppnfighaaDoor
