/- remap: the keys of a map, as maps.Keys's iterator gives them. -/
import Derived.Test.YtnfpfpppnfighaaDoorRM
import Derived.RangeFuncGives
import Derived.RangeFuncSeq
import Derived.Sort.MapsRangeIn
import Derived.WalkKit
import Derived.OwnWalkIn
import Derived.TacticsInMore
import Derived.RegionIn
import Derived.LoopNIn
import Derived.LoopIn
namespace Go.Proofs.YtnfpfpppnfighaaDoor
open Go.Shelf Go.RowKit Go.Maps Go.Sort
set_option linter.unusedVariables false
set_option linter.unusedSimpArgs false
set_option maxRecDepth 100000
structure CodeD where
  e : Bool
  n : Int
deriving DecidableEq, Inhabited
def encC (x : CodeD) : Value := codeV x.e x.n
theorem encC_inj {x y : CodeD} (h : encC x = encC y) : x = y := by
  obtain ⟨e, n⟩ := x
  obtain ⟨e', n'⟩ := y
  simp [encC, codeV] at h
  obtain ⟨rfl, rfl⟩ := h
  rfl
theorem lits4_inv {d : Nat} {c : Value} {a : List Lit} (h : Tryd.prog.keyLits (d + 1) 4 [c] = some a) : ∃ e, c = .bool e := by
  unfold Program.keyLits at h
  simp only [Tryd.underlying4] at h
  cases c <;> simp_all
theorem lits3_inv {d : Nat} {c : Value} {a : List Lit} (h : Tryd.prog.keyLits (d + 1) 3 [c] = some a) : ∃ n, c = .int .i64 n ∧ (Lit.int .i64 n).wf = true := by
  unfold Program.keyLits at h
  simp only [Tryd.underlying3] at h
  cases c <;> simp_all
theorem i64_of_wf {n : Int} (h : (Lit.int .i64 n).wf = true) : -9223372036854775808 ≤ n ∧ n ≤ 9223372036854775807 := by
  simp [Lit.wf, IntKind.min, IntKind.max, IntKind.signed, IntKind.bits] at h
  omega
theorem key24_inv {key : Value} {l : Lit} (h : keyOf Tryd.prog 24 key = some l) : ∃ x : CodeD, key = encC x ∧ -9223372036854775808 ≤ x.n ∧ x.n ≤ 9223372036854775807 := by
  unfold keyOf at h
  simp only [Tryd.underlying24] at h
  split at h
  · next hf =>
    cases key with
    | agg cs =>
      have hl : Tryd.prog.keyLits (Tryd.prog.types.size + 1) 24 cs.toList = (Tryd.prog.keyLits (Tryd.prog.types.size + 1) 24 cs.toList) := rfl
      have hsz : cs.size = 2 := by
        rw [keyType24] at hf
        simp [Value.formed, Tryd.underlying24, cellsOf24] at hf
        exact hf
      obtain ⟨cl⟩ := cs
      obtain ⟨c0, c1, rfl⟩ : ∃ c0 c1, cl = [c0, c1] := by
        match cl, hsz with
        | [a, b], _ => exact ⟨a, b, rfl⟩
      have h' : (Tryd.prog.keyLits (Tryd.prog.types.size + 1) 24 [c0, c1]).isSome = true := by
        cases hk : Tryd.prog.keyLits (Tryd.prog.types.size + 1) 24 [c0, c1] with
        | some x => rfl
        | none =>
          change (Tryd.prog.keyLits (Tryd.prog.types.size + 1) 24 [c0, c1]).map _ = _ at h
          rw [hk] at h
          cases h
      rw [size_types] at h'
      unfold Program.keyLits at h'
      simp only [Tryd.underlying24] at h'
      rw [if_pos ⟨by rw [cellsOf24]; rfl, by decide +kernel⟩] at h'
      simp [cellsOf4, cellsOf3] at h'
      cases h0 : Tryd.prog.keyLits 175 4 [c0] with
      | none => rw [h0] at h'; cases h'
      | some a0 =>
        rw [h0] at h'
        cases h1 : Tryd.prog.keyLits 175 3 [c1] with
        | none => rw [h1] at h'; cases h'
        | some a1 =>
          obtain ⟨e, rfl⟩ := lits4_inv (d := 174) h0
          obtain ⟨n, rfl, hw⟩ := lits3_inv (d := 174) h1
          exact ⟨⟨e, n⟩, rfl, i64_of_wf hw⟩
    | _ => simp [keyType24, Value.formed, Tryd.underlying24] at hf
  · cases h
theorem key24_str {key : Value} {l : Lit} (h : keyOf Tryd.prog 24 key = some l) : ∃ s, l = .string s := by
  unfold keyOf at h
  simp only [Tryd.underlying24] at h
  split at h
  · obtain ⟨ls, _, rfl⟩ := Option.map_eq_some_iff.1 h
    exact ⟨_, rfl⟩
  · cases h
theorem same24 {key : Value} {l : Lit} (h : keyOf Tryd.prog 24 key = some l) : l.sameKey l = true := by
  obtain ⟨s, rfl⟩ := key24_str h
  simp [Lit.sameKey]
theorem other24 {key key' : Value} {l l' : Lit} (h : keyOf Tryd.prog 24 key = some l) (h' : keyOf Tryd.prog 24 key' = some l') (hne : l ≠ l') : l.sameKey l' = false := by
  obtain ⟨s, rfl⟩ := key24_str h
  obtain ⟨s', rfl⟩ := key24_str h'
  have : ¬ s = s' := fun e => hne (by rw [e])
  simp [Lit.sameKey, this]
theorem key24_inj {x y : CodeD} {l : Lit} (h : keyOf Tryd.prog 24 (encC x) = some l) (h' : keyOf Tryd.prog 24 (encC y) = some l) : x = y := encC_inj (keyed24.inj h h')
/-- All codes there are, in their order. -/
def codeAt (i : Nat) : CodeD := ⟨decide (256 ≤ i), ((i % 256 : Nat) : Int)⟩
def allC : List CodeD := (List.range 512).map codeAt
/-- The codes a map tells, in their order. -/
def ksOf (m : MF) : List CodeD := allC.filter fun x => (m x.e x.n).isSome
/-- Only codes that may be told are told. -/
def Dom (m : MF) : Prop := ∀ e n, (m e n).isSome = true → mayB e n = true
theorem mem_all {e : Bool} {n : Int} (h : mayB e n = true) : (⟨e, n⟩ : CodeD) ∈ allC := by
  unfold mayB at h
  simp only [Bool.and_eq_true, decide_eq_true_eq] at h
  unfold allC
  rw [List.mem_map]
  obtain ⟨a, rfl⟩ : ∃ a : Nat, n = (a : Int) := ⟨n.toNat, by omega⟩
  cases e with
  | true => exact ⟨256 + a, by simp; omega, by unfold codeAt; rw [show (256 + a) % 256 = a by omega]; simp⟩
  | false => exact ⟨a, by simp; omega, by unfold codeAt; rw [show a % 256 = a by omega]; simp; omega⟩
theorem nodup_all : allC.Nodup := by
  unfold allC
  rw [List.nodup_iff_pairwise_ne, List.pairwise_map]
  refine (List.nodup_iff_pairwise_ne.1 List.nodup_range).imp_of_mem fun {a b} ha hb hne e => hne ?_
  rw [List.mem_range] at ha hb
  unfold codeAt at e
  simp only [CodeD.mk.injEq, decide_eq_decide] at e
  obtain ⟨e1, e2⟩ := e
  have : a % 256 = b % 256 := by omega
  omega
theorem len_all : allC.length = 512 := by simp [allC]
theorem mem_ks (m : MF) (hd : Dom m) (x : CodeD) : x ∈ ksOf m ↔ (m x.e x.n).isSome = true := by
  unfold ksOf
  rw [List.mem_filter]
  exact ⟨fun h => h.2, fun h => ⟨mem_all (hd _ _ h), h⟩⟩
theorem nodup_ks (m : MF) : (ksOf m).Nodup := nodup_all.filter _
theorem len_ks (m : MF) : (ksOf m).length ≤ 512 := by rw [← len_all]; exact List.length_filter_le _ _
/-- No code twice; a code is on the list just where the map tells it and it is no longer to come. -/
def CollC (m : MF) (left : Lit → Bool) (ss : List CodeD) : Prop := ss.Nodup ∧ ∀ x l, keyOf Tryd.prog 24 (encC x) = some l → (x ∈ ss ↔ (m x.e x.n).isSome = true ∧ left l = false)
theorem coll_sub {m : MF} {left : Lit → Bool} {ss : List CodeD} (h : CollC m left ss) (hk : ∀ x ∈ ss, (m x.e x.n).isSome = true) (hd : Dom m) {x : CodeD} (hx : (m x.e x.n).isSome = true) (hn : x ∉ ss) : ss.length < 512 := by
  have hnd : (ss ++ [x]).Nodup := List.nodup_append.2 ⟨h.1, by simp, fun a ha b hb => by simp at hb; subst hb; exact fun e => hn (e ▸ ha)⟩
  have hp : (ss ++ [x]).Perm (allC.filter fun y => decide (y ∈ ss ++ [x])) := (List.perm_ext_iff_of_nodup hnd (nodup_all.filter _)).2 fun y => by
    rw [List.mem_filter]
    refine ⟨fun hy => ⟨?_, by simpa using hy⟩, fun hy => by simpa using hy.2⟩
    rcases List.mem_append.1 hy with h1 | h1
    · exact mem_all (hd _ _ (hk y h1))
    · simp at h1; subst h1; exact mem_all (hd _ _ hx)
  have := hp.length_eq
  have h2 := List.length_filter_le (fun y => decide (y ∈ ss ++ [x])) allC
  rw [len_all] at h2
  rw [List.length_append, List.length_singleton] at this
  omega
set_option maxHeartbeats 1000000 in
theorem keysC_in (n : Nat) (hn : 1 ≤ n) (l Bm b nn : Nat) (m : MF) (hd : Dom m) (J Jx : List CodeD → World → Prop)
    (hY : ∀ pre x W, J pre W → pre.length < 512 → YieldAt Fence.wide (n - 1) Tryd.prog l #[encC x] W fun e W' => (e = .returned (.bool true) ∧ J (pre ++ [x]) W' ∧ KeepsWalks W W') ∨ (e = .returned (.bool false) ∧ Jx (pre ++ [x]) W'))
    (W : World) (hJ : AbidesFrom W.heap.size J) (hm : W.cell? ⟨Bm, 0, none⟩ = some (.map (some b))) (hown : MapT W b nn m) (h0 : J [] W) :
    CallsIn Fence.wide n Tryd.prog 49 #[.func (.yield l) #[] #[], .pointer (some ⟨Bm, 0, none⟩)] W fun e W' => (∃ v, e = .returned v) ∧ ((∃ ss : List CodeD, ss.Perm (ksOf m) ∧ J ss W') ∨ (∃ pre, Jx pre W')) := by
  obtain ⟨D0, hown, hmm⟩ := hown
  have HMm := Lib.hid hmm
  have HD := Lib.hid hd
  have HJ := Lib.hid hJ
  have HY := Lib.hid hY
  have H0 := Lib.hid h0
  clear hmm hd hJ hY h0
  refine callsIn_of_wp Tryd.func49 rfl trivial ?_ rfl
  simp only [Tryd.ntmps49, List.size_toArray, List.length_cons, List.length_nil, Nat.reduceAdd, Nat.reduceSub, Array.replicate_succ, Array.replicate_zero, List.push_toArray, List.append_toArray, List.nil_append, List.cons_append]
  gi_wp2_with (first
    | (gi_at_range; refine wpListIn_range_own _ rfl _ 83 rfl 24 9 keyed24 Tryd.underlying83 _ b nn _ rfl hown ?_; intro w0 hrg0 hg0 hs0)
    | gi_in)
  go_frame
  gi_loopw [3] (fun _ wr => ∃ (left : Lit → Bool) (cnt : Nat) (ss : List CodeD), wr.ranges Tryd.prog 24 (plainElem (H := Unit) Tryd.prog 9) b W.heap.size nn D0 left cnt ∧ CollC m left ss ∧ (∀ x ∈ ss, (m x.e x.n).isSome = true) ∧ J ss wr)
    (fun _ wr => wr.rangeLeft b W.heap.size)
  case atStart =>
    exact ⟨_, _, [], hrg0, ⟨List.nodup_nil, fun x l hl => by rw [(HMm.out x.e x.n l hl).1]; cases (m x.e x.n).isSome <;> simp⟩, by simp, HJ.out [] W w0 none H0.out hg0 (fun r e => by cases e)⟩
  case round =>
    obtain ⟨left, cnt, ss, hrg, hC, hks, hJs⟩ := hrel
    have HC := Lib.hid hC
    have HKs := Lib.hid hks
    have HJs := Lib.hid hJs
    clear hC hks hJs
    gi_wp2_with (first
      | (gi_at_next; refine wpListIn_next_ranges _ rfl _ rfl 24 keyed24 (plainElem (H := Unit) Tryd.prog 9) encC (fun (s : ByteArray) => Value.string s) (fun key kl hk => by obtain ⟨x, hx, _⟩ := key24_inv hk; exact ⟨x, hx⟩) (fun v y hy => by obtain ⟨s, rfl, _⟩ := plainElem_string_inv Tryd.underlying9 hy; exact ⟨s, rfl⟩) b W.heap.size nn _ _ _ rfl hrg ?_ ?_)
      | gi_in)
    · -- nothing is left
      intro hc0 hl0
      gi_wp2
      go_end0
      refine ⟨⟨_, rfl⟩, .inl ⟨ss, (List.perm_ext_iff_of_nodup HC.out.1 (nodup_ks m)).2 fun x => ?_, HJs.out⟩⟩
      rw [mem_ks m HD.out]
      refine ⟨fun h => HKs.out x h, fun h => ?_⟩
      have hmy := HD.out _ _ h
      unfold mayB at hmy
      simp only [Bool.and_eq_true, decide_eq_true_eq] at hmy
      obtain ⟨kl, hkl⟩ := key24 x.e x.n (by omega) (by omega)
      exact (HC.out.2 x kl hkl).2 ⟨h, hl0 kl⟩
    · -- an entry has come
      intro x c kl yd yp w2 cnt2 hkey hlk hv hat hrg2 hlt hg2 hs2 hen
      have hsome : (m x.e x.n).isSome = true := by rw [← (HMm.out x.e x.n kl hkey).1]; exact has_true_of_atKey hat
      have hnew : x ∉ ss := fun hx => by have := ((HC.out.2 x kl hkey).1 hx).2; rw [hlk] at this; cases this
      have hlen := coll_sub HC.out HKs.out HD.out hsome hnew
      have HC2 := Lib.hid (show CollC m (fun z => left z && !z.sameKey kl) (ss ++ [x]) ∧ ∀ y ∈ ss ++ [x], (m y.e y.n).isSome = true from by
        refine ⟨⟨List.nodup_append.2 ⟨HC.out.1, by simp, fun a ha b hb => by simp at hb; subst hb; exact fun e => hnew (e ▸ ha)⟩, fun y ly hly => ?_⟩, fun y hy => ?_⟩
        · by_cases hyx : y = x
          · subst hyx
            have : ly = kl := by have := hly.symm.trans hkey; simpa using this
            subst this
            simp [hsome, same24 hkey]
          · have hne : ly.sameKey kl = false := by
              exact other24 hly hkey (fun e => hyx (key24_inj hly (e ▸ hkey)))
            simp [HC.out.2 y ly hly, hyx, hne]
        · rcases List.mem_append.1 hy with h1 | h1
          · exact HKs.out y h1
          · simp at h1; subst h1; exact hsome)
      have hJ2 : J ss w2 := HJ.out ss wr w2 (some W.heap.size) HJs.out hg2 (fun r e => by cases e; exact ⟨Nat.le_refl _, hrg.iter_walk⟩)
      have hrg3 := hrg2.kept (World.grownBy_alloc w2 (.cells #[.bool x.e, .int .i64 x.n] 24) none) (by simp) (by simp)
      have hJ3 : J ss (w2.alloc (.cells #[.bool x.e, .int .i64 x.n] 24)) := HJ.out ss w2 _ none hJ2 (World.grownBy_alloc _ _ none) (fun r e => by cases e)
      obtain ⟨fn, tmps, assign, body, hy, hR⟩ := HY.out ss x _ hJ3 hlen
      simp only [encC, codeV] at hy hen ⊢
      have HR := Lib.hid (hR.mono (R' := fun e X' => ∃ r : Bool, e = .returned (.bool r) ∧ Hid ((r = true ∧ J (ss ++ [x]) X' ∧ KeepsWalks (w2.alloc (.cells #[.bool x.e, .int .i64 x.n] 24)) X') ∨ (r = false ∧ Jx (ss ++ [x]) X'))) (fun e X' h => by
        rcases h with ⟨rfl, a⟩ | ⟨rfl, a⟩
        · exact ⟨true, rfl, .inl ⟨rfl, a⟩⟩
        · exact ⟨false, rfl, .inr ⟨rfl, a⟩⟩))
      clear hR hs2 hkey hlk hv hat hJ2 hJ3 hsome hnew hlen
      obtain ⟨E, hE⟩ : ∃ E, x.e = E := ⟨_, rfl⟩
      obtain ⟨R, hRr⟩ : ∃ R, x.n = R := ⟨_, rfl⟩
      rw [hE, hRr] at hy HR hen hrg3 ⊢
      clear hE hRr
      gi_wp2_with (refine HR.out.mono ?_; rintro e W3 ⟨y, rfl, hpost⟩; cases y)
      all_goals rcases hpost with ⟨hy', hJ'⟩ | ⟨hy', hJx'⟩
      all_goals first | cases hy' | skip
      · refine bodyPost_ret (results_none rfl _ _ _) rfl ?_
        exact ⟨⟨_, rfl⟩, .inr ⟨_, hJx'⟩⟩
      · have hrg4 := hrg3.of_walks hJ'.2
        go_roundw
        case rel => exact ⟨_, cnt2, ss ++ [x], hrg4, HC2.out.1, HC2.out.2, hJ'.1⟩
        case measure => rw [hrg4.left_eq, hrg.left_eq]; exact hlt
/-- maps.Keys. -/
theorem keys_any (mb : Option Nat) (w : World) : Calls Tryd.prog 40 #[.map mb] w fun e w' => e = .returned (.func (.func 49) #[] #[.pointer (some ⟨w.heap.size, 0, none⟩)]) ∧ w' = w.alloc (.cells #[.map mb] 83) := by
  go_enter Tryd.func40, Tryd.ntmps40
  go_wp2_with fail
  go_ret
  exact ⟨rfl, rfl⟩
end Go.Proofs.YtnfpfpppnfighaaDoor
