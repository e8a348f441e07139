/- The iterator that keys.All gives: all keys that send something, in order. -/
import Derived.Test.YtkenihkfjepdfaaK4
import Derived.Test.YtkenihkfjepdfaaRF
import Derived.Lib.Hide
import Derived.OwnWalkIn
import Derived.TacticsInMore
import Derived.LoopNIn
import Derived.LoopIn
import Derived.Outline
import Derived.Stop.RegionWithIn
namespace Go.Proofs.Ytkenihkfjepdfaa
open Go.RowKit Go.Shelf
set_option linter.unusedVariables false
set_option linter.unusedSimpArgs false
attribute [local go_sem] Oper.semAt_some

/-- A key: its kind, its code. -/
abbrev Ky := Int × Int
def kRow (p : Int) (pad : Bool) (k : Int) : Nat → List Ky
  | 0 => []
  | n + 1 => kRow p pad k n ++ (if encText p k (lowOf k + n) false false pad = [] then [] else [(k, lowOf k + n)])
def kCnt (k : Int) : Nat := (highOf k + 1 - lowOf k).toNat
/-- The keys of the first n kinds that send something. -/
def kAll (p : Int) (pad : Bool) : Nat → List Ky
  | 0 => []
  | n + 1 => kAll p pad n ++ kRow p pad (n + 1) (kCnt (n + 1))
def encK (p : Int) (pad : Bool) (x : Ky) : Array Value := #[.agg #[.int .i64 x.1, .int .i64 x.2, .bool false, .bool false], .string (strOfNums (encText p x.1 x.2 false false pad))]
theorem kRow_skip {p k : Int} {pad : Bool} {n : Nat} (h : encText p k (lowOf k + n) false false pad = []) : kRow p pad k (n + 1) = kRow p pad k n := by simp [kRow, h]
theorem kRow_add {p k : Int} {pad : Bool} {n : Nat} (h : ¬ encText p k (lowOf k + n) false false pad = []) : kRow p pad k (n + 1) = kRow p pad k n ++ [(k, lowOf k + n)] := by simp [kRow, h]
theorem kRow_pre (p k : Int) (pad : Bool) {m n : Nat} (h : m ≤ n) : ∃ t, kRow p pad k n = kRow p pad k m ++ t := by
  obtain ⟨d, rfl⟩ := Nat.exists_eq_add_of_le h
  clear h
  induction d with
  | zero => exact ⟨[], by simp⟩
  | succ d ih =>
    obtain ⟨t, ht⟩ := ih
    rw [← Nat.add_assoc]
    exact ⟨_, by rw [kRow, ht, List.append_assoc]⟩
theorem kAll_pre (p : Int) (pad : Bool) {m n : Nat} (h : m ≤ n) : ∃ t, kAll p pad n = kAll p pad m ++ t := by
  obtain ⟨d, rfl⟩ := Nat.exists_eq_add_of_le h
  clear h
  induction d with
  | zero => exact ⟨[], by simp⟩
  | succ d ih =>
    obtain ⟨t, ht⟩ := ih
    rw [← Nat.add_assoc]
    exact ⟨_, by rw [kAll, ht, List.append_assoc]⟩
theorem kAll_at {p : Int} {pad : Bool} {k m : Nat} (hk : k < 5) (hm : m < kCnt ((k : Int) + 1)) (h : ¬ encText p ((k : Int) + 1) (lowOf ((k : Int) + 1) + m) false false pad = []) :
    ∃ t, kAll p pad 5 = (kAll p pad k ++ kRow p pad ((k : Int) + 1) m) ++ ((k : Int) + 1, lowOf ((k : Int) + 1) + m) :: t := by
  obtain ⟨t, ht⟩ := kAll_pre p pad (show k + 1 ≤ 5 by omega)
  obtain ⟨u, hu⟩ := kRow_pre p ((k : Int) + 1) pad (show m + 1 ≤ kCnt ((k : Int) + 1) by omega)
  rw [kRow_add h] at hu
  exact ⟨u ++ t, by rw [ht, kAll, hu]; simp⟩
/-- Every block of spans is as it was. -/
def Kp54 (X X' : World) : Prop := ∀ (b : Nat) (cs : Array Value) (fz : Nat × Nat), X.heap[b]? = some (Obj.cells cs 54 fz) → X'.heap[b]? = some (Obj.cells cs 54 fz)
theorem Kp54.trans {X Y Z : World} (h : Kp54 X Y) (k : Kp54 Y Z) : Kp54 X Z := fun b cs fz e => k b cs fz (h b cs fz e)
theorem Kp54.below {X X' : World} (h : Below X.heap.size X X') : Kp54 X X' := fun b cs fz e => (h.block b (Array.getElem?_eq_some_iff.1 e).1).trans e
theorem keepsB {B : Nat} {W W' : World} (h : Below W.heap.size W W') : KeepsFrom B W W' :=
  ⟨h.size, fun k o _ hk _ => (h.block k (Array.getElem?_eq_some_iff.1 hk).1).trans hk⟩
theorem roundIn_any {n m : Nat} {P : Program} {l : Nat} {f : FuncId} {tmps : Array Value} {assign body : Code} {w : World} {R : Ending → World → Prop}
    (h : RoundIn Fence.wide n P l f tmps assign body w R) : RoundIn Fence.wide m P l f tmps assign body w R :=
  ⟨h.1, fun c cs _ => h.2 c cs (room_wide _)⟩
theorem span_cells {W : World} {b : Nat} {x y : Value} {fz : Nat × Nat} (h : W.heap[b]? = some (Obj.cells #[x, y] 54 fz)) : W.cell? ⟨b, 0, none⟩ = some x ∧ W.cell? ⟨b, 1, none⟩ = some y := by
  simp [World.cell?, h]

set_option maxHeartbeats 8000000 in
theorem all_iter (p : Int) (pad : Bool) (n : Nat) (hn1 : 1 ≤ n) (Bp Bq B : Nat) (I : List Ky → World → Prop)
    (hIc : ∀ pre W, I pre W → W.cell? ⟨Bp, 0, none⟩ = some (.int .i64 p) ∧ W.cell? ⟨Bq, 0, none⟩ = some (.bool pad)) (hIb : ∀ pre W W', I pre W → Below W.heap.size W W' → I pre W') (W0 : World) :
    Iterates Try.prog n (n - 1) 26 #[.pointer (some ⟨Bp, 0, none⟩), .pointer (some ⟨Bq, 0, none⟩)] (encK p pad) (fun ys => ys = kAll p pad 5) (fun pre => ∃ t, kAll p pad 5 = pre ++ t)
      (fun pre x => ∃ t, kAll p pad 5 = pre ++ x :: t) (kAll p pad 5).length B I Kp54 W0 := by
  intro l J Jx hJ0 hJk hJI hY
  have hJb : ∀ s X X', J s X → Below X.heap.size X X' → J s X' := fun s X X' h hb => hJk _ _ _ h (hIb _ _ _ (hJI _ _ h) hb) (keepsB hb)
  have hJc : ∀ s X, J s X → X.cell? ⟨Bp, 0, none⟩ = some (.int .i64 p) ∧ X.cell? ⟨Bq, 0, none⟩ = some (.bool pad) := fun s X h => hIc _ _ (hJI _ _ h)
  have hY' : ∀ pre x X, J pre X → (∃ t, kAll p pad 5 = pre ++ x :: t) → YieldAt Fence.wide (n - 1) Try.prog l (encK p pad x) X fun e X' => (e = .returned (.bool true) ∧ J (pre ++ [x]) X' ∧ Kp54 X X') ∨ (e = .returned (.bool false) ∧ Jx (pre ++ [x]) X') := by
    intro pre x X h hl
    refine hY pre x X h ?_ hl
    obtain ⟨t, ht⟩ := hl
    rw [ht]; simp
  clear hY hJI hJk hIc hIb
  obtain ⟨cp, cq⟩ := hJc _ _ hJ0
  have HJ := Lib.hid hJ0
  have HJb := Lib.hid hJb
  have HJc := Lib.hid hJc
  have HY := Lib.hid hY'
  have HC := Lib.hid codes_yes
  have HE := Lib.hid (fun k c => encode_any p k c false false pad)
  unfold Fn at HC
  unfold Fn keyv at HE
  clear hJ0 hJb hJc hY'
  refine callsIn_of_wp Try.func26 rfl trivial ?_ rfl
  simp only [Try.ntmps26, List.size_toArray, List.length_cons, List.length_nil, Nat.reduceAdd, Nat.reduceSub, Array.replicate_succ, Array.replicate_zero, List.push_toArray, List.append_toArray, List.nil_append, List.cons_append]
  gi_wp2_with fail
  gi_loopw [4] (fun k wr => ∃ m : Nat, m ≤ 5 ∧ k = .int .i64 ((m : Int) + 1) ∧ J (kAll p pad m) wr) (fun k _ => 6 - (intOf k).toNat)
  case atStart => exact ⟨0, by omega, rfl, HJ.out⟩
  case round =>
    obtain ⟨m, hm, rfl, hJ⟩ := hrel
    by_cases hlt : m < 5
    · have q1 : (m : Int) + 1 ≤ 5 := by omega
      have HJm := Lib.hid hJ
      have HC1 := Lib.hid (HC.out ((m : Int) + 1) (by omega) (by omega))
      clear hJ
      gi_wp2_with (refine ⟨trivial, ?_⟩; gi_at_call 19; refine (callsIn_wide.2 (HC1.out _)).mono ?_; rintro e w1 ⟨rfl, hb1⟩)
      have HJw := Lib.hid (HJb.out _ _ _ HJm.out hb1)
      have HJ2 := Lib.hid (HJb.out _ _ _ HJw.out ((Below.refl _ w1).alloc (Nat.le_refl _) (Obj.cells #[.int .i64 (lowOf ((m : Int) + 1)), .int .i64 (highOf ((m : Int) + 1))] 54)))
      have hs0 : (w1.alloc (Obj.cells #[.int .i64 (lowOf ((m : Int) + 1)), .int .i64 (highOf ((m : Int) + 1))] 54)).heap[w1.heap.size]? = some (Obj.cells #[.int .i64 (lowOf ((m : Int) + 1)), .int .i64 (highOf ((m : Int) + 1))] 54 (0, 0)) := World.alloc_heap_new _ _
      generalize w1.alloc (Obj.cells #[.int .i64 (lowOf ((m : Int) + 1)), .int .i64 (highOf ((m : Int) + 1))] 54) = w2 at *
      have hlo : 0 ≤ lowOf ((m : Int) + 1) ∧ highOf ((m : Int) + 1) ≤ 126 ∧ lowOf ((m : Int) + 1) ≤ highOf ((m : Int) + 1) := by
        unfold lowOf highOf
        repeat' split
        all_goals omega
      have HCN := Lib.hid (show ((kCnt ((m : Int) + 1) : Nat) : Int) = highOf ((m : Int) + 1) + 1 - lowOf ((m : Int) + 1) by unfold kCnt; omega)
      have HAT := Lib.hid (fun (m' : Nat) => kAll_at (p := p) (pad := pad) (k := m) (m := m') hlt)
      have HSK := Lib.hid (fun (m' : Nat) => kRow_skip (p := p) (pad := pad) (k := (m : Int) + 1) (n := m'))
      have HAD := Lib.hid (fun (m' : Nat) => kRow_add (p := p) (pad := pad) (k := (m : Int) + 1) (n := m'))
      have HE1 := Lib.hid (fun c => HE.out ((m : Int) + 1) c)
      have HNX := Lib.hid (show kAll p pad (m + 1) = kAll p pad m ++ kRow p pad ((m : Int) + 1) (kCnt ((m : Int) + 1)) from rfl)
      have HC1' := HC1
      clear HC1 HC1' hb1 HE
      generalize lowOf ((m : Int) + 1) = lo at *
      generalize highOf ((m : Int) + 1) = hi at *
      generalize hcn : kCnt ((m : Int) + 1) = cn at *
      obtain ⟨hlo1, hlo2, hlo3⟩ := hlo
      clear hcn
      generalize w1.heap.size = bs at *
      gi_loopw [7] (fun i wr => ∃ m' : Nat, m' ≤ cn ∧ i = .int .i64 (lo + (m' : Int)) ∧ J (kAll p pad m ++ kRow p pad ((m : Int) + 1) m') wr ∧ wr.heap[bs]? = some (Obj.cells #[.int .i64 lo, .int .i64 hi] 54 (0, 0))) (fun i _ => cn - (intOf i - lo).toNat)
      case atStart => exact ⟨0, Nat.zero_le _, by simp, by simpa [kRow] using HJ2.out, hs0⟩
      case round =>
        obtain ⟨m', hm', rfl, hJ, hsp⟩ := hrel
        obtain ⟨c0, c1⟩ := span_cells hsp
        obtain ⟨cp1, cq1⟩ := HJc.out _ _ hJ
        have HJr := Lib.hid hJ
        have HSP := Lib.hid hsp
        have hcn := HCN.out
        clear hJ hsp
        by_cases hlt2 : m' < cn
        · have q2 : lo + (m' : Int) ≤ hi := by omega
          have HE2 := HE1.out (lo + (m' : Int))
          have cpA : ∀ o, (wr.alloc o).cell? ⟨Bp, 0, none⟩ = some (.int .i64 p) := fun o => (World.cell?_alloc_lt _ _ _ (World.block_lt_of_cell? wr ⟨Bp, 0, none⟩ cp1)).trans cp1
          have cqA : ∀ o, (wr.alloc o).cell? ⟨Bq, 0, none⟩ = some (.bool pad) := fun o => (World.cell?_alloc_lt _ _ _ (World.block_lt_of_cell? wr ⟨Bq, 0, none⟩ cq1)).trans cq1
          have hi1 : (lo + (m' : Int)) ≤ 126 := by omega
          have hi2 : (0 : Int) ≤ lo + (m' : Int) := by omega
          by_cases hT : encText p ((m : Int) + 1) (lo + (m' : Int)) false false pad = []
          · have HS := Lib.hid (HSK.out m' hT)
            rw [hT, show strOfNums [] = ({ data := #[] } : ByteArray) from rfl] at HE2
            have HE3 := Lib.hid HE2
            clear HE2 hT
            gi_wp2_with (refine ⟨trivial, ?_⟩; gi_at_call 11; refine (callsIn_wide.2 (HE3.out _)).mono ?_; rintro e w3 ⟨rfl, hb3⟩)
            refine ⟨fun _ e => (by cases e), ?_⟩
            rename_i hKK _ _ _ _
            refine hKK _ _ ?_
            have J3 := HJb.out _ _ _ (HJb.out _ _ _ HJr.out ((Below.refl _ wr).alloc (Nat.le_refl _) _)) hb3
            have HJ3 := Lib.hid J3
            have hsp3 : w3.heap[bs]? = some (Obj.cells #[.int .i64 lo, .int .i64 hi] 54 (0, 0)) := (hb3.block bs (by have := (Array.getElem?_eq_some_iff.1 HSP.out).1; simp; omega)).trans ((Below.heap_alloc _ _ _ (Array.getElem?_eq_some_iff.1 HSP.out).1).trans HSP.out)
            have HSP3 := Lib.hid hsp3
            clear J3 hsp3
            gi_wp2_with fail
            go_roundw
            case rel => exact ⟨m' + 1, by omega, by go_num, by rw [HS.out]; exact HJ3.out, HSP3.out⟩
            case measure => simp [intOf]; omega
          · have HS := Lib.hid (HAD.out m' hT)
            have HX := Lib.hid (HAT.out m' hlt2 hT)
            have hne : ¬ (strOfNums (encText p ((m : Int) + 1) (lo + (m' : Int)) false false pad)).toList = [] := by
              intro e
              rw [ByteArray.toList_eq, strOfNums_data] at e
              simp at e
              exact hT e
            have hne2 : (strOfNums (encText p ((m : Int) + 1) (lo + (m' : Int)) false false pad)).toList.isEmpty = false := by simpa using hne
            have HYx := fun X hX => HY.out _ ((m : Int) + 1, lo + (m' : Int)) X hX HX.out
            simp only [encK] at HYx
            generalize strOfNums (encText p ((m : Int) + 1) (lo + (m' : Int)) false false pad) = S at *
            have HYX := Lib.hid HYx
            have HE3 := Lib.hid HE2
            clear HE2 hT HYx
            gi_wp2_with (first
              | (refine hR.mono ?_; rintro e W' ⟨y, rfl, hpost⟩; cases y)
              | (refine ⟨trivial, ?_⟩; gi_at_call 11; refine (callsIn_wide.2 (HE3.out _)).mono ?_; rintro e w3 ⟨rfl, hb3⟩
                 have J3 := HJb.out _ _ _ (HJb.out _ _ _ HJr.out ((Below.refl _ wr).alloc (Nat.le_refl _) _)) hb3
                 obtain ⟨fn, tmps, assign, body, hy, hR0⟩ := HYX.out w3 J3
                 have hR := (roundIn_any (m := n - 1) hR0).mono (R' := fun e X' => ∃ r : Bool, e = .returned (.bool r) ∧ Hid ((r = true ∧ J _ X' ∧ Kp54 w3 X') ∨ (r = false ∧ Jx _ X'))) (fun e X' h => by
                   rcases h with ⟨rfl, a, b⟩ | ⟨rfl, a⟩
                   · exact ⟨true, rfl, .inl ⟨rfl, a, b⟩⟩
                   · exact ⟨false, rfl, .inr ⟨rfl, a⟩⟩)
                 clear hR0 J3
                 have hk0 := hb3.cell (p := ⟨wr.heap.size, 0, none⟩) (by simp)
                 have hk1 := hb3.cell (p := ⟨wr.heap.size, 1, none⟩) (by simp)
                 have hk2 := hb3.cell (p := ⟨wr.heap.size, 2, none⟩) (by simp)
                 have hk3 := hb3.cell (p := ⟨wr.heap.size, 3, none⟩) (by simp)
                 simp [go_sem] at hk0 hk1 hk2 hk3))
            all_goals rcases hpost with ⟨hy', hJ', hkp⟩ | ⟨hy', hJx'⟩
            all_goals first | cases hy' | skip
            all_goals (
              first
              | (refine bodyPost_ret (results_none rfl _ _ _) rfl ?_
                 obtain ⟨t, ht⟩ := HX.out
                 exact ⟨⟨_, rfl⟩, .inr ⟨_, ⟨t, by rw [ht]; simp⟩, hJx'⟩⟩)
              | (have hsp4 := hkp bs _ _ ((hb3.block bs (by have := (Array.getElem?_eq_some_iff.1 HSP.out).1; simp; omega)).trans ((Below.heap_alloc _ _ _ (Array.getElem?_eq_some_iff.1 HSP.out).1).trans HSP.out))
                 go_roundw
                 case rel => exact ⟨m' + 1, by omega, by go_num, by rw [HS.out, ← List.append_assoc]; exact hJ', hsp4⟩
                 case measure => simp [intOf]; omega))
        · have q2 : ¬ lo + (m' : Int) ≤ hi := by omega
          have hm2 : m' = cn := by omega
          subst hm2
          gi_wp2_with fail
          go_roundw
          case rel => exact ⟨m + 1, by omega, by go_num, by rw [HNX.out]; exact HJr.out⟩
          case measure => simp [intOf]; omega
    · have q1 : ¬ (m : Int) + 1 ≤ 5 := by omega
      have hm5 : m = 5 := by omega
      subst hm5
      have HJm := Lib.hid hJ
      clear hJ
      gi_wp2_with fail
      go_end0
      exact ⟨⟨_, rfl⟩, .inl HJm.out⟩
end Go.Proofs.Ytkenihkfjepdfaa
