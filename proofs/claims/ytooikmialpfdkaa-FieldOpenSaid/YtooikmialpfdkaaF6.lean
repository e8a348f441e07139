/- The iterator that places gives: all places, by steps of n, round and round. -/
import Derived.Test.YtooikmialpfdkaaF3
import Derived.Test.YtooikmialpfdkaaRF
import Derived.OwnWalkIn
import Derived.TacticsInMore
import Derived.LoopNIn
import Derived.LoopIn
import Derived.Outline
import Derived.Stop.RegionWithIn
namespace Go.Proofs.Ytooikmialpfdkaa
open Go.RowKit Go.Shelf
set_option linter.unusedVariables false
attribute [local go_sem] Oper.semAt_some

/-- The number of the k-th place: from s on by steps, among A. -/
def posOf (A st s : Int) : Nat → Int
  | 0 => s
  | k + 1 => (posOf A st s k + st + A).tmod A
def orbit (A st s : Int) (k : Nat) : List Int := (List.range k).map (posOf A st s)
theorem orbit_succ (A st s : Int) (k : Nat) : orbit A st s (k + 1) = orbit A st s k ++ [posOf A st s k] := by
  simp [orbit, List.range_succ]
theorem orbit_len (A st s : Int) (k : Nat) : (orbit A st s k).length = k := by simp [orbit]
theorem posOf_bd {A st s : Int} (h0 : 0 ≤ s) (h1 : s < A) (hs : -1 ≤ st) (k : Nat) : 0 ≤ posOf A st s k ∧ posOf A st s k < A := by
  induction k with
  | zero => exact ⟨h0, h1⟩
  | succ k ih =>
    unfold posOf
    rw [Int.tmod_eq_emod_of_nonneg (by omega)]
    exact ⟨Int.emod_nonneg _ (by omega), Int.emod_lt_of_pos _ (by omega)⟩
def encPos (M : Int) (p : Int) : Array Value := #[.agg #[.int .i64 (p / M), .int .i64 (p % M)]]

set_option maxHeartbeats 8000000 in
theorem places_iter (G : Grid) (hok : G.Ok) (A : Nat) (hA : G.n * G.len 0 = A) (n : Nat) (hn1 : 1 ≤ n) (Bx By Bz : Nat) (st s : Int) (hst : st = 1 ∨ st = -1) (h0 : 0 ≤ s) (h1 : s < A) (B n₀ : Nat) (hBy : By < n₀) (I : List Int → World → Prop)
    (hIc : ∀ pre W, I pre W → W.cell? ⟨Bx, 0, none⟩ = some G.v ∧ W.cell? ⟨Bz, 0, none⟩ = some (.int .i64 st) ∧ W.frozen? ⟨By, 0, none⟩ = false ∧ ∃ B', G.In B' W)
    (hIs : ∀ pre W u, I pre W → I pre (W.setCell ⟨By, 0, none⟩ (.int .i64 u))) (hId : ∀ pre W, I pre W → I pre W.drew)
    (W0 : World) (hW0 : W0.cell? ⟨By, 0, none⟩ = some (.int .i64 s)) :
    Iterates Try.prog n (n - 1) 39 #[.pointer (some ⟨Bx, 0, none⟩), .pointer (some ⟨By, 0, none⟩), .pointer (some ⟨Bz, 0, none⟩)] (encPos (G.len 0)) (fun ys => ys = orbit A st s A) (fun pre => ∃ k, k ≤ A ∧ pre = orbit A st s k) (fun p => 0 ≤ p ∧ p < (A : Int)) A B I (Below n₀) W0 := by
  intro l J Jx hJ0 hJk hJI hY
  have hn : 0 < G.n := hok.1
  have hn' := hok.2.1
  have hm' := (hok.2.2 0 hn).2.1
  have hm1 := (hok.2.2 0 hn).1
  have eA : (G.n : Int) * (G.len 0 : Int) = (A : Int) := by rw [← hA]; simp
  have b1 : (G.n : Int) * (G.len 0 : Int) ≤ 255 * 255 := Int.mul_le_mul (by omega) (by omega) (by omega) (by omega)
  have b0 : 0 ≤ (G.n : Int) * (G.len 0 : Int) := Int.mul_nonneg (by omega) (by omega)
  have a1 : (A : Int) ≤ 65025 := by rw [← eA]; omega
  have EA := Lib.hid eA
  clear eA hA
  obtain ⟨c1, c2, c3, B', hg⟩ := hIc _ _ (hJI _ _ hJ0)
  obtain ⟨b, off, ea, hb, hc⟩ := hg.rows hn
  have r0 := hc 0 hn
  simp only [Nat.add_zero] at r0
  have cx := c1
  unfold Grid.v at cx
  rw [ea] at cx
  have q0 : (0 : Int) < (G.n : Int) := by omega
  have HJ := Lib.hid hJ0
  have HJk := Lib.hid hJk
  have HJI := Lib.hid hJI
  have HY := Lib.hid hY
  have HIc := Lib.hid hIc
  have HIs := Lib.hid hIs
  have HId := Lib.hid hId
  have Hst := Lib.hid hst
  clear hJ0 hJk hJI hY hIc hIs hId hc hg c1 hst
  refine callsIn_of_wp Try.func39 rfl trivial ?_ rfl
  simp only [Try.ntmps39, List.size_toArray, List.length_cons, List.length_nil, Nat.reduceAdd, Nat.reduceSub, Array.replicate_succ, Array.replicate_zero, List.push_toArray, List.append_toArray, List.nil_append, List.cons_append]
  gi_wp2_with fail
  rw [EA.out]
  clear b0 b1
  gi_loopw [16] (fun i wr => ∃ k : Nat, k ≤ A ∧ i = .int .i64 (k : Int) ∧ J (orbit A st s k) wr ∧ wr.cell? ⟨By, 0, none⟩ = some (.int .i64 (posOf A st s k))) (fun i _ => A - (intOf i).toNat)
  case atStart => exact ⟨0, Nat.zero_le _, rfl, HJ.out, hW0⟩
  case round =>
    obtain ⟨k, hk, rfl, hJ, hp⟩ := hrel
    have hIr := HJI.out _ _ hJ
    obtain ⟨d1, d2, d3, B'', hg⟩ := HIc.out _ _ hIr
    have Hjr := Lib.hid hJ
    have Hir := Lib.hid hIr
    have hbd := posOf_bd h0 h1 (by rcases Hst.out with e | e <;> omega) k (A := A) (st := st)
    have hb0 := hbd.1
    have hb1 := hbd.2
    clear hJ hIr hbd hg
    by_cases hlt : k < A
    · have q1 : (k : Int) < (A : Int) := by omega
      obtain ⟨fn, tmps, assign, body, hy, hR⟩ := HY.out _ (posOf A st s k) wr.drew (HJk.out _ _ _ Hjr.out (HId.out _ _ Hir.out) ((KeepsOthers.drew wr).from _)) (by rw [orbit_len]; exact hlt) ⟨hb0, hb1⟩
      unfold encPos at hy
      have Hp := Lib.hid (show posOf A st s (k + 1) = (posOf A st s k + st + A).tmod A from rfl)
      have Hq0 : posOf A st s k = posOf A st s k := rfl
      generalize hpq : posOf A st s k = p at *
      have Hq := Lib.hid hpq
      clear hpq Hq0
      have hst0 : -1 ≤ st := by rcases Hst.out with e | e <;> omega
      have hst1 : st ≤ 1 := by rcases Hst.out with e | e <;> omega
      have e4 : (p + st + (A : Int)).tmod A = (p + st + A) % A := Int.tmod_eq_emod_of_nonneg (by omega)
      rw [e4, show (p + st + (A : Int)) % A = (p + st) % A by simp] at Hp
      have hM0 : ¬ G.len 0 = 0 := by omega
      have hR' := hR.mono (R' := fun e X' => ∃ r : Bool, e = .returned (.bool r) ∧ Hid ((r = true ∧ J (orbit A st s k ++ [p]) X' ∧ Below n₀ wr.drew X') ∨ (r = false ∧ Jx (orbit A st s k ++ [p]) X'))) (fun e X' h => by
        rcases h with ⟨rfl, a, b⟩ | ⟨rfl, a⟩
        · exact ⟨true, rfl, .inl ⟨rfl, a, b⟩⟩
        · exact ⟨false, rfl, .inr ⟨rfl, a⟩⟩)
      clear hR
      have e1 : p.tdiv (G.len 0 : Int) = p / (G.len 0 : Int) := Int.tdiv_eq_ediv_of_nonneg hb0
      have e2 : p.tmod (G.len 0 : Int) = p % (G.len 0 : Int) := Int.tmod_eq_emod_of_nonneg hb0
      have e3 : IntKind.i64.wrap (p / (G.len 0 : Int)) = p / (G.len 0 : Int) := by
        have h5 : 0 ≤ p / (G.len 0 : Int) := Int.ediv_nonneg hb0 (by omega)
        have h6 : p / (G.len 0 : Int) ≤ p := Int.ediv_le_self _ hb0
        exact IntWalk.i64_in _ (by omega)
      gi_wp2_with fail
      gi_region_with (refine hR'.mono ?_; rintro e W' ⟨r, rfl, hpost⟩)
      all_goals cases r
      all_goals rcases hpost with ⟨hr, hJ', hk'⟩ | ⟨hr, hJx'⟩
      all_goals first | cases hr | skip
      all_goals try (have t_ := hJx'; clear t_; gi_wp2_with fail; refine bodyPost_ret (results_none rfl _ _ _) rfl ?_)
      all_goals first
        | exact ⟨⟨_, rfl⟩, .inr ⟨_, ⟨k + 1, by omega, by rw [orbit_succ, Hq.out]⟩, hJx'⟩⟩
        | (have hI' := HJI.out _ _ hJ'
           obtain ⟨g1, g2, g3, _⟩ := HIc.out _ _ hI'
           have g4 := (hk'.cell (p := ⟨By, 0, none⟩) hBy).trans hp
           have HJ' := Lib.hid hJ'
           have HI' := Lib.hid hI'
           clear hJ' hI' hk'
           gi_wp2_with fail
           go_roundw
           case rel => exact ⟨k + 1, by omega, by go_num, by rw [orbit_succ, Hq.out]; exact HJk.out _ _ _ HJ'.out (HIs.out _ _ _ HI'.out) ((KeepsOthers.setCell _ _ _).from _), by rw [Hp.out]; exact World.cell?_setCell_same' _ _ _ (by rw [g4]; rfl)⟩
           case measure => simp [intOf]; omega)
    · gi_wp2_with fail
      go_end0
      obtain rfl : k = A := by omega
      exact ⟨⟨_, rfl⟩, .inl ⟨_, rfl, Hjr.out⟩⟩
end Go.Proofs.Ytooikmialpfdkaa
