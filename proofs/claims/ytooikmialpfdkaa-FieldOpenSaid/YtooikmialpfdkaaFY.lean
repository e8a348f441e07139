/- The walk of the document's Next. -/
import Derived.Test.YtooikmialpfdkaaFM
import Derived.Test.YtooikmialpfdkaaFK
import Derived.Test.YtooikmialpfdkaaFG
namespace Go.Proofs.Ytooikmialpfdkaa
open Go.RowKit
set_option linter.unusedVariables false
set_option linter.unusedSimpArgs false
set_option maxRecDepth 100000
theorem tmod_1 {A y z : Int} (h0 : 0 ≤ y) (h1 : y < A) (hz : z = y + A) : z.tmod A = y := by
  subst hz
  rw [Int.tmod_eq_emod_of_nonneg (by omega), Int.add_emod_right, Int.emod_eq_of_lt h0 h1]
theorem tmod_0 {A y z : Int} (h0 : 0 ≤ y) (h1 : y < A) (hz : z = y) : z.tmod A = y := by
  subst hz
  rw [Int.tmod_eq_emod_of_nonneg (by omega), Int.emod_eq_of_lt h0 h1]
theorem tmod_2 {A z : Int} (h1 : 0 < A) (hz : z = A + A) : z.tmod A = 0 := by
  subst hz
  rw [Int.tmod_eq_emod_of_nonneg (by omega), Int.add_emod_right, Int.emod_self]
theorem at_lt {n M r c : Nat} (hr : r < n) (hc : c < M) : r * M + c < n * M := by
  have := Nat.mul_le_mul_right M (show r + 1 ≤ n by omega)
  rw [Nat.add_mul] at this
  omega
theorem openN_at {G : Grid} {r c : Nat} (hc : c < G.len 0) : openN G ((r * G.len 0 + c : Nat) : Int) = !G.gd r c := by
  unfold openN
  rw [← Int.natCast_ediv, ← Int.natCast_emod, Int.toNat_natCast, Int.toNat_natCast, Nat.mul_comm, Nat.mul_add_div (by omega), Nat.div_eq_of_lt hc, Nat.mul_add_mod, Nat.mod_eq_of_lt hc, Nat.add_zero]
theorem found_at {G : Grid} {r c : Nat} (hc : c < G.len 0) : foundPos G (some ((r * G.len 0 + c : Nat) : Int)) = .tuple #[.agg #[.int .i64 (r : Int), .int .i64 (c : Int)], .bool true] := by
  unfold foundPos
  simp only
  rw [← Int.natCast_ediv, ← Int.natCast_emod, Nat.mul_comm, Nat.mul_add_div (by omega), Nat.div_eq_of_lt hc, Nat.mul_add_mod, Nat.mod_eq_of_lt hc, Nat.add_zero]
theorem rnext_not (G : Grid) (r c : Int) (back : Bool) (w : World) (h : G.In w.heap.size w) (hok : ¬ G.Ok) : Fn w 22 #[G.v, .agg #[.int .i64 r, .int .i64 c], .bool back] (.tuple #[.agg #[.int .i64 0, .int .i64 0], .bool false]) := by
  have HC : ∀ W, Below w.heap.size w W → Fn W 17 #[G.v] (.bool false) := fun W hW => by
    have := right_any G W (h.later hW hW.size)
    rwa [not_okB hok] at this
  unfold Fn at *
  unfold Grid.v at *
  have HC' := Lib.hid HC
  clear HC h hok
  go_enter Try.func22, Try.ntmps22
  go_wp2_with fail
  refine (HC'.out _ (bel_alloc (bel_alloc (Below.refl _ _) _) _)).mono ?_
  rintro e w1 ⟨rfl, hb1⟩
  have k3 := hb1.cell (p := ⟨w.heap.size + 1, 0, none⟩) (by simp)
  have k4 := hb1.cell (p := ⟨w.heap.size + 1, 1, none⟩) (by simp)
  have k5 := hb1.frozen (p := ⟨w.heap.size + 1, 0, none⟩) (by simp)
  have k6 := hb1.frozen (p := ⟨w.heap.size + 1, 1, none⟩) (by simp)
  simp [go_sem] at k3 k4 k5 k6
  have BW := bel_call (bel_alloc (bel_alloc (Below.refl _ _) _) _) hb1
  obtain ⟨z0, z1⟩ := res2 (W := w1) (b := w.heap.size + 1) (.int .i64 0) (.int .i64 0) k3 k4
  go_wp2
  refine bodyPost_ret (v := .tuple #[.agg #[.int .i64 0, .int .i64 0], .bool false]) (by simp [results, Try.results22, go_sem, z0, z1]) rfl ⟨rfl, ?_⟩
  exact (BW.setCell (p := ⟨w.heap.size + 1, 0, none⟩) (by simp) _).setCell (p := ⟨w.heap.size + 1, 1, none⟩) (by simp) _
set_option maxHeartbeats 800000 in
theorem rnext_fwd (G : Grid) (r c : Int) (w : World) (h : G.In w.heap.size w) (hok : G.Ok) : Fn w 22 #[G.v, .agg #[.int .i64 r, .int .i64 c], .bool false] (foundPos G (nextOf G 1 0 r c)) := by
  have HC : ∀ W, Below w.heap.size w W → Fn W 17 #[G.v] (.bool true) := fun W hW => by
    have := right_any G W (h.later hW hW.size)
    rwa [okB_yes hok] at this
  have HT : ∀ W, Below w.heap.size w W → Fn W 10 #[G.v, .agg #[.int .i64 r, .int .i64 c]] (.bool (G.thereB r c)) := fun W hW => by
    have := rthere_any G r c W (h.later hW hW.size)
    rwa [okB_yes hok, Bool.true_and] at this
  have HO : ∀ (r' c' : Nat) W, Below w.heap.size w W → r' < G.n → c' < G.len 0 → Fn W 25 #[G.v, .agg #[.int .i64 (r' : Int), .int .i64 (c' : Int)]] (.bool (!G.gd r' c')) := fun r' c' W hW h1 h2 => ropen_yes G r' c' W (h.later hW hW.size) hok ⟨by omega, by omega, by omega, by omega⟩
  obtain ⟨n1, n2, hgood⟩ := id hok
  obtain ⟨m1, m2, _⟩ := hgood 0 n1
  have hA1 : 1 ≤ G.n * G.len 0 := Nat.mul_pos n1 m1
  have hAle : G.n * G.len 0 ≤ 255 * 255 := Nat.mul_le_mul n2 m2
  have hb := num_bd G hok _ rfl r c 0 (by omega) (by omega)
  have e : nextOf G 1 0 r c = (orbit (G.n * G.len 0 : Nat) 1 (G.num r c 0) (G.n * G.len 0)).find? (openN G) := by simp [nextOf, okB_yes hok]
  rw [e]
  -- where it begins
  have hstart : ∃ r0 c0 : Nat, r0 < G.n ∧ c0 < G.len 0 ∧ G.num r c 0 = ((r0 * G.len 0 + c0 : Nat) : Int) ∧ (G.thereB r c = true → r = r0 ∧ c = c0) ∧ (G.thereB r c = false → r0 = 0 ∧ c0 = 0) := by
    by_cases ht : G.thereB r c = true
    · obtain ⟨a, b, c', d⟩ := thereB_iff.1 ht
      obtain ⟨r0, rfl⟩ := Int.eq_ofNat_of_zero_le a
      obtain ⟨c0, rfl⟩ := Int.eq_ofNat_of_zero_le c'
      refine ⟨r0, c0, by omega, by omega, ?_, fun _ => ⟨rfl, rfl⟩, fun e => by rw [ht] at e; cases e⟩
      unfold Grid.num
      rw [if_pos ht]
      simp
    · have hf : G.thereB r c = false := by simpa using ht
      refine ⟨0, 0, by omega, by omega, ?_, fun e => absurd e ht, fun _ => ⟨rfl, rfl⟩⟩
      unfold Grid.num
      rw [if_neg ht]
      simp
  obtain ⟨r0, c0, hr0, hc0, hs, hs1, hs2⟩ := hstart
  rw [hs] at hb ⊢
  have hfin : ∀ k, k < G.n * G.len 0 → (∀ j, j < k → openN G (posOf (G.n * G.len 0 : Nat) 1 ((r0 * G.len 0 + c0 : Nat) : Int) j) = false) → openN G (posOf (G.n * G.len 0 : Nat) 1 ((r0 * G.len 0 + c0 : Nat) : Int) k) = true →
      (orbit (G.n * G.len 0 : Nat) 1 ((r0 * G.len 0 + c0 : Nat) : Int) (G.n * G.len 0)).find? (openN G) = some (posOf (G.n * G.len 0 : Nat) 1 ((r0 * G.len 0 + c0 : Nat) : Int) k) := fun k hk hno hy => by
    obtain ⟨t, ht⟩ := orbit_prefix (A := (G.n * G.len 0 : Nat)) (st := 1) (s := ((r0 * G.len 0 + c0 : Nat) : Int)) (show k + 1 ≤ G.n * G.len 0 by omega)
    rw [ht, orbit_succ]
    exact find_some (fun p hp => by obtain ⟨j, hj, rfl⟩ := List.mem_map.1 hp; exact hno j (List.mem_range.1 hj)) hy
  have hend : (∀ j, j < G.n * G.len 0 → openN G (posOf (G.n * G.len 0 : Nat) 1 ((r0 * G.len 0 + c0 : Nat) : Int) j) = false) → (orbit (G.n * G.len 0 : Nat) 1 ((r0 * G.len 0 + c0 : Nat) : Int) (G.n * G.len 0)).find? (openN G) = none := fun hno =>
    find_none (fun p hp => by obtain ⟨j, hj, rfl⟩ := List.mem_map.1 hp; exact hno j (List.mem_range.1 hj))
  have hnext : ∀ k, posOf (G.n * G.len 0 : Nat) 1 ((r0 * G.len 0 + c0 : Nat) : Int) (k + 1) = (posOf (G.n * G.len 0 : Nat) 1 ((r0 * G.len 0 + c0 : Nat) : Int) k + 1 + (G.n * G.len 0 : Nat)).tmod (G.n * G.len 0 : Nat) := fun k => rfl
  have hzero : posOf (G.n * G.len 0 : Nat) 1 ((r0 * G.len 0 + c0 : Nat) : Int) 0 = ((r0 * G.len 0 + c0 : Nat) : Int) := rfl
  obtain ⟨V, hV⟩ : ∃ V, foundPos G ((orbit (G.n * G.len 0 : Nat) 1 ((r0 * G.len 0 + c0 : Nat) : Int) (G.n * G.len 0)).find? (openN G)) = V := ⟨_, rfl⟩
  rw [hV]
  have hfinV : ∀ k, k < G.n * G.len 0 → (∀ j, j < k → openN G (posOf (G.n * G.len 0 : Nat) 1 ((r0 * G.len 0 + c0 : Nat) : Int) j) = false) → openN G (posOf (G.n * G.len 0 : Nat) 1 ((r0 * G.len 0 + c0 : Nat) : Int) k) = true → V = foundPos G (some (posOf (G.n * G.len 0 : Nat) 1 ((r0 * G.len 0 + c0 : Nat) : Int) k)) := fun k a b c => by rw [← hV, hfin k a b c]
  have hendV : (∀ j, j < G.n * G.len 0 → openN G (posOf (G.n * G.len 0 : Nat) 1 ((r0 * G.len 0 + c0 : Nat) : Int) j) = false) → V = foundPos G none := fun a => by rw [← hV, hend a]
  clear hV hfin hend
  generalize hp : posOf (G.n * G.len 0 : Nat) 1 ((r0 * G.len 0 + c0 : Nat) : Int) = P at *
  unfold Fn at *
  unfold Grid.v at *
  obtain ⟨b, off, ea, hbb, hcr⟩ := h.rows n1
  obtain ⟨rb, ro, er, hrb, hcc⟩ := h.cells 0 n1 (by omega)
  have cr := hcr 0 n1
  rw [er, Nat.add_zero] at cr
  have crA := Lib.hid (show ∀ W, Below w.heap.size w W → W.cell? ⟨b, off, none⟩ = some (.slice (some ⟨rb, ro, none⟩) (G.len 0) (G.rc 0)) from fun W hW => (hW.cell (p := ⟨b, off, none⟩) hbb).trans cr)
  rw [ea] at HC HT HO ⊢
  have HC' := Lib.hid HC
  have HT' := Lib.hid HT
  have HO' := Lib.hid HO
  have Hfin := Lib.hid hfinV
  have Hend := Lib.hid hendV
  have Hnext := Lib.hid hnext
  have Hzero := Lib.hid hzero
  have HAle := Lib.hid hAle
  have hmul : IntKind.i64.wrap ((G.n : Int) * (G.len 0 : Int)) = ((G.n * G.len 0 : Nat) : Int) := by
    rw [← Int.natCast_mul]
    exact IntWalk.i64_in _ (by omega)
  clear HC HT HO h hok ea hcr hcc er hrb hbb cr hgood hfinV hendV hnext hzero e hs hb hAle hp
  obtain ⟨A, hA⟩ : ∃ A, G.n * G.len 0 = A := ⟨_, rfl⟩
  rw [hA] at hmul hA1
  have HA := Lib.hid hA
  have HAb := Lib.hid (show A ≤ 65025 by have := HAle.out; rw [hA] at this; exact this)
  clear hA
  have n0 : 0 < G.n := n1
  have n0' : (0 : Int) < (G.n : Int) := by omega
  have p1 : IntKind.i64.wrap ((G.n : Int) - 1) = (G.n : Int) - 1 := IntWalk.i64_in _ (by omega)
  have p2 : IntKind.i64.wrap ((G.len 0 : Int) - 1) = (G.len 0 : Int) - 1 := IntWalk.i64_in _ (by omega)
  go_enter Try.func22, Try.ntmps22
  go_wp2_with fail
  refine (HC'.out _ (bel_alloc (bel_alloc (Below.refl _ _) _) _)).mono ?_
  rintro e w1 ⟨rfl, hb1⟩
  have B1 := bel_call (bel_alloc (bel_alloc (Below.refl _ _) _) _) hb1
  have hz : w.heap.size + 1 < w1.heap.size := by have := hb1.size; simp at this; omega
  have k0 := hb1.cell (p := ⟨w.heap.size, 0, none⟩) (by simp; omega)
  have k1 := hb1.cell (p := ⟨w.heap.size, 1, none⟩) (by simp; omega)
  have k2 := hb1.cell (p := ⟨w.heap.size + 1, 0, none⟩) (by simp)
  have k3 := hb1.cell (p := ⟨w.heap.size + 1, 1, none⟩) (by simp)
  have k4 := hb1.frozen (p := ⟨w.heap.size + 1, 0, none⟩) (by simp)
  have k5 := hb1.frozen (p := ⟨w.heap.size + 1, 1, none⟩) (by simp)
  simp [go_sem] at k0 k1 k2 k3 k4 k5
  have cr := crA.out _ B1
  have hl0 : w.heap.size < w1.heap.size := by omega
  have K := Lib.hid (show _ ∧ _ ∧ _ ∧ _ ∧ _ from ⟨k2, k3, k4, k5, hz⟩)
  clear k2 k3 k4 k5 hz hb1
  go_wp2_with fail
  obtain ⟨w2, hw2⟩ : ∃ w2, (w1.alloc (.cells #[.int .i64 ((G.n : Int) - 1), .int .i64 ((G.len 0 : Int) - 1)] 24)).alloc (.cells #[.int .i64 r, .int .i64 c] 24) = w2 := ⟨_, rfl⟩
  have b2 : Below w1.heap.size w1 w2 := by rw [← hw2]; exact bel_alloc (bel_alloc (Below.refl _ _) _) _
  have hs2' : w2.heap.size = w1.heap.size + 2 := by rw [← hw2]; simp
  have l0 : w2.cell? ⟨w1.heap.size, 0, none⟩ = some (.int .i64 ((G.n : Int) - 1)) := by rw [← hw2]; simp [go_sem]
  have l1 : w2.cell? ⟨w1.heap.size, 1, none⟩ = some (.int .i64 ((G.len 0 : Int) - 1)) := by rw [← hw2]; simp [go_sem]
  have t0 : w2.cell? ⟨w1.heap.size + 1, 0, none⟩ = some (.int .i64 r) := by rw [← hw2]; simp [go_sem]
  have t1 : w2.cell? ⟨w1.heap.size + 1, 1, none⟩ = some (.int .i64 c) := by rw [← hw2]; simp [go_sem]
  have t2 : w2.frozen? ⟨w1.heap.size + 1, 0, none⟩ = false := by rw [← hw2]; simp [go_sem]
  have t3 : w2.frozen? ⟨w1.heap.size + 1, 1, none⟩ = false := by rw [← hw2]; simp [go_sem]
  rw [hw2]
  clear hw2 k0 k1 cr hl0
  refine (HT'.out _ (bel_call B1 b2)).mono ?_
  rintro e w3 ⟨rfl, hb3⟩
  have b3 : Below w1.heap.size w1 w3 := b2.trans (hb3.mono (by omega))
  have hz3 : w1.heap.size + 1 < w3.heap.size := by have := hb3.size; omega
  have l0' := (hb3.cell (p := ⟨w1.heap.size, 0, none⟩) (by simp; omega)).trans l0
  have l1' := (hb3.cell (p := ⟨w1.heap.size, 1, none⟩) (by simp; omega)).trans l1
  have t0' := (hb3.cell (p := ⟨w1.heap.size + 1, 0, none⟩) (by simp; omega)).trans t0
  have t1' := (hb3.cell (p := ⟨w1.heap.size + 1, 1, none⟩) (by simp; omega)).trans t1
  have t2' := (hb3.frozen (p := ⟨w1.heap.size + 1, 0, none⟩) (by simp; omega)).trans t2
  have t3' := (hb3.frozen (p := ⟨w1.heap.size + 1, 1, none⟩) (by simp; omega)).trans t3
  clear l0 l1 t0 t1 t2 t3 hb3 hs2'
  -- what the loop begins with: in w4 the place r0, c0 stands in t9
  have KB := Lib.hid (show ∀ W, Below (w1.heap.size + 1) w3 W → (W.cell? ⟨w1.heap.size, 0, none⟩ = some (.int .i64 ((G.n : Int) - 1)) ∧ W.cell? ⟨w1.heap.size, 1, none⟩ = some (.int .i64 ((G.len 0 : Int) - 1))) ∧ (W.cell? ⟨w.heap.size + 1, 0, none⟩ = some (.int .i64 0) ∧ W.cell? ⟨w.heap.size + 1, 1, none⟩ = some (.int .i64 0) ∧ W.frozen? ⟨w.heap.size + 1, 0, none⟩ = false ∧ W.frozen? ⟨w.heap.size + 1, 1, none⟩ = false) ∧ Below w.heap.size w W ∧ W.cell? ⟨b, off, none⟩ = some (.slice (some ⟨rb, ro, none⟩) (G.len 0) (G.rc 0)) from fun W hW => by
    obtain ⟨k2, k3, k4, k5, hz⟩ := K.out
    have b13 : Below w1.heap.size w1 W := b3.trans (hW.mono (by omega))
    exact ⟨⟨(hW.cell (p := ⟨w1.heap.size, 0, none⟩) (by simp)).trans l0', (hW.cell (p := ⟨w1.heap.size, 1, none⟩) (by simp)).trans l1'⟩, ⟨(b13.cell (p := ⟨w.heap.size + 1, 0, none⟩) hz).trans k2, (b13.cell (p := ⟨w.heap.size + 1, 1, none⟩) hz).trans k3, (b13.frozen (p := ⟨w.heap.size + 1, 0, none⟩) hz).trans k4, (b13.frozen (p := ⟨w.heap.size + 1, 1, none⟩) hz).trans k5⟩, bel_call B1 b13, crA.out _ (bel_call B1 b13)⟩)
  cases ht : G.thereB r c with
  | true =>
    obtain ⟨rfl, rfl⟩ := hs1 ht
    have b4 : Below (w1.heap.size + 1) w3 w3 := Below.refl _ _
    have hz4 := hz3
    have S4 := Lib.hid (show _ ∧ _ ∧ _ ∧ _ from ⟨t0', t1', t2', t3'⟩)
    clear l0' l1' t0' t1' t2' t3' hs1 hs2 ht hz3 b3 b2
    go_wp2_with fail
    go_loopw [10] (fun i wr => ∃ k r' c' : Nat, k ≤ A ∧ i = .int .i64 (k : Int) ∧ r' < G.n ∧ c' < G.len 0 ∧ P k = ((r' * G.len 0 + c' : Nat) : Int) ∧ (∀ j, j < k → openN G (P j) = false) ∧
      (wr.cell? ⟨w1.heap.size + 1, 0, none⟩ = some (.int .i64 (r' : Int)) ∧ wr.cell? ⟨w1.heap.size + 1, 1, none⟩ = some (.int .i64 (c' : Int)) ∧ wr.frozen? ⟨w1.heap.size + 1, 0, none⟩ = false ∧ wr.frozen? ⟨w1.heap.size + 1, 1, none⟩ = false) ∧ Below (w1.heap.size + 1) w3 wr ∧ w1.heap.size + 1 < wr.heap.size) (fun i _ => A - (intOf i).toNat)
    case atStart => exact ⟨0, _, _, Nat.zero_le _, rfl, hr0, hc0, Hzero.out, fun j h => absurd h (Nat.not_lt_zero j), S4.out, b4, hz4⟩
    case round =>
      obtain ⟨k, r', c', hk, rfl, hr', hc', hP, hno, ⟨s0, s1, s2, s3⟩, hbr, hlt⟩ := hrel
      have hAb := HAb.out
      obtain ⟨⟨u0, u1⟩, ⟨v0, v1, v2, v3⟩, Br, cr⟩ := KB.out _ hbr
      have HP := Lib.hid hP
      have Hno := Lib.hid hno
      have Hbr := Lib.hid hbr
      have HBr := Lib.hid Br
      have Hlt := Lib.hid hlt
      have HV := Lib.hid (show _ ∧ _ ∧ _ ∧ _ from ⟨v0, v1, v2, v3⟩)
      clear hP hno hbr Br hlt v0 v1 v2 v3 S4 b4 hz4
      by_cases hkA : k < A
      · have q1 : (k : Int) < (A : Int) := by omega
        have HOc := Lib.hid (HO'.out r' c' wr HBr.out hr' hc')
        cases hg : G.gd r' c' with
        | false =>
          rw [hg] at HOc
          simp only [Bool.not_false] at HOc
          have hres : V = .tuple #[.agg #[.int .i64 (r' : Int), .int .i64 (c' : Int)], .bool true] := by
            have e1 : openN G (P k) = true := by rw [HP.out, openN_at hc', hg]; rfl
            rw [Hfin.out k (by rw [HA.out]; exact hkA) Hno.out e1, HP.out, found_at hc']
          have Hres := Lib.hid hres
          clear hres hg
          go_wp2_with fail
          refine HOc.out.mono ?_
          rintro e w5 ⟨rfl, hb5⟩
          have b5 := Hbr.out.trans (hb5.mono (by have := Hlt.out; omega))
          have z0 := (hb5.cell (p := ⟨w1.heap.size + 1, 0, none⟩) Hlt.out).trans s0
          have z1 := (hb5.cell (p := ⟨w1.heap.size + 1, 1, none⟩) Hlt.out).trans s1
          clear s0 s1 s2 s3 u0 u1 cr
          obtain ⟨-, ⟨v0, v1, v2, v3⟩, Br5, -⟩ := KB.out _ b5
          obtain ⟨x0, x1⟩ := res2 (W := w5) (b := w.heap.size + 1) (.int .i64 (r' : Int)) (.int .i64 (c' : Int)) v0 v1
          go_wp2
          refine bodyPost_ret (v := .tuple #[.agg #[.int .i64 (r' : Int), .int .i64 (c' : Int)], .bool true]) (by simp [results, Try.results22, go_sem, x0, x1]) rfl ⟨by rw [Hres.out], ?_⟩
          exact (Br5.setCell (p := ⟨w.heap.size + 1, 0, none⟩) (by simp) _).setCell (p := ⟨w.heap.size + 1, 1, none⟩) (by simp) _
        | true =>
          rw [hg] at HOc
          simp only [Bool.not_true] at HOc
          have hno' : ∀ j, j < k + 1 → openN G (P j) = false := fun j hj => by
            by_cases e : j = k
            · subst e; rw [HP.out, openN_at hc', hg]; rfl
            · exact Hno.out j (by omega)
          have Hno' := Lib.hid hno'
          clear hno' hg
          have hnx := Hnext.out k
          rw [HP.out, HA.out] at hnx
          have hat : r' * G.len 0 + c' < A := by rw [← HA.out]; exact at_lt hr' hc'
          by_cases h1 : c' + 1 < G.len 0
          · have g1 : ¬ (G.len 0 : Int) - 1 < (c' : Int) + 1 := by omega
            have g1' : (c' : Int) + 1 ≤ (G.len 0 : Int) - 1 := by omega
            have g2 : ¬ (G.n : Int) - 1 < (r' : Int) := by omega
            have hP' : P (k + 1) = (((r') * G.len 0 + (c' + 1) : Nat) : Int) := by
              rw [hnx]
              have h3 := at_lt (n := G.n) hr' h1
              rw [HA.out] at h3
              exact tmod_1 (by omega) (by omega) (by omega)
            have HP' := Lib.hid hP'
            clear hP' hnx
            go_wp2_with fail
            refine HOc.out.mono ?_
            rintro e w5 ⟨rfl, hb5⟩
            have b5 := Hbr.out.trans (hb5.mono (by have := Hlt.out; omega))
            have hz5 := Nat.lt_of_lt_of_le Hlt.out hb5.size
            have z0 := (hb5.cell (p := ⟨w1.heap.size + 1, 0, none⟩) Hlt.out).trans s0
            have z1 := (hb5.cell (p := ⟨w1.heap.size + 1, 1, none⟩) Hlt.out).trans s1
            have z2 := (hb5.frozen (p := ⟨w1.heap.size + 1, 0, none⟩) Hlt.out).trans s2
            have z3 := (hb5.frozen (p := ⟨w1.heap.size + 1, 1, none⟩) Hlt.out).trans s3
            clear s0 s1 s2 s3 u0 u1 cr
            obtain ⟨⟨u0, u1⟩, -, -, -⟩ := KB.out _ b5
            have hnn : ∀ i j : Nat, i ≠ j → (⟨w1.heap.size + 1, i, none⟩ : Addr) ≠ ⟨w1.heap.size + 1, j, none⟩ := fun i j h e => h (by cases e; rfl)
            obtain ⟨wa0, ha0⟩ : ∃ wa, w5.setCell ⟨w1.heap.size + 1, 1, none⟩ (.int .i64 ((c' : Int) + 1)) = wa := ⟨_, rfl⟩
            have e0_1 : wa0.cell? ⟨w1.heap.size + 1, 1, none⟩ = some (.int .i64 ((c' : Int) + 1)) := by rw [← ha0]; exact World.cell?_setCell_same' _ _ _ (by rw [z1]; rfl)
            have e0_0 : wa0.cell? ⟨w1.heap.size + 1, 0, none⟩ = some (.int .i64 (r' : Int)) := by rw [← ha0, World.cell?_setCell_other _ _ _ _ (hnn 1 0 (by decide))]; exact z0
            have f0_0 : wa0.frozen? ⟨w1.heap.size + 1, 0, none⟩ = false := by rw [← ha0]; simp [go_sem, z2]
            have f0_1 : wa0.frozen? ⟨w1.heap.size + 1, 1, none⟩ = false := by rw [← ha0]; simp [go_sem, z3]
            have b0_a : Below (w1.heap.size + 1) w3 wa0 := by rw [← ha0]; exact b5.setCell (p := ⟨w1.heap.size + 1, 1, none⟩) (Nat.le_refl _) _
            have hz0_a : w1.heap.size + 1 < wa0.heap.size := by rw [← ha0]; simpa [World.setCell] using hz5
            obtain ⟨⟨u0_0, u1_0⟩, -, -, -⟩ := KB.out _ b0_a
            go_wp2_with fail
            go_roundw
            case rel => exact ⟨k + 1, r', c' + 1, by omega, by go_num, by omega, by omega, HP'.out, Hno'.out, ⟨by rw [e0_0]; try go_num, by rw [e0_1]; try go_num, f0_0, f0_1⟩, b0_a, hz0_a⟩
            case measure => simp [intOf]; omega
          · by_cases h2 : r' + 1 < G.n
            · have g1 : (G.len 0 : Int) - 1 < (c' : Int) + 1 := by omega
              have g2 : ¬ (G.n : Int) - 1 < (r' : Int) + 1 := by omega
              have hP' : P (k + 1) = (((r' + 1) * G.len 0 + (0) : Nat) : Int) := by
                rw [hnx]
                have h3 := at_lt (n := G.n) (M := G.len 0) (c := 0) h2 (by omega)
                rw [HA.out] at h3
                have h4 : (r' + 1) * G.len 0 + 0 = r' * G.len 0 + c' + 1 := by rw [Nat.add_mul]; omega
                exact tmod_1 (by omega) (by omega) (by omega)
              have HP' := Lib.hid hP'
              clear hP' hnx
              go_wp2_with fail
              refine HOc.out.mono ?_
              rintro e w5 ⟨rfl, hb5⟩
              have b5 := Hbr.out.trans (hb5.mono (by have := Hlt.out; omega))
              have hz5 := Nat.lt_of_lt_of_le Hlt.out hb5.size
              have z0 := (hb5.cell (p := ⟨w1.heap.size + 1, 0, none⟩) Hlt.out).trans s0
              have z1 := (hb5.cell (p := ⟨w1.heap.size + 1, 1, none⟩) Hlt.out).trans s1
              have z2 := (hb5.frozen (p := ⟨w1.heap.size + 1, 0, none⟩) Hlt.out).trans s2
              have z3 := (hb5.frozen (p := ⟨w1.heap.size + 1, 1, none⟩) Hlt.out).trans s3
              clear s0 s1 s2 s3 u0 u1 cr
              obtain ⟨⟨u0, u1⟩, -, -, -⟩ := KB.out _ b5
              have hnn : ∀ i j : Nat, i ≠ j → (⟨w1.heap.size + 1, i, none⟩ : Addr) ≠ ⟨w1.heap.size + 1, j, none⟩ := fun i j h e => h (by cases e; rfl)
              obtain ⟨wa0, ha0⟩ : ∃ wa, w5.setCell ⟨w1.heap.size + 1, 1, none⟩ (.int .i64 ((c' : Int) + 1)) = wa := ⟨_, rfl⟩
              have e0_1 : wa0.cell? ⟨w1.heap.size + 1, 1, none⟩ = some (.int .i64 ((c' : Int) + 1)) := by rw [← ha0]; exact World.cell?_setCell_same' _ _ _ (by rw [z1]; rfl)
              have e0_0 : wa0.cell? ⟨w1.heap.size + 1, 0, none⟩ = some (.int .i64 (r' : Int)) := by rw [← ha0, World.cell?_setCell_other _ _ _ _ (hnn 1 0 (by decide))]; exact z0
              have f0_0 : wa0.frozen? ⟨w1.heap.size + 1, 0, none⟩ = false := by rw [← ha0]; simp [go_sem, z2]
              have f0_1 : wa0.frozen? ⟨w1.heap.size + 1, 1, none⟩ = false := by rw [← ha0]; simp [go_sem, z3]
              have b0_a : Below (w1.heap.size + 1) w3 wa0 := by rw [← ha0]; exact b5.setCell (p := ⟨w1.heap.size + 1, 1, none⟩) (Nat.le_refl _) _
              have hz0_a : w1.heap.size + 1 < wa0.heap.size := by rw [← ha0]; simpa [World.setCell] using hz5
              obtain ⟨⟨u0_0, u1_0⟩, -, -, -⟩ := KB.out _ b0_a
              obtain ⟨wa1, ha1⟩ : ∃ wa, wa0.setCell ⟨w1.heap.size + 1, 1, none⟩ (.int .i64 0) = wa := ⟨_, rfl⟩
              have e1_1 : wa1.cell? ⟨w1.heap.size + 1, 1, none⟩ = some (.int .i64 0) := by rw [← ha1]; exact World.cell?_setCell_same' _ _ _ (by rw [e0_1]; rfl)
              have e1_0 : wa1.cell? ⟨w1.heap.size + 1, 0, none⟩ = some (.int .i64 (r' : Int)) := by rw [← ha1, World.cell?_setCell_other _ _ _ _ (hnn 1 0 (by decide))]; exact e0_0
              have f1_0 : wa1.frozen? ⟨w1.heap.size + 1, 0, none⟩ = false := by rw [← ha1]; simp [go_sem, f0_0]
              have f1_1 : wa1.frozen? ⟨w1.heap.size + 1, 1, none⟩ = false := by rw [← ha1]; simp [go_sem, f0_1]
              have b1_a : Below (w1.heap.size + 1) w3 wa1 := by rw [← ha1]; exact b0_a.setCell (p := ⟨w1.heap.size + 1, 1, none⟩) (Nat.le_refl _) _
              have hz1_a : w1.heap.size + 1 < wa1.heap.size := by rw [← ha1]; simpa [World.setCell] using hz0_a
              obtain ⟨⟨u0_1, u1_1⟩, -, -, -⟩ := KB.out _ b1_a
              obtain ⟨wa2, ha2⟩ : ∃ wa, wa1.setCell ⟨w1.heap.size + 1, 0, none⟩ (.int .i64 ((r' : Int) + 1)) = wa := ⟨_, rfl⟩
              have e2_0 : wa2.cell? ⟨w1.heap.size + 1, 0, none⟩ = some (.int .i64 ((r' : Int) + 1)) := by rw [← ha2]; exact World.cell?_setCell_same' _ _ _ (by rw [e1_0]; rfl)
              have e2_1 : wa2.cell? ⟨w1.heap.size + 1, 1, none⟩ = some (.int .i64 0) := by rw [← ha2, World.cell?_setCell_other _ _ _ _ (hnn 0 1 (by decide))]; exact e1_1
              have f2_0 : wa2.frozen? ⟨w1.heap.size + 1, 0, none⟩ = false := by rw [← ha2]; simp [go_sem, f1_0]
              have f2_1 : wa2.frozen? ⟨w1.heap.size + 1, 1, none⟩ = false := by rw [← ha2]; simp [go_sem, f1_1]
              have b2_a : Below (w1.heap.size + 1) w3 wa2 := by rw [← ha2]; exact b1_a.setCell (p := ⟨w1.heap.size + 1, 0, none⟩) (Nat.le_refl _) _
              have hz2_a : w1.heap.size + 1 < wa2.heap.size := by rw [← ha2]; simpa [World.setCell] using hz1_a
              obtain ⟨⟨u0_2, u1_2⟩, -, -, -⟩ := KB.out _ b2_a
              go_wp2_with fail
              go_roundw
              case rel => exact ⟨k + 1, r' + 1, 0, by omega, by go_num, by omega, by omega, HP'.out, Hno'.out, ⟨by rw [e2_0]; try go_num, by rw [e2_1]; try go_num, f2_0, f2_1⟩, b2_a, hz2_a⟩
              case measure => simp [intOf]; omega
            · have g1 : (G.len 0 : Int) - 1 < (c' : Int) + 1 := by omega
              have g2 : (G.n : Int) - 1 < (r' : Int) + 1 := by omega
              have hP' : P (k + 1) = (((0) * G.len 0 + (0) : Nat) : Int) := by
                rw [hnx]
                have h4 : (r' + 1) * G.len 0 = A := by rw [show r' + 1 = G.n by omega]; exact HA.out
                rw [Nat.add_mul] at h4
                rw [show (((0 * G.len 0 + 0 : Nat)) : Int) = 0 by simp]
                exact tmod_2 (by omega) (by omega)
              have HP' := Lib.hid hP'
              clear hP' hnx
              go_wp2_with fail
              refine HOc.out.mono ?_
              rintro e w5 ⟨rfl, hb5⟩
              have b5 := Hbr.out.trans (hb5.mono (by have := Hlt.out; omega))
              have hz5 := Nat.lt_of_lt_of_le Hlt.out hb5.size
              have z0 := (hb5.cell (p := ⟨w1.heap.size + 1, 0, none⟩) Hlt.out).trans s0
              have z1 := (hb5.cell (p := ⟨w1.heap.size + 1, 1, none⟩) Hlt.out).trans s1
              have z2 := (hb5.frozen (p := ⟨w1.heap.size + 1, 0, none⟩) Hlt.out).trans s2
              have z3 := (hb5.frozen (p := ⟨w1.heap.size + 1, 1, none⟩) Hlt.out).trans s3
              clear s0 s1 s2 s3 u0 u1 cr
              obtain ⟨⟨u0, u1⟩, -, -, -⟩ := KB.out _ b5
              have hnn : ∀ i j : Nat, i ≠ j → (⟨w1.heap.size + 1, i, none⟩ : Addr) ≠ ⟨w1.heap.size + 1, j, none⟩ := fun i j h e => h (by cases e; rfl)
              obtain ⟨wa0, ha0⟩ : ∃ wa, w5.setCell ⟨w1.heap.size + 1, 1, none⟩ (.int .i64 ((c' : Int) + 1)) = wa := ⟨_, rfl⟩
              have e0_1 : wa0.cell? ⟨w1.heap.size + 1, 1, none⟩ = some (.int .i64 ((c' : Int) + 1)) := by rw [← ha0]; exact World.cell?_setCell_same' _ _ _ (by rw [z1]; rfl)
              have e0_0 : wa0.cell? ⟨w1.heap.size + 1, 0, none⟩ = some (.int .i64 (r' : Int)) := by rw [← ha0, World.cell?_setCell_other _ _ _ _ (hnn 1 0 (by decide))]; exact z0
              have f0_0 : wa0.frozen? ⟨w1.heap.size + 1, 0, none⟩ = false := by rw [← ha0]; simp [go_sem, z2]
              have f0_1 : wa0.frozen? ⟨w1.heap.size + 1, 1, none⟩ = false := by rw [← ha0]; simp [go_sem, z3]
              have b0_a : Below (w1.heap.size + 1) w3 wa0 := by rw [← ha0]; exact b5.setCell (p := ⟨w1.heap.size + 1, 1, none⟩) (Nat.le_refl _) _
              have hz0_a : w1.heap.size + 1 < wa0.heap.size := by rw [← ha0]; simpa [World.setCell] using hz5
              obtain ⟨⟨u0_0, u1_0⟩, -, -, -⟩ := KB.out _ b0_a
              obtain ⟨wa1, ha1⟩ : ∃ wa, wa0.setCell ⟨w1.heap.size + 1, 1, none⟩ (.int .i64 0) = wa := ⟨_, rfl⟩
              have e1_1 : wa1.cell? ⟨w1.heap.size + 1, 1, none⟩ = some (.int .i64 0) := by rw [← ha1]; exact World.cell?_setCell_same' _ _ _ (by rw [e0_1]; rfl)
              have e1_0 : wa1.cell? ⟨w1.heap.size + 1, 0, none⟩ = some (.int .i64 (r' : Int)) := by rw [← ha1, World.cell?_setCell_other _ _ _ _ (hnn 1 0 (by decide))]; exact e0_0
              have f1_0 : wa1.frozen? ⟨w1.heap.size + 1, 0, none⟩ = false := by rw [← ha1]; simp [go_sem, f0_0]
              have f1_1 : wa1.frozen? ⟨w1.heap.size + 1, 1, none⟩ = false := by rw [← ha1]; simp [go_sem, f0_1]
              have b1_a : Below (w1.heap.size + 1) w3 wa1 := by rw [← ha1]; exact b0_a.setCell (p := ⟨w1.heap.size + 1, 1, none⟩) (Nat.le_refl _) _
              have hz1_a : w1.heap.size + 1 < wa1.heap.size := by rw [← ha1]; simpa [World.setCell] using hz0_a
              obtain ⟨⟨u0_1, u1_1⟩, -, -, -⟩ := KB.out _ b1_a
              obtain ⟨wa2, ha2⟩ : ∃ wa, wa1.setCell ⟨w1.heap.size + 1, 0, none⟩ (.int .i64 ((r' : Int) + 1)) = wa := ⟨_, rfl⟩
              have e2_0 : wa2.cell? ⟨w1.heap.size + 1, 0, none⟩ = some (.int .i64 ((r' : Int) + 1)) := by rw [← ha2]; exact World.cell?_setCell_same' _ _ _ (by rw [e1_0]; rfl)
              have e2_1 : wa2.cell? ⟨w1.heap.size + 1, 1, none⟩ = some (.int .i64 0) := by rw [← ha2, World.cell?_setCell_other _ _ _ _ (hnn 0 1 (by decide))]; exact e1_1
              have f2_0 : wa2.frozen? ⟨w1.heap.size + 1, 0, none⟩ = false := by rw [← ha2]; simp [go_sem, f1_0]
              have f2_1 : wa2.frozen? ⟨w1.heap.size + 1, 1, none⟩ = false := by rw [← ha2]; simp [go_sem, f1_1]
              have b2_a : Below (w1.heap.size + 1) w3 wa2 := by rw [← ha2]; exact b1_a.setCell (p := ⟨w1.heap.size + 1, 0, none⟩) (Nat.le_refl _) _
              have hz2_a : w1.heap.size + 1 < wa2.heap.size := by rw [← ha2]; simpa [World.setCell] using hz1_a
              obtain ⟨⟨u0_2, u1_2⟩, -, -, -⟩ := KB.out _ b2_a
              obtain ⟨wa3, ha3⟩ : ∃ wa, wa2.setCell ⟨w1.heap.size + 1, 0, none⟩ (.int .i64 0) = wa := ⟨_, rfl⟩
              have e3_0 : wa3.cell? ⟨w1.heap.size + 1, 0, none⟩ = some (.int .i64 0) := by rw [← ha3]; exact World.cell?_setCell_same' _ _ _ (by rw [e2_0]; rfl)
              have e3_1 : wa3.cell? ⟨w1.heap.size + 1, 1, none⟩ = some (.int .i64 0) := by rw [← ha3, World.cell?_setCell_other _ _ _ _ (hnn 0 1 (by decide))]; exact e2_1
              have f3_0 : wa3.frozen? ⟨w1.heap.size + 1, 0, none⟩ = false := by rw [← ha3]; simp [go_sem, f2_0]
              have f3_1 : wa3.frozen? ⟨w1.heap.size + 1, 1, none⟩ = false := by rw [← ha3]; simp [go_sem, f2_1]
              have b3_a : Below (w1.heap.size + 1) w3 wa3 := by rw [← ha3]; exact b2_a.setCell (p := ⟨w1.heap.size + 1, 0, none⟩) (Nat.le_refl _) _
              have hz3_a : w1.heap.size + 1 < wa3.heap.size := by rw [← ha3]; simpa [World.setCell] using hz2_a
              obtain ⟨⟨u0_3, u1_3⟩, -, -, -⟩ := KB.out _ b3_a
              go_wp2_with fail
              go_roundw
              case rel => exact ⟨k + 1, 0, 0, by omega, by go_num, by omega, by omega, HP'.out, Hno'.out, ⟨by rw [e3_0]; try go_num, by rw [e3_1]; try go_num, f3_0, f3_1⟩, b3_a, hz3_a⟩
              case measure => simp [intOf]; omega
      · have q1 : ¬ (k : Int) < (A : Int) := by omega
        have hres : V = .tuple #[.agg #[.int .i64 0, .int .i64 0], .bool false] := by
          rw [Hend.out (fun j hj => Hno.out j (by rw [HA.out] at hj; omega))]; rfl
        have Hres := Lib.hid hres
        clear hres
        obtain ⟨v0, v1, v2, v3⟩ := HV.out
        obtain ⟨x0, x1⟩ := res2 (W := wr) (b := w.heap.size + 1) (.int .i64 0) (.int .i64 0) v0 v1
        go_wp2
        refine bodyPost_ret (v := .tuple #[.agg #[.int .i64 0, .int .i64 0], .bool false]) (by simp [results, Try.results22, go_sem, x0, x1]) rfl ⟨by rw [Hres.out], ?_⟩
        exact (HBr.out.setCell (p := ⟨w.heap.size + 1, 0, none⟩) (by simp) _).setCell (p := ⟨w.heap.size + 1, 1, none⟩) (by simp) _
  | false =>
    obtain ⟨rfl, rfl⟩ := hs2 ht
    obtain ⟨y0, y1⟩ := res2 (W := w3) (b := w1.heap.size + 1) (.int .i64 0) (.int .i64 0) t0' t1'
    obtain ⟨w4, hw4⟩ : ∃ w4, (w3.setCell ⟨w1.heap.size + 1, 0, none⟩ (.int .i64 0)).setCell ⟨w1.heap.size + 1, 1, none⟩ (.int .i64 0) = w4 := ⟨_, rfl⟩
    rw [hw4] at y0 y1
    have b4 : Below (w1.heap.size + 1) w3 w4 := by rw [← hw4]; exact ((Below.refl (w1.heap.size + 1) w3).setCell (p := ⟨w1.heap.size + 1, 0, none⟩) (Nat.le_refl _) _).setCell (p := ⟨w1.heap.size + 1, 1, none⟩) (Nat.le_refl _) _
    have hz4 : w1.heap.size + 1 < w4.heap.size := by rw [← hw4]; simpa [World.setCell] using hz3
    have y2 : w4.frozen? ⟨w1.heap.size + 1, 0, none⟩ = false := by rw [← hw4]; simp [go_sem, t2']
    have y3 : w4.frozen? ⟨w1.heap.size + 1, 1, none⟩ = false := by rw [← hw4]; simp [go_sem, t3']
    have S4 := Lib.hid (show w4.cell? ⟨w1.heap.size + 1, 0, none⟩ = some (.int .i64 ((0 : Nat) : Int)) ∧ w4.cell? ⟨w1.heap.size + 1, 1, none⟩ = some (.int .i64 ((0 : Nat) : Int)) ∧ w4.frozen? ⟨w1.heap.size + 1, 0, none⟩ = false ∧ w4.frozen? ⟨w1.heap.size + 1, 1, none⟩ = false from ⟨y0, y1, y2, y3⟩)
    go_wp2_with fail
    clear hw4 l0' l1' t0' t1' t2' t3' hs1 hs2 ht hz3 b3 b2 y0 y1 y2 y3
    go_loopw [10] (fun i wr => ∃ k r' c' : Nat, k ≤ A ∧ i = .int .i64 (k : Int) ∧ r' < G.n ∧ c' < G.len 0 ∧ P k = ((r' * G.len 0 + c' : Nat) : Int) ∧ (∀ j, j < k → openN G (P j) = false) ∧
      (wr.cell? ⟨w1.heap.size + 1, 0, none⟩ = some (.int .i64 (r' : Int)) ∧ wr.cell? ⟨w1.heap.size + 1, 1, none⟩ = some (.int .i64 (c' : Int)) ∧ wr.frozen? ⟨w1.heap.size + 1, 0, none⟩ = false ∧ wr.frozen? ⟨w1.heap.size + 1, 1, none⟩ = false) ∧ Below (w1.heap.size + 1) w3 wr ∧ w1.heap.size + 1 < wr.heap.size) (fun i _ => A - (intOf i).toNat)
    case atStart => exact ⟨0, _, _, Nat.zero_le _, rfl, hr0, hc0, Hzero.out, fun j h => absurd h (Nat.not_lt_zero j), S4.out, b4, hz4⟩
    case round =>
      obtain ⟨k, r', c', hk, rfl, hr', hc', hP, hno, ⟨s0, s1, s2, s3⟩, hbr, hlt⟩ := hrel
      have hAb := HAb.out
      obtain ⟨⟨u0, u1⟩, ⟨v0, v1, v2, v3⟩, Br, cr⟩ := KB.out _ hbr
      have HP := Lib.hid hP
      have Hno := Lib.hid hno
      have Hbr := Lib.hid hbr
      have HBr := Lib.hid Br
      have Hlt := Lib.hid hlt
      have HV := Lib.hid (show _ ∧ _ ∧ _ ∧ _ from ⟨v0, v1, v2, v3⟩)
      clear hP hno hbr Br hlt v0 v1 v2 v3 S4 b4 hz4
      by_cases hkA : k < A
      · have q1 : (k : Int) < (A : Int) := by omega
        have HOc := Lib.hid (HO'.out r' c' wr HBr.out hr' hc')
        cases hg : G.gd r' c' with
        | false =>
          rw [hg] at HOc
          simp only [Bool.not_false] at HOc
          have hres : V = .tuple #[.agg #[.int .i64 (r' : Int), .int .i64 (c' : Int)], .bool true] := by
            have e1 : openN G (P k) = true := by rw [HP.out, openN_at hc', hg]; rfl
            rw [Hfin.out k (by rw [HA.out]; exact hkA) Hno.out e1, HP.out, found_at hc']
          have Hres := Lib.hid hres
          clear hres hg
          go_wp2_with fail
          refine HOc.out.mono ?_
          rintro e w5 ⟨rfl, hb5⟩
          have b5 := Hbr.out.trans (hb5.mono (by have := Hlt.out; omega))
          have z0 := (hb5.cell (p := ⟨w1.heap.size + 1, 0, none⟩) Hlt.out).trans s0
          have z1 := (hb5.cell (p := ⟨w1.heap.size + 1, 1, none⟩) Hlt.out).trans s1
          clear s0 s1 s2 s3 u0 u1 cr
          obtain ⟨-, ⟨v0, v1, v2, v3⟩, Br5, -⟩ := KB.out _ b5
          obtain ⟨x0, x1⟩ := res2 (W := w5) (b := w.heap.size + 1) (.int .i64 (r' : Int)) (.int .i64 (c' : Int)) v0 v1
          go_wp2
          refine bodyPost_ret (v := .tuple #[.agg #[.int .i64 (r' : Int), .int .i64 (c' : Int)], .bool true]) (by simp [results, Try.results22, go_sem, x0, x1]) rfl ⟨by rw [Hres.out], ?_⟩
          exact (Br5.setCell (p := ⟨w.heap.size + 1, 0, none⟩) (by simp) _).setCell (p := ⟨w.heap.size + 1, 1, none⟩) (by simp) _
        | true =>
          rw [hg] at HOc
          simp only [Bool.not_true] at HOc
          have hno' : ∀ j, j < k + 1 → openN G (P j) = false := fun j hj => by
            by_cases e : j = k
            · subst e; rw [HP.out, openN_at hc', hg]; rfl
            · exact Hno.out j (by omega)
          have Hno' := Lib.hid hno'
          clear hno' hg
          have hnx := Hnext.out k
          rw [HP.out, HA.out] at hnx
          have hat : r' * G.len 0 + c' < A := by rw [← HA.out]; exact at_lt hr' hc'
          by_cases h1 : c' + 1 < G.len 0
          · have g1 : ¬ (G.len 0 : Int) - 1 < (c' : Int) + 1 := by omega
            have g1' : (c' : Int) + 1 ≤ (G.len 0 : Int) - 1 := by omega
            have g2 : ¬ (G.n : Int) - 1 < (r' : Int) := by omega
            have hP' : P (k + 1) = (((r') * G.len 0 + (c' + 1) : Nat) : Int) := by
              rw [hnx]
              have h3 := at_lt (n := G.n) hr' h1
              rw [HA.out] at h3
              exact tmod_1 (by omega) (by omega) (by omega)
            have HP' := Lib.hid hP'
            clear hP' hnx
            go_wp2_with fail
            refine HOc.out.mono ?_
            rintro e w5 ⟨rfl, hb5⟩
            have b5 := Hbr.out.trans (hb5.mono (by have := Hlt.out; omega))
            have hz5 := Nat.lt_of_lt_of_le Hlt.out hb5.size
            have z0 := (hb5.cell (p := ⟨w1.heap.size + 1, 0, none⟩) Hlt.out).trans s0
            have z1 := (hb5.cell (p := ⟨w1.heap.size + 1, 1, none⟩) Hlt.out).trans s1
            have z2 := (hb5.frozen (p := ⟨w1.heap.size + 1, 0, none⟩) Hlt.out).trans s2
            have z3 := (hb5.frozen (p := ⟨w1.heap.size + 1, 1, none⟩) Hlt.out).trans s3
            clear s0 s1 s2 s3 u0 u1 cr
            obtain ⟨⟨u0, u1⟩, -, -, -⟩ := KB.out _ b5
            have hnn : ∀ i j : Nat, i ≠ j → (⟨w1.heap.size + 1, i, none⟩ : Addr) ≠ ⟨w1.heap.size + 1, j, none⟩ := fun i j h e => h (by cases e; rfl)
            obtain ⟨wa0, ha0⟩ : ∃ wa, w5.setCell ⟨w1.heap.size + 1, 1, none⟩ (.int .i64 ((c' : Int) + 1)) = wa := ⟨_, rfl⟩
            have e0_1 : wa0.cell? ⟨w1.heap.size + 1, 1, none⟩ = some (.int .i64 ((c' : Int) + 1)) := by rw [← ha0]; exact World.cell?_setCell_same' _ _ _ (by rw [z1]; rfl)
            have e0_0 : wa0.cell? ⟨w1.heap.size + 1, 0, none⟩ = some (.int .i64 (r' : Int)) := by rw [← ha0, World.cell?_setCell_other _ _ _ _ (hnn 1 0 (by decide))]; exact z0
            have f0_0 : wa0.frozen? ⟨w1.heap.size + 1, 0, none⟩ = false := by rw [← ha0]; simp [go_sem, z2]
            have f0_1 : wa0.frozen? ⟨w1.heap.size + 1, 1, none⟩ = false := by rw [← ha0]; simp [go_sem, z3]
            have b0_a : Below (w1.heap.size + 1) w3 wa0 := by rw [← ha0]; exact b5.setCell (p := ⟨w1.heap.size + 1, 1, none⟩) (Nat.le_refl _) _
            have hz0_a : w1.heap.size + 1 < wa0.heap.size := by rw [← ha0]; simpa [World.setCell] using hz5
            obtain ⟨⟨u0_0, u1_0⟩, -, -, -⟩ := KB.out _ b0_a
            go_wp2_with fail
            go_roundw
            case rel => exact ⟨k + 1, r', c' + 1, by omega, by go_num, by omega, by omega, HP'.out, Hno'.out, ⟨by rw [e0_0]; try go_num, by rw [e0_1]; try go_num, f0_0, f0_1⟩, b0_a, hz0_a⟩
            case measure => simp [intOf]; omega
          · by_cases h2 : r' + 1 < G.n
            · have g1 : (G.len 0 : Int) - 1 < (c' : Int) + 1 := by omega
              have g2 : ¬ (G.n : Int) - 1 < (r' : Int) + 1 := by omega
              have hP' : P (k + 1) = (((r' + 1) * G.len 0 + (0) : Nat) : Int) := by
                rw [hnx]
                have h3 := at_lt (n := G.n) (M := G.len 0) (c := 0) h2 (by omega)
                rw [HA.out] at h3
                have h4 : (r' + 1) * G.len 0 + 0 = r' * G.len 0 + c' + 1 := by rw [Nat.add_mul]; omega
                exact tmod_1 (by omega) (by omega) (by omega)
              have HP' := Lib.hid hP'
              clear hP' hnx
              go_wp2_with fail
              refine HOc.out.mono ?_
              rintro e w5 ⟨rfl, hb5⟩
              have b5 := Hbr.out.trans (hb5.mono (by have := Hlt.out; omega))
              have hz5 := Nat.lt_of_lt_of_le Hlt.out hb5.size
              have z0 := (hb5.cell (p := ⟨w1.heap.size + 1, 0, none⟩) Hlt.out).trans s0
              have z1 := (hb5.cell (p := ⟨w1.heap.size + 1, 1, none⟩) Hlt.out).trans s1
              have z2 := (hb5.frozen (p := ⟨w1.heap.size + 1, 0, none⟩) Hlt.out).trans s2
              have z3 := (hb5.frozen (p := ⟨w1.heap.size + 1, 1, none⟩) Hlt.out).trans s3
              clear s0 s1 s2 s3 u0 u1 cr
              obtain ⟨⟨u0, u1⟩, -, -, -⟩ := KB.out _ b5
              have hnn : ∀ i j : Nat, i ≠ j → (⟨w1.heap.size + 1, i, none⟩ : Addr) ≠ ⟨w1.heap.size + 1, j, none⟩ := fun i j h e => h (by cases e; rfl)
              obtain ⟨wa0, ha0⟩ : ∃ wa, w5.setCell ⟨w1.heap.size + 1, 1, none⟩ (.int .i64 ((c' : Int) + 1)) = wa := ⟨_, rfl⟩
              have e0_1 : wa0.cell? ⟨w1.heap.size + 1, 1, none⟩ = some (.int .i64 ((c' : Int) + 1)) := by rw [← ha0]; exact World.cell?_setCell_same' _ _ _ (by rw [z1]; rfl)
              have e0_0 : wa0.cell? ⟨w1.heap.size + 1, 0, none⟩ = some (.int .i64 (r' : Int)) := by rw [← ha0, World.cell?_setCell_other _ _ _ _ (hnn 1 0 (by decide))]; exact z0
              have f0_0 : wa0.frozen? ⟨w1.heap.size + 1, 0, none⟩ = false := by rw [← ha0]; simp [go_sem, z2]
              have f0_1 : wa0.frozen? ⟨w1.heap.size + 1, 1, none⟩ = false := by rw [← ha0]; simp [go_sem, z3]
              have b0_a : Below (w1.heap.size + 1) w3 wa0 := by rw [← ha0]; exact b5.setCell (p := ⟨w1.heap.size + 1, 1, none⟩) (Nat.le_refl _) _
              have hz0_a : w1.heap.size + 1 < wa0.heap.size := by rw [← ha0]; simpa [World.setCell] using hz5
              obtain ⟨⟨u0_0, u1_0⟩, -, -, -⟩ := KB.out _ b0_a
              obtain ⟨wa1, ha1⟩ : ∃ wa, wa0.setCell ⟨w1.heap.size + 1, 1, none⟩ (.int .i64 0) = wa := ⟨_, rfl⟩
              have e1_1 : wa1.cell? ⟨w1.heap.size + 1, 1, none⟩ = some (.int .i64 0) := by rw [← ha1]; exact World.cell?_setCell_same' _ _ _ (by rw [e0_1]; rfl)
              have e1_0 : wa1.cell? ⟨w1.heap.size + 1, 0, none⟩ = some (.int .i64 (r' : Int)) := by rw [← ha1, World.cell?_setCell_other _ _ _ _ (hnn 1 0 (by decide))]; exact e0_0
              have f1_0 : wa1.frozen? ⟨w1.heap.size + 1, 0, none⟩ = false := by rw [← ha1]; simp [go_sem, f0_0]
              have f1_1 : wa1.frozen? ⟨w1.heap.size + 1, 1, none⟩ = false := by rw [← ha1]; simp [go_sem, f0_1]
              have b1_a : Below (w1.heap.size + 1) w3 wa1 := by rw [← ha1]; exact b0_a.setCell (p := ⟨w1.heap.size + 1, 1, none⟩) (Nat.le_refl _) _
              have hz1_a : w1.heap.size + 1 < wa1.heap.size := by rw [← ha1]; simpa [World.setCell] using hz0_a
              obtain ⟨⟨u0_1, u1_1⟩, -, -, -⟩ := KB.out _ b1_a
              obtain ⟨wa2, ha2⟩ : ∃ wa, wa1.setCell ⟨w1.heap.size + 1, 0, none⟩ (.int .i64 ((r' : Int) + 1)) = wa := ⟨_, rfl⟩
              have e2_0 : wa2.cell? ⟨w1.heap.size + 1, 0, none⟩ = some (.int .i64 ((r' : Int) + 1)) := by rw [← ha2]; exact World.cell?_setCell_same' _ _ _ (by rw [e1_0]; rfl)
              have e2_1 : wa2.cell? ⟨w1.heap.size + 1, 1, none⟩ = some (.int .i64 0) := by rw [← ha2, World.cell?_setCell_other _ _ _ _ (hnn 0 1 (by decide))]; exact e1_1
              have f2_0 : wa2.frozen? ⟨w1.heap.size + 1, 0, none⟩ = false := by rw [← ha2]; simp [go_sem, f1_0]
              have f2_1 : wa2.frozen? ⟨w1.heap.size + 1, 1, none⟩ = false := by rw [← ha2]; simp [go_sem, f1_1]
              have b2_a : Below (w1.heap.size + 1) w3 wa2 := by rw [← ha2]; exact b1_a.setCell (p := ⟨w1.heap.size + 1, 0, none⟩) (Nat.le_refl _) _
              have hz2_a : w1.heap.size + 1 < wa2.heap.size := by rw [← ha2]; simpa [World.setCell] using hz1_a
              obtain ⟨⟨u0_2, u1_2⟩, -, -, -⟩ := KB.out _ b2_a
              go_wp2_with fail
              go_roundw
              case rel => exact ⟨k + 1, r' + 1, 0, by omega, by go_num, by omega, by omega, HP'.out, Hno'.out, ⟨by rw [e2_0]; try go_num, by rw [e2_1]; try go_num, f2_0, f2_1⟩, b2_a, hz2_a⟩
              case measure => simp [intOf]; omega
            · have g1 : (G.len 0 : Int) - 1 < (c' : Int) + 1 := by omega
              have g2 : (G.n : Int) - 1 < (r' : Int) + 1 := by omega
              have hP' : P (k + 1) = (((0) * G.len 0 + (0) : Nat) : Int) := by
                rw [hnx]
                have h4 : (r' + 1) * G.len 0 = A := by rw [show r' + 1 = G.n by omega]; exact HA.out
                rw [Nat.add_mul] at h4
                rw [show (((0 * G.len 0 + 0 : Nat)) : Int) = 0 by simp]
                exact tmod_2 (by omega) (by omega)
              have HP' := Lib.hid hP'
              clear hP' hnx
              go_wp2_with fail
              refine HOc.out.mono ?_
              rintro e w5 ⟨rfl, hb5⟩
              have b5 := Hbr.out.trans (hb5.mono (by have := Hlt.out; omega))
              have hz5 := Nat.lt_of_lt_of_le Hlt.out hb5.size
              have z0 := (hb5.cell (p := ⟨w1.heap.size + 1, 0, none⟩) Hlt.out).trans s0
              have z1 := (hb5.cell (p := ⟨w1.heap.size + 1, 1, none⟩) Hlt.out).trans s1
              have z2 := (hb5.frozen (p := ⟨w1.heap.size + 1, 0, none⟩) Hlt.out).trans s2
              have z3 := (hb5.frozen (p := ⟨w1.heap.size + 1, 1, none⟩) Hlt.out).trans s3
              clear s0 s1 s2 s3 u0 u1 cr
              obtain ⟨⟨u0, u1⟩, -, -, -⟩ := KB.out _ b5
              have hnn : ∀ i j : Nat, i ≠ j → (⟨w1.heap.size + 1, i, none⟩ : Addr) ≠ ⟨w1.heap.size + 1, j, none⟩ := fun i j h e => h (by cases e; rfl)
              obtain ⟨wa0, ha0⟩ : ∃ wa, w5.setCell ⟨w1.heap.size + 1, 1, none⟩ (.int .i64 ((c' : Int) + 1)) = wa := ⟨_, rfl⟩
              have e0_1 : wa0.cell? ⟨w1.heap.size + 1, 1, none⟩ = some (.int .i64 ((c' : Int) + 1)) := by rw [← ha0]; exact World.cell?_setCell_same' _ _ _ (by rw [z1]; rfl)
              have e0_0 : wa0.cell? ⟨w1.heap.size + 1, 0, none⟩ = some (.int .i64 (r' : Int)) := by rw [← ha0, World.cell?_setCell_other _ _ _ _ (hnn 1 0 (by decide))]; exact z0
              have f0_0 : wa0.frozen? ⟨w1.heap.size + 1, 0, none⟩ = false := by rw [← ha0]; simp [go_sem, z2]
              have f0_1 : wa0.frozen? ⟨w1.heap.size + 1, 1, none⟩ = false := by rw [← ha0]; simp [go_sem, z3]
              have b0_a : Below (w1.heap.size + 1) w3 wa0 := by rw [← ha0]; exact b5.setCell (p := ⟨w1.heap.size + 1, 1, none⟩) (Nat.le_refl _) _
              have hz0_a : w1.heap.size + 1 < wa0.heap.size := by rw [← ha0]; simpa [World.setCell] using hz5
              obtain ⟨⟨u0_0, u1_0⟩, -, -, -⟩ := KB.out _ b0_a
              obtain ⟨wa1, ha1⟩ : ∃ wa, wa0.setCell ⟨w1.heap.size + 1, 1, none⟩ (.int .i64 0) = wa := ⟨_, rfl⟩
              have e1_1 : wa1.cell? ⟨w1.heap.size + 1, 1, none⟩ = some (.int .i64 0) := by rw [← ha1]; exact World.cell?_setCell_same' _ _ _ (by rw [e0_1]; rfl)
              have e1_0 : wa1.cell? ⟨w1.heap.size + 1, 0, none⟩ = some (.int .i64 (r' : Int)) := by rw [← ha1, World.cell?_setCell_other _ _ _ _ (hnn 1 0 (by decide))]; exact e0_0
              have f1_0 : wa1.frozen? ⟨w1.heap.size + 1, 0, none⟩ = false := by rw [← ha1]; simp [go_sem, f0_0]
              have f1_1 : wa1.frozen? ⟨w1.heap.size + 1, 1, none⟩ = false := by rw [← ha1]; simp [go_sem, f0_1]
              have b1_a : Below (w1.heap.size + 1) w3 wa1 := by rw [← ha1]; exact b0_a.setCell (p := ⟨w1.heap.size + 1, 1, none⟩) (Nat.le_refl _) _
              have hz1_a : w1.heap.size + 1 < wa1.heap.size := by rw [← ha1]; simpa [World.setCell] using hz0_a
              obtain ⟨⟨u0_1, u1_1⟩, -, -, -⟩ := KB.out _ b1_a
              obtain ⟨wa2, ha2⟩ : ∃ wa, wa1.setCell ⟨w1.heap.size + 1, 0, none⟩ (.int .i64 ((r' : Int) + 1)) = wa := ⟨_, rfl⟩
              have e2_0 : wa2.cell? ⟨w1.heap.size + 1, 0, none⟩ = some (.int .i64 ((r' : Int) + 1)) := by rw [← ha2]; exact World.cell?_setCell_same' _ _ _ (by rw [e1_0]; rfl)
              have e2_1 : wa2.cell? ⟨w1.heap.size + 1, 1, none⟩ = some (.int .i64 0) := by rw [← ha2, World.cell?_setCell_other _ _ _ _ (hnn 0 1 (by decide))]; exact e1_1
              have f2_0 : wa2.frozen? ⟨w1.heap.size + 1, 0, none⟩ = false := by rw [← ha2]; simp [go_sem, f1_0]
              have f2_1 : wa2.frozen? ⟨w1.heap.size + 1, 1, none⟩ = false := by rw [← ha2]; simp [go_sem, f1_1]
              have b2_a : Below (w1.heap.size + 1) w3 wa2 := by rw [← ha2]; exact b1_a.setCell (p := ⟨w1.heap.size + 1, 0, none⟩) (Nat.le_refl _) _
              have hz2_a : w1.heap.size + 1 < wa2.heap.size := by rw [← ha2]; simpa [World.setCell] using hz1_a
              obtain ⟨⟨u0_2, u1_2⟩, -, -, -⟩ := KB.out _ b2_a
              obtain ⟨wa3, ha3⟩ : ∃ wa, wa2.setCell ⟨w1.heap.size + 1, 0, none⟩ (.int .i64 0) = wa := ⟨_, rfl⟩
              have e3_0 : wa3.cell? ⟨w1.heap.size + 1, 0, none⟩ = some (.int .i64 0) := by rw [← ha3]; exact World.cell?_setCell_same' _ _ _ (by rw [e2_0]; rfl)
              have e3_1 : wa3.cell? ⟨w1.heap.size + 1, 1, none⟩ = some (.int .i64 0) := by rw [← ha3, World.cell?_setCell_other _ _ _ _ (hnn 0 1 (by decide))]; exact e2_1
              have f3_0 : wa3.frozen? ⟨w1.heap.size + 1, 0, none⟩ = false := by rw [← ha3]; simp [go_sem, f2_0]
              have f3_1 : wa3.frozen? ⟨w1.heap.size + 1, 1, none⟩ = false := by rw [← ha3]; simp [go_sem, f2_1]
              have b3_a : Below (w1.heap.size + 1) w3 wa3 := by rw [← ha3]; exact b2_a.setCell (p := ⟨w1.heap.size + 1, 0, none⟩) (Nat.le_refl _) _
              have hz3_a : w1.heap.size + 1 < wa3.heap.size := by rw [← ha3]; simpa [World.setCell] using hz2_a
              obtain ⟨⟨u0_3, u1_3⟩, -, -, -⟩ := KB.out _ b3_a
              go_wp2_with fail
              go_roundw
              case rel => exact ⟨k + 1, 0, 0, by omega, by go_num, by omega, by omega, HP'.out, Hno'.out, ⟨by rw [e3_0]; try go_num, by rw [e3_1]; try go_num, f3_0, f3_1⟩, b3_a, hz3_a⟩
              case measure => simp [intOf]; omega
      · have q1 : ¬ (k : Int) < (A : Int) := by omega
        have hres : V = .tuple #[.agg #[.int .i64 0, .int .i64 0], .bool false] := by
          rw [Hend.out (fun j hj => Hno.out j (by rw [HA.out] at hj; omega))]; rfl
        have Hres := Lib.hid hres
        clear hres
        obtain ⟨v0, v1, v2, v3⟩ := HV.out
        obtain ⟨x0, x1⟩ := res2 (W := wr) (b := w.heap.size + 1) (.int .i64 0) (.int .i64 0) v0 v1
        go_wp2
        refine bodyPost_ret (v := .tuple #[.agg #[.int .i64 0, .int .i64 0], .bool false]) (by simp [results, Try.results22, go_sem, x0, x1]) rfl ⟨by rw [Hres.out], ?_⟩
        exact (HBr.out.setCell (p := ⟨w.heap.size + 1, 0, none⟩) (by simp) _).setCell (p := ⟨w.heap.size + 1, 1, none⟩) (by simp) _
set_option maxHeartbeats 800000 in
theorem rnext_back (G : Grid) (r c : Int) (w : World) (h : G.In w.heap.size w) (hok : G.Ok) : Fn w 22 #[G.v, .agg #[.int .i64 r, .int .i64 c], .bool true] (foundPos G (nextOf G (-1) ((G.n * G.len 0 : Nat) - 1) r c)) := by
  have HC : ∀ W, Below w.heap.size w W → Fn W 17 #[G.v] (.bool true) := fun W hW => by
    have := right_any G W (h.later hW hW.size)
    rwa [okB_yes hok] at this
  have HT : ∀ W, Below w.heap.size w W → Fn W 10 #[G.v, .agg #[.int .i64 r, .int .i64 c]] (.bool (G.thereB r c)) := fun W hW => by
    have := rthere_any G r c W (h.later hW hW.size)
    rwa [okB_yes hok, Bool.true_and] at this
  have HO : ∀ (r' c' : Nat) W, Below w.heap.size w W → r' < G.n → c' < G.len 0 → Fn W 25 #[G.v, .agg #[.int .i64 (r' : Int), .int .i64 (c' : Int)]] (.bool (!G.gd r' c')) := fun r' c' W hW h1 h2 => ropen_yes G r' c' W (h.later hW hW.size) hok ⟨by omega, by omega, by omega, by omega⟩
  obtain ⟨n1, n2, hgood⟩ := id hok
  obtain ⟨m1, m2, _⟩ := hgood 0 n1
  have hA1 : 1 ≤ G.n * G.len 0 := Nat.mul_pos n1 m1
  have hAle : G.n * G.len 0 ≤ 255 * 255 := Nat.mul_le_mul n2 m2
  have hb := num_bd G hok _ rfl r c ((G.n * G.len 0 : Nat) - 1) (by omega) (by omega)
  have e : nextOf G (-1) ((G.n * G.len 0 : Nat) - 1) r c = (orbit (G.n * G.len 0 : Nat) (-1) (G.num r c ((G.n * G.len 0 : Nat) - 1)) (G.n * G.len 0)).find? (openN G) := by simp [nextOf, okB_yes hok]
  rw [e]
  -- where it begins
  have hstart : ∃ r0 c0 : Nat, r0 < G.n ∧ c0 < G.len 0 ∧ G.num r c ((G.n * G.len 0 : Nat) - 1) = ((r0 * G.len 0 + c0 : Nat) : Int) ∧ (G.thereB r c = true → r = r0 ∧ c = c0) ∧ (G.thereB r c = false → r0 = G.n - 1 ∧ c0 = G.len 0 - 1) := by
    by_cases ht : G.thereB r c = true
    · obtain ⟨a, b, c', d⟩ := thereB_iff.1 ht
      obtain ⟨r0, rfl⟩ := Int.eq_ofNat_of_zero_le a
      obtain ⟨c0, rfl⟩ := Int.eq_ofNat_of_zero_le c'
      refine ⟨r0, c0, by omega, by omega, ?_, fun _ => ⟨rfl, rfl⟩, fun e => by rw [ht] at e; cases e⟩
      unfold Grid.num
      rw [if_pos ht]
      simp
    · have hf : G.thereB r c = false := by simpa using ht
      refine ⟨(G.n - 1), (G.len 0 - 1), by omega, by omega, ?_, fun e => absurd e ht, fun _ => ⟨rfl, rfl⟩⟩
      unfold Grid.num
      rw [if_neg ht]
      have h4 := Nat.add_mul (G.n - 1) 1 (G.len 0)
      rw [show G.n - 1 + 1 = G.n by omega] at h4
      omega
  obtain ⟨r0, c0, hr0, hc0, hs, hs1, hs2⟩ := hstart
  rw [hs] at hb ⊢
  have hfin : ∀ k, k < G.n * G.len 0 → (∀ j, j < k → openN G (posOf (G.n * G.len 0 : Nat) (-1) ((r0 * G.len 0 + c0 : Nat) : Int) j) = false) → openN G (posOf (G.n * G.len 0 : Nat) (-1) ((r0 * G.len 0 + c0 : Nat) : Int) k) = true →
      (orbit (G.n * G.len 0 : Nat) (-1) ((r0 * G.len 0 + c0 : Nat) : Int) (G.n * G.len 0)).find? (openN G) = some (posOf (G.n * G.len 0 : Nat) (-1) ((r0 * G.len 0 + c0 : Nat) : Int) k) := fun k hk hno hy => by
    obtain ⟨t, ht⟩ := orbit_prefix (A := (G.n * G.len 0 : Nat)) (st := (-1)) (s := ((r0 * G.len 0 + c0 : Nat) : Int)) (show k + 1 ≤ G.n * G.len 0 by omega)
    rw [ht, orbit_succ]
    exact find_some (fun p hp => by obtain ⟨j, hj, rfl⟩ := List.mem_map.1 hp; exact hno j (List.mem_range.1 hj)) hy
  have hend : (∀ j, j < G.n * G.len 0 → openN G (posOf (G.n * G.len 0 : Nat) (-1) ((r0 * G.len 0 + c0 : Nat) : Int) j) = false) → (orbit (G.n * G.len 0 : Nat) (-1) ((r0 * G.len 0 + c0 : Nat) : Int) (G.n * G.len 0)).find? (openN G) = none := fun hno =>
    find_none (fun p hp => by obtain ⟨j, hj, rfl⟩ := List.mem_map.1 hp; exact hno j (List.mem_range.1 hj))
  have hnext : ∀ k, posOf (G.n * G.len 0 : Nat) (-1) ((r0 * G.len 0 + c0 : Nat) : Int) (k + 1) = (posOf (G.n * G.len 0 : Nat) (-1) ((r0 * G.len 0 + c0 : Nat) : Int) k + (-1) + (G.n * G.len 0 : Nat)).tmod (G.n * G.len 0 : Nat) := fun k => rfl
  have hzero : posOf (G.n * G.len 0 : Nat) (-1) ((r0 * G.len 0 + c0 : Nat) : Int) 0 = ((r0 * G.len 0 + c0 : Nat) : Int) := rfl
  obtain ⟨V, hV⟩ : ∃ V, foundPos G ((orbit (G.n * G.len 0 : Nat) (-1) ((r0 * G.len 0 + c0 : Nat) : Int) (G.n * G.len 0)).find? (openN G)) = V := ⟨_, rfl⟩
  rw [hV]
  have hfinV : ∀ k, k < G.n * G.len 0 → (∀ j, j < k → openN G (posOf (G.n * G.len 0 : Nat) (-1) ((r0 * G.len 0 + c0 : Nat) : Int) j) = false) → openN G (posOf (G.n * G.len 0 : Nat) (-1) ((r0 * G.len 0 + c0 : Nat) : Int) k) = true → V = foundPos G (some (posOf (G.n * G.len 0 : Nat) (-1) ((r0 * G.len 0 + c0 : Nat) : Int) k)) := fun k a b c => by rw [← hV, hfin k a b c]
  have hendV : (∀ j, j < G.n * G.len 0 → openN G (posOf (G.n * G.len 0 : Nat) (-1) ((r0 * G.len 0 + c0 : Nat) : Int) j) = false) → V = foundPos G none := fun a => by rw [← hV, hend a]
  clear hV hfin hend
  generalize hp : posOf (G.n * G.len 0 : Nat) (-1) ((r0 * G.len 0 + c0 : Nat) : Int) = P at *
  unfold Fn at *
  unfold Grid.v at *
  obtain ⟨b, off, ea, hbb, hcr⟩ := h.rows n1
  obtain ⟨rb, ro, er, hrb, hcc⟩ := h.cells 0 n1 (by omega)
  have cr := hcr 0 n1
  rw [er, Nat.add_zero] at cr
  have crA := Lib.hid (show ∀ W, Below w.heap.size w W → W.cell? ⟨b, off, none⟩ = some (.slice (some ⟨rb, ro, none⟩) (G.len 0) (G.rc 0)) from fun W hW => (hW.cell (p := ⟨b, off, none⟩) hbb).trans cr)
  rw [ea] at HC HT HO ⊢
  have HC' := Lib.hid HC
  have HT' := Lib.hid HT
  have HO' := Lib.hid HO
  have Hfin := Lib.hid hfinV
  have Hend := Lib.hid hendV
  have Hnext := Lib.hid hnext
  have Hzero := Lib.hid hzero
  have HAle := Lib.hid hAle
  have hmul : IntKind.i64.wrap ((G.n : Int) * (G.len 0 : Int)) = ((G.n * G.len 0 : Nat) : Int) := by
    rw [← Int.natCast_mul]
    exact IntWalk.i64_in _ (by omega)
  clear HC HT HO h hok ea hcr hcc er hrb hbb cr hgood hfinV hendV hnext hzero e hs hb hAle hp
  obtain ⟨A, hA⟩ : ∃ A, G.n * G.len 0 = A := ⟨_, rfl⟩
  rw [hA] at hmul hA1
  have HA := Lib.hid hA
  have HAb := Lib.hid (show A ≤ 65025 by have := HAle.out; rw [hA] at this; exact this)
  clear hA
  have n0 : 0 < G.n := n1
  have n0' : (0 : Int) < (G.n : Int) := by omega
  have p1 : IntKind.i64.wrap ((G.n : Int) - 1) = (G.n : Int) - 1 := IntWalk.i64_in _ (by omega)
  have p2 : IntKind.i64.wrap ((G.len 0 : Int) - 1) = (G.len 0 : Int) - 1 := IntWalk.i64_in _ (by omega)
  go_enter Try.func22, Try.ntmps22
  go_wp2_with fail
  refine (HC'.out _ (bel_alloc (bel_alloc (Below.refl _ _) _) _)).mono ?_
  rintro e w1 ⟨rfl, hb1⟩
  have B1 := bel_call (bel_alloc (bel_alloc (Below.refl _ _) _) _) hb1
  have hz : w.heap.size + 1 < w1.heap.size := by have := hb1.size; simp at this; omega
  have k0 := hb1.cell (p := ⟨w.heap.size, 0, none⟩) (by simp; omega)
  have k1 := hb1.cell (p := ⟨w.heap.size, 1, none⟩) (by simp; omega)
  have k2 := hb1.cell (p := ⟨w.heap.size + 1, 0, none⟩) (by simp)
  have k3 := hb1.cell (p := ⟨w.heap.size + 1, 1, none⟩) (by simp)
  have k4 := hb1.frozen (p := ⟨w.heap.size + 1, 0, none⟩) (by simp)
  have k5 := hb1.frozen (p := ⟨w.heap.size + 1, 1, none⟩) (by simp)
  simp [go_sem] at k0 k1 k2 k3 k4 k5
  have cr := crA.out _ B1
  have hl0 : w.heap.size < w1.heap.size := by omega
  have K := Lib.hid (show _ ∧ _ ∧ _ ∧ _ ∧ _ from ⟨k2, k3, k4, k5, hz⟩)
  clear k2 k3 k4 k5 hz hb1
  go_wp2_with fail
  obtain ⟨w2, hw2⟩ : ∃ w2, (w1.alloc (.cells #[.int .i64 ((G.n : Int) - 1), .int .i64 ((G.len 0 : Int) - 1)] 24)).alloc (.cells #[.int .i64 r, .int .i64 c] 24) = w2 := ⟨_, rfl⟩
  have b2 : Below w1.heap.size w1 w2 := by rw [← hw2]; exact bel_alloc (bel_alloc (Below.refl _ _) _) _
  have hs2' : w2.heap.size = w1.heap.size + 2 := by rw [← hw2]; simp
  have l0 : w2.cell? ⟨w1.heap.size, 0, none⟩ = some (.int .i64 ((G.n : Int) - 1)) := by rw [← hw2]; simp [go_sem]
  have l1 : w2.cell? ⟨w1.heap.size, 1, none⟩ = some (.int .i64 ((G.len 0 : Int) - 1)) := by rw [← hw2]; simp [go_sem]
  have t0 : w2.cell? ⟨w1.heap.size + 1, 0, none⟩ = some (.int .i64 r) := by rw [← hw2]; simp [go_sem]
  have t1 : w2.cell? ⟨w1.heap.size + 1, 1, none⟩ = some (.int .i64 c) := by rw [← hw2]; simp [go_sem]
  have t2 : w2.frozen? ⟨w1.heap.size + 1, 0, none⟩ = false := by rw [← hw2]; simp [go_sem]
  have t3 : w2.frozen? ⟨w1.heap.size + 1, 1, none⟩ = false := by rw [← hw2]; simp [go_sem]
  rw [hw2]
  clear hw2 k0 k1 cr hl0
  refine (HT'.out _ (bel_call B1 b2)).mono ?_
  rintro e w3 ⟨rfl, hb3⟩
  have b3 : Below w1.heap.size w1 w3 := b2.trans (hb3.mono (by omega))
  have hz3 : w1.heap.size + 1 < w3.heap.size := by have := hb3.size; omega
  have l0' := (hb3.cell (p := ⟨w1.heap.size, 0, none⟩) (by simp; omega)).trans l0
  have l1' := (hb3.cell (p := ⟨w1.heap.size, 1, none⟩) (by simp; omega)).trans l1
  have t0' := (hb3.cell (p := ⟨w1.heap.size + 1, 0, none⟩) (by simp; omega)).trans t0
  have t1' := (hb3.cell (p := ⟨w1.heap.size + 1, 1, none⟩) (by simp; omega)).trans t1
  have t2' := (hb3.frozen (p := ⟨w1.heap.size + 1, 0, none⟩) (by simp; omega)).trans t2
  have t3' := (hb3.frozen (p := ⟨w1.heap.size + 1, 1, none⟩) (by simp; omega)).trans t3
  clear l0 l1 t0 t1 t2 t3 hb3 hs2'
  -- what the loop begins with: in w4 the place r0, c0 stands in t9
  have KB := Lib.hid (show ∀ W, Below (w1.heap.size + 1) w3 W → (W.cell? ⟨w1.heap.size, 0, none⟩ = some (.int .i64 ((G.n : Int) - 1)) ∧ W.cell? ⟨w1.heap.size, 1, none⟩ = some (.int .i64 ((G.len 0 : Int) - 1))) ∧ (W.cell? ⟨w.heap.size + 1, 0, none⟩ = some (.int .i64 0) ∧ W.cell? ⟨w.heap.size + 1, 1, none⟩ = some (.int .i64 0) ∧ W.frozen? ⟨w.heap.size + 1, 0, none⟩ = false ∧ W.frozen? ⟨w.heap.size + 1, 1, none⟩ = false) ∧ Below w.heap.size w W ∧ W.cell? ⟨b, off, none⟩ = some (.slice (some ⟨rb, ro, none⟩) (G.len 0) (G.rc 0)) from fun W hW => by
    obtain ⟨k2, k3, k4, k5, hz⟩ := K.out
    have b13 : Below w1.heap.size w1 W := b3.trans (hW.mono (by omega))
    exact ⟨⟨(hW.cell (p := ⟨w1.heap.size, 0, none⟩) (by simp)).trans l0', (hW.cell (p := ⟨w1.heap.size, 1, none⟩) (by simp)).trans l1'⟩, ⟨(b13.cell (p := ⟨w.heap.size + 1, 0, none⟩) hz).trans k2, (b13.cell (p := ⟨w.heap.size + 1, 1, none⟩) hz).trans k3, (b13.frozen (p := ⟨w.heap.size + 1, 0, none⟩) hz).trans k4, (b13.frozen (p := ⟨w.heap.size + 1, 1, none⟩) hz).trans k5⟩, bel_call B1 b13, crA.out _ (bel_call B1 b13)⟩)
  cases ht : G.thereB r c with
  | true =>
    obtain ⟨rfl, rfl⟩ := hs1 ht
    have b4 : Below (w1.heap.size + 1) w3 w3 := Below.refl _ _
    have hz4 := hz3
    have S4 := Lib.hid (show _ ∧ _ ∧ _ ∧ _ from ⟨t0', t1', t2', t3'⟩)
    clear l0' l1' t0' t1' t2' t3' hs1 hs2 ht hz3 b3 b2
    go_wp2_with fail
    go_loopw [10] (fun i wr => ∃ k r' c' : Nat, k ≤ A ∧ i = .int .i64 (k : Int) ∧ r' < G.n ∧ c' < G.len 0 ∧ P k = ((r' * G.len 0 + c' : Nat) : Int) ∧ (∀ j, j < k → openN G (P j) = false) ∧
      (wr.cell? ⟨w1.heap.size + 1, 0, none⟩ = some (.int .i64 (r' : Int)) ∧ wr.cell? ⟨w1.heap.size + 1, 1, none⟩ = some (.int .i64 (c' : Int)) ∧ wr.frozen? ⟨w1.heap.size + 1, 0, none⟩ = false ∧ wr.frozen? ⟨w1.heap.size + 1, 1, none⟩ = false) ∧ Below (w1.heap.size + 1) w3 wr ∧ w1.heap.size + 1 < wr.heap.size) (fun i _ => A - (intOf i).toNat)
    case atStart => exact ⟨0, _, _, Nat.zero_le _, rfl, hr0, hc0, Hzero.out, fun j h => absurd h (Nat.not_lt_zero j), S4.out, b4, hz4⟩
    case round =>
      obtain ⟨k, r', c', hk, rfl, hr', hc', hP, hno, ⟨s0, s1, s2, s3⟩, hbr, hlt⟩ := hrel
      have hAb := HAb.out
      obtain ⟨⟨u0, u1⟩, ⟨v0, v1, v2, v3⟩, Br, cr⟩ := KB.out _ hbr
      have HP := Lib.hid hP
      have Hno := Lib.hid hno
      have Hbr := Lib.hid hbr
      have HBr := Lib.hid Br
      have Hlt := Lib.hid hlt
      have HV := Lib.hid (show _ ∧ _ ∧ _ ∧ _ from ⟨v0, v1, v2, v3⟩)
      clear hP hno hbr Br hlt v0 v1 v2 v3 S4 b4 hz4
      by_cases hkA : k < A
      · have q1 : (k : Int) < (A : Int) := by omega
        have HOc := Lib.hid (HO'.out r' c' wr HBr.out hr' hc')
        cases hg : G.gd r' c' with
        | false =>
          rw [hg] at HOc
          simp only [Bool.not_false] at HOc
          have hres : V = .tuple #[.agg #[.int .i64 (r' : Int), .int .i64 (c' : Int)], .bool true] := by
            have e1 : openN G (P k) = true := by rw [HP.out, openN_at hc', hg]; rfl
            rw [Hfin.out k (by rw [HA.out]; exact hkA) Hno.out e1, HP.out, found_at hc']
          have Hres := Lib.hid hres
          clear hres hg
          go_wp2_with fail
          refine HOc.out.mono ?_
          rintro e w5 ⟨rfl, hb5⟩
          have b5 := Hbr.out.trans (hb5.mono (by have := Hlt.out; omega))
          have z0 := (hb5.cell (p := ⟨w1.heap.size + 1, 0, none⟩) Hlt.out).trans s0
          have z1 := (hb5.cell (p := ⟨w1.heap.size + 1, 1, none⟩) Hlt.out).trans s1
          clear s0 s1 s2 s3 u0 u1 cr
          obtain ⟨-, ⟨v0, v1, v2, v3⟩, Br5, -⟩ := KB.out _ b5
          obtain ⟨x0, x1⟩ := res2 (W := w5) (b := w.heap.size + 1) (.int .i64 (r' : Int)) (.int .i64 (c' : Int)) v0 v1
          go_wp2
          refine bodyPost_ret (v := .tuple #[.agg #[.int .i64 (r' : Int), .int .i64 (c' : Int)], .bool true]) (by simp [results, Try.results22, go_sem, x0, x1]) rfl ⟨by rw [Hres.out], ?_⟩
          exact (Br5.setCell (p := ⟨w.heap.size + 1, 0, none⟩) (by simp) _).setCell (p := ⟨w.heap.size + 1, 1, none⟩) (by simp) _
        | true =>
          rw [hg] at HOc
          simp only [Bool.not_true] at HOc
          have hno' : ∀ j, j < k + 1 → openN G (P j) = false := fun j hj => by
            by_cases e : j = k
            · subst e; rw [HP.out, openN_at hc', hg]; rfl
            · exact Hno.out j (by omega)
          have Hno' := Lib.hid hno'
          clear hno' hg
          have hnx := Hnext.out k
          rw [HP.out, HA.out] at hnx
          have hat : r' * G.len 0 + c' < A := by rw [← HA.out]; exact at_lt hr' hc'
          by_cases h1 : 1 ≤ c'
          · have g1 : ¬ (c' : Int) - 1 < 0 := by omega
            have g1' : (1 : Int) ≤ (c' : Int) := by omega
            have g2 : ¬ (r' : Int) < 0 := by omega
            have hP' : P (k + 1) = (((r') * G.len 0 + (c' - 1) : Nat) : Int) := by
              rw [hnx]
              exact tmod_1 (by omega) (by omega) (by omega)
            have HP' := Lib.hid hP'
            clear hP' hnx
            go_wp2_with fail
            refine HOc.out.mono ?_
            rintro e w5 ⟨rfl, hb5⟩
            have b5 := Hbr.out.trans (hb5.mono (by have := Hlt.out; omega))
            have hz5 := Nat.lt_of_lt_of_le Hlt.out hb5.size
            have z0 := (hb5.cell (p := ⟨w1.heap.size + 1, 0, none⟩) Hlt.out).trans s0
            have z1 := (hb5.cell (p := ⟨w1.heap.size + 1, 1, none⟩) Hlt.out).trans s1
            have z2 := (hb5.frozen (p := ⟨w1.heap.size + 1, 0, none⟩) Hlt.out).trans s2
            have z3 := (hb5.frozen (p := ⟨w1.heap.size + 1, 1, none⟩) Hlt.out).trans s3
            clear s0 s1 s2 s3 u0 u1 cr
            obtain ⟨⟨u0, u1⟩, -, -, -⟩ := KB.out _ b5
            have hnn : ∀ i j : Nat, i ≠ j → (⟨w1.heap.size + 1, i, none⟩ : Addr) ≠ ⟨w1.heap.size + 1, j, none⟩ := fun i j h e => h (by cases e; rfl)
            obtain ⟨wa0, ha0⟩ : ∃ wa, w5.setCell ⟨w1.heap.size + 1, 1, none⟩ (.int .i64 ((c' : Int) - 1)) = wa := ⟨_, rfl⟩
            have e0_1 : wa0.cell? ⟨w1.heap.size + 1, 1, none⟩ = some (.int .i64 ((c' : Int) - 1)) := by rw [← ha0]; exact World.cell?_setCell_same' _ _ _ (by rw [z1]; rfl)
            have e0_0 : wa0.cell? ⟨w1.heap.size + 1, 0, none⟩ = some (.int .i64 (r' : Int)) := by rw [← ha0, World.cell?_setCell_other _ _ _ _ (hnn 1 0 (by decide))]; exact z0
            have f0_0 : wa0.frozen? ⟨w1.heap.size + 1, 0, none⟩ = false := by rw [← ha0]; simp [go_sem, z2]
            have f0_1 : wa0.frozen? ⟨w1.heap.size + 1, 1, none⟩ = false := by rw [← ha0]; simp [go_sem, z3]
            have b0_a : Below (w1.heap.size + 1) w3 wa0 := by rw [← ha0]; exact b5.setCell (p := ⟨w1.heap.size + 1, 1, none⟩) (Nat.le_refl _) _
            have hz0_a : w1.heap.size + 1 < wa0.heap.size := by rw [← ha0]; simpa [World.setCell] using hz5
            obtain ⟨⟨u0_0, u1_0⟩, -, -, -⟩ := KB.out _ b0_a
            go_wp2_with fail
            go_roundw
            case rel => exact ⟨k + 1, r', c' - 1, by omega, by go_num, by omega, by omega, HP'.out, Hno'.out, ⟨by rw [e0_0]; try go_num, by rw [e0_1]; try go_num, f0_0, f0_1⟩, b0_a, hz0_a⟩
            case measure => simp [intOf]; omega
          · by_cases h2 : 1 ≤ r'
            · have g1 : (c' : Int) - 1 < 0 := by omega
              have g2 : ¬ (r' : Int) - 1 < 0 := by omega
              have g2' : (1 : Int) ≤ (r' : Int) := by omega
              have hP' : P (k + 1) = (((r' - 1) * G.len 0 + (G.len 0 - 1) : Nat) : Int) := by
                rw [hnx]
                have h4 : (r' - 1) * G.len 0 + (G.len 0 - 1) + 1 = r' * G.len 0 := by
                  have := Nat.add_mul (r' - 1) 1 (G.len 0)
                  rw [show r' - 1 + 1 = r' by omega] at this
                  omega
                exact tmod_1 (by omega) (by omega) (by omega)
              have HP' := Lib.hid hP'
              clear hP' hnx
              go_wp2_with fail
              refine HOc.out.mono ?_
              rintro e w5 ⟨rfl, hb5⟩
              have b5 := Hbr.out.trans (hb5.mono (by have := Hlt.out; omega))
              have hz5 := Nat.lt_of_lt_of_le Hlt.out hb5.size
              have z0 := (hb5.cell (p := ⟨w1.heap.size + 1, 0, none⟩) Hlt.out).trans s0
              have z1 := (hb5.cell (p := ⟨w1.heap.size + 1, 1, none⟩) Hlt.out).trans s1
              have z2 := (hb5.frozen (p := ⟨w1.heap.size + 1, 0, none⟩) Hlt.out).trans s2
              have z3 := (hb5.frozen (p := ⟨w1.heap.size + 1, 1, none⟩) Hlt.out).trans s3
              clear s0 s1 s2 s3 u0 u1 cr
              obtain ⟨⟨u0, u1⟩, -, -, -⟩ := KB.out _ b5
              have hnn : ∀ i j : Nat, i ≠ j → (⟨w1.heap.size + 1, i, none⟩ : Addr) ≠ ⟨w1.heap.size + 1, j, none⟩ := fun i j h e => h (by cases e; rfl)
              obtain ⟨wa0, ha0⟩ : ∃ wa, w5.setCell ⟨w1.heap.size + 1, 1, none⟩ (.int .i64 ((c' : Int) - 1)) = wa := ⟨_, rfl⟩
              have e0_1 : wa0.cell? ⟨w1.heap.size + 1, 1, none⟩ = some (.int .i64 ((c' : Int) - 1)) := by rw [← ha0]; exact World.cell?_setCell_same' _ _ _ (by rw [z1]; rfl)
              have e0_0 : wa0.cell? ⟨w1.heap.size + 1, 0, none⟩ = some (.int .i64 (r' : Int)) := by rw [← ha0, World.cell?_setCell_other _ _ _ _ (hnn 1 0 (by decide))]; exact z0
              have f0_0 : wa0.frozen? ⟨w1.heap.size + 1, 0, none⟩ = false := by rw [← ha0]; simp [go_sem, z2]
              have f0_1 : wa0.frozen? ⟨w1.heap.size + 1, 1, none⟩ = false := by rw [← ha0]; simp [go_sem, z3]
              have b0_a : Below (w1.heap.size + 1) w3 wa0 := by rw [← ha0]; exact b5.setCell (p := ⟨w1.heap.size + 1, 1, none⟩) (Nat.le_refl _) _
              have hz0_a : w1.heap.size + 1 < wa0.heap.size := by rw [← ha0]; simpa [World.setCell] using hz5
              obtain ⟨⟨u0_0, u1_0⟩, -, -, -⟩ := KB.out _ b0_a
              obtain ⟨wa1, ha1⟩ : ∃ wa, wa0.setCell ⟨w1.heap.size + 1, 1, none⟩ (.int .i64 ((G.len 0 : Int) - 1)) = wa := ⟨_, rfl⟩
              have e1_1 : wa1.cell? ⟨w1.heap.size + 1, 1, none⟩ = some (.int .i64 ((G.len 0 : Int) - 1)) := by rw [← ha1]; exact World.cell?_setCell_same' _ _ _ (by rw [e0_1]; rfl)
              have e1_0 : wa1.cell? ⟨w1.heap.size + 1, 0, none⟩ = some (.int .i64 (r' : Int)) := by rw [← ha1, World.cell?_setCell_other _ _ _ _ (hnn 1 0 (by decide))]; exact e0_0
              have f1_0 : wa1.frozen? ⟨w1.heap.size + 1, 0, none⟩ = false := by rw [← ha1]; simp [go_sem, f0_0]
              have f1_1 : wa1.frozen? ⟨w1.heap.size + 1, 1, none⟩ = false := by rw [← ha1]; simp [go_sem, f0_1]
              have b1_a : Below (w1.heap.size + 1) w3 wa1 := by rw [← ha1]; exact b0_a.setCell (p := ⟨w1.heap.size + 1, 1, none⟩) (Nat.le_refl _) _
              have hz1_a : w1.heap.size + 1 < wa1.heap.size := by rw [← ha1]; simpa [World.setCell] using hz0_a
              obtain ⟨⟨u0_1, u1_1⟩, -, -, -⟩ := KB.out _ b1_a
              obtain ⟨wa2, ha2⟩ : ∃ wa, wa1.setCell ⟨w1.heap.size + 1, 0, none⟩ (.int .i64 ((r' : Int) - 1)) = wa := ⟨_, rfl⟩
              have e2_0 : wa2.cell? ⟨w1.heap.size + 1, 0, none⟩ = some (.int .i64 ((r' : Int) - 1)) := by rw [← ha2]; exact World.cell?_setCell_same' _ _ _ (by rw [e1_0]; rfl)
              have e2_1 : wa2.cell? ⟨w1.heap.size + 1, 1, none⟩ = some (.int .i64 ((G.len 0 : Int) - 1)) := by rw [← ha2, World.cell?_setCell_other _ _ _ _ (hnn 0 1 (by decide))]; exact e1_1
              have f2_0 : wa2.frozen? ⟨w1.heap.size + 1, 0, none⟩ = false := by rw [← ha2]; simp [go_sem, f1_0]
              have f2_1 : wa2.frozen? ⟨w1.heap.size + 1, 1, none⟩ = false := by rw [← ha2]; simp [go_sem, f1_1]
              have b2_a : Below (w1.heap.size + 1) w3 wa2 := by rw [← ha2]; exact b1_a.setCell (p := ⟨w1.heap.size + 1, 0, none⟩) (Nat.le_refl _) _
              have hz2_a : w1.heap.size + 1 < wa2.heap.size := by rw [← ha2]; simpa [World.setCell] using hz1_a
              obtain ⟨⟨u0_2, u1_2⟩, -, -, -⟩ := KB.out _ b2_a
              go_wp2_with fail
              go_roundw
              case rel => exact ⟨k + 1, r' - 1, G.len 0 - 1, by omega, by go_num, by omega, by omega, HP'.out, Hno'.out, ⟨by rw [e2_0]; try go_num, by rw [e2_1]; try go_num, f2_0, f2_1⟩, b2_a, hz2_a⟩
              case measure => simp [intOf]; omega
            · have g1 : (c' : Int) - 1 < 0 := by omega
              have g2 : (r' : Int) - 1 < 0 := by omega
              have hP' : P (k + 1) = (((G.n - 1) * G.len 0 + (G.len 0 - 1) : Nat) : Int) := by
                rw [hnx]
                have h4 : (G.n - 1) * G.len 0 + (G.len 0 - 1) + 1 = A := by
                  have := Nat.add_mul (G.n - 1) 1 (G.len 0)
                  rw [show G.n - 1 + 1 = G.n by omega, HA.out] at this
                  omega
                have h5 : r' * G.len 0 = 0 := by rw [show r' = 0 by omega]; simp
                exact tmod_0 (by omega) (by omega) (by omega)
              have HP' := Lib.hid hP'
              clear hP' hnx
              go_wp2_with fail
              refine HOc.out.mono ?_
              rintro e w5 ⟨rfl, hb5⟩
              have b5 := Hbr.out.trans (hb5.mono (by have := Hlt.out; omega))
              have hz5 := Nat.lt_of_lt_of_le Hlt.out hb5.size
              have z0 := (hb5.cell (p := ⟨w1.heap.size + 1, 0, none⟩) Hlt.out).trans s0
              have z1 := (hb5.cell (p := ⟨w1.heap.size + 1, 1, none⟩) Hlt.out).trans s1
              have z2 := (hb5.frozen (p := ⟨w1.heap.size + 1, 0, none⟩) Hlt.out).trans s2
              have z3 := (hb5.frozen (p := ⟨w1.heap.size + 1, 1, none⟩) Hlt.out).trans s3
              clear s0 s1 s2 s3 u0 u1 cr
              obtain ⟨⟨u0, u1⟩, -, -, -⟩ := KB.out _ b5
              have hnn : ∀ i j : Nat, i ≠ j → (⟨w1.heap.size + 1, i, none⟩ : Addr) ≠ ⟨w1.heap.size + 1, j, none⟩ := fun i j h e => h (by cases e; rfl)
              obtain ⟨wa0, ha0⟩ : ∃ wa, w5.setCell ⟨w1.heap.size + 1, 1, none⟩ (.int .i64 ((c' : Int) - 1)) = wa := ⟨_, rfl⟩
              have e0_1 : wa0.cell? ⟨w1.heap.size + 1, 1, none⟩ = some (.int .i64 ((c' : Int) - 1)) := by rw [← ha0]; exact World.cell?_setCell_same' _ _ _ (by rw [z1]; rfl)
              have e0_0 : wa0.cell? ⟨w1.heap.size + 1, 0, none⟩ = some (.int .i64 (r' : Int)) := by rw [← ha0, World.cell?_setCell_other _ _ _ _ (hnn 1 0 (by decide))]; exact z0
              have f0_0 : wa0.frozen? ⟨w1.heap.size + 1, 0, none⟩ = false := by rw [← ha0]; simp [go_sem, z2]
              have f0_1 : wa0.frozen? ⟨w1.heap.size + 1, 1, none⟩ = false := by rw [← ha0]; simp [go_sem, z3]
              have b0_a : Below (w1.heap.size + 1) w3 wa0 := by rw [← ha0]; exact b5.setCell (p := ⟨w1.heap.size + 1, 1, none⟩) (Nat.le_refl _) _
              have hz0_a : w1.heap.size + 1 < wa0.heap.size := by rw [← ha0]; simpa [World.setCell] using hz5
              obtain ⟨⟨u0_0, u1_0⟩, -, -, -⟩ := KB.out _ b0_a
              obtain ⟨wa1, ha1⟩ : ∃ wa, wa0.setCell ⟨w1.heap.size + 1, 1, none⟩ (.int .i64 ((G.len 0 : Int) - 1)) = wa := ⟨_, rfl⟩
              have e1_1 : wa1.cell? ⟨w1.heap.size + 1, 1, none⟩ = some (.int .i64 ((G.len 0 : Int) - 1)) := by rw [← ha1]; exact World.cell?_setCell_same' _ _ _ (by rw [e0_1]; rfl)
              have e1_0 : wa1.cell? ⟨w1.heap.size + 1, 0, none⟩ = some (.int .i64 (r' : Int)) := by rw [← ha1, World.cell?_setCell_other _ _ _ _ (hnn 1 0 (by decide))]; exact e0_0
              have f1_0 : wa1.frozen? ⟨w1.heap.size + 1, 0, none⟩ = false := by rw [← ha1]; simp [go_sem, f0_0]
              have f1_1 : wa1.frozen? ⟨w1.heap.size + 1, 1, none⟩ = false := by rw [← ha1]; simp [go_sem, f0_1]
              have b1_a : Below (w1.heap.size + 1) w3 wa1 := by rw [← ha1]; exact b0_a.setCell (p := ⟨w1.heap.size + 1, 1, none⟩) (Nat.le_refl _) _
              have hz1_a : w1.heap.size + 1 < wa1.heap.size := by rw [← ha1]; simpa [World.setCell] using hz0_a
              obtain ⟨⟨u0_1, u1_1⟩, -, -, -⟩ := KB.out _ b1_a
              obtain ⟨wa2, ha2⟩ : ∃ wa, wa1.setCell ⟨w1.heap.size + 1, 0, none⟩ (.int .i64 ((r' : Int) - 1)) = wa := ⟨_, rfl⟩
              have e2_0 : wa2.cell? ⟨w1.heap.size + 1, 0, none⟩ = some (.int .i64 ((r' : Int) - 1)) := by rw [← ha2]; exact World.cell?_setCell_same' _ _ _ (by rw [e1_0]; rfl)
              have e2_1 : wa2.cell? ⟨w1.heap.size + 1, 1, none⟩ = some (.int .i64 ((G.len 0 : Int) - 1)) := by rw [← ha2, World.cell?_setCell_other _ _ _ _ (hnn 0 1 (by decide))]; exact e1_1
              have f2_0 : wa2.frozen? ⟨w1.heap.size + 1, 0, none⟩ = false := by rw [← ha2]; simp [go_sem, f1_0]
              have f2_1 : wa2.frozen? ⟨w1.heap.size + 1, 1, none⟩ = false := by rw [← ha2]; simp [go_sem, f1_1]
              have b2_a : Below (w1.heap.size + 1) w3 wa2 := by rw [← ha2]; exact b1_a.setCell (p := ⟨w1.heap.size + 1, 0, none⟩) (Nat.le_refl _) _
              have hz2_a : w1.heap.size + 1 < wa2.heap.size := by rw [← ha2]; simpa [World.setCell] using hz1_a
              obtain ⟨⟨u0_2, u1_2⟩, -, -, -⟩ := KB.out _ b2_a
              obtain ⟨wa3, ha3⟩ : ∃ wa, wa2.setCell ⟨w1.heap.size + 1, 0, none⟩ (.int .i64 ((G.n : Int) - 1)) = wa := ⟨_, rfl⟩
              have e3_0 : wa3.cell? ⟨w1.heap.size + 1, 0, none⟩ = some (.int .i64 ((G.n : Int) - 1)) := by rw [← ha3]; exact World.cell?_setCell_same' _ _ _ (by rw [e2_0]; rfl)
              have e3_1 : wa3.cell? ⟨w1.heap.size + 1, 1, none⟩ = some (.int .i64 ((G.len 0 : Int) - 1)) := by rw [← ha3, World.cell?_setCell_other _ _ _ _ (hnn 0 1 (by decide))]; exact e2_1
              have f3_0 : wa3.frozen? ⟨w1.heap.size + 1, 0, none⟩ = false := by rw [← ha3]; simp [go_sem, f2_0]
              have f3_1 : wa3.frozen? ⟨w1.heap.size + 1, 1, none⟩ = false := by rw [← ha3]; simp [go_sem, f2_1]
              have b3_a : Below (w1.heap.size + 1) w3 wa3 := by rw [← ha3]; exact b2_a.setCell (p := ⟨w1.heap.size + 1, 0, none⟩) (Nat.le_refl _) _
              have hz3_a : w1.heap.size + 1 < wa3.heap.size := by rw [← ha3]; simpa [World.setCell] using hz2_a
              obtain ⟨⟨u0_3, u1_3⟩, -, -, -⟩ := KB.out _ b3_a
              go_wp2_with fail
              go_roundw
              case rel => exact ⟨k + 1, G.n - 1, G.len 0 - 1, by omega, by go_num, by omega, by omega, HP'.out, Hno'.out, ⟨by rw [e3_0]; try go_num, by rw [e3_1]; try go_num, f3_0, f3_1⟩, b3_a, hz3_a⟩
              case measure => simp [intOf]; omega
      · have q1 : ¬ (k : Int) < (A : Int) := by omega
        have hres : V = .tuple #[.agg #[.int .i64 0, .int .i64 0], .bool false] := by
          rw [Hend.out (fun j hj => Hno.out j (by rw [HA.out] at hj; omega))]; rfl
        have Hres := Lib.hid hres
        clear hres
        obtain ⟨v0, v1, v2, v3⟩ := HV.out
        obtain ⟨x0, x1⟩ := res2 (W := wr) (b := w.heap.size + 1) (.int .i64 0) (.int .i64 0) v0 v1
        go_wp2
        refine bodyPost_ret (v := .tuple #[.agg #[.int .i64 0, .int .i64 0], .bool false]) (by simp [results, Try.results22, go_sem, x0, x1]) rfl ⟨by rw [Hres.out], ?_⟩
        exact (HBr.out.setCell (p := ⟨w.heap.size + 1, 0, none⟩) (by simp) _).setCell (p := ⟨w.heap.size + 1, 1, none⟩) (by simp) _
  | false =>
    obtain ⟨rfl, rfl⟩ := hs2 ht
    obtain ⟨y0, y1⟩ := res2 (W := w3) (b := w1.heap.size + 1) (.int .i64 ((G.n : Int) - 1)) (.int .i64 ((G.len 0 : Int) - 1)) t0' t1'
    obtain ⟨wm, hwm⟩ : ∃ wm, (w3.setCell ⟨w1.heap.size + 1, 0, none⟩ (.int .i64 0)).setCell ⟨w1.heap.size + 1, 1, none⟩ (.int .i64 0) = wm := ⟨_, rfl⟩
    obtain ⟨x0, x1⟩ := res2 (W := w3) (b := w1.heap.size + 1) (.int .i64 0) (.int .i64 0) t0' t1'
    rw [hwm] at x0 x1
    have xm : Below (w1.heap.size + 1) w3 wm := by rw [← hwm]; exact ((Below.refl (w1.heap.size + 1) w3).setCell (p := ⟨w1.heap.size + 1, 0, none⟩) (Nat.le_refl _) _).setCell (p := ⟨w1.heap.size + 1, 1, none⟩) (Nat.le_refl _) _
    obtain ⟨⟨m0, m1'⟩, -, -, -⟩ := KB.out _ xm
    have x2 : wm.frozen? ⟨w1.heap.size + 1, 0, none⟩ = false := by rw [← hwm]; simp [go_sem, t2']
    have x3 : wm.frozen? ⟨w1.heap.size + 1, 1, none⟩ = false := by rw [← hwm]; simp [go_sem, t3']
    clear y0 y1
    obtain ⟨y0, y1⟩ := res2 (W := wm) (b := w1.heap.size + 1) (.int .i64 ((G.n : Int) - 1)) (.int .i64 ((G.len 0 : Int) - 1)) x0 x1
    obtain ⟨w4, hw4⟩ : ∃ w4, (wm.setCell ⟨w1.heap.size + 1, 0, none⟩ (.int .i64 ((G.n : Int) - 1))).setCell ⟨w1.heap.size + 1, 1, none⟩ (.int .i64 ((G.len 0 : Int) - 1)) = w4 := ⟨_, rfl⟩
    rw [hw4] at y0 y1
    have hzm : w1.heap.size + 1 < wm.heap.size := by rw [← hwm]; simpa [World.setCell] using hz3
    have b4 : Below (w1.heap.size + 1) w3 w4 := by rw [← hw4]; exact (xm.setCell (p := ⟨w1.heap.size + 1, 0, none⟩) (Nat.le_refl _) _).setCell (p := ⟨w1.heap.size + 1, 1, none⟩) (Nat.le_refl _) _
    have hz4 : w1.heap.size + 1 < w4.heap.size := by rw [← hw4]; simpa [World.setCell] using hzm
    have y2 : w4.frozen? ⟨w1.heap.size + 1, 0, none⟩ = false := by rw [← hw4]; simp [go_sem, x2]
    have y3 : w4.frozen? ⟨w1.heap.size + 1, 1, none⟩ = false := by rw [← hw4]; simp [go_sem, x3]
    have S4 := Lib.hid (show w4.cell? ⟨w1.heap.size + 1, 0, none⟩ = some (.int .i64 (((G.n - 1) : Nat) : Int)) ∧ w4.cell? ⟨w1.heap.size + 1, 1, none⟩ = some (.int .i64 (((G.len 0 - 1) : Nat) : Int)) ∧ w4.frozen? ⟨w1.heap.size + 1, 0, none⟩ = false ∧ w4.frozen? ⟨w1.heap.size + 1, 1, none⟩ = false from ⟨by rw [y0, show ((G.n - 1 : Nat) : Int) = (G.n : Int) - 1 by omega], by rw [y1, show ((G.len 0 - 1 : Nat) : Int) = (G.len 0 : Int) - 1 by omega], y2, y3⟩)
    go_wp2_with fail
    clear hw4 l0' l1' t0' t1' t2' t3' hs1 hs2 ht hz3 b3 b2 y0 y1 y2 y3
    go_loopw [10] (fun i wr => ∃ k r' c' : Nat, k ≤ A ∧ i = .int .i64 (k : Int) ∧ r' < G.n ∧ c' < G.len 0 ∧ P k = ((r' * G.len 0 + c' : Nat) : Int) ∧ (∀ j, j < k → openN G (P j) = false) ∧
      (wr.cell? ⟨w1.heap.size + 1, 0, none⟩ = some (.int .i64 (r' : Int)) ∧ wr.cell? ⟨w1.heap.size + 1, 1, none⟩ = some (.int .i64 (c' : Int)) ∧ wr.frozen? ⟨w1.heap.size + 1, 0, none⟩ = false ∧ wr.frozen? ⟨w1.heap.size + 1, 1, none⟩ = false) ∧ Below (w1.heap.size + 1) w3 wr ∧ w1.heap.size + 1 < wr.heap.size) (fun i _ => A - (intOf i).toNat)
    case atStart => exact ⟨0, _, _, Nat.zero_le _, rfl, hr0, hc0, Hzero.out, fun j h => absurd h (Nat.not_lt_zero j), S4.out, b4, hz4⟩
    case round =>
      obtain ⟨k, r', c', hk, rfl, hr', hc', hP, hno, ⟨s0, s1, s2, s3⟩, hbr, hlt⟩ := hrel
      have hAb := HAb.out
      obtain ⟨⟨u0, u1⟩, ⟨v0, v1, v2, v3⟩, Br, cr⟩ := KB.out _ hbr
      have HP := Lib.hid hP
      have Hno := Lib.hid hno
      have Hbr := Lib.hid hbr
      have HBr := Lib.hid Br
      have Hlt := Lib.hid hlt
      have HV := Lib.hid (show _ ∧ _ ∧ _ ∧ _ from ⟨v0, v1, v2, v3⟩)
      clear hP hno hbr Br hlt v0 v1 v2 v3 S4 b4 hz4
      by_cases hkA : k < A
      · have q1 : (k : Int) < (A : Int) := by omega
        have HOc := Lib.hid (HO'.out r' c' wr HBr.out hr' hc')
        cases hg : G.gd r' c' with
        | false =>
          rw [hg] at HOc
          simp only [Bool.not_false] at HOc
          have hres : V = .tuple #[.agg #[.int .i64 (r' : Int), .int .i64 (c' : Int)], .bool true] := by
            have e1 : openN G (P k) = true := by rw [HP.out, openN_at hc', hg]; rfl
            rw [Hfin.out k (by rw [HA.out]; exact hkA) Hno.out e1, HP.out, found_at hc']
          have Hres := Lib.hid hres
          clear hres hg
          go_wp2_with fail
          refine HOc.out.mono ?_
          rintro e w5 ⟨rfl, hb5⟩
          have b5 := Hbr.out.trans (hb5.mono (by have := Hlt.out; omega))
          have z0 := (hb5.cell (p := ⟨w1.heap.size + 1, 0, none⟩) Hlt.out).trans s0
          have z1 := (hb5.cell (p := ⟨w1.heap.size + 1, 1, none⟩) Hlt.out).trans s1
          clear s0 s1 s2 s3 u0 u1 cr
          obtain ⟨-, ⟨v0, v1, v2, v3⟩, Br5, -⟩ := KB.out _ b5
          obtain ⟨x0, x1⟩ := res2 (W := w5) (b := w.heap.size + 1) (.int .i64 (r' : Int)) (.int .i64 (c' : Int)) v0 v1
          go_wp2
          refine bodyPost_ret (v := .tuple #[.agg #[.int .i64 (r' : Int), .int .i64 (c' : Int)], .bool true]) (by simp [results, Try.results22, go_sem, x0, x1]) rfl ⟨by rw [Hres.out], ?_⟩
          exact (Br5.setCell (p := ⟨w.heap.size + 1, 0, none⟩) (by simp) _).setCell (p := ⟨w.heap.size + 1, 1, none⟩) (by simp) _
        | true =>
          rw [hg] at HOc
          simp only [Bool.not_true] at HOc
          have hno' : ∀ j, j < k + 1 → openN G (P j) = false := fun j hj => by
            by_cases e : j = k
            · subst e; rw [HP.out, openN_at hc', hg]; rfl
            · exact Hno.out j (by omega)
          have Hno' := Lib.hid hno'
          clear hno' hg
          have hnx := Hnext.out k
          rw [HP.out, HA.out] at hnx
          have hat : r' * G.len 0 + c' < A := by rw [← HA.out]; exact at_lt hr' hc'
          by_cases h1 : 1 ≤ c'
          · have g1 : ¬ (c' : Int) - 1 < 0 := by omega
            have g1' : (1 : Int) ≤ (c' : Int) := by omega
            have g2 : ¬ (r' : Int) < 0 := by omega
            have hP' : P (k + 1) = (((r') * G.len 0 + (c' - 1) : Nat) : Int) := by
              rw [hnx]
              exact tmod_1 (by omega) (by omega) (by omega)
            have HP' := Lib.hid hP'
            clear hP' hnx
            go_wp2_with fail
            refine HOc.out.mono ?_
            rintro e w5 ⟨rfl, hb5⟩
            have b5 := Hbr.out.trans (hb5.mono (by have := Hlt.out; omega))
            have hz5 := Nat.lt_of_lt_of_le Hlt.out hb5.size
            have z0 := (hb5.cell (p := ⟨w1.heap.size + 1, 0, none⟩) Hlt.out).trans s0
            have z1 := (hb5.cell (p := ⟨w1.heap.size + 1, 1, none⟩) Hlt.out).trans s1
            have z2 := (hb5.frozen (p := ⟨w1.heap.size + 1, 0, none⟩) Hlt.out).trans s2
            have z3 := (hb5.frozen (p := ⟨w1.heap.size + 1, 1, none⟩) Hlt.out).trans s3
            clear s0 s1 s2 s3 u0 u1 cr
            obtain ⟨⟨u0, u1⟩, -, -, -⟩ := KB.out _ b5
            have hnn : ∀ i j : Nat, i ≠ j → (⟨w1.heap.size + 1, i, none⟩ : Addr) ≠ ⟨w1.heap.size + 1, j, none⟩ := fun i j h e => h (by cases e; rfl)
            obtain ⟨wa0, ha0⟩ : ∃ wa, w5.setCell ⟨w1.heap.size + 1, 1, none⟩ (.int .i64 ((c' : Int) - 1)) = wa := ⟨_, rfl⟩
            have e0_1 : wa0.cell? ⟨w1.heap.size + 1, 1, none⟩ = some (.int .i64 ((c' : Int) - 1)) := by rw [← ha0]; exact World.cell?_setCell_same' _ _ _ (by rw [z1]; rfl)
            have e0_0 : wa0.cell? ⟨w1.heap.size + 1, 0, none⟩ = some (.int .i64 (r' : Int)) := by rw [← ha0, World.cell?_setCell_other _ _ _ _ (hnn 1 0 (by decide))]; exact z0
            have f0_0 : wa0.frozen? ⟨w1.heap.size + 1, 0, none⟩ = false := by rw [← ha0]; simp [go_sem, z2]
            have f0_1 : wa0.frozen? ⟨w1.heap.size + 1, 1, none⟩ = false := by rw [← ha0]; simp [go_sem, z3]
            have b0_a : Below (w1.heap.size + 1) w3 wa0 := by rw [← ha0]; exact b5.setCell (p := ⟨w1.heap.size + 1, 1, none⟩) (Nat.le_refl _) _
            have hz0_a : w1.heap.size + 1 < wa0.heap.size := by rw [← ha0]; simpa [World.setCell] using hz5
            obtain ⟨⟨u0_0, u1_0⟩, -, -, -⟩ := KB.out _ b0_a
            go_wp2_with fail
            go_roundw
            case rel => exact ⟨k + 1, r', c' - 1, by omega, by go_num, by omega, by omega, HP'.out, Hno'.out, ⟨by rw [e0_0]; try go_num, by rw [e0_1]; try go_num, f0_0, f0_1⟩, b0_a, hz0_a⟩
            case measure => simp [intOf]; omega
          · by_cases h2 : 1 ≤ r'
            · have g1 : (c' : Int) - 1 < 0 := by omega
              have g2 : ¬ (r' : Int) - 1 < 0 := by omega
              have g2' : (1 : Int) ≤ (r' : Int) := by omega
              have hP' : P (k + 1) = (((r' - 1) * G.len 0 + (G.len 0 - 1) : Nat) : Int) := by
                rw [hnx]
                have h4 : (r' - 1) * G.len 0 + (G.len 0 - 1) + 1 = r' * G.len 0 := by
                  have := Nat.add_mul (r' - 1) 1 (G.len 0)
                  rw [show r' - 1 + 1 = r' by omega] at this
                  omega
                exact tmod_1 (by omega) (by omega) (by omega)
              have HP' := Lib.hid hP'
              clear hP' hnx
              go_wp2_with fail
              refine HOc.out.mono ?_
              rintro e w5 ⟨rfl, hb5⟩
              have b5 := Hbr.out.trans (hb5.mono (by have := Hlt.out; omega))
              have hz5 := Nat.lt_of_lt_of_le Hlt.out hb5.size
              have z0 := (hb5.cell (p := ⟨w1.heap.size + 1, 0, none⟩) Hlt.out).trans s0
              have z1 := (hb5.cell (p := ⟨w1.heap.size + 1, 1, none⟩) Hlt.out).trans s1
              have z2 := (hb5.frozen (p := ⟨w1.heap.size + 1, 0, none⟩) Hlt.out).trans s2
              have z3 := (hb5.frozen (p := ⟨w1.heap.size + 1, 1, none⟩) Hlt.out).trans s3
              clear s0 s1 s2 s3 u0 u1 cr
              obtain ⟨⟨u0, u1⟩, -, -, -⟩ := KB.out _ b5
              have hnn : ∀ i j : Nat, i ≠ j → (⟨w1.heap.size + 1, i, none⟩ : Addr) ≠ ⟨w1.heap.size + 1, j, none⟩ := fun i j h e => h (by cases e; rfl)
              obtain ⟨wa0, ha0⟩ : ∃ wa, w5.setCell ⟨w1.heap.size + 1, 1, none⟩ (.int .i64 ((c' : Int) - 1)) = wa := ⟨_, rfl⟩
              have e0_1 : wa0.cell? ⟨w1.heap.size + 1, 1, none⟩ = some (.int .i64 ((c' : Int) - 1)) := by rw [← ha0]; exact World.cell?_setCell_same' _ _ _ (by rw [z1]; rfl)
              have e0_0 : wa0.cell? ⟨w1.heap.size + 1, 0, none⟩ = some (.int .i64 (r' : Int)) := by rw [← ha0, World.cell?_setCell_other _ _ _ _ (hnn 1 0 (by decide))]; exact z0
              have f0_0 : wa0.frozen? ⟨w1.heap.size + 1, 0, none⟩ = false := by rw [← ha0]; simp [go_sem, z2]
              have f0_1 : wa0.frozen? ⟨w1.heap.size + 1, 1, none⟩ = false := by rw [← ha0]; simp [go_sem, z3]
              have b0_a : Below (w1.heap.size + 1) w3 wa0 := by rw [← ha0]; exact b5.setCell (p := ⟨w1.heap.size + 1, 1, none⟩) (Nat.le_refl _) _
              have hz0_a : w1.heap.size + 1 < wa0.heap.size := by rw [← ha0]; simpa [World.setCell] using hz5
              obtain ⟨⟨u0_0, u1_0⟩, -, -, -⟩ := KB.out _ b0_a
              obtain ⟨wa1, ha1⟩ : ∃ wa, wa0.setCell ⟨w1.heap.size + 1, 1, none⟩ (.int .i64 ((G.len 0 : Int) - 1)) = wa := ⟨_, rfl⟩
              have e1_1 : wa1.cell? ⟨w1.heap.size + 1, 1, none⟩ = some (.int .i64 ((G.len 0 : Int) - 1)) := by rw [← ha1]; exact World.cell?_setCell_same' _ _ _ (by rw [e0_1]; rfl)
              have e1_0 : wa1.cell? ⟨w1.heap.size + 1, 0, none⟩ = some (.int .i64 (r' : Int)) := by rw [← ha1, World.cell?_setCell_other _ _ _ _ (hnn 1 0 (by decide))]; exact e0_0
              have f1_0 : wa1.frozen? ⟨w1.heap.size + 1, 0, none⟩ = false := by rw [← ha1]; simp [go_sem, f0_0]
              have f1_1 : wa1.frozen? ⟨w1.heap.size + 1, 1, none⟩ = false := by rw [← ha1]; simp [go_sem, f0_1]
              have b1_a : Below (w1.heap.size + 1) w3 wa1 := by rw [← ha1]; exact b0_a.setCell (p := ⟨w1.heap.size + 1, 1, none⟩) (Nat.le_refl _) _
              have hz1_a : w1.heap.size + 1 < wa1.heap.size := by rw [← ha1]; simpa [World.setCell] using hz0_a
              obtain ⟨⟨u0_1, u1_1⟩, -, -, -⟩ := KB.out _ b1_a
              obtain ⟨wa2, ha2⟩ : ∃ wa, wa1.setCell ⟨w1.heap.size + 1, 0, none⟩ (.int .i64 ((r' : Int) - 1)) = wa := ⟨_, rfl⟩
              have e2_0 : wa2.cell? ⟨w1.heap.size + 1, 0, none⟩ = some (.int .i64 ((r' : Int) - 1)) := by rw [← ha2]; exact World.cell?_setCell_same' _ _ _ (by rw [e1_0]; rfl)
              have e2_1 : wa2.cell? ⟨w1.heap.size + 1, 1, none⟩ = some (.int .i64 ((G.len 0 : Int) - 1)) := by rw [← ha2, World.cell?_setCell_other _ _ _ _ (hnn 0 1 (by decide))]; exact e1_1
              have f2_0 : wa2.frozen? ⟨w1.heap.size + 1, 0, none⟩ = false := by rw [← ha2]; simp [go_sem, f1_0]
              have f2_1 : wa2.frozen? ⟨w1.heap.size + 1, 1, none⟩ = false := by rw [← ha2]; simp [go_sem, f1_1]
              have b2_a : Below (w1.heap.size + 1) w3 wa2 := by rw [← ha2]; exact b1_a.setCell (p := ⟨w1.heap.size + 1, 0, none⟩) (Nat.le_refl _) _
              have hz2_a : w1.heap.size + 1 < wa2.heap.size := by rw [← ha2]; simpa [World.setCell] using hz1_a
              obtain ⟨⟨u0_2, u1_2⟩, -, -, -⟩ := KB.out _ b2_a
              go_wp2_with fail
              go_roundw
              case rel => exact ⟨k + 1, r' - 1, G.len 0 - 1, by omega, by go_num, by omega, by omega, HP'.out, Hno'.out, ⟨by rw [e2_0]; try go_num, by rw [e2_1]; try go_num, f2_0, f2_1⟩, b2_a, hz2_a⟩
              case measure => simp [intOf]; omega
            · have g1 : (c' : Int) - 1 < 0 := by omega
              have g2 : (r' : Int) - 1 < 0 := by omega
              have hP' : P (k + 1) = (((G.n - 1) * G.len 0 + (G.len 0 - 1) : Nat) : Int) := by
                rw [hnx]
                have h4 : (G.n - 1) * G.len 0 + (G.len 0 - 1) + 1 = A := by
                  have := Nat.add_mul (G.n - 1) 1 (G.len 0)
                  rw [show G.n - 1 + 1 = G.n by omega, HA.out] at this
                  omega
                have h5 : r' * G.len 0 = 0 := by rw [show r' = 0 by omega]; simp
                exact tmod_0 (by omega) (by omega) (by omega)
              have HP' := Lib.hid hP'
              clear hP' hnx
              go_wp2_with fail
              refine HOc.out.mono ?_
              rintro e w5 ⟨rfl, hb5⟩
              have b5 := Hbr.out.trans (hb5.mono (by have := Hlt.out; omega))
              have hz5 := Nat.lt_of_lt_of_le Hlt.out hb5.size
              have z0 := (hb5.cell (p := ⟨w1.heap.size + 1, 0, none⟩) Hlt.out).trans s0
              have z1 := (hb5.cell (p := ⟨w1.heap.size + 1, 1, none⟩) Hlt.out).trans s1
              have z2 := (hb5.frozen (p := ⟨w1.heap.size + 1, 0, none⟩) Hlt.out).trans s2
              have z3 := (hb5.frozen (p := ⟨w1.heap.size + 1, 1, none⟩) Hlt.out).trans s3
              clear s0 s1 s2 s3 u0 u1 cr
              obtain ⟨⟨u0, u1⟩, -, -, -⟩ := KB.out _ b5
              have hnn : ∀ i j : Nat, i ≠ j → (⟨w1.heap.size + 1, i, none⟩ : Addr) ≠ ⟨w1.heap.size + 1, j, none⟩ := fun i j h e => h (by cases e; rfl)
              obtain ⟨wa0, ha0⟩ : ∃ wa, w5.setCell ⟨w1.heap.size + 1, 1, none⟩ (.int .i64 ((c' : Int) - 1)) = wa := ⟨_, rfl⟩
              have e0_1 : wa0.cell? ⟨w1.heap.size + 1, 1, none⟩ = some (.int .i64 ((c' : Int) - 1)) := by rw [← ha0]; exact World.cell?_setCell_same' _ _ _ (by rw [z1]; rfl)
              have e0_0 : wa0.cell? ⟨w1.heap.size + 1, 0, none⟩ = some (.int .i64 (r' : Int)) := by rw [← ha0, World.cell?_setCell_other _ _ _ _ (hnn 1 0 (by decide))]; exact z0
              have f0_0 : wa0.frozen? ⟨w1.heap.size + 1, 0, none⟩ = false := by rw [← ha0]; simp [go_sem, z2]
              have f0_1 : wa0.frozen? ⟨w1.heap.size + 1, 1, none⟩ = false := by rw [← ha0]; simp [go_sem, z3]
              have b0_a : Below (w1.heap.size + 1) w3 wa0 := by rw [← ha0]; exact b5.setCell (p := ⟨w1.heap.size + 1, 1, none⟩) (Nat.le_refl _) _
              have hz0_a : w1.heap.size + 1 < wa0.heap.size := by rw [← ha0]; simpa [World.setCell] using hz5
              obtain ⟨⟨u0_0, u1_0⟩, -, -, -⟩ := KB.out _ b0_a
              obtain ⟨wa1, ha1⟩ : ∃ wa, wa0.setCell ⟨w1.heap.size + 1, 1, none⟩ (.int .i64 ((G.len 0 : Int) - 1)) = wa := ⟨_, rfl⟩
              have e1_1 : wa1.cell? ⟨w1.heap.size + 1, 1, none⟩ = some (.int .i64 ((G.len 0 : Int) - 1)) := by rw [← ha1]; exact World.cell?_setCell_same' _ _ _ (by rw [e0_1]; rfl)
              have e1_0 : wa1.cell? ⟨w1.heap.size + 1, 0, none⟩ = some (.int .i64 (r' : Int)) := by rw [← ha1, World.cell?_setCell_other _ _ _ _ (hnn 1 0 (by decide))]; exact e0_0
              have f1_0 : wa1.frozen? ⟨w1.heap.size + 1, 0, none⟩ = false := by rw [← ha1]; simp [go_sem, f0_0]
              have f1_1 : wa1.frozen? ⟨w1.heap.size + 1, 1, none⟩ = false := by rw [← ha1]; simp [go_sem, f0_1]
              have b1_a : Below (w1.heap.size + 1) w3 wa1 := by rw [← ha1]; exact b0_a.setCell (p := ⟨w1.heap.size + 1, 1, none⟩) (Nat.le_refl _) _
              have hz1_a : w1.heap.size + 1 < wa1.heap.size := by rw [← ha1]; simpa [World.setCell] using hz0_a
              obtain ⟨⟨u0_1, u1_1⟩, -, -, -⟩ := KB.out _ b1_a
              obtain ⟨wa2, ha2⟩ : ∃ wa, wa1.setCell ⟨w1.heap.size + 1, 0, none⟩ (.int .i64 ((r' : Int) - 1)) = wa := ⟨_, rfl⟩
              have e2_0 : wa2.cell? ⟨w1.heap.size + 1, 0, none⟩ = some (.int .i64 ((r' : Int) - 1)) := by rw [← ha2]; exact World.cell?_setCell_same' _ _ _ (by rw [e1_0]; rfl)
              have e2_1 : wa2.cell? ⟨w1.heap.size + 1, 1, none⟩ = some (.int .i64 ((G.len 0 : Int) - 1)) := by rw [← ha2, World.cell?_setCell_other _ _ _ _ (hnn 0 1 (by decide))]; exact e1_1
              have f2_0 : wa2.frozen? ⟨w1.heap.size + 1, 0, none⟩ = false := by rw [← ha2]; simp [go_sem, f1_0]
              have f2_1 : wa2.frozen? ⟨w1.heap.size + 1, 1, none⟩ = false := by rw [← ha2]; simp [go_sem, f1_1]
              have b2_a : Below (w1.heap.size + 1) w3 wa2 := by rw [← ha2]; exact b1_a.setCell (p := ⟨w1.heap.size + 1, 0, none⟩) (Nat.le_refl _) _
              have hz2_a : w1.heap.size + 1 < wa2.heap.size := by rw [← ha2]; simpa [World.setCell] using hz1_a
              obtain ⟨⟨u0_2, u1_2⟩, -, -, -⟩ := KB.out _ b2_a
              obtain ⟨wa3, ha3⟩ : ∃ wa, wa2.setCell ⟨w1.heap.size + 1, 0, none⟩ (.int .i64 ((G.n : Int) - 1)) = wa := ⟨_, rfl⟩
              have e3_0 : wa3.cell? ⟨w1.heap.size + 1, 0, none⟩ = some (.int .i64 ((G.n : Int) - 1)) := by rw [← ha3]; exact World.cell?_setCell_same' _ _ _ (by rw [e2_0]; rfl)
              have e3_1 : wa3.cell? ⟨w1.heap.size + 1, 1, none⟩ = some (.int .i64 ((G.len 0 : Int) - 1)) := by rw [← ha3, World.cell?_setCell_other _ _ _ _ (hnn 0 1 (by decide))]; exact e2_1
              have f3_0 : wa3.frozen? ⟨w1.heap.size + 1, 0, none⟩ = false := by rw [← ha3]; simp [go_sem, f2_0]
              have f3_1 : wa3.frozen? ⟨w1.heap.size + 1, 1, none⟩ = false := by rw [← ha3]; simp [go_sem, f2_1]
              have b3_a : Below (w1.heap.size + 1) w3 wa3 := by rw [← ha3]; exact b2_a.setCell (p := ⟨w1.heap.size + 1, 0, none⟩) (Nat.le_refl _) _
              have hz3_a : w1.heap.size + 1 < wa3.heap.size := by rw [← ha3]; simpa [World.setCell] using hz2_a
              obtain ⟨⟨u0_3, u1_3⟩, -, -, -⟩ := KB.out _ b3_a
              go_wp2_with fail
              go_roundw
              case rel => exact ⟨k + 1, G.n - 1, G.len 0 - 1, by omega, by go_num, by omega, by omega, HP'.out, Hno'.out, ⟨by rw [e3_0]; try go_num, by rw [e3_1]; try go_num, f3_0, f3_1⟩, b3_a, hz3_a⟩
              case measure => simp [intOf]; omega
      · have q1 : ¬ (k : Int) < (A : Int) := by omega
        have hres : V = .tuple #[.agg #[.int .i64 0, .int .i64 0], .bool false] := by
          rw [Hend.out (fun j hj => Hno.out j (by rw [HA.out] at hj; omega))]; rfl
        have Hres := Lib.hid hres
        clear hres
        obtain ⟨v0, v1, v2, v3⟩ := HV.out
        obtain ⟨x0, x1⟩ := res2 (W := wr) (b := w.heap.size + 1) (.int .i64 0) (.int .i64 0) v0 v1
        go_wp2
        refine bodyPost_ret (v := .tuple #[.agg #[.int .i64 0, .int .i64 0], .bool false]) (by simp [results, Try.results22, go_sem, x0, x1]) rfl ⟨by rw [Hres.out], ?_⟩
        exact (HBr.out.setCell (p := ⟨w.heap.size + 1, 0, none⟩) (by simp) _).setCell (p := ⟨w.heap.size + 1, 1, none⟩) (by simp) _
theorem rnext_any (G : Grid) (r c : Int) (back : Bool) (w : World) (h : G.In w.heap.size w) : Fn w 22 #[G.v, .agg #[.int .i64 r, .int .i64 c], .bool back] (foundPos G (nextOf G (if back then -1 else 1) (if back then ((G.n * G.len 0 : Nat) - 1) else 0) r c)) := by
  by_cases hok : G.Ok
  · cases back
    · exact rnext_fwd G r c w h hok
    · exact rnext_back G r c w h hok
  · have e : ∀ st o, nextOf G st o r c = none := fun st o => by simp [nextOf, not_okB hok]
    rw [e]
    exact rnext_not G r c back w h hok
end Go.Proofs.Ytooikmialpfdkaa
