/- TopLooks and TopSends, helper 7 of 27. It holds: ink's around: the iterator over all places from one on; ink's open; ink's Free, Last. Each theorem states its own conditions. -/
import Derived.Test.YtpjooboohelffaaGreatDoorM05
import Derived.Test.YtpjooboohelffaaGreatDoorM04
import Derived.Scope
/- Top: ink's around: the iterator over all places from one on. -/
namespace Go.Proofs.YtpjooboohelffaaGreatDoor
open Go.RowKit Go.Shelf
set_option linter.unusedVariables false
set_option linter.unusedSimpArgs false
set_option maxRecDepth 100000
attribute [local go_sem] Oper.semAt_some
def encP (y : Int × Int) : Array Value := #[pr y.1 y.2]
theorem around_any (w : World) (R C r c s : Int) : Calls Tryz.prog 95 #[pr R C, pr r c, .int .i64 s] w fun e w' =>
  e = .returned (.func (.func 127) #[] #[.pointer (some ⟨w.heap.size, 0, none⟩), .pointer (some ⟨w.heap.size + 1, 0, none⟩), .pointer (some ⟨w.heap.size + 1 + 1, 0, none⟩)]) ∧
   w' = ((w.alloc (.cells #[.int .i64 R, .int .i64 C] 23)).alloc (.cells #[.int .i64 r, .int .i64 c] 36)).alloc (.cells #[.int .i64 s] 3) := by
 go_enter Tryz.func95, Tryz.ntmps95
 go_wp2_with fail
 go_ret
 exact ⟨rfl, rfl⟩
/-- Which place the round k has. -/
def arN (N : Nat) (f s : Int) (k : Nat) : Int := ((f + (k : Int) * s).tmod (N : Int) + (N : Int)).tmod (N : Int)
def arP (N C : Nat) (f s : Int) (k : Nat) : Int × Int := (arN N f s k / (C : Int), arN N f s k % (C : Int))
def arL (N C : Nat) (f s : Int) (k : Nat) : List (Int × Int) := (List.range k).map (arP N C f s)
theorem arL_succ (N C : Nat) (f s : Int) (k : Nat) : arL N C f s (k + 1) = arL N C f s k ++ [arP N C f s k] := by simp [arL, List.range_succ]
theorem arL_len (N C : Nat) (f s : Int) (k : Nat) : (arL N C f s k).length = k := by simp [arL]
set_option maxHeartbeats 1000000 in
theorem around_iter (n : Nat) (hn : 1 ≤ n) (bs bp bb B : Nat) (R C : Nat) (hsz : SzOk R C) (r c s : Int) (hs : s = 1 ∨ s = -1) (f : Int) (hf : f = nearI r R * C + nearI c C) (N : Nat) (hN : R * C = N) (I : List (Int × Int) → World → Prop) (Kp : World → World → Prop) (W0 : World)
  (hIs : ∀ pre X X', I pre X → Below X.heap.size X X' → I pre X')
  (hIc : ∀ pre X, I pre X → X.cell? ⟨bs, 0, none⟩ = some (.int .i64 (R : Int)) ∧ X.cell? ⟨bs, 1, none⟩ = some (.int .i64 (C : Int)) ∧ X.cell? ⟨bp, 0, none⟩ = some (.int .i64 r) ∧ X.cell? ⟨bp, 1, none⟩ = some (.int .i64 c) ∧ X.cell? ⟨bb, 0, none⟩ = some (.int .i64 s)) :
  Iterates Tryz.prog n (n - 1) 127 #[.pointer (some ⟨bs, 0, none⟩), .pointer (some ⟨bp, 0, none⟩), .pointer (some ⟨bb, 0, none⟩)] encP (fun ys => ys = arL N C f s N) (fun _ => True) (fun pre y => y = arP N C f s pre.length ∧ inR R C y.1 y.2) N B I Kp W0 := by
 intro l J Jx hJ0 hJk _ hJI hY
 have hJs : ∀ s X X', J s X → Below X.heap.size X X' → J s X' := fun s X X' hj hb => hJk s X X' hj (hIs _ _ _ (hJI _ _ hj) hb) (keepsB hb)
 have hJc := fun s X (h : J s X) => hIc _ _ (hJI _ _ h)
 have HJ := Lib.hid hJ0
 have HJs := Lib.hid hJs
 have HJc := Lib.hid hJc
 have HY := Lib.hid hY
 clear hJ0 hJs hJc hY hJk hJI hIs hIc
 refine callsIn_of_wp Tryz.func127 rfl trivial ?_ rfl
 simp only [Tryz.ntmps127, List.size_toArray, List.length_cons, List.length_nil, Nat.reduceAdd, Nat.reduceSub, Array.replicate_succ, Array.replicate_zero, List.push_toArray, List.append_toArray, List.nil_append, List.cons_append]
 obtain ⟨a0, a1, a2, a3, a4⟩ := HJc.out _ _ HJ.out
 have HF := Lib.hid (fun W (hb : Below W0.heap.size W0 W) => (show (W.cell? ⟨bs, 0, none⟩ = some (.int .i64 (R : Int)) ∧ W.cell? ⟨bs, 1, none⟩ = some (.int .i64 (C : Int)) ∧ W.cell? ⟨bp, 0, none⟩ = some (.int .i64 r) ∧ W.cell? ⟨bp, 1, none⟩ = some (.int .i64 c) ∧ W.cell? ⟨bb, 0, none⟩ = some (.int .i64 s)) ∧ Below W0.heap.size W0 W from
  ⟨⟨cellB hb a0, cellB hb a1, cellB hb a2, cellB hb a3, cellB hb a4⟩, hb⟩))
 have nr := nearI_in (x := r) (show (1 : Int) ≤ R from hsz.1)
 have nc := nearI_in (x := c) (show (1 : Int) ≤ C from by have := hsz.2.2; omega)
 have HN := fun W => Near_ok W R C r c hsz
 have HX : ∀ W, Fn W 128 #[pr R C, pr (nearI r R) (nearI c C)] (.tuple #[.int .i64 f, .int .i64 0]) := fun W => by rw [hf]; exact index_ok W R C _ _ hsz nr nc
 have hf0 : 0 ≤ f ∧ f < (R : Int) * (C : Int) := by
  have h1 := Int.mul_nonneg nr.1 (show (0 : Int) ≤ C from by omega)
  have h2 : (nearI r R + 1) * (C : Int) ≤ (R : Int) * C := Int.mul_le_mul_of_nonneg_right (by omega) (by omega)
  rw [Int.add_mul] at h2
  omega
 generalize nearI r R = r1 at *
 generalize nearI c C = c1 at *
 clear hf
 gi_wp2_with fail
 refine (wpIn_wide (n := n)).2 ?_
 refine wp_region_held_drew (S := fun W => (W.cell? ⟨bs, 0, none⟩ = some (.int .i64 (R : Int)) ∧ W.cell? ⟨bs, 1, none⟩ = some (.int .i64 (C : Int)) ∧ W.cell? ⟨bp, 0, none⟩ = some (.int .i64 r) ∧ W.cell? ⟨bp, 1, none⟩ = some (.int .i64 c) ∧ W.cell? ⟨bb, 0, none⟩ = some (.int .i64 s)) ∧ Below W0.heap.size W0 W) (by kernel_rfl) (HF.out _ (Below.refl _ _).drew) (fun hHeld => ?_)
 refine sY 0 12 ?_
 refine sY 1 13 ?_
 refine sY 2 14 ?_
 refine sO 3 fun K hK => ?_
 go_simp
 refine (HN _).mono ?_
 rintro e w1 ⟨rfl, b1⟩
 (try go_wp2_with fail)
 refine hK.out _ _ ?_ (fun hHeld => ?_)
 ·exact HF.out _ (bel_call hHeld.2 b1)
 clear hK K
 try simp only [Act.put, List.setIfInBounds_toArray, List.set_cons_zero, List.set_cons_succ]
 refine sO 4 fun K hK => ?_
 go_simp
 refine (HX _).mono ?_
 rintro e w2 ⟨rfl, b2⟩
 (try go_wp2_with fail)
 refine hK.out _ _ ?_ (fun hHeld => ?_)
 ·exact HF.out _ (bel_call hHeld.2 b2)
 clear hK K
 try simp only [Act.put, List.setIfInBounds_toArray, List.set_cons_zero, List.set_cons_succ]
 refine sY 5 11 ?_
 refine sY 6 17 ?_
 refine sY 7 18 ?_
 refine sY 8 5 ?_
 refine sY 9 6 ?_
 refine wpAnyH_done (by kernel_rfl) ?_ _
 have J2 := HJs.out _ _ _ HJ.out hHeld.2
 obtain ⟨⟨k0, k1, k2, k3, k4⟩, kb⟩ := hHeld
 have HJ2 := Lib.hid J2
 clear J2 kb HJ HF b1 b2 a0 a1 a2 a3 a4 HN HX
 have hNi : (R : Int) * (C : Int) = (N : Int) := by rw [← hN]; push_cast; rfl
 have hN2 : N ≤ 65025 := by rw [← hN]; have := Nat.mul_le_mul (show R ≤ 255 from by have := hsz.2.1; omega) (show C ≤ 255 from by have := hsz.2.2; omega); omega
 rw [hNi] at hf0
 obtain ⟨hf0, hf1⟩ := hf0
 have w1 : IntKind.i64.wrap ((R : Int) * (C : Int)) = (N : Int) := by rw [hNi]; exact IntWalk.i64_in _ (by omega)
 have HO := Lib.hid (fun W q (h0 : 0 ≤ q ∧ q < (N : Int)) => of_ok W R C q hsz (by rw [hNi]; exact h0))
 have Hcz := Lib.hid (show 1 ≤ C from by have := hsz.2.2; omega)
 have Hin := Lib.hid (fun q (h0 : 0 ≤ q ∧ q < (N : Int)) => (show inR R C (q / C) (q % C) from by
  have hc := Hcz.out
  refine ⟨Int.ediv_nonneg h0.1 (by omega), ?_, Int.emod_nonneg _ (by omega), Int.emod_lt_of_pos _ (by omega)⟩
  exact Int.ediv_lt_of_lt_mul (by omega) (by rw [hNi]; exact h0.2)))
 clear hNi hN nr nc
 gi_wp2_with fail
 gi_loopw [25] (fun i wr => ∃ k : Nat, k ≤ N ∧ i = .int .i64 (k : Int) ∧ J (arL N C f s k) wr) (fun i _ => N - (intOf i).toNat)
 case atStart => exact ⟨0, Nat.zero_le _, rfl, HJ2.out⟩
 case round =>
  obtain ⟨k, hk, rfl, hpre⟩ := hrel
  by_cases hlt : k < N
  ·have q1 : (k : Int) < (N : Int) := by omega
   have hJr := hpre
   clear hpre
   obtain ⟨j0, j1, j2, j3, j4⟩ := HJc.out _ _ hJr
   have hJr' := Lib.hid hJr
   have HF := Lib.hid (fun W (hb : Below wr.heap.size wr W) => (show (W.cell? ⟨bs, 0, none⟩ = some (.int .i64 (R : Int)) ∧ W.cell? ⟨bs, 1, none⟩ = some (.int .i64 (C : Int)) ∧ W.cell? ⟨bb, 0, none⟩ = some (.int .i64 s)) ∧ Below wr.heap.size wr W from
    ⟨⟨cellB hb j0, cellB hb j1, cellB hb j4⟩, hb⟩))
   obtain ⟨ks, hks⟩ : ∃ ks, (k : Int) * s = ks := ⟨_, rfl⟩
   have hkb : -(k : Int) ≤ ks ∧ ks ≤ k := by rcases hs with rfl | rfl <;> omega
   have m1 : IntKind.i64.wrap ((k : Int) * s) = ks := by rw [hks]; exact IntWalk.i64_in _ (by omega)
   have m2 : IntKind.i64.wrap (f + ks) = f + ks := IntWalk.i64_in _ (by omega)
   obtain ⟨t1, ht1⟩ : ∃ t, (f + ks).tmod (N : Int) = t := ⟨_, rfl⟩
   have htb : -(N : Int) < t1 ∧ t1 < N := by
    rw [← ht1]
    exact ⟨by have := Int.lt_tmod_of_pos (f + ks) (show (0 : Int) < N by omega); omega, Int.tmod_lt_of_pos _ (by omega)⟩
   have m3 : IntKind.i64.wrap (t1 + (N : Int)) = t1 + N := IntWalk.i64_in _ (by omega)
   obtain ⟨t2, ht2⟩ : ∃ t, (t1 + (N : Int)).tmod (N : Int) = t := ⟨_, rfl⟩
   have htc : 0 ≤ t2 ∧ t2 < (N : Int) := by
    rw [← ht2]
    exact ⟨Int.tmod_nonneg _ (by omega), Int.tmod_lt_of_pos _ (by omega)⟩
   have nz : ¬ (N : Int) = 0 := by omega
   have nz2 : ¬ N = 0 := by omega
   have hA : arP N C f s k = (t2 / (C : Int), t2 % (C : Int)) := by unfold arP arN; rw [hks, ht1, ht2]
   have HOf := fun W => HO.out W t2 htc
   have Hin2 := Hin.out t2 htc
   generalize t2 / (C : Int) = pr1 at *
   generalize t2 % (C : Int) = pc1 at *
   have HAr := Lib.hid hA
   clear hJr j2 j3 hkb htb htc hks hA
   gi_wp2_with fail
   refine (wpIn_wide (n := n)).2 ?_
   refine wp_region_held_drew (S := fun W => (W.cell? ⟨bs, 0, none⟩ = some (.int .i64 (R : Int)) ∧ W.cell? ⟨bs, 1, none⟩ = some (.int .i64 (C : Int)) ∧ W.cell? ⟨bb, 0, none⟩ = some (.int .i64 s)) ∧ Below wr.heap.size wr W) (by kernel_rfl) (HF.out _ (Below.refl _ _).drew) (fun hHeld => ?_)
   refine sY 0 29 ?_
   refine sY 1 30 ?_
   refine sY 2 31 ?_
   refine sY 3 32 ?_
   refine sY 4 33 ?_
   refine sY 5 34 ?_
   refine sY 6 35 ?_
   refine sY 7 36 ?_
   refine sY 8 37 ?_
   refine sY 9 38 ?_
   refine sY 10 39 ?_
   refine sY 11 40 ?_
   refine wpAnyH_ready (rs := [12, 16]) (by kernel_rfl) (by simp) ?_
   refine AllReadyH.cons rfl (fun K hK => ?_) (AllReadyH.cons rfl (fun K hK => ?_) (AllReadyH.nil))
   ·go_simp
    refine (HOf _).mono ?_
    rintro e w3 ⟨rfl, b3⟩
    have hb3 := bel_call hHeld.2 b3
    (try go_wp2_with fail)
    refine hK.out _ _ ?_ (fun hHeld => ?_)
    ·exact HF.out _ hb3
    clear hK K
    try simp only [Act.put, List.setIfInBounds_toArray, List.set_cons_zero, List.set_cons_succ]
    refine sY 13 28 ?_
    refine sY 14 42 ?_
    refine sY 15 43 ?_
    refine sO 16 fun K hK => ?_
    go_simp
    (try go_wp2_with fail)
    refine hK.out _ _ ?_ (fun hHeld => ?_)
    ·exact HF.out _ (bel_alloc hHeld.2 _)
    clear hK K
    try simp only [Act.put, List.setIfInBounds_toArray, List.set_cons_zero, List.set_cons_succ]
    refine sO 17 fun K hK => ?_
    try (refine (fun (x0 : w3.cell? ⟨wr.heap.size, 0, none⟩ = some (.int .i64 0)) (x1 : w3.cell? ⟨wr.heap.size, 1, none⟩ = some (.int .i64 0)) (y0 : w3.frozen? ⟨wr.heap.size, 0, none⟩ = false) (y1 : w3.frozen? ⟨wr.heap.size, 1, none⟩ = false) => ?_) (cellB b3 ?_) (cellB b3 ?_) ((b3.frozen (p := ⟨wr.heap.size, 0, none⟩) ?_).trans ?_) ((b3.frozen (p := ⟨wr.heap.size, 1, none⟩) ?_).trans ?_); rotate_left; iterate 6 (focus (simp [go_sem]; done)))
    go_simp
    (try go_wp2_with fail)
    refine hK.out _ _ ?_ (fun hHeld => ?_)
    ·exact (by first | exact HF.out _ (bel_alloc hb3 _) | exact HF.out _ (bel_set (bel_set hb3 (by simp) _) (by simp) _))
    clear hK K
    try simp only [Act.put, List.setIfInBounds_toArray, List.set_cons_zero, List.set_cons_succ]
    refine sY 18 10 ?_
    refine wpAnyH_done (by kernel_rfl) ?_ _
    have JW := HJs.out _ _ _ hJr'.out hHeld.2
    obtain ⟨fn, tmps, assign, body, hy, hR⟩ := HY.out _ (pr1, pc1) _ JW (by rw [arL_len]; exact hlt) ⟨by rw [arL_len]; exact HAr.out.symm, Hin2⟩
    have hR' := (roundIn_any (m := n - 1) hR).mono (R' := fun e X' => ∃ r : Bool, e = .returned (.bool r) ∧ Hid ((r = true ∧ J (arL N C f s (k + 1)) X') ∨ (r = false ∧ ∃ p2, Jx p2 X'))) (fun e X' h => by
     rcases h with ⟨rfl, a, c⟩ | ⟨rfl, a⟩
     ·exact ⟨true, rfl, .inl ⟨rfl, by rw [arL_succ, HAr.out]; exact a⟩⟩
     ·exact ⟨false, rfl, .inr ⟨rfl, _, a⟩⟩)
    simp only [encP] at hy
    clear JW hR hHeld HOf
    gi_wp2_with fail
    refine hR'.mono ?_
    rintro e W' ⟨r, rfl, hpost⟩
    cases r
    ·rcases hpost with ⟨hr, _⟩ | ⟨-, hJx'⟩
     ·cases hr
     have HJx := Lib.hid hJx'
     clear hJx'
     gi_wp2_with fail
     refine bodyPost_ret (results_none rfl _ _ _) rfl ?_
     obtain ⟨p2, hp2⟩ := HJx.out
     exact ⟨⟨_, rfl⟩, .inr ⟨p2, trivial, hp2⟩⟩
    ·rcases hpost with ⟨-, hJ'⟩ | ⟨hr, _⟩
     rotate_left
     ·cases hr
     have HJ' := Lib.hid hJ'
     clear hJ'
     gi_wp2_with fail
     go_roundw
     case rel => exact ⟨k + 1, by omega, by go_num, HJ'.out⟩
     case measure => simp [intOf]; omega
   ·go_simp
    (try go_wp2_with fail)
    refine hK.out _ _ ?_ (fun hHeld => ?_)
    ·exact HF.out _ (bel_alloc hHeld.2 _)
    clear hK K
    try simp only [Act.put, List.setIfInBounds_toArray, List.set_cons_zero, List.set_cons_succ]
    refine sO 12 fun K hK => ?_
    go_simp
    refine (HOf _).mono ?_
    rintro e w3 ⟨rfl, b3⟩
    have hb3 := bel_call hHeld.2 b3
    (try go_wp2_with fail)
    refine hK.out _ _ ?_ (fun hHeld => ?_)
    ·exact HF.out _ hb3
    clear hK K
    try simp only [Act.put, List.setIfInBounds_toArray, List.set_cons_zero, List.set_cons_succ]
    refine sY 13 28 ?_
    refine sY 14 42 ?_
    refine sY 15 43 ?_
    refine sO 17 fun K hK => ?_
    try (refine (fun (x0 : w3.cell? ⟨wr.heap.size, 0, none⟩ = some (.int .i64 0)) (x1 : w3.cell? ⟨wr.heap.size, 1, none⟩ = some (.int .i64 0)) (y0 : w3.frozen? ⟨wr.heap.size, 0, none⟩ = false) (y1 : w3.frozen? ⟨wr.heap.size, 1, none⟩ = false) => ?_) (cellB b3 ?_) (cellB b3 ?_) ((b3.frozen (p := ⟨wr.heap.size, 0, none⟩) ?_).trans ?_) ((b3.frozen (p := ⟨wr.heap.size, 1, none⟩) ?_).trans ?_); rotate_left; iterate 6 (focus (simp [go_sem]; done)))
    go_simp
    (try go_wp2_with fail)
    refine hK.out _ _ ?_ (fun hHeld => ?_)
    ·exact (by first | exact HF.out _ (bel_alloc hb3 _) | exact HF.out _ (bel_set (bel_set hb3 (by simp) _) (by simp) _))
    clear hK K
    try simp only [Act.put, List.setIfInBounds_toArray, List.set_cons_zero, List.set_cons_succ]
    refine sY 18 10 ?_
    refine wpAnyH_done (by kernel_rfl) ?_ _
    have JW := HJs.out _ _ _ hJr'.out hHeld.2
    obtain ⟨fn, tmps, assign, body, hy, hR⟩ := HY.out _ (pr1, pc1) _ JW (by rw [arL_len]; exact hlt) ⟨by rw [arL_len]; exact HAr.out.symm, Hin2⟩
    have hR' := (roundIn_any (m := n - 1) hR).mono (R' := fun e X' => ∃ r : Bool, e = .returned (.bool r) ∧ Hid ((r = true ∧ J (arL N C f s (k + 1)) X') ∨ (r = false ∧ ∃ p2, Jx p2 X'))) (fun e X' h => by
     rcases h with ⟨rfl, a, c⟩ | ⟨rfl, a⟩
     ·exact ⟨true, rfl, .inl ⟨rfl, by rw [arL_succ, HAr.out]; exact a⟩⟩
     ·exact ⟨false, rfl, .inr ⟨rfl, _, a⟩⟩)
    simp only [encP] at hy
    clear JW hR hHeld HOf
    gi_wp2_with fail
    refine hR'.mono ?_
    rintro e W' ⟨r, rfl, hpost⟩
    cases r
    ·rcases hpost with ⟨hr, _⟩ | ⟨-, hJx'⟩
     ·cases hr
     have HJx := Lib.hid hJx'
     clear hJx'
     gi_wp2_with fail
     refine bodyPost_ret (results_none rfl _ _ _) rfl ?_
     obtain ⟨p2, hp2⟩ := HJx.out
     exact ⟨⟨_, rfl⟩, .inr ⟨p2, trivial, hp2⟩⟩
    ·rcases hpost with ⟨-, hJ'⟩ | ⟨hr, _⟩
     rotate_left
     ·cases hr
     have HJ' := Lib.hid hJ'
     clear hJ'
     gi_wp2_with fail
     go_roundw
     case rel => exact ⟨k + 1, by omega, by go_num, HJ'.out⟩
     case measure => simp [intOf]; omega
  ·obtain rfl : k = N := by omega
   have HPre := Lib.hid hpre
   clear hpre
   gi_wp2_with fail
   go_end0
   exact ⟨⟨_, rfl⟩, .inl ⟨_, rfl, HPre.out⟩⟩
end Go.Proofs.YtpjooboohelffaaGreatDoor
/- Top: ink's open. -/
namespace Go.Proofs.YtpjooboohelffaaGreatDoor
open Go.RowKit Go.Shelf
set_option linter.unusedVariables false
set_option linter.unusedSimpArgs false
set_option maxRecDepth 100000
attribute [local go_sem] Oper.semAt_some
/-- What the rounds leave: the place found, if any. -/
structure OI (w5 : World) (R C ab ib : Nat) (a b : Int) (i : Bool) (W : World) : Prop where
 kept : Kept (fun k => k < w5.heap.size ∧ k ≠ ab ∧ k ≠ ib) w5 W
 at_ : W.cell? ⟨ab, 0, none⟩ = some (.int .i64 a) ∧ W.cell? ⟨ab, 1, none⟩ = some (.int .i64 b) ∧ W.cell? ⟨ib, 0, none⟩ = some (.bool i) ∧ inR R C a b
 ba : Blk W ab 2
 bi : Blk W ib 1
section
variable {w5 W W' : World} {R C ab ib : Nat} {a0 b0 : Int} {i0 : Bool}
theorem OI.to (h : OI w5 R C ab ib a0 b0 i0 W) (ha : ab < w5.heap.size) (hi : ib < w5.heap.size) (hk : Kept (fun k => k < w5.heap.size) W W') : OI w5 R C ab ib a0 b0 i0 W' := by
 obtain ⟨h1, ⟨h2, h3, h4, h5⟩, h6, h7⟩ := h
 exact ⟨h1.trans (hk.less (fun k hk => hk.1)), ⟨hk.cell ha h2, hk.cell ha h3, hk.cell hi h4, h5⟩, h6.to (hk.block _ ha), h7.to (hk.block _ hi)⟩
theorem OI.later (h : OI w5 R C ab ib a0 b0 i0 W) (ha : ab < w5.heap.size) (hi : ib < w5.heap.size) (hb : Below W.heap.size W W') : OI w5 R C ab ib a0 b0 i0 W' :=
 h.to ha hi (Kept.ofBelow hb (fun k hk => Nat.lt_of_lt_of_le hk h.kept.size))
theorem OI.grown (h : OI w5 R C ab ib a0 b0 i0 W) (ha : ab < w5.heap.size) (hi : ib < w5.heap.size) {row : Option Nat} (hg : W.grownBy W' row) (hr : ∀ r, row = some r → w5.heap.size ≤ r) : OI w5 R C ab ib a0 b0 i0 W' :=
 h.to ha hi ((Kept.refl (fun k => k < w5.heap.size) W).grown hg (fun k hk => Nat.lt_of_lt_of_le hk h.kept.size) (fun k e hk => by have := hr k e; omega))
theorem OI.put (h : OI w5 R C ab ib a0 b0 i0 W) (hne : ab ≠ ib) {a b : Int} (hab : inR R C a b) (v : Bool) :
  OI w5 R C ab ib a b v (((W.setCell ⟨ab, 0, none⟩ (.int .i64 a)).setCell ⟨ab, 1, none⟩ (.int .i64 b)).setCell ⟨ib, 0, none⟩ (.bool v)) := by
 obtain ⟨h1, _, h6, h7⟩ := h
 obtain ⟨_, e0, _⟩ := h6.get 0 (by decide)
 obtain ⟨_, e1, _⟩ := h6.get 1 (by decide)
 obtain ⟨_, e2, _⟩ := h7.get 0 (by decide)
 refine ⟨((h1.set (fun hk => hk.2.1 rfl) _).set (fun hk => hk.2.1 rfl) _).set (fun hk => hk.2.2 rfl) _, ⟨?_, ?_, ?_, hab⟩, ((h6.set _ _).set _ _).set _ _, ((h7.set _ _).set _ _).set _ _⟩
 ·refine cs_other ?_ (fun e => hne e.symm)
  rw [World.cell?_setCell_other _ _ _ _ (by simp)]
  exact World.cell?_setCell_same' _ _ _ (by rw [e0]; rfl)
 ·refine cs_other ?_ (fun e => hne e.symm)
  exact World.cell?_setCell_same' _ _ _ (by rw [World.cell?_setCell_other _ _ _ _ (by simp), e1]; rfl)
 ·exact World.cell?_setCell_same' _ _ _ (by rw [cs_other (cs_other e2 hne) hne]; rfl)
theorem OI.keeps (h : OI w5 R C ab ib a0 b0 i0 W) (ha : ab < w5.heap.size) (hi : ib < w5.heap.size) (a b : Int) (v : Bool) :
  KeepsFrom w5.heap.size W (((W.setCell ⟨ab, 0, none⟩ (.int .i64 a)).setCell ⟨ab, 1, none⟩ (.int .i64 b)).setCell ⟨ib, 0, none⟩ (.bool v)) := by
 refine ⟨by simp [World.setCell], fun q o hB hq _ => ?_⟩
 rw [Below.heap_setCell _ _ _ _ (by simp <;> omega), Below.heap_setCell _ _ _ _ (by simp <;> omega), Below.heap_setCell _ _ _ _ (by simp <;> omega)]
 exact hq
end
/-- What is found: an open place, or all are guarded. -/
def OpenP (R C : Nat) (cell : Nat → Nat → Cl) (a b : Int) (i : Bool) : Prop := (i = true → (cell a.toNat b.toNat).d = false) ∧ (i = false → ∀ p q, p < R → q < C → (cell p q).d = true)
theorem arN_cover (N : Nat) (f s : Int) (hs : s = 1 ∨ s = -1) (hf : 0 ≤ f ∧ f < N) (q : Int) (hq : 0 ≤ q ∧ q < N) : ∃ k, k < N ∧ arN N f s k = q := by
 have hN : (0 : Int) < N := by omega
 rcases hs with rfl | rfl
 ·by_cases h : f ≤ q
  ·refine ⟨(q - f).toNat, by omega, ?_⟩
   unfold arN
   rw [show f + ((q - f).toNat : Int) * 1 = q by omega, Int.tmod_eq_of_lt hq.1 hq.2, Int.tmod_eq_emod_of_nonneg (by omega), Int.add_emod_right, Int.emod_eq_of_lt hq.1 hq.2]
  ·refine ⟨(q - f + N).toNat, by omega, ?_⟩
   unfold arN
   rw [show f + ((q - f + N).toNat : Int) * 1 = q + N by omega, Int.tmod_eq_emod_of_nonneg (a := q + N) (by omega), Int.add_emod_right, Int.emod_eq_of_lt hq.1 hq.2, Int.tmod_eq_emod_of_nonneg (by omega), Int.add_emod_right, Int.emod_eq_of_lt hq.1 hq.2]
 ·by_cases h : q ≤ f
  ·refine ⟨(f - q).toNat, by omega, ?_⟩
   unfold arN
   rw [show f + ((f - q).toNat : Int) * (-1) = q by omega, Int.tmod_eq_of_lt hq.1 hq.2, Int.tmod_eq_emod_of_nonneg (by omega), Int.add_emod_right, Int.emod_eq_of_lt hq.1 hq.2]
  ·refine ⟨(f - q + N).toNat, by omega, ?_⟩
   unfold arN
   rw [show f + ((f - q + N).toNat : Int) * (-1) = -((N : Int) - q) by omega, Int.neg_tmod, Int.tmod_eq_of_lt (a := (N : Int) - q) (b := (N : Int)) (by omega) (by omega), show -((N : Int) - q) + N = q by omega, Int.tmod_eq_of_lt hq.1 hq.2]
theorem arP_cover {R C : Nat} {f s : Int} (hs : s = 1 ∨ s = -1) (hf : 0 ≤ f ∧ f < ((R * C : Nat) : Int)) {p q : Nat} (hp : p < R) (hq : q < C) : ∃ k, k < R * C ∧ arP (R * C) C f s k = ((p : Int), (q : Int)) := by
 have h1 : p * C + q < R * C := by
  have : (p + 1) * C ≤ R * C := Nat.mul_le_mul_right C hp
  rw [Nat.succ_mul] at this
  omega
 obtain ⟨k, hk, he⟩ := arN_cover (R * C) f s hs hf ((p * C + q : Nat) : Int) ⟨by omega, by omega⟩
 refine ⟨k, hk, ?_⟩
 unfold arP
 rw [he]
 have hC : 0 < C := by omega
 have e1 : (p * C + q) / C = p := by rw [Nat.mul_comm, Nat.mul_add_div hC, Nat.div_eq_of_lt hq]; omega
 have e2 : (p * C + q) % C = q := by rw [Nat.mul_comm, Nat.mul_add_mod, Nat.mod_eq_of_lt hq]
 rw [← Int.natCast_ediv, ← Int.natCast_emod, e1, e2]
set_option maxHeartbeats 1000000 in
theorem open_any {K : Nat → Prop} {g rb cp R C : Nat} {rs : Nat → Nat} {cell : Nat → Nat → Cl} (w : World) (h : GridIs K w g rb cp R C rs cell) (r c s : Int) (hs : s = 1 ∨ s = -1) :
  Calls Tryz.prog 60 #[.pointer (some ⟨g, 0, none⟩), pr r c, .int .i64 s] w fun e w' => (∃ a b i, e = .returned (.tuple #[pr a b, .bool i]) ∧ inR R C a b ∧ OpenP R C cell a b i) ∧ Below w.heap.size w w' := by
 refine (callsIn_wide (n := 3)).1 (callsIn_of_wp_marks Tryz.func60 rfl trivial ?_ rfl)
 simp only [Tryz.ntmps60, List.size_toArray, List.length_cons, List.length_nil, Nat.reduceAdd, Nat.reduceSub, Array.replicate_succ, Array.replicate_zero, List.push_toArray, List.append_toArray, List.nil_append, List.cons_append]
 have HS := Lib.hid (fun W (hb : Below w.heap.size w W) => size_any W (h.later hb))
 have HAt := Lib.hid (fun W (hb : Below w.heap.size w W) (i j : Nat) hi hj => at_ok W (h.later hb) i j hi hj)
 have HG := Lib.hid h
 have HA := Lib.hid (fun W => around_any W R C r c s)
 have Hf := Lib.hid (show 0 ≤ nearI r R * C + nearI c C ∧ nearI r R * C + nearI c C < ((R * C : Nat) : Int) from by
  have hr1 := h.r1
  have hc1 := h.c1
  have nr := nearI_in (x := r) (show (1 : Int) ≤ R from by omega)
  have nc := nearI_in (x := c) (show (1 : Int) ≤ C from by omega)
  have h1 := Int.mul_nonneg nr.1 (show (0 : Int) ≤ C from by omega)
  have h2 : (nearI r R + 1) * (C : Int) ≤ (R : Int) * C := Int.mul_le_mul_of_nonneg_right (by omega) (by omega)
  rw [Int.add_mul] at h2
  push_cast
  omega)
 clear h
 gi_wp2_with fail
 refine (wpIn_wide (n := 3)).2 (wp_scope_straight ((wpIn_wide (n := 3)).1 ?_))
 gi_wp2_with fail
 refine (wpIn_wide (n := 3)).2 (wp_label ?_)
 gi_wp2_with fail
 obtain ⟨w2, hw2⟩ : ∃ w2, ((((w.alloc (Obj.cells #[Value.pointer (some { block := g, off := 0 })] 79)).alloc (Obj.cells #[Value.int IntKind.i64 r, Value.int IntKind.i64 c] 36)).alloc
       (Obj.cells #[Value.int IntKind.i64 0, Value.int IntKind.i64 0] 36)).alloc (Obj.cells #[Value.int IntKind.i64 0, Value.int IntKind.i64 0] 36)).alloc (Obj.cells #[Value.bool false] 4) = w2 := ⟨_, rfl⟩
 have hB : Below w.heap.size w w2 := by rw [← hw2]; exact bel_alloc (bel_alloc (bel_alloc (bel_alloc (bel_alloc (Below.refl _ _) _) _) _) _) _
 have f0 : w2.cell? ⟨w.heap.size, 0, none⟩ = some (.pointer (some ⟨g, 0, none⟩)) := by rw [← hw2]; simp [go_sem]
 have f1 : w2.cell? ⟨w.heap.size + 1, 0, none⟩ = some (.int .i64 r) ∧ w2.cell? ⟨w.heap.size + 1, 1, none⟩ = some (.int .i64 c) := by rw [← hw2]; constructor <;> simp [go_sem]
 have f2 : Blk w2 (w.heap.size + 1 + 1) 2 := by rw [← hw2]; exact (((Blk.new (by simp) rfl).alloc _).alloc _)
 have f3 : w2.cell? ⟨w.heap.size + 1 + 1 + 1, 0, none⟩ = some (.int .i64 0) ∧ w2.cell? ⟨w.heap.size + 1 + 1 + 1, 1, none⟩ = some (.int .i64 0) ∧ w2.cell? ⟨w.heap.size + 1 + 1 + 1 + 1, 0, none⟩ = some (.bool false) := by rw [← hw2]; refine ⟨?_, ?_, ?_⟩ <;> simp [go_sem]
 have f4 : Blk w2 (w.heap.size + 1 + 1 + 1) 2 ∧ Blk w2 (w.heap.size + 1 + 1 + 1 + 1) 1 := by rw [← hw2]; exact ⟨((Blk.new (by simp) rfl).alloc _), Blk.new (by simp) rfl⟩
 have hsz : w2.heap.size = w.heap.size + 5 := by rw [← hw2]; simp
 rw [hw2]
 clear hw2
 have k0 := f0
 obtain ⟨k1, k2⟩ := f1
 have HF := Lib.hid (fun W (hb : Below w2.heap.size w2 W) => (show (W.cell? ⟨w.heap.size, 0, none⟩ = some (.pointer (some ⟨g, 0, none⟩)) ∧ W.cell? ⟨w.heap.size + 1, 0, none⟩ = some (.int .i64 r) ∧ W.cell? ⟨w.heap.size + 1, 1, none⟩ = some (.int .i64 c)) ∧ Below w2.heap.size w2 W from ⟨⟨cellB hb k0, cellB hb k1, cellB hb k2⟩, hb⟩))
 have HB2 := Lib.hid hB
 clear k0 k1 k2 hB
 have Hf2 := Lib.hid f2
 have Hf3 := Lib.hid f3
 have Hf4 := Lib.hid f4
 have Hsz := Lib.hid hsz
 clear f0 f2 f3 f4 hsz
 refine (wpIn_wide (n := 3)).2 (wp_only ?_)
 refine wp_region_held_drew (S := fun W => (W.cell? ⟨w.heap.size, 0, none⟩ = some (.pointer (some ⟨g, 0, none⟩)) ∧ W.cell? ⟨w.heap.size + 1, 0, none⟩ = some (.int .i64 r) ∧ W.cell? ⟨w.heap.size + 1, 1, none⟩ = some (.int .i64 c)) ∧ Below w2.heap.size w2 W) (by kernel_rfl) (HF.out _ (Below.refl _ _).drew) (fun hHeld => ?_)
 refine sY 0 14 ?_
 refine sY 2 16 ?_
 refine sY 3 17 ?_
 refine sO 1 fun K hK => ?_
 go_simp
 refine (HS.out _ (bel_call HB2.out hHeld.2)).mono ?_
 rintro e w3 ⟨rfl, b3⟩
 have hb3 := bel_call hHeld.2 b3
 (try go_wp2_with fail)
 refine hK.out _ _ ?_ (fun hHeld => ?_)
 ·exact HF.out _ hb3
 clear hK K
 try simp only [Act.put, List.setIfInBounds_toArray, List.set_cons_zero, List.set_cons_succ]
 refine sO 4 fun K hK => ?_
 go_simp
 refine (HA.out _).mono ?_
 rintro e w4 ⟨rfl, rfl⟩
 (try go_wp2_with fail)
 refine hK.out _ _ ?_ (fun hHeld => ?_)
 ·exact HF.out _ (bel_alloc (bel_alloc (bel_alloc hHeld.2 _) _) _)
 clear hK K
 try simp only [Act.put, List.setIfInBounds_toArray, List.set_cons_zero, List.set_cons_succ]
 refine wpAnyH_done (by kernel_rfl) ?_ _
 have H5 := Lib.hid hHeld
 clear hHeld
 dsimp only [OnlyNormal]
 gi_wp2_with fail
 refine gen_tmps ?_
 intro T hT
 simp only at hT
 obtain ⟨w5, hw5⟩ : ∃ w5, ((w3.alloc (Obj.cells #[Value.int IntKind.i64 ↑R, Value.int IntKind.i64 ↑C] 23)).alloc (Obj.cells #[Value.int IntKind.i64 r, Value.int IntKind.i64 c] 36)).alloc (Obj.cells #[Value.int IntKind.i64 s] 3) = w5 := ⟨_, rfl⟩
 have hb5 := H5.out.2
 rw [hw5] at hb5 ⊢
 have x0 : w5.cell? ⟨w3.heap.size, 0, none⟩ = some (.int .i64 (R : Int)) ∧ w5.cell? ⟨w3.heap.size, 1, none⟩ = some (.int .i64 (C : Int)) ∧ w5.cell? ⟨w3.heap.size + 1, 0, none⟩ = some (.int .i64 r) ∧ w5.cell? ⟨w3.heap.size + 1, 1, none⟩ = some (.int .i64 c) ∧ w5.cell? ⟨w3.heap.size + 1 + 1, 0, none⟩ = some (.int .i64 s) := by
  rw [← hw5]; refine ⟨?_, ?_, ?_, ?_, ?_⟩ <;> simp [go_sem]
 have z5 : w5.heap.size = w3.heap.size + 3 := by rw [← hw5]; simp
 clear hw5 H5
 have z3 := hb3.size
 have z2 := Hsz.out
 have BW := bel_call HB2.out hb5
 obtain ⟨y0, y1, y2⟩ := Hf3.out
 have I0 : OI w5 R C (w.heap.size + 1 + 1 + 1) (w.heap.size + 1 + 1 + 1 + 1) 0 0 false w5 := ⟨Kept.refl _ _, ⟨cellB hb5 y0, cellB hb5 y1, cellB hb5 y2, by have := HG.out.r1; have := HG.out.c1; unfold inR; omega⟩, Hf4.out.1.later hb5, Hf4.out.2.later hb5⟩
 have HC : ∀ W a b i, OI w5 R C (w.heap.size + 1 + 1 + 1) (w.heap.size + 1 + 1 + 1 + 1) a b i W → Below w.heap.size w W ∧ W.cell? ⟨w.heap.size, 0, none⟩ = some (.pointer (some ⟨g, 0, none⟩)) ∧ Blk W (w.heap.size + 1 + 1) 2 ∧
   (W.cell? ⟨w3.heap.size, 0, none⟩ = some (.int .i64 (R : Int)) ∧ W.cell? ⟨w3.heap.size, 1, none⟩ = some (.int .i64 (C : Int)) ∧ W.cell? ⟨w3.heap.size + 1, 0, none⟩ = some (.int .i64 r) ∧ W.cell? ⟨w3.heap.size + 1, 1, none⟩ = some (.int .i64 c) ∧ W.cell? ⟨w3.heap.size + 1 + 1, 0, none⟩ = some (.int .i64 s)) := by
  intro W a b i hW
  have kc := fun {b o v} (hb : b < w5.heap.size ∧ b ≠ w.heap.size + 1 + 1 + 1 ∧ b ≠ w.heap.size + 1 + 1 + 1 + 1) (hc : w5.cell? ⟨b, o, none⟩ = some v) => hW.kept.cell (K := fun k => k < w5.heap.size ∧ k ≠ w.heap.size + 1 + 1 + 1 ∧ k ≠ w.heap.size + 1 + 1 + 1 + 1) hb hc
  exact ⟨BW.trans (hW.kept.less (K' := fun k => k < w.heap.size) (fun k hk => ⟨by omega, by omega, by omega⟩)).below, kc (by omega) (cellB hb5 (HF.out _ (Below.refl _ _)).1.1), (Hf2.out.later hb5).to (hW.kept.block _ ⟨by omega, by omega, by omega⟩),
   kc (by omega) x0.1, kc (by omega) x0.2.1, kc (by omega) x0.2.2.1, kc (by omega) x0.2.2.2.1, kc (by omega) x0.2.2.2.2⟩
 have HI0 := Lib.hid I0
 have HCC := Lib.hid HC
 have Hz5 := Lib.hid (show w.heap.size + 1 + 1 + 1 < w5.heap.size ∧ w.heap.size + 1 + 1 + 1 + 1 < w5.heap.size from by omega)
 have Hsz2 := HG.out.sz
 have Hrc := Lib.hid Hsz2
 clear I0 HC z5 z3 z2 BW y0 y1 y2 x0 hb5 hb3 b3 Hsz2 Hf2 Hf3 Hf4 Hsz HF HB2 HA HS
 refine range_law (n := 2) (m := 1) (gf := 127) (lb := #[.pointer (some ⟨w3.heap.size, 0, none⟩), .pointer (some ⟨w3.heap.size + 1, 0, none⟩), .pointer (some ⟨w3.heap.size + 1 + 1, 0, none⟩)]) (by rw [hT]; rfl) (enters_of Tryz.func127 (by kernel_rfl) rfl) (encs := encP) (fun _ => rfl)
  (S := fun ys => ys = arL (R * C) C (nearI r R * C + nearI c C) s (R * C)) (Sp := fun _ => True) (V := fun pre y => y = arP (R * C) C (nearI r R * C + nearI c C) s pre.length ∧ inR R C y.1 y.2) (N := R * C) (Kp := KeepsT 23) KeepsT.trans (fun W l o o' _ hl ho _ => KeepsT.putObj W l o o' hl ho)
  (fun pre W => (∀ y ∈ pre, (cell y.1.toNat y.2.toNat).d = true) ∧ OI w5 R C (w.heap.size + 1 + 1 + 1) (w.heap.size + 1 + 1 + 1 + 1) 0 0 false W)
  (fun c pre W => c = .exit 0 ∧ ∃ a b, (cell a.toNat b.toNat).d = false ∧ OI w5 R C (w.heap.size + 1 + 1 + 1) (w.heap.size + 1 + 1 + 1 + 1) a b true W)
  ?hI ?hIx ⟨by simp, HI0.out⟩
  (fun y a' W => ∃ b, w5.heap.size ≤ b ∧ W.heap[b]? = some (.cells #[.int .i64 y.1, .int .i64 y.2] 36 (0, 0)) ∧
   a' = { tmps := (T.setIfInBounds 19 (pr y.1 y.2)).setIfInBounds 10 (.pointer (some ⟨b, 0, none⟩)), defers := [] })
  ?hAx ?hit ?assign ?body ?done ?stop
 case hI => exact fun s W W' row h hg hr => ⟨h.1, h.2.grown Hz5.out.1 Hz5.out.2 hg (fun r e => (hr r e).1)⟩
 case hIx => exact fun c pre W W' row h hg hr => ⟨h.1, h.2.elim fun a h => h.elim fun b h => ⟨a, b, h.1, h.2.grown Hz5.out.1 Hz5.out.2 hg (fun r e => (hr r e).1)⟩⟩
 case hAx =>
  rintro y a' _ W W' row ⟨b, hb, k0, e⟩ hg hr
  exact ⟨b, hb, blk_kept k0 hg (fun r e => (hr r e).2), e⟩
 case hit =>
  rintro W0 ⟨o, o', _, _, rfl⟩ hI0
  exact around_iter 2 (by decide) _ _ _ _ R C Hrc.out r c s hs _ rfl _ rfl _ _ _ (fun pre X X' h hb => ⟨h.1, h.2.later Hz5.out.1 Hz5.out.2 hb⟩) (fun pre X h => (HCC.out _ _ _ _ h.2).2.2.2)
 case assign =>
  rintro l pre y W Kk ⟨hpr, hi⟩ hK
  have hbW : Below W.heap.size W (W.alloc (Obj.cells #[Value.int IntKind.i64 y.1, Value.int IntKind.i64 y.2] 36)) := bel_alloc (Below.refl _ _) _
  have h5 := hi.kept.size
  have HKk := Lib.hid (fun (a : Act) h => hK a _ (keepsB hbW) (KeepsT.ofBelow hbW) ⟨hpr, hi.later Hz5.out.1 Hz5.out.2 hbW⟩ ⟨W.heap.size, by omega, heap_alloc_new W _, h⟩)
  clear hK hi h5 hbW hpr
  subst hT
  simp only [encP]
  gi_wp2
  exact HKk.out _ rfl
 case body =>
  rintro l pre y a' W ⟨hpr, hi⟩ ⟨b, hb, kb0, rfl⟩ hlen ⟨-, hy⟩
  have Hpr := Lib.hid hpr
  clear hpr
  subst hT
  obtain ⟨v0, v1⟩ := cells2 kb0
  obtain ⟨hBW, e0, -, -⟩ := HCC.out _ _ _ _ hi
  have hy2 := hy
  unfold inR at hy2
  obtain ⟨i, hi1⟩ := Int.eq_ofNat_of_zero_le hy2.1
  obtain ⟨j, hj1⟩ := Int.eq_ofNat_of_zero_le hy2.2.2.1
  have hi2 : i < R := by omega
  have hj2 : j < C := by omega
  rw [hi1] at v0
  rw [hj1] at v1
  have lb := blt v0
  have HI := Lib.hid hi
  have hwz := hi.kept.size
  have END := Lib.hid (fun X (hb : Below W.heap.size W X) => (show KeepsFrom w5.heap.size W X ∧ KeepsT 23 W X ∧ OI w5 R C (w.heap.size + 1 + 1 + 1) (w.heap.size + 1 + 1 + 1 + 1) 0 0 false X from ⟨keepsB hb, KeepsT.ofBelow hb, hi.later Hz5.out.1 Hz5.out.2 hb⟩))
  have HBW := Lib.hid hBW
  clear hi hBW kb0 hlen hy2
  cases hgd : (cell i j).d with
  | true =>
   have Hgd := Lib.hid hgd
   gi_wp2_with (refine ⟨trivial, ?_⟩; gi_at_call 96; refine (CallsIn.inRound l (callsIn_wide.2 (HAt.out _ HBW.out i j hi2 hj2))).mono ?_; rintro e w6 ⟨rfl, b6⟩; unfold Cl.v; have B7 := bel_alloc b6 (Obj.cells #[Value.int IntKind.i32 (cell i j).g, Value.int IntKind.i64 (cell i j).a, Value.bool (cell i j).d, Value.int IntKind.i64 (cell i j).m] 48); have v0' := cellB b6 v0; have v1' := cellB b6 v1; have lv := blt v0'; have O6 := HI.out.later Hz5.out.1 Hz5.out.2 b6; obtain ⟨q0, p0, z0⟩ := O6.ba.get 0 (by decide); obtain ⟨q1, p1, z1⟩ := O6.ba.get 1 (by decide); obtain ⟨q2, p2, z2⟩ := O6.bi.get 0 (by decide); have lz := blt p0; have ly := blt p2; clear O6; rw [hgd] at B7 ⊢)
   obtain ⟨z1, z2, z3⟩ := END.out _ B7
   refine ⟨z1, z2, ?_, z3⟩
   have hall : ∀ z ∈ pre ++ [y], (cell z.1.toNat z.2.toNat).d = true := fun z hz => (List.mem_append.1 hz).elim (Hpr.out z) (fun e => by simp at e; rw [e, hi1, hj1]; exact Hgd.out)
   first | exact hall | exact fun a b h => hall (a, b) h
  | false =>
   have Hgd := Lib.hid hgd
   gi_wp2_with (refine ⟨trivial, ?_⟩; gi_at_call 96; refine (CallsIn.inRound l (callsIn_wide.2 (HAt.out _ HBW.out i j hi2 hj2))).mono ?_; rintro e w6 ⟨rfl, b6⟩; unfold Cl.v; have B7 := bel_alloc b6 (Obj.cells #[Value.int IntKind.i32 (cell i j).g, Value.int IntKind.i64 (cell i j).a, Value.bool (cell i j).d, Value.int IntKind.i64 (cell i j).m] 48); have v0' := cellB b6 v0; have v1' := cellB b6 v1; have lv := blt v0'; have O6 := HI.out.later Hz5.out.1 Hz5.out.2 b6; obtain ⟨q0, p0, z0⟩ := O6.ba.get 0 (by decide); obtain ⟨q1, p1, z1⟩ := O6.ba.get 1 (by decide); obtain ⟨q2, p2, z2⟩ := O6.bi.get 0 (by decide); have lz := blt p0; have ly := blt p2; clear O6; rw [hgd] at B7 ⊢)
   have O6 := HI.out.later Hz5.out.1 Hz5.out.2 b6
   have P6 := O6.put (by omega) (show inR R C (i : Int) (j : Int) from by unfold inR; omega) true
   exact ⟨(keepsB b6).trans ((O6.keeps Hz5.out.1 Hz5.out.2 _ _ true).trans (keepsB (bel_alloc (Below.refl _ _) _))), rfl, _, _, (by simpa using Hgd.out), P6.later Hz5.out.1 Hz5.out.2 (bel_alloc (Below.refl _ _) _)⟩
 case done =>
  rintro D ys W hD rfl ⟨hall, hi⟩ hK
  subst hT
  have HAll := Lib.hid hall
  clear hall
  have hOP : OpenP R C cell 0 0 false := ⟨fun h => (by cases h), fun _ p q hp hq => by
   obtain ⟨k, hk, he⟩ := arP_cover hs Hf.out hp hq
   have := HAll.out (arP (R * C) C (nearI r R * C + nearI c C) s k) (List.mem_map.2 ⟨k, List.mem_range.2 hk, rfl⟩)
   rw [he] at this
   simpa using this⟩
  have HOP := Lib.hid hOP
  clear hOP
  obtain ⟨p0, p1, p2, hab⟩ := hi.at_
  obtain ⟨hBW, -, hr6, -⟩ := HCC.out _ _ _ _ hi
  obtain ⟨q0, e0, z0⟩ := hr6.get 0 (by decide)
  obtain ⟨q1, e1, z1⟩ := hr6.get 1 (by decide)
  have HBW := Lib.hid hBW
  have HK := Lib.hid hK
  clear hi hBW hr6 hK
  gi_wp2
  refine (wpIn_wide (n := 3)).2 (wp_only ?_)
  go_region
  all_goals
   dsimp only [OnlyNormal]
   gi_wp2
   have X0 : (((W.setCell ⟨w.heap.size + 1 + 1, 0, none⟩ (.int .i64 0)).setCell ⟨w.heap.size + 1 + 1, 1, none⟩ (.int .i64 0)).drew).cell? ⟨w.heap.size + 1 + 1, 0, none⟩ = some (.int .i64 0) := by
    show ((W.setCell ⟨w.heap.size + 1 + 1, 0, none⟩ (.int .i64 0)).setCell ⟨w.heap.size + 1 + 1, 1, none⟩ (.int .i64 0)).cell? ⟨w.heap.size + 1 + 1, 0, none⟩ = some (.int .i64 0)
    rw [World.cell?_setCell_other _ _ _ _ (by simp)]
    exact World.cell?_setCell_same' _ _ _ (by rw [e0]; rfl)
   have X1 : (((W.setCell ⟨w.heap.size + 1 + 1, 0, none⟩ (.int .i64 0)).setCell ⟨w.heap.size + 1 + 1, 1, none⟩ (.int .i64 0)).drew).cell? ⟨w.heap.size + 1 + 1, 1, none⟩ = some (.int .i64 0) := by
    show ((W.setCell ⟨w.heap.size + 1 + 1, 0, none⟩ (.int .i64 0)).setCell ⟨w.heap.size + 1 + 1, 1, none⟩ (.int .i64 0)).cell? ⟨w.heap.size + 1 + 1, 1, none⟩ = some (.int .i64 0)
    exact World.cell?_setCell_same' _ _ _ (by rw [World.cell?_setCell_other _ _ _ _ (by simp), e1]; rfl)
   have hDl := Hz5.out.2
   have X2 : (((W.setCell ⟨w.heap.size + 1 + 1, 0, none⟩ (.int .i64 0)).setCell ⟨w.heap.size + 1 + 1, 1, none⟩ (.int .i64 0)).drew).heap[D]? = some (.deferred (some [])) := by
    show ((W.setCell ⟨w.heap.size + 1 + 1, 0, none⟩ (.int .i64 0)).setCell ⟨w.heap.size + 1 + 1, 1, none⟩ (.int .i64 0)).heap[D]? = _
    rw [Below.heap_setCell _ _ _ _ (by simp <;> omega), Below.heap_setCell _ _ _ _ (by simp <;> omega)]
    exact HK.out
   have X3 : Below w.heap.size w (((W.setCell ⟨w.heap.size + 1 + 1, 0, none⟩ (.int .i64 0)).setCell ⟨w.heap.size + 1 + 1, 1, none⟩ (.int .i64 0)).drew) := (bel_set (bel_set HBW.out (by simp <;> omega) _) (by simp <;> omega) _).drew
   generalize ((W.setCell ⟨w.heap.size + 1 + 1, 0, none⟩ (.int .i64 0)).setCell ⟨w.heap.size + 1 + 1, 1, none⟩ (.int .i64 0)).drew = X at *
   refine ⟨by simp, .inl ⟨_, _, rfl, run_takeDeferred X2, ?_⟩⟩
   have hg := grownBy_putObj' X D (.deferred none)
   have hr : ∀ k, some D = some k → ∃ o : Obj, X.heap[k]? = some o ∧ o.isCells = false := fun k e => by cases e; exact ⟨_, X2, rfl⟩
   have c0 := cell_kept X0 hg hr
   have c1 := cell_kept X1 hg hr
   have X4 := X3.grown hg X3.size (fun k e => by cases e; omega)
   clear X0 X1 X2 X3 hg hr
   exact ⟨.tuple #[pr 0 0, .bool false], by simp [results, Tryz.results60, go_sem, c0, c1], ⟨0, 0, false, rfl, hab, HOP.out⟩, X4⟩
 case stop =>
  rintro D c pre W hD _ ⟨rfl, a, b, hop, hi⟩ hK
  subst hT
  have hOP : OpenP R C cell a b true := ⟨fun _ => hop, fun h => (by cases h)⟩
  have HOP := Lib.hid hOP
  clear hOP hop
  obtain ⟨p0, p1, p2, hab⟩ := hi.at_
  obtain ⟨hBW, -, hr6, -⟩ := HCC.out _ _ _ _ hi
  obtain ⟨q0, e0, z0⟩ := hr6.get 0 (by decide)
  obtain ⟨q1, e1, z1⟩ := hr6.get 1 (by decide)
  have HBW := Lib.hid hBW
  have HK := Lib.hid hK
  clear hi hBW hr6 hK
  gi_wp2
  refine (wpIn_wide (n := 3)).2 (wp_only ?_)
  go_region
  all_goals
   dsimp only [OnlyNormal]
   gi_wp2
   have X0 : (((W.setCell ⟨w.heap.size + 1 + 1, 0, none⟩ (.int .i64 a)).setCell ⟨w.heap.size + 1 + 1, 1, none⟩ (.int .i64 b)).drew).cell? ⟨w.heap.size + 1 + 1, 0, none⟩ = some (.int .i64 a) := by
    show ((W.setCell ⟨w.heap.size + 1 + 1, 0, none⟩ (.int .i64 a)).setCell ⟨w.heap.size + 1 + 1, 1, none⟩ (.int .i64 b)).cell? ⟨w.heap.size + 1 + 1, 0, none⟩ = some (.int .i64 a)
    rw [World.cell?_setCell_other _ _ _ _ (by simp)]
    exact World.cell?_setCell_same' _ _ _ (by rw [e0]; rfl)
   have X1 : (((W.setCell ⟨w.heap.size + 1 + 1, 0, none⟩ (.int .i64 a)).setCell ⟨w.heap.size + 1 + 1, 1, none⟩ (.int .i64 b)).drew).cell? ⟨w.heap.size + 1 + 1, 1, none⟩ = some (.int .i64 b) := by
    show ((W.setCell ⟨w.heap.size + 1 + 1, 0, none⟩ (.int .i64 a)).setCell ⟨w.heap.size + 1 + 1, 1, none⟩ (.int .i64 b)).cell? ⟨w.heap.size + 1 + 1, 1, none⟩ = some (.int .i64 b)
    exact World.cell?_setCell_same' _ _ _ (by rw [World.cell?_setCell_other _ _ _ _ (by simp), e1]; rfl)
   have hDl := Hz5.out.2
   have X2 : (((W.setCell ⟨w.heap.size + 1 + 1, 0, none⟩ (.int .i64 a)).setCell ⟨w.heap.size + 1 + 1, 1, none⟩ (.int .i64 b)).drew).heap[D]? = some (.deferred (some [])) := by
    show ((W.setCell ⟨w.heap.size + 1 + 1, 0, none⟩ (.int .i64 a)).setCell ⟨w.heap.size + 1 + 1, 1, none⟩ (.int .i64 b)).heap[D]? = _
    rw [Below.heap_setCell _ _ _ _ (by simp <;> omega), Below.heap_setCell _ _ _ _ (by simp <;> omega)]
    exact HK.out
   have X3 : Below w.heap.size w (((W.setCell ⟨w.heap.size + 1 + 1, 0, none⟩ (.int .i64 a)).setCell ⟨w.heap.size + 1 + 1, 1, none⟩ (.int .i64 b)).drew) := (bel_set (bel_set HBW.out (by simp <;> omega) _) (by simp <;> omega) _).drew
   generalize ((W.setCell ⟨w.heap.size + 1 + 1, 0, none⟩ (.int .i64 a)).setCell ⟨w.heap.size + 1 + 1, 1, none⟩ (.int .i64 b)).drew = X at *
   refine ⟨by simp, .inl ⟨_, _, rfl, run_takeDeferred X2, ?_⟩⟩
   have hg := grownBy_putObj' X D (.deferred none)
   have hr : ∀ k, some D = some k → ∃ o : Obj, X.heap[k]? = some o ∧ o.isCells = false := fun k e => by cases e; exact ⟨_, X2, rfl⟩
   have c0 := cell_kept X0 hg hr
   have c1 := cell_kept X1 hg hr
   have X4 := X3.grown hg X3.size (fun k e => by cases e; omega)
   clear X0 X1 X2 X3 hg hr
   exact ⟨.tuple #[pr a b, .bool true], by simp [results, Tryz.results60, go_sem, c0, c1], ⟨a, b, true, rfl, hab, HOP.out⟩, X4⟩
end Go.Proofs.YtpjooboohelffaaGreatDoor
/- Top: ink's Free, Last. -/
namespace Go.Proofs.YtpjooboohelffaaGreatDoor
open Go.RowKit Go.Shelf
set_option linter.unusedVariables false
set_option linter.unusedSimpArgs false
set_option maxRecDepth 100000
theorem free0_any {K : Nat → Prop} {g rb cp R C : Nat} {rs : Nat → Nat} {cell : Nat → Nat → Cl} (w : World) (h : GridIs K w g rb cp R C rs cell) (r c : Int) :
  Calls Tryz.prog 33 #[.pointer (some ⟨g, 0, none⟩), pr r c] w fun e w' => (∃ a b i, e = .returned (.tuple #[pr a b, .bool i]) ∧ inR R C a b ∧ OpenP R C cell a b i) ∧ Below w.heap.size w w' := by
 have HO := Lib.hid (fun W (hb : Below w.heap.size w W) => open_any W (h.later hb) r c 1 (by decide))
 clear h
 go_enter Tryz.func33, Tryz.ntmps33
 go_wp2_with fail
 refine gen_calls ?_
 intro u hu0
 have KFu : ∀ W, Below u.heap.size u W → True ∧ (Blk W (w.heap.size + 1) 2) ∧ Below w.heap.size w W := by
  intro W hu
  refine ⟨trivial, ?_, ?_⟩
  ·exact Blk.later (by rw [hu0]; exact Blk.new (by simp) rfl) hu
  ·exact bel_call (by rw [hu0]; (repeat first | exact Below.refl _ _ | refine bel_alloc ?_ _)) hu
 clear hu0
 obtain ⟨_, fr0, kb⟩ := KFu _ (Below.refl _ _)
 refine (HO.out u kb).mono ?_
 rintro e w1 ⟨⟨a, b, i, rfl, hab⟩, b1⟩
 obtain ⟨_, fr1, kb1⟩ := KFu _ b1
 obtain ⟨q0, e0, z0⟩ := fr1.get 0 (by decide)
 obtain ⟨q1, e1, z1⟩ := fr1.get 1 (by decide)
 have hl := blt e0
 have Hkb := Lib.hid kb1
 clear KFu kb kb1 fr0 fr1 b1 HO
 go_wp2_with fail
 have kb := Hkb.out
 exact bodyPost_ret (v := .tuple #[pr a b, .bool i]) (by simp [results, Tryz.results33, go_sem, World.cell?_alloc_lt, e0, e1, hl]) rfl ⟨⟨_, _, _, rfl, hab⟩, by (repeat first | exact kb | exact Below.refl _ _ | refine bel_alloc ?_ _ | refine Below.drew ?_ | refine bel_set ?_ (by simp <;> omega) _)⟩
theorem last0_any {K : Nat → Prop} {g rb cp R C : Nat} {rs : Nat → Nat} {cell : Nat → Nat → Cl} (w : World) (h : GridIs K w g rb cp R C rs cell) (r c : Int) :
  Calls Tryz.prog 34 #[.pointer (some ⟨g, 0, none⟩), pr r c] w fun e w' => (∃ a b i, e = .returned (.tuple #[pr a b, .bool i]) ∧ inR R C a b ∧ OpenP R C cell a b i) ∧ Below w.heap.size w w' := by
 have HO := Lib.hid (fun W (hb : Below w.heap.size w W) => open_any W (h.later hb) r c (-1) (by decide))
 clear h
 go_enter Tryz.func34, Tryz.ntmps34
 go_wp2_with fail
 refine gen_calls ?_
 intro u hu0
 have KFu : ∀ W, Below u.heap.size u W → True ∧ (Blk W (w.heap.size + 1) 2) ∧ Below w.heap.size w W := by
  intro W hu
  refine ⟨trivial, ?_, ?_⟩
  ·exact Blk.later (by rw [hu0]; exact Blk.new (by simp) rfl) hu
  ·exact bel_call (by rw [hu0]; (repeat first | exact Below.refl _ _ | refine bel_alloc ?_ _)) hu
 clear hu0
 obtain ⟨_, fr0, kb⟩ := KFu _ (Below.refl _ _)
 refine (HO.out u kb).mono ?_
 rintro e w1 ⟨⟨a, b, i, rfl, hab⟩, b1⟩
 obtain ⟨_, fr1, kb1⟩ := KFu _ b1
 obtain ⟨q0, e0, z0⟩ := fr1.get 0 (by decide)
 obtain ⟨q1, e1, z1⟩ := fr1.get 1 (by decide)
 have hl := blt e0
 have Hkb := Lib.hid kb1
 clear KFu kb kb1 fr0 fr1 b1 HO
 go_wp2_with fail
 have kb := Hkb.out
 exact bodyPost_ret (v := .tuple #[pr a b, .bool i]) (by simp [results, Tryz.results34, go_sem, World.cell?_alloc_lt, e0, e1, hl]) rfl ⟨⟨_, _, _, rfl, hab⟩, by (repeat first | exact kb | exact Below.refl _ _ | refine bel_alloc ?_ _ | refine Below.drew ?_ | refine bel_set ?_ (by simp <;> omega) _)⟩
end Go.Proofs.YtpjooboohelffaaGreatDoor
