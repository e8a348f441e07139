/- remap: quoted, number: the walks. -/
import Derived.Test.YtnfpfpppnfighaaDoorR2
import Derived.BigQuiet
import Derived.BigRegion
import Derived.StillTailTactics
import Derived.Deep.RegionHeld3
import Derived.Lib.IndexLaws
namespace Go.Proofs.YtnfpfpppnfighaaDoor
open Go.Shelf Go.RowKit
set_option linter.unusedVariables false
set_option linter.unusedSimpArgs false
set_option maxRecDepth 100000
theorem bel_alloc {w W : World} (h : Below w.heap.size w W) (o : Obj) : Below w.heap.size w (W.alloc o) := h.alloc h.size o
theorem bel_call {w W W' : World} (h : Below w.heap.size w W) (k : Below W.heap.size W W') : Below w.heap.size w W' := h.trans (k.mono h.size)
theorem cellB {W W' : World} (hb : Below W.heap.size W W') {b o : Nat} {v : Value} (h : W.cell? ⟨b, o, none⟩ = some v) : W'.cell? ⟨b, o, none⟩ = some v :=
  (hb.cell (p := ⟨b, o, none⟩) (World.block_lt_of_cell? W ⟨b, o, none⟩ h)).trans h
theorem bel_drewN {B : Nat} {a w : World} (h : Below B a w) (n : Nat) : Below B a (w.drewN n) := ⟨h.os, h.tape, h.output, h.size, h.block⟩
theorem bel_drew1 (w : World) : Below w.heap.size w w.drew := ⟨rfl, rfl, rfl, Nat.le_refl _, fun _ _ => rfl⟩
/-- An operation that reads, or is not wanted, taken first; the slot that it writes is named. -/
theorem wpAnyH_step {P : Program} {ops : Array Oper} {Q : Exit → Act → World → Prop} {md : Region.Mode} {S : World → Prop} {i : Nat} {oi : Oper} {d : Option Tmp} {v : Value} {fuel : Nat} {listed : Array Bool} {a : Act} {w : World} (hi : ops[i]? = some oi) (hd : oi.dst = d)
    (hs : Region.noSelect ops = true) (hf : Region.free md ops listed i = true) (hr : (Region.ready md ops listed).contains i = true)
    (hQ : ∀ c a w, Q (.panic c) (a.put d v) w → Q (.panic c) a w) (hy : YieldsIf P ops S oi v a) (hS : S w)
    (h : wpAnyH P md ops Q S fuel (listed.setIfInBounds i true) (a.put d v) w) : wpAnyH P md ops Q S (fuel + 1) listed a w := by
  subst hd
  exact wpAnyH_take hi hs hf hr hQ hy hS h
/-- What quoted and number hand back. -/
def retP : Option (Itm × List UInt8) → Value
  | none => .tuple #[(⟨false, 0, []⟩ : Itm).val, .string (st []), .bool false]
  | some (x, t) => .tuple #[x.val, .string (st t), .bool true]
set_option maxHeartbeats 400000 in
theorem quoted_any (w : World) (b : UInt8) (r : List UInt8) (hl : r.length ≤ 100000) :
    Calls Tryd.prog 43 #[.string (st (b :: r))] w fun e w' => e = .returned (retP (quoP b r)) ∧ Below w.heap.size w w' := by
  have HI := Lib.hid (fun W => (show Calls Tryd.prog 52 #[.string (st r), .int .u8 ((b.toNat : Nat) : Int)] W fun e w' => e = .returned (.int .i64 (Lib.indexByte r b)) ∧ w' = W from by
    have := index_ok (st r) ((b.toNat : Nat) : Int) W
    rw [st_list] at this
    simpa using this))
  obtain ⟨s, hs⟩ : ∃ s, st (b :: r) = s := ⟨_, rfl⟩
  obtain ⟨n, hn⟩ : ∃ n, r.length + 1 = n := ⟨_, rfl⟩
  have h1 : s.size = n := by rw [← hs, st_size, ← hn]; rfl
  have hlt : 0 < s.size := by omega
  have h2 : (s[0]'hlt).toNat = b.toNat := by subst hs; rw [st_get]; rfl
  have h3 : s.extract 1 n = st r := by rw [← hs, st_extract, ← hn]; simp
  have h4 : (1 : Int) ≤ (n : Int) := by omega
  have h5 : 0 < n := by omega
  have h6 : 1 ≤ n := by omega
  rw [hs]
  by_cases hneg : Lib.indexByte r b < 0
  · have hq : retP (quoP b r) = .tuple #[.agg #[.bool false, .int .i64 0, .string ⟨#[]⟩], .string ⟨#[]⟩, .bool false] := by unfold quoP; rw [if_pos hneg]; rfl
    rw [hq]
    generalize Lib.indexByte r b = at' at *
    clear hs hn hq
    go_enter Tryd.func43, Tryd.ntmps43
    go_wp2_with fail
    go_still_tail 4, (by kernel_rfl)
    change wpList _ _ _ _ _ (w.alloc _).drew
    go_wp2_with fail
    refine (HI.out _).mono ?_
    rintro e w2 ⟨rfl, rfl⟩
    go_wp2_with fail
    refine bodyPost_ret (v := .tuple #[.agg #[.bool false, .int .i64 0, .string ⟨#[]⟩], .string ⟨#[]⟩, .bool false]) (by simp [results, Tryd.results43, go_sem]) rfl ⟨rfl, bel_drewN (bel_alloc (Below.refl _ _) _) 1⟩
  · obtain ⟨k, hk⟩ : ∃ k : Nat, Lib.indexByte r b = (k : Int) := ⟨(Lib.indexByte r b).toNat, by omega⟩
    have hkr : k < r.length := (List.getElem?_eq_some_iff.1 (Lib.indexByte_some hk).1).1
    have hq : retP (quoP b r) = .tuple #[.agg #[.bool false, .int .i64 0, .string (st (r.take k))], .string (st (r.drop (k + 1))), .bool true] := by
      unfold quoP; rw [if_neg hneg, hk, Int.toNat_natCast]; rfl
    have e2 : s.extract 1 (k + 1) = st (r.take k) := by rw [← hs, st_extract, List.take_succ_cons]; rfl
    have e3 : s.extract (k + 2) n = st (r.drop (k + 1)) := by rw [← hs, st_extract, ← hn, List.take_of_length_le (by simp)]; rfl
    have g1 : (k : Int) + 2 ≤ (n : Int) := by omega
    have g2 : k + 2 ≤ n := by omega
    have g3 : k + 1 ≤ n := by omega
    have g4 : (k : Int) + 1 ≤ (n : Int) := by omega
    have g5 : (1 : Int) ≤ (k : Int) + 1 := by omega
    have g6 : ¬ (k : Int) < 0 := by omega
    have hkl : k ≤ 100000 := by omega
    have w1 : IntKind.i64.wrap ((k : Int) + 1) = (k : Int) + 1 := IntWalk.i64_in _ (by omega)
    have w2 : IntKind.i64.wrap ((k : Int) + 2) = (k : Int) + 2 := IntWalk.i64_in _ (by omega)
    have w3 : ((k : Int) + 1).toNat = k + 1 := by omega
    have w4 : ((k : Int) + 2).toNat = k + 2 := by omega
    have w5 : (0 : Int) ≤ (k : Int) + 2 := by omega
    rw [hq]
    rw [hk] at HI
    generalize st (r.take k) = s1 at *
    generalize st (r.drop (k + 1)) = s2 at *
    clear hs hn hq hk hneg hkr hl
    go_enter Tryd.func43, Tryd.ntmps43
    go_wp2_with fail
    go_still_tail 4, (by kernel_rfl)
    change wpList _ _ _ _ _ (w.alloc _).drew
    go_wp2_with fail
    refine (HI.out _).mono ?_
    rintro e w2 ⟨rfl, rfl⟩
    go_wp2_with fail
    refine wp_region_held_drew (S := fun _ => True) (by kernel_rfl) trivial (fun hHeld => ?_)
    refine wpAnyH_step (i := 0) (d := some 14) (v := ?_) rfl rfl (by kernel_rfl) (by kernel_rfl) (by kernel_rfl) (fun _ _ _ h => h) (Or.inl ⟨by rfl, ?_⟩) (by assumption) ?_
    rotate_left
    · intro w hSw; (try dsimp only at hSw); go_simp; (try with_reducible rfl)
    try simp only [Act.put, List.setIfInBounds_toArray, List.set_cons_zero, List.set_cons_succ]
    refine wpAnyH_step (i := 1) (d := some 15) (v := ?_) rfl rfl (by kernel_rfl) (by kernel_rfl) (by kernel_rfl) (fun _ _ _ h => h) (Or.inl ⟨by rfl, ?_⟩) (by assumption) ?_
    rotate_left
    · intro w hSw; (try dsimp only at hSw); go_simp; (try with_reducible rfl)
    try simp only [Act.put, List.setIfInBounds_toArray, List.set_cons_zero, List.set_cons_succ]
    refine wpAnyH_step (i := 2) (d := some 16) (v := ?_) rfl rfl (by kernel_rfl) (by kernel_rfl) (by kernel_rfl) (fun _ _ _ h => h) (Or.inl ⟨by rfl, ?_⟩) (by assumption) ?_
    rotate_left
    · intro w hSw; (try dsimp only at hSw); go_simp; (try with_reducible rfl)
    try simp only [Act.put, List.setIfInBounds_toArray, List.set_cons_zero, List.set_cons_succ]
    refine wpAnyH_step (i := 3) (d := some 17) (v := ?_) rfl rfl (by kernel_rfl) (by kernel_rfl) (by kernel_rfl) (fun _ _ _ h => h) (Or.inl ⟨by rfl, ?_⟩) (by assumption) ?_
    rotate_left
    · intro w hSw; (try dsimp only at hSw); go_simp; (try with_reducible rfl)
    try simp only [Act.put, List.setIfInBounds_toArray, List.set_cons_zero, List.set_cons_succ]
    refine wpAnyH_step (i := 4) (d := some 18) (v := ?_) rfl rfl (by kernel_rfl) (by kernel_rfl) (by kernel_rfl) (fun _ _ _ h => h) (Or.inl ⟨by rfl, ?_⟩) (by assumption) ?_
    rotate_left
    · intro w hSw; (try dsimp only at hSw); go_simp; (try with_reducible rfl)
    try simp only [Act.put, List.setIfInBounds_toArray, List.set_cons_zero, List.set_cons_succ]
    refine wpAnyH_step (i := 5) (d := some 19) (v := ?_) rfl rfl (by kernel_rfl) (by kernel_rfl) (by kernel_rfl) (fun _ _ _ h => h) (Or.inl ⟨by rfl, ?_⟩) (by assumption) ?_
    rotate_left
    · intro w hSw; (try dsimp only at hSw); go_simp; (try with_reducible rfl)
    try simp only [Act.put, List.setIfInBounds_toArray, List.set_cons_zero, List.set_cons_succ]
    refine wpAnyH_step (i := 6) (d := some 20) (v := ?_) rfl rfl (by kernel_rfl) (by kernel_rfl) (by kernel_rfl) (fun _ _ _ h => h) (Or.inl ⟨by rfl, ?_⟩) (by assumption) ?_
    rotate_left
    · intro w hSw; (try dsimp only at hSw); go_simp; (try with_reducible rfl)
    try simp only [Act.put, List.setIfInBounds_toArray, List.set_cons_zero, List.set_cons_succ]
    refine wpAnyH_step (i := 7) (d := some 21) (v := ?_) rfl rfl (by kernel_rfl) (by kernel_rfl) (by kernel_rfl) (fun _ _ _ h => h) (Or.inl ⟨by rfl, ?_⟩) (by assumption) ?_
    rotate_left
    · intro w hSw; (try dsimp only at hSw); go_simp; (try with_reducible rfl)
    try simp only [Act.put, List.setIfInBounds_toArray, List.set_cons_zero, List.set_cons_succ]
    refine wpAnyH_step (i := 8) (d := some 22) (v := ?_) rfl rfl (by kernel_rfl) (by kernel_rfl) (by kernel_rfl) (fun _ _ _ h => h) (Or.inl ⟨by rfl, ?_⟩) (by assumption) ?_
    rotate_left
    · intro w hSw; (try dsimp only at hSw); go_simp; (try with_reducible rfl)
    try simp only [Act.put, List.setIfInBounds_toArray, List.set_cons_zero, List.set_cons_succ]
    refine wpAnyH_ready (rs := [9]) (by kernel_rfl) (by simp) ?_
    refine AllReadyH.cons rfl (fun K hK => ?_) AllReadyH.nil
    go_simp
    skip
    (try go_wp2_with fail)
    refine hK.out _ _ ?_ (fun hHeld => ?_)
    · exact trivial
    clear hK K
    try simp only [Act.put, List.setIfInBounds_toArray, List.set_cons_zero, List.set_cons_succ]
    refine wpAnyH_step (i := 10) (d := some 3) (v := ?_) rfl rfl (by kernel_rfl) (by kernel_rfl) (by kernel_rfl) (fun _ _ _ h => h) (Or.inl ⟨by rfl, ?_⟩) (by assumption) ?_
    rotate_left
    · intro w hSw; (try dsimp only at hSw); go_simp; (try with_reducible rfl)
    try simp only [Act.put, List.setIfInBounds_toArray, List.set_cons_zero, List.set_cons_succ]
    refine wpAnyH_step (i := 11) (d := some 4) (v := ?_) rfl rfl (by kernel_rfl) (by kernel_rfl) (by kernel_rfl) (fun _ _ _ h => h) (Or.inl ⟨by rfl, ?_⟩) (by assumption) ?_
    rotate_left
    · intro w hSw; (try dsimp only at hSw); go_simp; (try with_reducible rfl)
    try simp only [Act.put, List.setIfInBounds_toArray, List.set_cons_zero, List.set_cons_succ]
    refine wpAnyH_done (by kernel_rfl) ?_ _
    go_wp2_with fail
    refine bodyPost_ret (v := .tuple #[.agg #[.bool false, .int .i64 0, .string s1], .string s2, .bool true]) (by simp [results, Tryd.results43, go_sem]) rfl ⟨rfl, bel_drewN (bel_alloc (Below.refl _ _) _) 2⟩
theorem res3 {W : World} {b : Nat} {u0 u1 u2 : Value} (v0 v1 v2 : Value) (e0 : W.cell? ⟨b, 0, none⟩ = some u0) (e1 : W.cell? ⟨b, 1, none⟩ = some u1) (e2 : W.cell? ⟨b, 2, none⟩ = some u2) :
    (((W.setCell ⟨b, 0, none⟩ v0).setCell ⟨b, 1, none⟩ v1).setCell ⟨b, 2, none⟩ v2).cell? ⟨b, 0, none⟩ = some v0 ∧ (((W.setCell ⟨b, 0, none⟩ v0).setCell ⟨b, 1, none⟩ v1).setCell ⟨b, 2, none⟩ v2).cell? ⟨b, 1, none⟩ = some v1 ∧
    (((W.setCell ⟨b, 0, none⟩ v0).setCell ⟨b, 1, none⟩ v1).setCell ⟨b, 2, none⟩ v2).cell? ⟨b, 2, none⟩ = some v2 := by
  have n1 : (⟨b, 0, none⟩ : Addr) ≠ ⟨b, 1, none⟩ := by simp
  have n2 : (⟨b, 0, none⟩ : Addr) ≠ ⟨b, 2, none⟩ := by simp
  have n3 : (⟨b, 1, none⟩ : Addr) ≠ ⟨b, 2, none⟩ := by simp
  have x0 : (W.setCell ⟨b, 0, none⟩ v0).cell? ⟨b, 0, none⟩ = some v0 := World.cell?_setCell_same' _ _ _ (by rw [e0]; rfl)
  have x1 : (W.setCell ⟨b, 0, none⟩ v0).cell? ⟨b, 1, none⟩ = some u1 := (World.cell?_setCell_other _ _ _ _ n1).trans e1
  have x2 : (W.setCell ⟨b, 0, none⟩ v0).cell? ⟨b, 2, none⟩ = some u2 := (World.cell?_setCell_other _ _ _ _ n2).trans e2
  have y0 := (World.cell?_setCell_other (W.setCell ⟨b, 0, none⟩ v0) _ _ v1 n1.symm).trans x0
  have y1 : ((W.setCell ⟨b, 0, none⟩ v0).setCell ⟨b, 1, none⟩ v1).cell? ⟨b, 1, none⟩ = some v1 := World.cell?_setCell_same' _ _ _ (by rw [x1]; rfl)
  have y2 := (World.cell?_setCell_other (W.setCell ⟨b, 0, none⟩ v0) _ _ v1 n3).trans x2
  exact ⟨(World.cell?_setCell_other _ _ _ _ n2.symm).trans y0, (World.cell?_setCell_other _ _ _ _ n3.symm).trans y1, World.cell?_setCell_same' _ _ _ (by rw [y2]; rfl)⟩
theorem bel_set3 {w W : World} {b : Nat} (h : Below w.heap.size w W) (hb : w.heap.size ≤ b) (v0 v1 v2 : Value) : Below w.heap.size w (((W.setCell ⟨b, 0, none⟩ v0).setCell ⟨b, 1, none⟩ v1).setCell ⟨b, 2, none⟩ v2) :=
  ((h.setCell (p := ⟨b, 0, none⟩) hb v0).setCell (p := ⟨b, 1, none⟩) hb v1).setCell (p := ⟨b, 2, none⟩) hb v2
theorem conv1 (W : World) (y : Int) (B : Nat) (hB : W.heap.size = B) : (convert 70 9 (.slice (some ⟨B, 0, none⟩) 1 1)).run Tryd.prog (W.alloc (.cells #[.int .u8 y] 5)) = .ok (.string (strOfNums [y])) (W.alloc (.cells #[.int .u8 y] 5)) := by
  subst hB
  refine run_convert_bytes_arg _ 70 5 Tryd.underlying70 Tryd.underlying5 W.heap.size 0 1 1 [y] rfl (fun i hi => ?_) 9 Tryd.underlying9
  obtain rfl : i = 0 := by omega
  simp [go_sem]
theorem below_bytes (W : World) (t : TypeId) (s : ByteArray) : Below W.heap.size W (Lib.bytesWorld W t s) :=
  ⟨rfl, rfl, rfl, by rw [Lib.bytesWorld_size]; omega, fun k hk => Lib.bytesWorld_at_old W t s k hk⟩
set_option maxHeartbeats 400000 in
theorem number_any (w : World) (l : List UInt8) (hl : l.length ≤ 100000) :
    Calls Tryd.prog 42 #[.string (st l)] w fun e w' => e = .returned (retP (numP l)) ∧ Below w.heap.size w w' := by
  obtain ⟨s, hs⟩ : ∃ s, st l = s := ⟨_, rfl⟩
  obtain ⟨n, hn⟩ : ∃ n, l.length = n := ⟨_, rfl⟩
  obtain ⟨D, hD⟩ : ∃ D, digs l = D := ⟨_, rfl⟩
  have h1 : s.size = n := by rw [← hs, st_size, ← hn]
  have hDn : D ≤ n := by rw [← hD, ← hn]; exact digs_le l
  have HIx := Lib.hid (fun (k : Nat) (hk : k < s.size) (hkl : k < l.length) => (show (s[k]'hk).toNat = (l[k]'hkl).toNat from by subst hs; rw [st_get]))
  have HDg := Lib.hid (fun (k : Nat) (hk : k < D) (h : k < l.length) => (show 48 ≤ (l[k]'h).toNat ∧ (l[k]'h).toNat ≤ 57 from by
    have := digs_all l k (by rw [hD]; exact hk)
    unfold isDig at this
    simpa using this))
  have HDe := Lib.hid (fun (h : D < l.length) => (show (l[D]'h).toNat < 48 ∨ 57 < (l[D]'h).toNat from by
    have := digs_end l (by rw [hD]; exact h)
    simp only [hD] at this
    unfold isDig at this
    simp only [Bool.and_eq_false_iff, decide_eq_false_iff_not] at this
    omega))
  have HN := Lib.hid hn
  have e1 : s.extract 0 D = st (l.take D) := by rw [← hs, st_extract]; simp
  have e2 : s.extract D n = st (l.drop D) := by rw [← hs, st_extract, ← hn, List.take_length]
  have HNone := Lib.hid (fun (h : ¬ (1 ≤ D ∧ D ≤ 4 ∧ valF 0 (l.take D) ≤ 255)) => (show retP (numP l) = .tuple #[.agg #[.bool false, .int .i64 0, .string ⟨#[]⟩], .string ⟨#[]⟩, .bool false] from by
    unfold numP; rw [hD, if_neg h]; rfl))
  have HSome := Lib.hid (fun (h : 1 ≤ D ∧ D ≤ 4 ∧ valF 0 (l.take D) ≤ 255) => (show retP (numP l) = .tuple #[.agg #[.bool true, .int .i64 (valF 0 (l.take D)), .string (st [UInt8.ofNat (valF 0 (l.take D))])], .string (st (l.drop D)), .bool true] from by
    unfold numP; rw [hD, if_pos h]; rfl))
  have HAt := Lib.hid (fun (hd : 1 ≤ D) (hd4 : D ≤ 4) W => (show Calls Tryd.prog 51 #[.string (st (l.take D))] W fun e w' => e = .returned (.tuple #[.int .i64 (valF 0 (l.take D)), .nilIface]) ∧ Below W.heap.size W w' from by
    refine (atoi_ok (st (l.take D)) (valF 0 (l.take D)) (by rw [st_size, List.length_take]; omega) (by rw [st_list, ← hD]; exact atoi_digs l (by omega)) W).mono ?_
    rintro e w' ⟨he, t, rfl⟩
    exact ⟨he, below_bytes _ _ _⟩))
  obtain ⟨X, hX⟩ : ∃ X, valF 0 (l.take D) = X := ⟨_, rfl⟩
  rw [hX] at HNone HSome HAt
  rw [hn] at hl
  rw [hs]
  obtain ⟨R, hR⟩ : ∃ R, retP (numP l) = R := ⟨_, rfl⟩
  rw [hR] at HNone HSome ⊢
  generalize st (l.take D) = s1 at *
  generalize st (l.drop D) = s2 at *
  clear hs hD hX hR hn
  have HXs := Lib.hid (show X ≤ 255 → strOfNums [((X : Nat) : Int)] = st [UInt8.ofNat X] from fun _ => by unfold strOfNums st; simp)
  have HCv := Lib.hid conv1
  go_enter Tryd.func42, Tryd.ntmps42
  go_wp2_with fail
  go_loopw [5] (fun i wr => ∃ k : Nat, k ≤ D ∧ i = .int .i64 (k : Int) ∧ wr = w.alloc (.cells #[.bool false, .int .i64 0, .string ⟨#[]⟩] 66)) (fun i _ => D - (intOf i).toNat)
  case atStart => exact ⟨0, Nat.zero_le _, rfl, rfl⟩
  case round =>
    obtain ⟨k, hk, rfl, rfl⟩ := hrel
    by_cases hlt : k < D
    · have q1 : (k : Int) < (n : Int) := by omega
      have q2 : k < s.size := by omega
      have q3 : k < n := by omega
      have hkl : k < l.length := by rw [HN.out]; exact q3
      have hx := HIx.out k q2 hkl
      have hd := HDg.out k hlt hkl
      obtain ⟨c, hc⟩ : ∃ c, (l[k]'hkl).toNat = c := ⟨_, rfl⟩
      rw [hc] at hx hd
      obtain ⟨c1, c2⟩ := hd
      have c3 : (48 : Int) ≤ (c : Int) := by omega
      have c4 : (c : Int) ≤ (57 : Int) := by omega
      clear hc
      go_wp2_with fail
      go_roundw
      case rel => exact ⟨k + 1, by omega, by go_num, trivial⟩
      case measure => simp [intOf]; omega
    · have hkD : k = D := by omega
      subst hkD
      have HB2 := Lib.hid (show Below w.heap.size w (w.alloc (.cells #[.bool false, .int .i64 0, .string ⟨#[]⟩] 66)) from bel_alloc (Below.refl _ _) _)
      have hways : (¬ (k : Int) < (n : Int)) ∨ (∃ (h : k < s.size) (c : Nat), (k : Int) < (n : Int) ∧ k < n ∧ (s[k]'h).toNat = c ∧ (¬ (48 : Int) ≤ (c : Int)) ∧ ¬ 48 ≤ c) ∨
          (∃ (h : k < s.size) (c : Nat), (k : Int) < (n : Int) ∧ k < n ∧ (s[k]'h).toNat = c ∧ (48 : Int) ≤ (c : Int) ∧ 48 ≤ c ∧ (¬ (c : Int) ≤ 57) ∧ ¬ c ≤ 57) := by
        by_cases hkn : k < n
        · right
          have hkl : k < l.length := by rw [HN.out]; exact hkn
          have hd := HDe.out hkl
          have hx := HIx.out k (by omega) hkl
          rcases hd with hd | hd
          · left
            exact ⟨by omega, _, by omega, hkn, hx, by omega, by omega⟩
          · right
            exact ⟨by omega, _, by omega, hkn, hx, by omega, by omega, by omega, by omega⟩
        · left; omega
      have hDc : k < 1 ∨ (¬ k < 1 ∧ 4 < k) ∨ (1 ≤ k ∧ k ≤ 4) := by omega
      clear hlt hk HIx HDg HDe HN
      rcases hDc with d1 | ⟨d1, d2⟩ | ⟨d1, d2⟩
      · have p1 : (k : Int) < 1 := by omega
        have HR := Lib.hid (HNone.out (by omega))
        clear HSome HAt HNone
        rcases hways with q1 | ⟨hks, c, q1, q1', hx, c3, c4⟩ | ⟨hks, c, q1, q1', hx, c3, c4, c5, c6⟩
        all_goals (
          go_wp2_with fail
          refine bodyPost_ret (v := .tuple #[.agg #[.bool false, .int .i64 0, .string ⟨#[]⟩], .string ⟨#[]⟩, .bool false]) (by simp [results, Tryd.results42, go_sem]) rfl ⟨by rw [HR.out], HB2.out⟩)
      · have p1 : ¬ (k : Int) < 1 := by omega
        have p2 : 4 < (k : Int) := by omega
        have HR := Lib.hid (HNone.out (by omega))
        clear HSome HAt HNone
        rcases hways with q1 | ⟨hks, c, q1, q1', hx, c3, c4⟩ | ⟨hks, c, q1, q1', hx, c3, c4, c5, c6⟩
        all_goals (
          go_wp2_with fail
          refine bodyPost_ret (v := .tuple #[.agg #[.bool false, .int .i64 0, .string ⟨#[]⟩], .string ⟨#[]⟩, .bool false]) (by simp [results, Tryd.results42, go_sem]) rfl ⟨by rw [HR.out], HB2.out⟩)
      · have p1 : ¬ (k : Int) < 1 := by omega
        have p2 : ¬ 4 < (k : Int) := by omega
        have HAk := Lib.hid (HAt.out d1 d2)
        have c0 : (w.alloc (.cells #[.bool false, .int .i64 0, .string ⟨#[]⟩] 66)).cell? ⟨w.heap.size, 0, none⟩ = some (.bool false) := by simp [go_sem]
        have c1' : (w.alloc (.cells #[.bool false, .int .i64 0, .string ⟨#[]⟩] 66)).cell? ⟨w.heap.size, 1, none⟩ = some (.int .i64 0) := by simp [go_sem]
        have c2' : (w.alloc (.cells #[.bool false, .int .i64 0, .string ⟨#[]⟩] 66)).cell? ⟨w.heap.size, 2, none⟩ = some (.string ⟨#[]⟩) := by simp [go_sem]
        have hlt2 : w.heap.size < (w.alloc (.cells #[.bool false, .int .i64 0, .string ⟨#[]⟩] 66)).heap.size := by simp
        have hfz : ∀ i, (w.alloc (.cells #[.bool false, .int .i64 0, .string ⟨#[]⟩] 66)).frozen? ⟨w.heap.size, i, none⟩ = false := fun i => Lib.frozen_of_heap (MapKept.heap_alloc w _).1 i
        have HCe := Lib.hid (fun W (hb : Below (w.alloc (.cells #[.bool false, .int .i64 0, .string ⟨#[]⟩] 66)).heap.size (w.alloc (.cells #[.bool false, .int .i64 0, .string ⟨#[]⟩] 66)) W) =>
          (show (W.cell? ⟨w.heap.size, 0, none⟩ = some (.bool false) ∧ W.cell? ⟨w.heap.size, 1, none⟩ = some (.int .i64 0) ∧ W.cell? ⟨w.heap.size, 2, none⟩ = some (.string ⟨#[]⟩)) ∧ (∀ i, W.frozen? ⟨w.heap.size, i, none⟩ = false) ∧ Below w.heap.size w W from
            ⟨⟨cellB hb c0, cellB hb c1', cellB hb c2'⟩, fun i => (hb.frozen (p := ⟨w.heap.size, i, none⟩) hlt2).trans (hfz i), bel_call HB2.out hb⟩))
        clear c0 c1' c2' hlt2 hfz HAt
        rcases hways with q1 | ⟨hks, c, q1, q1', hx, c3, c4⟩ | ⟨hks, c, q1, q1', hx, c3, c4, c5, c6⟩
        all_goals (
          go_wp2_with fail
          refine (HAk.out _).mono ?_
          rintro e w2 ⟨rfl, hb2⟩
          obtain ⟨⟨c0, c1', c2'⟩, hfz, hbl⟩ := HCe.out _ hb2
          have f0 := hfz 0
          have f1 := hfz 1
          have f2 := hfz 2
          have HBl := Lib.hid hbl
          have Hlt2 := Lib.hid (World.block_lt_of_cell? w2 ⟨w.heap.size, 0, none⟩ c0)
          clear hfz hbl hb2 HCe
          obtain ⟨Bx, hBx⟩ : ∃ Bx, w.heap.size = Bx := ⟨_, rfl⟩
          rw [hBx] at c0 c1' c2' f0 f1 f2 Hlt2 ⊢
          have HBx := Lib.hid hBx
          clear hBx
          by_cases hX : X ≤ 255
          · have x1 : ¬ 255 < (X : Int) := by omega
            have HR := Lib.hid (HSome.out ⟨d1, d2, hX⟩)
            clear HSome HNone
            have w8 : IntKind.u8.wrap (X : Int) = (X : Int) := by (unfold IntKind.wrap; simp [IntKind.signed, IntKind.bits]; try omega)
            go_wp2_with fail
            have HXr := HXs.out hX
            have HXr2 := Lib.hid HXr
            clear HXr
            have Hd := Lib.hid (show (∀ o, (w2.alloc o).cell? ⟨Bx, 0, none⟩ = some (.bool false)) ∧ (∀ o, (w2.alloc o).cell? ⟨Bx, 1, none⟩ = some (.int .i64 0)) ∧ (∀ o, (w2.alloc o).cell? ⟨Bx, 2, none⟩ = some (.string ⟨#[]⟩)) ∧ (∀ o, (w2.alloc o).frozen? ⟨Bx, 0, none⟩ = false) ∧ (∀ o, (w2.alloc o).frozen? ⟨Bx, 1, none⟩ = false) ∧ (∀ o, (w2.alloc o).frozen? ⟨Bx, 2, none⟩ = false) from
              ⟨fun o => cellB (bel_alloc (Below.refl _ _) o) c0, fun o => cellB (bel_alloc (Below.refl _ _) o) c1', fun o => cellB (bel_alloc (Below.refl _ _) o) c2',
                fun o => ((bel_alloc (Below.refl _ _) o).frozen (p := ⟨Bx, 0, none⟩) Hlt2.out).trans f0, fun o => ((bel_alloc (Below.refl _ _) o).frozen (p := ⟨Bx, 1, none⟩) Hlt2.out).trans f1, fun o => ((bel_alloc (Below.refl _ _) o).frozen (p := ⟨Bx, 2, none⟩) Hlt2.out).trans f2⟩)
            refine wp_region_held_drew (S := fun _ => True) (by kernel_rfl) trivial (fun hHeld => ?_)
            refine wpAnyH_step (i := 0) (d := some 47) (v := ?_) rfl rfl (by kernel_rfl) (by kernel_rfl) (by kernel_rfl) (fun _ _ _ h => h) (Or.inl ⟨by rfl, ?_⟩) (by assumption) ?_
            rotate_left
            · intro w hSw; (try dsimp only at hSw); go_simp; (try with_reducible rfl)
            try simp only [Act.put, List.setIfInBounds_toArray, List.set_cons_zero, List.set_cons_succ]
            refine wpAnyH_step (i := 1) (d := some 48) (v := ?_) rfl rfl (by kernel_rfl) (by kernel_rfl) (by kernel_rfl) (fun _ _ _ h => h) (Or.inl ⟨by rfl, ?_⟩) (by assumption) ?_
            rotate_left
            · intro w hSw; (try dsimp only at hSw); go_simp; (try with_reducible rfl)
            try simp only [Act.put, List.setIfInBounds_toArray, List.set_cons_zero, List.set_cons_succ]
            refine wpAnyH_step (i := 2) (d := some 49) (v := ?_) rfl rfl (by kernel_rfl) (by kernel_rfl) (by kernel_rfl) (fun _ _ _ h => h) (Or.inl ⟨by rfl, ?_⟩) (by assumption) ?_
            rotate_left
            · intro w hSw; (try dsimp only at hSw); go_simp; (try with_reducible rfl)
            try simp only [Act.put, List.setIfInBounds_toArray, List.set_cons_zero, List.set_cons_succ]
            refine wpAnyH_step (i := 6) (d := some 53) (v := ?_) rfl rfl (by kernel_rfl) (by kernel_rfl) (by kernel_rfl) (fun _ _ _ h => h) (Or.inl ⟨by rfl, ?_⟩) (by assumption) ?_
            rotate_left
            · intro w hSw; (try dsimp only at hSw); go_simp; (try with_reducible rfl)
            try simp only [Act.put, List.setIfInBounds_toArray, List.set_cons_zero, List.set_cons_succ]
            refine wpAnyH_step (i := 7) (d := some 54) (v := ?_) rfl rfl (by kernel_rfl) (by kernel_rfl) (by kernel_rfl) (fun _ _ _ h => h) (Or.inl ⟨by rfl, ?_⟩) (by assumption) ?_
            rotate_left
            · intro w hSw; (try dsimp only at hSw); go_simp; (try with_reducible rfl)
            try simp only [Act.put, List.setIfInBounds_toArray, List.set_cons_zero, List.set_cons_succ]
            refine wpAnyH_step (i := 8) (d := some 55) (v := ?_) rfl rfl (by kernel_rfl) (by kernel_rfl) (by kernel_rfl) (fun _ _ _ h => h) (Or.inl ⟨by rfl, ?_⟩) (by assumption) ?_
            rotate_left
            · intro w hSw; (try dsimp only at hSw); go_simp; (try with_reducible rfl)
            try simp only [Act.put, List.setIfInBounds_toArray, List.set_cons_zero, List.set_cons_succ]
            refine wpAnyH_ready (rs := [3]) (by kernel_rfl) (by simp) ?_
            refine AllReadyH.cons rfl (fun K hK => ?_) AllReadyH.nil
            go_simp
            skip
            (try go_wp2_with fail)
            refine hK.out _ _ ?_ (fun hHeld => ?_)
            · exact trivial
            clear hK K
            try simp only [Act.put, List.setIfInBounds_toArray, List.set_cons_zero, List.set_cons_succ]
            refine wpAnyH_ready (rs := [4]) (by kernel_rfl) (by simp) ?_
            refine AllReadyH.cons rfl (fun K hK => ?_) AllReadyH.nil
            go_simp
            have cv : (convert 70 9 (.slice (some ⟨w2.heap.size, 0, none⟩) 1 1)).run Tryd.prog (w2.alloc (.cells #[.int .u8 (X : Int)] 5)).drew = .ok (.string (strOfNums [(X : Int)])) (w2.alloc (.cells #[.int .u8 (X : Int)] 5)).drew := HCv.out w2.drew (X : Int) _ rfl
            rw [HXr2.out] at cv
            rw [cv]
            (try go_wp2_with fail)
            refine hK.out _ _ ?_ (fun hHeld => ?_)
            · exact trivial
            clear hK K
            try simp only [Act.put, List.setIfInBounds_toArray, List.set_cons_zero, List.set_cons_succ]
            refine wpAnyH_step (i := 5) (d := some 52) (v := ?_) rfl rfl (by kernel_rfl) (by kernel_rfl) (by kernel_rfl) (fun _ _ _ h => h) (Or.inl ⟨by rfl, ?_⟩) (by assumption) ?_
            rotate_left
            · intro w hSw; (try dsimp only at hSw); go_simp; (try with_reducible rfl)
            try simp only [Act.put, List.setIfInBounds_toArray, List.set_cons_zero, List.set_cons_succ]
            refine wpAnyH_ready (rs := [9]) (by kernel_rfl) (by simp) ?_
            refine AllReadyH.cons rfl (fun K hK => ?_) AllReadyH.nil
            go_simp
            obtain ⟨d0, d1, d2, d3, d4, d5⟩ := Hd.out
            have hn1 : ¬ Bx = w2.heap.size := by have := Hlt2.out; omega
            have hn2 : ¬ w2.heap.size = Bx := by have := Hlt2.out; omega
            have d6 := d3 (.cells #[.int .u8 (X : Int)] 5)
            have d7 := d4 (.cells #[.int .u8 (X : Int)] 5)
            have d8 := d5 (.cells #[.int .u8 (X : Int)] 5)
            clear d3 d4 d5
            go_simp
            (try go_wp2_with fail)
            refine hK.out _ _ ?_ (fun hHeld => ?_)
            · exact trivial
            clear hK K
            try simp only [Act.put, List.setIfInBounds_toArray, List.set_cons_zero, List.set_cons_succ]
            refine wpAnyH_step (i := 10) (d := some 3) (v := ?_) rfl rfl (by kernel_rfl) (by kernel_rfl) (by kernel_rfl) (fun _ _ _ h => h) (Or.inl ⟨by rfl, ?_⟩) (by assumption) ?_
            rotate_left
            · intro w hSw; (try dsimp only at hSw); go_simp; (try with_reducible rfl)
            try simp only [Act.put, List.setIfInBounds_toArray, List.set_cons_zero, List.set_cons_succ]
            refine wpAnyH_step (i := 11) (d := some 4) (v := ?_) rfl rfl (by kernel_rfl) (by kernel_rfl) (by kernel_rfl) (fun _ _ _ h => h) (Or.inl ⟨by rfl, ?_⟩) (by assumption) ?_
            rotate_left
            · intro w hSw; (try dsimp only at hSw); go_simp; (try with_reducible rfl)
            try simp only [Act.put, List.setIfInBounds_toArray, List.set_cons_zero, List.set_cons_succ]
            refine wpAnyH_done (by kernel_rfl) ?_ _
            obtain ⟨d0, d1, d2, -⟩ := Hd.out
            obtain ⟨z0, z1, z2⟩ := res3 (W := w2.alloc (.cells #[.int .u8 (X : Int)] 5)) (b := Bx) (.bool true) (.int .i64 (X : Int)) (.string (st [UInt8.ofNat X])) (d0 _) (d1 _) (d2 _)
            have HZ := Lib.hid (And.intro z0 (And.intro z1 z2))
            clear z0 z1 z2 d0 d1 d2
            go_wp2_with fail
            obtain ⟨z0, z1, z2⟩ := HZ.out
            refine bodyPost_ret (v := .tuple #[.agg #[.bool true, .int .i64 (X : Int), .string (st [UInt8.ofNat X])], .string s2, .bool true]) (by simp [results, Tryd.results42, go_sem, z0, z1, z2]) rfl ⟨by rw [HR.out], ?_⟩
            exact bel_drewN (bel_set3 (bel_alloc HBl.out _) (Nat.le_of_eq HBx.out) _ _ _) 1
          · have x1 : 255 < (X : Int) := by omega
            have HR := Lib.hid (HNone.out (fun h => hX h.2.2))
            clear HSome HNone
            obtain ⟨z0, z1, z2⟩ := res3 (W := w2) (b := Bx) (.bool false) (.int .i64 0) (.string ⟨#[]⟩) c0 c1' c2'
            have HZ := Lib.hid (And.intro z0 (And.intro z1 z2))
            clear z0 z1 z2
            go_wp2_with fail
            obtain ⟨z0, z1, z2⟩ := HZ.out
            refine bodyPost_ret (v := .tuple #[.agg #[.bool false, .int .i64 0, .string ⟨#[]⟩], .string ⟨#[]⟩, .bool false]) (by simp [results, Tryd.results42, go_sem, z0, z1, z2]) rfl ⟨by rw [HR.out], ?_⟩
            exact bel_set3 HBl.out (Nat.le_of_eq HBx.out) _ _ _)
end Go.Proofs.YtnfpfpppnfighaaDoor
