/- KeysTold: the law's walk. -/
import Derived.Test.YtkenihkfjepdfaaM6
namespace Go.Proofs.Ytkenihkfjepdfaa
open Go.RowKit Go.Maps
set_option linter.unusedVariables false
set_option linter.unusedSimpArgs false
set_option maxRecDepth 100000
set_option maxHeartbeats 4000000
theorem told_long (k c : Int) (s t : Bool) (k' c' : Int) (s' t' : Bool) (x : ByteArray) (w : World) (h : 300 < x.size) :
    Calls Try.prog 8 #[keyv k c s t, keyv k' c' s' t', .string x] w fun r w' => r = .returned (.bool true) ∧ Below w.heap.size w w' := by
  have h1 : (300 : Int) < (x.size : Int) := by omega
  have HA := Lib.hid (fun W => awake_any W)
  unfold Fn at HA
  unfold keyv
  go_enter Try.func8, Try.ntmps8
  go_wp2_with fail
  refine (HA.out _).mono ?_
  rintro r w1 ⟨rfl, hb1⟩
  go_wp2_with fail
  go_ret
  exact ⟨rfl, bel_call (bel_alloc (bel_alloc (Below.refl _ _) _) _) hb1⟩
theorem told_none (e : Bool) (n : Nat) : toldAt none e n = ({ data := #[] }, false) := rfl
theorem setTo_ok (e : Bool) (n : Nat) (s : ByteArray) (hn : n < 256) (hs : s.size ≤ 300) : toldOk (setTo e n s) := by
  unfold setTo
  split
  · exact ⟨hn, by unfold maxLen; omega⟩
  · trivial
theorem told_ff (k c : Int) (s t : Bool) (k' c' : Int) (s' t' : Bool) (x : ByteArray) (w : World) (hx : x.size ≤ 300) (hk : ¬ checkOf k c = 0) (hk2 : ¬ checkOf k' c' = 0) :
    Calls Try.prog 8 #[keyv k c s t, keyv k' c' s' t', .string x] w fun r w' => r = .returned (.bool true) ∧ Below w.heap.size w w' := by
  have hx1 : ¬ (300 : Int) < (x.size : Int) := by omega
  have HA := Lib.hid (fun W => awake_any W)
  have HNw := Lib.hid (fun W => new_any W)
  have HCd := code_bad k c s t hk
  have HE0 := encode_any 2 k c s t false
  have e1 : encText 2 k c s t false = [] := by unfold encText; rw [if_neg (by omega), if_neg hk]
  have e2' : encErr 2 k c = checkOf k c := by unfold encErr; rw [if_neg (by omega)]
  rw [e1, e2', show strOfNums [] = ({ data := #[] } : ByteArray) from rfl] at HE0
  have HR := right_any k c s t
  have q1 : decide (checkOf k c = 0) = false := by simp [hk]
  have q2 : (checkOf k c == 0) = false := by simp [hk]
  generalize checkOf k c = q at *
  have HCd2 := code_bad k' c' s' t' hk2
  have HR2 := right_any k' c' s' t'
  have q3 : decide (checkOf k' c' = 0) = false := by simp [hk2]
  have q4 : (checkOf k' c' == 0) = false := by simp [hk2]
  generalize checkOf k' c' = q' at *
  have HCk := Lib.hid HCd
  have HEk := Lib.hid HE0
  have HCd1' := Lib.hid HCd
  have HCd2' := Lib.hid HCd2
  have HR' := Lib.hid HR
  have HR2' := Lib.hid HR2
  clear e1 e2'
  unfold Fn at HA HCd1' HCd2' HR' HR2' 
  unfold keyv at HCd1' HCd2' HR' HR2' 
  clear HCd HE0 HCd2 HR HR2
  unfold keyv
  go_enter Try.func8, Try.ntmps8
  go_wp2_with fail
  refine (HNw.out _).mono ?_
  rintro r w1 ⟨rfl, rfl⟩
  obtain ⟨u0, hu0⟩ : ∃ u0, (w.alloc (.cells #[.int .i64 k, .int .i64 c, .bool s, .bool t] 23)).alloc (.cells #[.int .i64 k', .int .i64 c', .bool s', .bool t'] 23) = u0 := ⟨_, rfl⟩
  have hz0 : u0.heap.size = w.heap.size + 2 := by rw [← hu0]; simp
  have B0 : Below w.heap.size w u0 := by rw [← hu0]; exact bel_alloc (bel_alloc (Below.refl _ _) _) _
  have a0 : u0.cell? ⟨w.heap.size, 0, none⟩ = some (.int .i64 k) ∧ u0.cell? ⟨w.heap.size, 1, none⟩ = some (.int .i64 c) ∧ u0.cell? ⟨w.heap.size, 2, none⟩ = some (.bool s) ∧ u0.cell? ⟨w.heap.size, 3, none⟩ = some (.bool t) ∧ u0.cell? ⟨w.heap.size + 1, 0, none⟩ = some (.int .i64 k') ∧ u0.cell? ⟨w.heap.size + 1, 1, none⟩ = some (.int .i64 c') ∧ u0.cell? ⟨w.heap.size + 1, 2, none⟩ = some (.bool s') ∧ u0.cell? ⟨w.heap.size + 1, 3, none⟩ = some (.bool t') := by rw [← hu0]; simp [go_sem]
  rw [hu0]
  clear hu0
  obtain ⟨u1, hu1⟩ : ∃ u1, (u0.alloc (.map #[] 0)).alloc (.cells #[.map (some u0.heap.size), .int .i64 4096, .int .i64 0, .bool false] 68) = u1 := ⟨_, rfl⟩
  have B01 : Below u0.heap.size u0 u1 := by rw [← hu1]; exact bel_alloc (bel_alloc (Below.refl _ _) _) _
  have B1 := bel_call B0 B01
  have hz1 : u1.heap.size = u0.heap.size + 2 := by rw [← hu1]; simp
  have hba : Bare u1 u0.heap.size := by rw [← hu1]; exact World.ownsMap.alloc (World.ownsMap_made u0 Try.prog 46 _) _
  have hmo : MObj u1 (u0.heap.size + 1) u0.heap.size 0 none := by
    refine ⟨?_, ?_, ?_, ?_, hba.is⟩ <;> (rw [← hu1]; simp [go_sem])
  rw [hu1]
  clear hu1
  have HZ := Lib.hid (show u0.heap.size = w.heap.size + 2 ∧ u1.heap.size = u0.heap.size + 2 from ⟨hz0, hz1⟩)
  clear hz0 hz1
  obtain ⟨p0, p1, p2, p3, p4, p5, p6, p7⟩ := a0
  have r0 := cellB' B01 p0
  have r1 := cellB' B01 p1
  have r2 := cellB' B01 p2
  have r3 := cellB' B01 p3
  have r4 := cellB' B01 p4
  have r5 := cellB' B01 p5
  have r6 := cellB' B01 p6
  have r7 := cellB' B01 p7
  clear p0 p1 p2 p3 p4 p5 p6 p7 B01
  have HMo := Lib.hid hmo
  have HBa := Lib.hid hba
  clear hmo hba
  go_wp2_with fail
  refine (HCd1'.out _).mono ?_
  rintro r v1 ⟨rfl, hb1⟩
  have BA1 : Below v1.heap.size v1 (v1.alloc (.cells #[.bool false, .int .i64 0] 46)) := bel_alloc (Below.refl _ _) _
  have s0 := cellB' BA1 (cellB' hb1 r0)
  have s1 := cellB' BA1 (cellB' hb1 r1)
  have s2 := cellB' BA1 (cellB' hb1 r2)
  have s3 := cellB' BA1 (cellB' hb1 r3)
  have s4 := cellB' BA1 (cellB' hb1 r4)
  have s5 := cellB' BA1 (cellB' hb1 r5)
  have s6 := cellB' BA1 (cellB' hb1 r6)
  have s7 := cellB' BA1 (cellB' hb1 r7)
  have s8 : (v1.alloc (.cells #[.bool false, .int .i64 0] 46)).cell? ⟨v1.heap.size, 0, none⟩ = some (.bool false) := by simp [go_sem]
  have s9 : (v1.alloc (.cells #[.bool false, .int .i64 0] 46)).cell? ⟨v1.heap.size, 1, none⟩ = some (.int .i64 0) := by simp [go_sem]
  clear r0 r1 r2 r3 r4 r5 r6 r7
  go_wp2_with fail
  refine (HCd2'.out _).mono ?_
  rintro r v2 ⟨rfl, hb2⟩
  have b12 : Below u1.heap.size u1 v2 := (bel_call hb1 BA1).trans (hb2.mono (bel_call hb1 BA1).size)
  have BA2 : Below v2.heap.size v2 (v2.alloc (.cells #[.bool false, .int .i64 0] 46)) := bel_alloc (Below.refl _ _) _
  have t0 := cellB' BA2 (cellB' hb2 s0)
  have t1 := cellB' BA2 (cellB' hb2 s1)
  have t2 := cellB' BA2 (cellB' hb2 s2)
  have t3 := cellB' BA2 (cellB' hb2 s3)
  have t4 := cellB' BA2 (cellB' hb2 s4)
  have t5 := cellB' BA2 (cellB' hb2 s5)
  have t6 := cellB' BA2 (cellB' hb2 s6)
  have t7 := cellB' BA2 (cellB' hb2 s7)
  have t8 := cellB' BA2 (cellB' hb2 s8)
  have t9 := cellB' BA2 (cellB' hb2 s9)
  have t10 : (v2.alloc (.cells #[.bool false, .int .i64 0] 46)).cell? ⟨v2.heap.size, 0, none⟩ = some (.bool false) := by simp [go_sem]
  have t11 : (v2.alloc (.cells #[.bool false, .int .i64 0] 46)).cell? ⟨v2.heap.size, 1, none⟩ = some (.int .i64 0) := by simp [go_sem]
  have hl1 : u1.heap.size ≤ v1.heap.size := hb1.size
  have hl2 : v1.heap.size < v2.heap.size := by have := hb2.size; simp at this; omega
  have b1A := bel_call b12 BA2
  clear s0 s1 s2 s3 s4 s5 s6 s7 s8 s9 hb1 hb2 b12
  go_wp2_with fail
  refine (HR'.out _).mono ?_
  rintro r v3 ⟨rfl, hb3⟩
  have b13 := bel_call b1A hb3
  have g0 := cellB' hb3 t0
  have g1 := cellB' hb3 t1
  have g2 := cellB' hb3 t2
  have g3 := cellB' hb3 t3
  have g4 := cellB' hb3 t4
  have g5 := cellB' hb3 t5
  have g6 := cellB' hb3 t6
  have g7 := cellB' hb3 t7
  have g8 := cellB' hb3 t8
  have g9 := cellB' hb3 t9
  have g10 := cellB' hb3 t10
  have g11 := cellB' hb3 t11
  clear t0 t1 t2 t3 t4 t5 t6 t7 t8 t9 t10 t11 hb3 b1A
  go_wp2_with fail
  refine (HR2'.out _).mono ?_
  rintro r v4 ⟨rfl, hb4⟩
  have b14 := bel_call b13 hb4
  have h0 := cellB' hb4 g0
  have h1 := cellB' hb4 g1
  have h2 := cellB' hb4 g2
  have h3 := cellB' hb4 g3
  have h4 := cellB' hb4 g4
  have h5 := cellB' hb4 g5
  have h6 := cellB' hb4 g6
  have h7 := cellB' hb4 g7
  have h8 := cellB' hb4 g8
  have h9 := cellB' hb4 g9
  have h10 := cellB' hb4 g10
  have h11 := cellB' hb4 g11
  clear g0 g1 g2 g3 g4 g5 g6 g7 g8 g9 g10 g11 hb4 b13
  obtain ⟨hz0, hz1⟩ := HZ.out
  have hmo4 := HMo.out.later b14
  have hba4 : Bare v4 u0.heap.size := HBa.out.kept (b14.block _ (by omega))
  have hz4 : v2.heap.size < v4.heap.size := World.block_lt_of_cell? v4 ⟨v2.heap.size, 0, none⟩ h10
  have B4 := bel_call B1 b14
  have Bs := Lib.hid (show Below w.heap.size w v4 ∧ w.heap.size + 2 = u0.heap.size ∧ u0.heap.size + 2 = u1.heap.size ∧ u1.heap.size ≤ v1.heap.size ∧ v1.heap.size < v2.heap.size ∧ v2.heap.size < v4.heap.size ∧ w.heap.size ≤ v4.heap.size from ⟨B4, by omega, by omega, hl1, hl2, hz4, B4.size⟩)
  clear b14 B4 hz4 hl1 hl2 B1 B0 hz0 hz1 HZ
  have F4 := Lib.hid (show (fun W : World => W.cell? ⟨w.heap.size, 0, none⟩ = some (.int .i64 k) ∧ W.cell? ⟨w.heap.size, 1, none⟩ = some (.int .i64 c) ∧ W.cell? ⟨w.heap.size, 2, none⟩ = some (.bool s) ∧ W.cell? ⟨w.heap.size, 3, none⟩ = some (.bool t) ∧ W.cell? ⟨w.heap.size + 1, 0, none⟩ = some (.int .i64 k') ∧ W.cell? ⟨w.heap.size + 1, 1, none⟩ = some (.int .i64 c') ∧ W.cell? ⟨w.heap.size + 1, 2, none⟩ = some (.bool s') ∧ W.cell? ⟨w.heap.size + 1, 3, none⟩ = some (.bool t') ∧ W.cell? ⟨v1.heap.size, 0, none⟩ = some (.bool false) ∧ W.cell? ⟨v1.heap.size, 1, none⟩ = some (.int .i64 0) ∧ W.cell? ⟨v2.heap.size, 0, none⟩ = some (.bool false) ∧ W.cell? ⟨v2.heap.size, 1, none⟩ = some (.int .i64 0)) v4 from ⟨h0, h1, h2, h3, h4, h5, h6, h7, h8, h9, h10, h11⟩)
  have KB := Lib.hid (show ∀ W W' : World, (fun W : World => W.cell? ⟨w.heap.size, 0, none⟩ = some (.int .i64 k) ∧ W.cell? ⟨w.heap.size, 1, none⟩ = some (.int .i64 c) ∧ W.cell? ⟨w.heap.size, 2, none⟩ = some (.bool s) ∧ W.cell? ⟨w.heap.size, 3, none⟩ = some (.bool t) ∧ W.cell? ⟨w.heap.size + 1, 0, none⟩ = some (.int .i64 k') ∧ W.cell? ⟨w.heap.size + 1, 1, none⟩ = some (.int .i64 c') ∧ W.cell? ⟨w.heap.size + 1, 2, none⟩ = some (.bool s') ∧ W.cell? ⟨w.heap.size + 1, 3, none⟩ = some (.bool t') ∧ W.cell? ⟨v1.heap.size, 0, none⟩ = some (.bool false) ∧ W.cell? ⟨v1.heap.size, 1, none⟩ = some (.int .i64 0) ∧ W.cell? ⟨v2.heap.size, 0, none⟩ = some (.bool false) ∧ W.cell? ⟨v2.heap.size, 1, none⟩ = some (.int .i64 0)) W → Below W.heap.size W W' → (fun W : World => W.cell? ⟨w.heap.size, 0, none⟩ = some (.int .i64 k) ∧ W.cell? ⟨w.heap.size, 1, none⟩ = some (.int .i64 c) ∧ W.cell? ⟨w.heap.size, 2, none⟩ = some (.bool s) ∧ W.cell? ⟨w.heap.size, 3, none⟩ = some (.bool t) ∧ W.cell? ⟨w.heap.size + 1, 0, none⟩ = some (.int .i64 k') ∧ W.cell? ⟨w.heap.size + 1, 1, none⟩ = some (.int .i64 c') ∧ W.cell? ⟨w.heap.size + 1, 2, none⟩ = some (.bool s') ∧ W.cell? ⟨w.heap.size + 1, 3, none⟩ = some (.bool t') ∧ W.cell? ⟨v1.heap.size, 0, none⟩ = some (.bool false) ∧ W.cell? ⟨v1.heap.size, 1, none⟩ = some (.int .i64 0) ∧ W.cell? ⟨v2.heap.size, 0, none⟩ = some (.bool false) ∧ W.cell? ⟨v2.heap.size, 1, none⟩ = some (.int .i64 0)) W' from by
    rintro W W' ⟨y0, y1, y2, y3, y4, y5, y6, y7, y8, y9, y10, y11⟩ hb
    exact ⟨cellB' hb y0, cellB' hb y1, cellB' hb y2, cellB' hb y3, cellB' hb y4, cellB' hb y5, cellB' hb y6, cellB' hb y7, cellB' hb y8, cellB' hb y9, cellB' hb y10, cellB' hb y11⟩)
  obtain ⟨v5, hv5⟩ : ∃ v5, v5 = v4 := ⟨_, rfl⟩
  subst hv5
  have Hm5 := Lib.hid hmo4
  have F5 := F4
  have HB5 := Lib.hid Bs.out.1
  have ho5 : toldOk none := trivial
  clear hmo4 hba4 HMo HBa h0 h1 h2 h3 h4 h5 h6 h7 h8 h9 h10 h11
  have HW1 := with_gen (.pointer (some ⟨u0.heap.size + 1, 0, none⟩)) k c s t false false 0 { data := #[] } q v5 (fun W => MObj W (u0.heap.size + 1) u0.heap.size 0 none) (toldAt none false 0).1 (toldAt none false 0).2 (.inr ⟨_, rfl⟩) HCk.out HEk.out (fun W hW => Hm5.out.later hW) (fun W hW => get_any W _ _ _ _ hW ho5 false 0 (by decide))
  have HW2 := fun W => with_gen (.pointer none) k c s t false false 0 { data := #[] } q W (fun _ => True) { data := #[] } false (.inl rfl) HCk.out HEk.out (fun _ _ => trivial) (fun X _ => get_nil false 0 X)
  unfold keyv at HW1 HW2
  simp only [Bool.and_false, Bool.false_eq_true, if_false] at HW2
  have HW2' := Lib.hid HW2
  clear HW2
  simp only [Bool.false_and, Bool.false_eq_true, if_false] at HW1
  obtain ⟨h0, h1, h2, h3, h4, h5, h6, h7, h8, h9, h10, h11⟩ := F5.out
  have HW1' := Lib.hid HW1
  clear HW1
  go_wp2_with fail
  refine HW1'.out.mono ?_
  rintro r v6 ⟨rfl, hb6⟩
  have B6 := bel_call HB5.out hb6
  have F6 := KB.out _ _ F5.out hb6
  clear h0 h1 h2 h3 h4 h5 h6 h7 h8 h9 h10 h11
  have F6' := Lib.hid F6
  obtain ⟨g0, g1, g2, g3, g4, g5, g6, g7, g8, g9, g10, g11⟩ := F6
  go_wp2_with fail
  refine (HW2'.out _).mono ?_
  rintro r v7 ⟨rfl, hb7⟩
  have B7 := bel_call B6 hb7
  have F7 := Lib.hid (KB.out _ _ F6'.out hb7)
  clear g0 g1 g2 g3 g4 g5 g6 g7 g8 g9 g10 g11 hb7 hb6
  obtain ⟨j0, j1, j2, j3, j4, j5, j6, j7, j8, j9, j10, j11⟩ := F7.out
  go_wp2_with fail
  refine (HA.out _).mono ?_
  rintro r v8 ⟨rfl, hb8⟩
  go_wp2_with fail
  go_ret
  exact ⟨rfl, bel_call B7 hb8⟩
theorem told_ft (k c : Int) (s t : Bool) (k' c' : Int) (s' t' : Bool) (x : ByteArray) (w : World) (hx : x.size ≤ 300) (hk : ¬ checkOf k c = 0) (hk2 : checkOf k' c' = 0) (e2 : Bool) (n2 : Nat) (hn2 : n2 < 256) (hs2 : kSends 2 k' c' s' t' false = (if e2 then [0, (n2 : Int)] else [(n2 : Int)])) :
    Calls Try.prog 8 #[keyv k c s t, keyv k' c' s' t', .string x] w fun r w' => r = .returned (.bool true) ∧ Below w.heap.size w w' := by
  have hx1 : ¬ (300 : Int) < (x.size : Int) := by omega
  have HA := Lib.hid (fun W => awake_any W)
  have HNw := Lib.hid (fun W => new_any W)
  have HCd := code_bad k c s t hk
  have HE0 := encode_any 2 k c s t false
  have e1 : encText 2 k c s t false = [] := by unfold encText; rw [if_neg (by omega), if_neg hk]
  have e2' : encErr 2 k c = checkOf k c := by unfold encErr; rw [if_neg (by omega)]
  rw [e1, e2', show strOfNums [] = ({ data := #[] } : ByteArray) from rfl] at HE0
  have HR := right_any k c s t
  have q1 : decide (checkOf k c = 0) = false := by simp [hk]
  have q2 : (checkOf k c == 0) = false := by simp [hk]
  generalize checkOf k c = q at *
  have HCd2 := code_ok k' c' s' t' hk2 e2 n2 hn2 hs2
  have HR2 := right_any k' c' s' t'
  rw [hk2] at HR2
  have HCk := Lib.hid HCd
  have HEk := Lib.hid HE0
  have HCd1' := Lib.hid HCd
  have HCd2' := Lib.hid HCd2
  have HR' := Lib.hid HR
  have HR2' := Lib.hid HR2
  clear e1 e2'
  clear hs2
  unfold Fn at HA HCd1' HCd2' HR' HR2' 
  unfold keyv at HCd1' HCd2' HR' HR2' 
  clear HCd HE0 HCd2 HR HR2
  unfold keyv
  go_enter Try.func8, Try.ntmps8
  go_wp2_with fail
  refine (HNw.out _).mono ?_
  rintro r w1 ⟨rfl, rfl⟩
  obtain ⟨u0, hu0⟩ : ∃ u0, (w.alloc (.cells #[.int .i64 k, .int .i64 c, .bool s, .bool t] 23)).alloc (.cells #[.int .i64 k', .int .i64 c', .bool s', .bool t'] 23) = u0 := ⟨_, rfl⟩
  have hz0 : u0.heap.size = w.heap.size + 2 := by rw [← hu0]; simp
  have B0 : Below w.heap.size w u0 := by rw [← hu0]; exact bel_alloc (bel_alloc (Below.refl _ _) _) _
  have a0 : u0.cell? ⟨w.heap.size, 0, none⟩ = some (.int .i64 k) ∧ u0.cell? ⟨w.heap.size, 1, none⟩ = some (.int .i64 c) ∧ u0.cell? ⟨w.heap.size, 2, none⟩ = some (.bool s) ∧ u0.cell? ⟨w.heap.size, 3, none⟩ = some (.bool t) ∧ u0.cell? ⟨w.heap.size + 1, 0, none⟩ = some (.int .i64 k') ∧ u0.cell? ⟨w.heap.size + 1, 1, none⟩ = some (.int .i64 c') ∧ u0.cell? ⟨w.heap.size + 1, 2, none⟩ = some (.bool s') ∧ u0.cell? ⟨w.heap.size + 1, 3, none⟩ = some (.bool t') := by rw [← hu0]; simp [go_sem]
  rw [hu0]
  clear hu0
  obtain ⟨u1, hu1⟩ : ∃ u1, (u0.alloc (.map #[] 0)).alloc (.cells #[.map (some u0.heap.size), .int .i64 4096, .int .i64 0, .bool false] 68) = u1 := ⟨_, rfl⟩
  have B01 : Below u0.heap.size u0 u1 := by rw [← hu1]; exact bel_alloc (bel_alloc (Below.refl _ _) _) _
  have B1 := bel_call B0 B01
  have hz1 : u1.heap.size = u0.heap.size + 2 := by rw [← hu1]; simp
  have hba : Bare u1 u0.heap.size := by rw [← hu1]; exact World.ownsMap.alloc (World.ownsMap_made u0 Try.prog 46 _) _
  have hmo : MObj u1 (u0.heap.size + 1) u0.heap.size 0 none := by
    refine ⟨?_, ?_, ?_, ?_, hba.is⟩ <;> (rw [← hu1]; simp [go_sem])
  rw [hu1]
  clear hu1
  have HZ := Lib.hid (show u0.heap.size = w.heap.size + 2 ∧ u1.heap.size = u0.heap.size + 2 from ⟨hz0, hz1⟩)
  clear hz0 hz1
  obtain ⟨p0, p1, p2, p3, p4, p5, p6, p7⟩ := a0
  have r0 := cellB' B01 p0
  have r1 := cellB' B01 p1
  have r2 := cellB' B01 p2
  have r3 := cellB' B01 p3
  have r4 := cellB' B01 p4
  have r5 := cellB' B01 p5
  have r6 := cellB' B01 p6
  have r7 := cellB' B01 p7
  clear p0 p1 p2 p3 p4 p5 p6 p7 B01
  have HMo := Lib.hid hmo
  have HBa := Lib.hid hba
  clear hmo hba
  go_wp2_with fail
  refine (HCd1'.out _).mono ?_
  rintro r v1 ⟨rfl, hb1⟩
  have BA1 : Below v1.heap.size v1 (v1.alloc (.cells #[.bool false, .int .i64 0] 46)) := bel_alloc (Below.refl _ _) _
  have s0 := cellB' BA1 (cellB' hb1 r0)
  have s1 := cellB' BA1 (cellB' hb1 r1)
  have s2 := cellB' BA1 (cellB' hb1 r2)
  have s3 := cellB' BA1 (cellB' hb1 r3)
  have s4 := cellB' BA1 (cellB' hb1 r4)
  have s5 := cellB' BA1 (cellB' hb1 r5)
  have s6 := cellB' BA1 (cellB' hb1 r6)
  have s7 := cellB' BA1 (cellB' hb1 r7)
  have s8 : (v1.alloc (.cells #[.bool false, .int .i64 0] 46)).cell? ⟨v1.heap.size, 0, none⟩ = some (.bool false) := by simp [go_sem]
  have s9 : (v1.alloc (.cells #[.bool false, .int .i64 0] 46)).cell? ⟨v1.heap.size, 1, none⟩ = some (.int .i64 0) := by simp [go_sem]
  clear r0 r1 r2 r3 r4 r5 r6 r7
  go_wp2_with fail
  refine (HCd2'.out _).mono ?_
  rintro r v2 ⟨rfl, hb2⟩
  have b12 : Below u1.heap.size u1 v2 := (bel_call hb1 BA1).trans (hb2.mono (bel_call hb1 BA1).size)
  have BA2 : Below v2.heap.size v2 (v2.alloc (.cells #[.bool e2, .int .i64 (n2 : Int)] 46)) := bel_alloc (Below.refl _ _) _
  have t0 := cellB' BA2 (cellB' hb2 s0)
  have t1 := cellB' BA2 (cellB' hb2 s1)
  have t2 := cellB' BA2 (cellB' hb2 s2)
  have t3 := cellB' BA2 (cellB' hb2 s3)
  have t4 := cellB' BA2 (cellB' hb2 s4)
  have t5 := cellB' BA2 (cellB' hb2 s5)
  have t6 := cellB' BA2 (cellB' hb2 s6)
  have t7 := cellB' BA2 (cellB' hb2 s7)
  have t8 := cellB' BA2 (cellB' hb2 s8)
  have t9 := cellB' BA2 (cellB' hb2 s9)
  have t10 : (v2.alloc (.cells #[.bool e2, .int .i64 (n2 : Int)] 46)).cell? ⟨v2.heap.size, 0, none⟩ = some (.bool e2) := by simp [go_sem]
  have t11 : (v2.alloc (.cells #[.bool e2, .int .i64 (n2 : Int)] 46)).cell? ⟨v2.heap.size, 1, none⟩ = some (.int .i64 (n2 : Int)) := by simp [go_sem]
  have hl1 : u1.heap.size ≤ v1.heap.size := hb1.size
  have hl2 : v1.heap.size < v2.heap.size := by have := hb2.size; simp at this; omega
  have b1A := bel_call b12 BA2
  clear s0 s1 s2 s3 s4 s5 s6 s7 s8 s9 hb1 hb2 b12
  go_wp2_with fail
  refine (HR'.out _).mono ?_
  rintro r v3 ⟨rfl, hb3⟩
  have b13 := bel_call b1A hb3
  have g0 := cellB' hb3 t0
  have g1 := cellB' hb3 t1
  have g2 := cellB' hb3 t2
  have g3 := cellB' hb3 t3
  have g4 := cellB' hb3 t4
  have g5 := cellB' hb3 t5
  have g6 := cellB' hb3 t6
  have g7 := cellB' hb3 t7
  have g8 := cellB' hb3 t8
  have g9 := cellB' hb3 t9
  have g10 := cellB' hb3 t10
  have g11 := cellB' hb3 t11
  clear t0 t1 t2 t3 t4 t5 t6 t7 t8 t9 t10 t11 hb3 b1A
  go_wp2_with fail
  refine (HR2'.out _).mono ?_
  rintro r v4 ⟨rfl, hb4⟩
  have b14 := bel_call b13 hb4
  have h0 := cellB' hb4 g0
  have h1 := cellB' hb4 g1
  have h2 := cellB' hb4 g2
  have h3 := cellB' hb4 g3
  have h4 := cellB' hb4 g4
  have h5 := cellB' hb4 g5
  have h6 := cellB' hb4 g6
  have h7 := cellB' hb4 g7
  have h8 := cellB' hb4 g8
  have h9 := cellB' hb4 g9
  have h10 := cellB' hb4 g10
  have h11 := cellB' hb4 g11
  clear g0 g1 g2 g3 g4 g5 g6 g7 g8 g9 g10 g11 hb4 b13
  obtain ⟨hz0, hz1⟩ := HZ.out
  have hmo4 := HMo.out.later b14
  have hba4 : Bare v4 u0.heap.size := HBa.out.kept (b14.block _ (by omega))
  have hz4 : v2.heap.size < v4.heap.size := World.block_lt_of_cell? v4 ⟨v2.heap.size, 0, none⟩ h10
  have B4 := bel_call B1 b14
  have Bs := Lib.hid (show Below w.heap.size w v4 ∧ w.heap.size + 2 = u0.heap.size ∧ u0.heap.size + 2 = u1.heap.size ∧ u1.heap.size ≤ v1.heap.size ∧ v1.heap.size < v2.heap.size ∧ v2.heap.size < v4.heap.size ∧ w.heap.size ≤ v4.heap.size from ⟨B4, by omega, by omega, hl1, hl2, hz4, B4.size⟩)
  clear b14 B4 hz4 hl1 hl2 B1 B0 hz0 hz1 HZ
  have F4 := Lib.hid (show (fun W : World => W.cell? ⟨w.heap.size, 0, none⟩ = some (.int .i64 k) ∧ W.cell? ⟨w.heap.size, 1, none⟩ = some (.int .i64 c) ∧ W.cell? ⟨w.heap.size, 2, none⟩ = some (.bool s) ∧ W.cell? ⟨w.heap.size, 3, none⟩ = some (.bool t) ∧ W.cell? ⟨w.heap.size + 1, 0, none⟩ = some (.int .i64 k') ∧ W.cell? ⟨w.heap.size + 1, 1, none⟩ = some (.int .i64 c') ∧ W.cell? ⟨w.heap.size + 1, 2, none⟩ = some (.bool s') ∧ W.cell? ⟨w.heap.size + 1, 3, none⟩ = some (.bool t') ∧ W.cell? ⟨v1.heap.size, 0, none⟩ = some (.bool false) ∧ W.cell? ⟨v1.heap.size, 1, none⟩ = some (.int .i64 0) ∧ W.cell? ⟨v2.heap.size, 0, none⟩ = some (.bool e2) ∧ W.cell? ⟨v2.heap.size, 1, none⟩ = some (.int .i64 (n2 : Int))) v4 from ⟨h0, h1, h2, h3, h4, h5, h6, h7, h8, h9, h10, h11⟩)
  have KB := Lib.hid (show ∀ W W' : World, (fun W : World => W.cell? ⟨w.heap.size, 0, none⟩ = some (.int .i64 k) ∧ W.cell? ⟨w.heap.size, 1, none⟩ = some (.int .i64 c) ∧ W.cell? ⟨w.heap.size, 2, none⟩ = some (.bool s) ∧ W.cell? ⟨w.heap.size, 3, none⟩ = some (.bool t) ∧ W.cell? ⟨w.heap.size + 1, 0, none⟩ = some (.int .i64 k') ∧ W.cell? ⟨w.heap.size + 1, 1, none⟩ = some (.int .i64 c') ∧ W.cell? ⟨w.heap.size + 1, 2, none⟩ = some (.bool s') ∧ W.cell? ⟨w.heap.size + 1, 3, none⟩ = some (.bool t') ∧ W.cell? ⟨v1.heap.size, 0, none⟩ = some (.bool false) ∧ W.cell? ⟨v1.heap.size, 1, none⟩ = some (.int .i64 0) ∧ W.cell? ⟨v2.heap.size, 0, none⟩ = some (.bool e2) ∧ W.cell? ⟨v2.heap.size, 1, none⟩ = some (.int .i64 (n2 : Int))) W → Below W.heap.size W W' → (fun W : World => W.cell? ⟨w.heap.size, 0, none⟩ = some (.int .i64 k) ∧ W.cell? ⟨w.heap.size, 1, none⟩ = some (.int .i64 c) ∧ W.cell? ⟨w.heap.size, 2, none⟩ = some (.bool s) ∧ W.cell? ⟨w.heap.size, 3, none⟩ = some (.bool t) ∧ W.cell? ⟨w.heap.size + 1, 0, none⟩ = some (.int .i64 k') ∧ W.cell? ⟨w.heap.size + 1, 1, none⟩ = some (.int .i64 c') ∧ W.cell? ⟨w.heap.size + 1, 2, none⟩ = some (.bool s') ∧ W.cell? ⟨w.heap.size + 1, 3, none⟩ = some (.bool t') ∧ W.cell? ⟨v1.heap.size, 0, none⟩ = some (.bool false) ∧ W.cell? ⟨v1.heap.size, 1, none⟩ = some (.int .i64 0) ∧ W.cell? ⟨v2.heap.size, 0, none⟩ = some (.bool e2) ∧ W.cell? ⟨v2.heap.size, 1, none⟩ = some (.int .i64 (n2 : Int))) W' from by
    rintro W W' ⟨y0, y1, y2, y3, y4, y5, y6, y7, y8, y9, y10, y11⟩ hb
    exact ⟨cellB' hb y0, cellB' hb y1, cellB' hb y2, cellB' hb y3, cellB' hb y4, cellB' hb y5, cellB' hb y6, cellB' hb y7, cellB' hb y8, cellB' hb y9, cellB' hb y10, cellB' hb y11⟩)
  have hne2 : ∀ W', But2 (u0.heap.size + 1) u0.heap.size v4 W' → (fun W : World => W.cell? ⟨w.heap.size, 0, none⟩ = some (.int .i64 k) ∧ W.cell? ⟨w.heap.size, 1, none⟩ = some (.int .i64 c) ∧ W.cell? ⟨w.heap.size, 2, none⟩ = some (.bool s) ∧ W.cell? ⟨w.heap.size, 3, none⟩ = some (.bool t) ∧ W.cell? ⟨w.heap.size + 1, 0, none⟩ = some (.int .i64 k') ∧ W.cell? ⟨w.heap.size + 1, 1, none⟩ = some (.int .i64 c') ∧ W.cell? ⟨w.heap.size + 1, 2, none⟩ = some (.bool s') ∧ W.cell? ⟨w.heap.size + 1, 3, none⟩ = some (.bool t') ∧ W.cell? ⟨v1.heap.size, 0, none⟩ = some (.bool false) ∧ W.cell? ⟨v1.heap.size, 1, none⟩ = some (.int .i64 0) ∧ W.cell? ⟨v2.heap.size, 0, none⟩ = some (.bool e2) ∧ W.cell? ⟨v2.heap.size, 1, none⟩ = some (.int .i64 (n2 : Int))) W' := fun W' hW => by
    obtain ⟨_, z1, z2, z3, z4, z5, z6⟩ := Bs.out
    exact ⟨(hW.cell (by omega) (by omega) (by omega)).trans h0, (hW.cell (by omega) (by omega) (by omega)).trans h1, (hW.cell (by omega) (by omega) (by omega)).trans h2, (hW.cell (by omega) (by omega) (by omega)).trans h3, (hW.cell (by omega) (by omega) (by omega)).trans h4, (hW.cell (by omega) (by omega) (by omega)).trans h5, (hW.cell (by omega) (by omega) (by omega)).trans h6, (hW.cell (by omega) (by omega) (by omega)).trans h7, (hW.cell (by omega) (by omega) (by omega)).trans h8, (hW.cell (by omega) (by omega) (by omega)).trans h9, (hW.cell (by omega) (by omega) (by omega)).trans h10, (hW.cell (by omega) (by omega) (by omega)).trans h11⟩
  have KS := Lib.hid hne2
  have HSet := Lib.hid (set_any v4 (u0.heap.size + 1) u0.heap.size hmo4 hba4 e2 n2 hn2 x hx)
  clear hne2 hmo4 hba4 HMo HBa
  go_wp2_with fail
  refine HSet.out.mono ?_
  rintro r v5 ⟨⟨rv, rfl⟩, ⟨u, hmo5⟩, hbut⟩
  have Hm5 := Lib.hid hmo5
  have F5 := Lib.hid (KS.out _ hbut)
  have B5 : Below w.heap.size w v5 := by
    obtain ⟨z0, z1, z2, z3, z4, z5, z6⟩ := Bs.out
    exact z0.trans (hbut.base z6 (by omega) (by omega))
  have HB5 := Lib.hid B5
  clear hmo5 hbut B5 h0 h1 h2 h3 h4 h5 h6 h7 h8 h9 h10 h11
  have ho5 := setTo_ok e2 n2 x hn2 hx
  have HW1 := with_gen (.pointer (some ⟨u0.heap.size + 1, 0, none⟩)) k c s t false false 0 { data := #[] } q v5 (fun W => MObj W (u0.heap.size + 1) u0.heap.size u (setTo e2 n2 x)) (toldAt (setTo e2 n2 x) false 0).1 (toldAt (setTo e2 n2 x) false 0).2 (.inr ⟨_, rfl⟩) HCk.out HEk.out (fun W hW => Hm5.out.later hW) (fun W hW => get_any W _ _ _ _ hW ho5 false 0 (by decide))
  have HW2 := fun W => with_gen (.pointer none) k c s t false false 0 { data := #[] } q W (fun _ => True) { data := #[] } false (.inl rfl) HCk.out HEk.out (fun _ _ => trivial) (fun X _ => get_nil false 0 X)
  unfold keyv at HW1 HW2
  simp only [Bool.and_false, Bool.false_eq_true, if_false] at HW2
  have HW2' := Lib.hid HW2
  clear HW2
  simp only [Bool.false_and, Bool.false_eq_true, if_false] at HW1
  obtain ⟨h0, h1, h2, h3, h4, h5, h6, h7, h8, h9, h10, h11⟩ := F5.out
  have HW1' := Lib.hid HW1
  clear HW1
  go_wp2_with fail
  refine HW1'.out.mono ?_
  rintro r v6 ⟨rfl, hb6⟩
  have B6 := bel_call HB5.out hb6
  have F6 := KB.out _ _ F5.out hb6
  clear h0 h1 h2 h3 h4 h5 h6 h7 h8 h9 h10 h11
  have F6' := Lib.hid F6
  obtain ⟨g0, g1, g2, g3, g4, g5, g6, g7, g8, g9, g10, g11⟩ := F6
  go_wp2_with fail
  refine (HW2'.out _).mono ?_
  rintro r v7 ⟨rfl, hb7⟩
  have B7 := bel_call B6 hb7
  have F7 := Lib.hid (KB.out _ _ F6'.out hb7)
  clear g0 g1 g2 g3 g4 g5 g6 g7 g8 g9 g10 g11 hb7 hb6
  obtain ⟨j0, j1, j2, j3, j4, j5, j6, j7, j8, j9, j10, j11⟩ := F7.out
  go_wp2_with fail
  refine (HA.out _).mono ?_
  rintro r v8 ⟨rfl, hb8⟩
  go_wp2_with fail
  go_ret
  exact ⟨rfl, bel_call B7 hb8⟩
theorem told_tf (k c : Int) (s t : Bool) (k' c' : Int) (s' t' : Bool) (x : ByteArray) (w : World) (hx : x.size ≤ 300) (hk : checkOf k c = 0) (e : Bool) (n : Nat) (hn : n < 256) (hs : kSends 2 k c s t false = (if e then [0, (n : Int)] else [(n : Int)])) (hk2 : ¬ checkOf k' c' = 0) :
    Calls Try.prog 8 #[keyv k c s t, keyv k' c' s' t', .string x] w fun r w' => r = .returned (.bool true) ∧ Below w.heap.size w w' := by
  have hx1 : ¬ (300 : Int) < (x.size : Int) := by omega
  have HA := Lib.hid (fun W => awake_any W)
  have HNw := Lib.hid (fun W => new_any W)
  have HCd := code_ok k c s t hk e n hn hs
  have HE0 := encode_any 2 k c s t false
  have e1 : encText 2 k c s t false = kSends 2 k c s t false := by unfold encText; rw [if_neg (by omega), if_pos hk]
  have e2' : encErr 2 k c = 0 := by unfold encErr; rw [if_neg (by omega), hk]
  rw [e1, e2', hs] at HE0
  have HR := right_any k c s t
  rw [hk] at HR
  have HSd := rsends_any 2 k c s t false (by decide) hk
  rw [hs] at HSd
  have hn' : n < 256 := hn
  have HCd2 := code_bad k' c' s' t' hk2
  have HR2 := right_any k' c' s' t'
  have q3 : decide (checkOf k' c' = 0) = false := by simp [hk2]
  have q4 : (checkOf k' c' == 0) = false := by simp [hk2]
  generalize checkOf k' c' = q' at *
  have HCk := Lib.hid HCd
  have HEk := Lib.hid HE0
  have HCd1' := Lib.hid HCd
  have HCd2' := Lib.hid HCd2
  have HR' := Lib.hid HR
  have HR2' := Lib.hid HR2
  have HSd' := Lib.hid HSd
  clear HSd e1 e2' hs
  unfold Fn at HA HCd1' HCd2' HR' HR2' HSd'
  unfold keyv at HCd1' HCd2' HR' HR2' HSd'
  clear HCd HE0 HCd2 HR HR2
  unfold keyv
  go_enter Try.func8, Try.ntmps8
  go_wp2_with fail
  refine (HNw.out _).mono ?_
  rintro r w1 ⟨rfl, rfl⟩
  obtain ⟨u0, hu0⟩ : ∃ u0, (w.alloc (.cells #[.int .i64 k, .int .i64 c, .bool s, .bool t] 23)).alloc (.cells #[.int .i64 k', .int .i64 c', .bool s', .bool t'] 23) = u0 := ⟨_, rfl⟩
  have hz0 : u0.heap.size = w.heap.size + 2 := by rw [← hu0]; simp
  have B0 : Below w.heap.size w u0 := by rw [← hu0]; exact bel_alloc (bel_alloc (Below.refl _ _) _) _
  have a0 : u0.cell? ⟨w.heap.size, 0, none⟩ = some (.int .i64 k) ∧ u0.cell? ⟨w.heap.size, 1, none⟩ = some (.int .i64 c) ∧ u0.cell? ⟨w.heap.size, 2, none⟩ = some (.bool s) ∧ u0.cell? ⟨w.heap.size, 3, none⟩ = some (.bool t) ∧ u0.cell? ⟨w.heap.size + 1, 0, none⟩ = some (.int .i64 k') ∧ u0.cell? ⟨w.heap.size + 1, 1, none⟩ = some (.int .i64 c') ∧ u0.cell? ⟨w.heap.size + 1, 2, none⟩ = some (.bool s') ∧ u0.cell? ⟨w.heap.size + 1, 3, none⟩ = some (.bool t') := by rw [← hu0]; simp [go_sem]
  rw [hu0]
  clear hu0
  obtain ⟨u1, hu1⟩ : ∃ u1, (u0.alloc (.map #[] 0)).alloc (.cells #[.map (some u0.heap.size), .int .i64 4096, .int .i64 0, .bool false] 68) = u1 := ⟨_, rfl⟩
  have B01 : Below u0.heap.size u0 u1 := by rw [← hu1]; exact bel_alloc (bel_alloc (Below.refl _ _) _) _
  have B1 := bel_call B0 B01
  have hz1 : u1.heap.size = u0.heap.size + 2 := by rw [← hu1]; simp
  have hba : Bare u1 u0.heap.size := by rw [← hu1]; exact World.ownsMap.alloc (World.ownsMap_made u0 Try.prog 46 _) _
  have hmo : MObj u1 (u0.heap.size + 1) u0.heap.size 0 none := by
    refine ⟨?_, ?_, ?_, ?_, hba.is⟩ <;> (rw [← hu1]; simp [go_sem])
  rw [hu1]
  clear hu1
  have HZ := Lib.hid (show u0.heap.size = w.heap.size + 2 ∧ u1.heap.size = u0.heap.size + 2 from ⟨hz0, hz1⟩)
  clear hz0 hz1
  obtain ⟨p0, p1, p2, p3, p4, p5, p6, p7⟩ := a0
  have r0 := cellB' B01 p0
  have r1 := cellB' B01 p1
  have r2 := cellB' B01 p2
  have r3 := cellB' B01 p3
  have r4 := cellB' B01 p4
  have r5 := cellB' B01 p5
  have r6 := cellB' B01 p6
  have r7 := cellB' B01 p7
  clear p0 p1 p2 p3 p4 p5 p6 p7 B01
  have HMo := Lib.hid hmo
  have HBa := Lib.hid hba
  clear hmo hba
  go_wp2_with fail
  refine (HCd1'.out _).mono ?_
  rintro r v1 ⟨rfl, hb1⟩
  have BA1 : Below v1.heap.size v1 (v1.alloc (.cells #[.bool e, .int .i64 (n : Int)] 46)) := bel_alloc (Below.refl _ _) _
  have s0 := cellB' BA1 (cellB' hb1 r0)
  have s1 := cellB' BA1 (cellB' hb1 r1)
  have s2 := cellB' BA1 (cellB' hb1 r2)
  have s3 := cellB' BA1 (cellB' hb1 r3)
  have s4 := cellB' BA1 (cellB' hb1 r4)
  have s5 := cellB' BA1 (cellB' hb1 r5)
  have s6 := cellB' BA1 (cellB' hb1 r6)
  have s7 := cellB' BA1 (cellB' hb1 r7)
  have s8 : (v1.alloc (.cells #[.bool e, .int .i64 (n : Int)] 46)).cell? ⟨v1.heap.size, 0, none⟩ = some (.bool e) := by simp [go_sem]
  have s9 : (v1.alloc (.cells #[.bool e, .int .i64 (n : Int)] 46)).cell? ⟨v1.heap.size, 1, none⟩ = some (.int .i64 (n : Int)) := by simp [go_sem]
  clear r0 r1 r2 r3 r4 r5 r6 r7
  go_wp2_with fail
  refine (HCd2'.out _).mono ?_
  rintro r v2 ⟨rfl, hb2⟩
  have b12 : Below u1.heap.size u1 v2 := (bel_call hb1 BA1).trans (hb2.mono (bel_call hb1 BA1).size)
  have BA2 : Below v2.heap.size v2 (v2.alloc (.cells #[.bool false, .int .i64 0] 46)) := bel_alloc (Below.refl _ _) _
  have t0 := cellB' BA2 (cellB' hb2 s0)
  have t1 := cellB' BA2 (cellB' hb2 s1)
  have t2 := cellB' BA2 (cellB' hb2 s2)
  have t3 := cellB' BA2 (cellB' hb2 s3)
  have t4 := cellB' BA2 (cellB' hb2 s4)
  have t5 := cellB' BA2 (cellB' hb2 s5)
  have t6 := cellB' BA2 (cellB' hb2 s6)
  have t7 := cellB' BA2 (cellB' hb2 s7)
  have t8 := cellB' BA2 (cellB' hb2 s8)
  have t9 := cellB' BA2 (cellB' hb2 s9)
  have t10 : (v2.alloc (.cells #[.bool false, .int .i64 0] 46)).cell? ⟨v2.heap.size, 0, none⟩ = some (.bool false) := by simp [go_sem]
  have t11 : (v2.alloc (.cells #[.bool false, .int .i64 0] 46)).cell? ⟨v2.heap.size, 1, none⟩ = some (.int .i64 0) := by simp [go_sem]
  have hl1 : u1.heap.size ≤ v1.heap.size := hb1.size
  have hl2 : v1.heap.size < v2.heap.size := by have := hb2.size; simp at this; omega
  have b1A := bel_call b12 BA2
  clear s0 s1 s2 s3 s4 s5 s6 s7 s8 s9 hb1 hb2 b12
  go_wp2_with fail
  refine (HR'.out _).mono ?_
  rintro r v3 ⟨rfl, hb3⟩
  have b13 := bel_call b1A hb3
  have g0 := cellB' hb3 t0
  have g1 := cellB' hb3 t1
  have g2 := cellB' hb3 t2
  have g3 := cellB' hb3 t3
  have g4 := cellB' hb3 t4
  have g5 := cellB' hb3 t5
  have g6 := cellB' hb3 t6
  have g7 := cellB' hb3 t7
  have g8 := cellB' hb3 t8
  have g9 := cellB' hb3 t9
  have g10 := cellB' hb3 t10
  have g11 := cellB' hb3 t11
  clear t0 t1 t2 t3 t4 t5 t6 t7 t8 t9 t10 t11 hb3 b1A
  go_wp2_with fail
  refine (HR2'.out _).mono ?_
  rintro r v4 ⟨rfl, hb4⟩
  have b14 := bel_call b13 hb4
  have h0 := cellB' hb4 g0
  have h1 := cellB' hb4 g1
  have h2 := cellB' hb4 g2
  have h3 := cellB' hb4 g3
  have h4 := cellB' hb4 g4
  have h5 := cellB' hb4 g5
  have h6 := cellB' hb4 g6
  have h7 := cellB' hb4 g7
  have h8 := cellB' hb4 g8
  have h9 := cellB' hb4 g9
  have h10 := cellB' hb4 g10
  have h11 := cellB' hb4 g11
  clear g0 g1 g2 g3 g4 g5 g6 g7 g8 g9 g10 g11 hb4 b13
  obtain ⟨hz0, hz1⟩ := HZ.out
  have hmo4 := HMo.out.later b14
  have hba4 : Bare v4 u0.heap.size := HBa.out.kept (b14.block _ (by omega))
  have hz4 : v2.heap.size < v4.heap.size := World.block_lt_of_cell? v4 ⟨v2.heap.size, 0, none⟩ h10
  have B4 := bel_call B1 b14
  have Bs := Lib.hid (show Below w.heap.size w v4 ∧ w.heap.size + 2 = u0.heap.size ∧ u0.heap.size + 2 = u1.heap.size ∧ u1.heap.size ≤ v1.heap.size ∧ v1.heap.size < v2.heap.size ∧ v2.heap.size < v4.heap.size ∧ w.heap.size ≤ v4.heap.size from ⟨B4, by omega, by omega, hl1, hl2, hz4, B4.size⟩)
  clear b14 B4 hz4 hl1 hl2 B1 B0 hz0 hz1 HZ
  have F4 := Lib.hid (show (fun W : World => W.cell? ⟨w.heap.size, 0, none⟩ = some (.int .i64 k) ∧ W.cell? ⟨w.heap.size, 1, none⟩ = some (.int .i64 c) ∧ W.cell? ⟨w.heap.size, 2, none⟩ = some (.bool s) ∧ W.cell? ⟨w.heap.size, 3, none⟩ = some (.bool t) ∧ W.cell? ⟨w.heap.size + 1, 0, none⟩ = some (.int .i64 k') ∧ W.cell? ⟨w.heap.size + 1, 1, none⟩ = some (.int .i64 c') ∧ W.cell? ⟨w.heap.size + 1, 2, none⟩ = some (.bool s') ∧ W.cell? ⟨w.heap.size + 1, 3, none⟩ = some (.bool t') ∧ W.cell? ⟨v1.heap.size, 0, none⟩ = some (.bool e) ∧ W.cell? ⟨v1.heap.size, 1, none⟩ = some (.int .i64 (n : Int)) ∧ W.cell? ⟨v2.heap.size, 0, none⟩ = some (.bool false) ∧ W.cell? ⟨v2.heap.size, 1, none⟩ = some (.int .i64 0)) v4 from ⟨h0, h1, h2, h3, h4, h5, h6, h7, h8, h9, h10, h11⟩)
  have KB := Lib.hid (show ∀ W W' : World, (fun W : World => W.cell? ⟨w.heap.size, 0, none⟩ = some (.int .i64 k) ∧ W.cell? ⟨w.heap.size, 1, none⟩ = some (.int .i64 c) ∧ W.cell? ⟨w.heap.size, 2, none⟩ = some (.bool s) ∧ W.cell? ⟨w.heap.size, 3, none⟩ = some (.bool t) ∧ W.cell? ⟨w.heap.size + 1, 0, none⟩ = some (.int .i64 k') ∧ W.cell? ⟨w.heap.size + 1, 1, none⟩ = some (.int .i64 c') ∧ W.cell? ⟨w.heap.size + 1, 2, none⟩ = some (.bool s') ∧ W.cell? ⟨w.heap.size + 1, 3, none⟩ = some (.bool t') ∧ W.cell? ⟨v1.heap.size, 0, none⟩ = some (.bool e) ∧ W.cell? ⟨v1.heap.size, 1, none⟩ = some (.int .i64 (n : Int)) ∧ W.cell? ⟨v2.heap.size, 0, none⟩ = some (.bool false) ∧ W.cell? ⟨v2.heap.size, 1, none⟩ = some (.int .i64 0)) W → Below W.heap.size W W' → (fun W : World => W.cell? ⟨w.heap.size, 0, none⟩ = some (.int .i64 k) ∧ W.cell? ⟨w.heap.size, 1, none⟩ = some (.int .i64 c) ∧ W.cell? ⟨w.heap.size, 2, none⟩ = some (.bool s) ∧ W.cell? ⟨w.heap.size, 3, none⟩ = some (.bool t) ∧ W.cell? ⟨w.heap.size + 1, 0, none⟩ = some (.int .i64 k') ∧ W.cell? ⟨w.heap.size + 1, 1, none⟩ = some (.int .i64 c') ∧ W.cell? ⟨w.heap.size + 1, 2, none⟩ = some (.bool s') ∧ W.cell? ⟨w.heap.size + 1, 3, none⟩ = some (.bool t') ∧ W.cell? ⟨v1.heap.size, 0, none⟩ = some (.bool e) ∧ W.cell? ⟨v1.heap.size, 1, none⟩ = some (.int .i64 (n : Int)) ∧ W.cell? ⟨v2.heap.size, 0, none⟩ = some (.bool false) ∧ W.cell? ⟨v2.heap.size, 1, none⟩ = some (.int .i64 0)) W' from by
    rintro W W' ⟨y0, y1, y2, y3, y4, y5, y6, y7, y8, y9, y10, y11⟩ hb
    exact ⟨cellB' hb y0, cellB' hb y1, cellB' hb y2, cellB' hb y3, cellB' hb y4, cellB' hb y5, cellB' hb y6, cellB' hb y7, cellB' hb y8, cellB' hb y9, cellB' hb y10, cellB' hb y11⟩)
  obtain ⟨v5, hv5⟩ : ∃ v5, v5 = v4 := ⟨_, rfl⟩
  subst hv5
  have Hm5 := Lib.hid hmo4
  have F5 := F4
  have HB5 := Lib.hid Bs.out.1
  have ho5 : toldOk none := trivial
  clear hmo4 hba4 HMo HBa h0 h1 h2 h3 h4 h5 h6 h7 h8 h9 h10 h11
  have HW1 := with_gen (.pointer (some ⟨u0.heap.size + 1, 0, none⟩)) k c s t e true n (strOfNums (if e then [0, (n : Int)] else [(n : Int)])) 0 v5 (fun W => MObj W (u0.heap.size + 1) u0.heap.size 0 none) (toldAt none e n).1 (toldAt none e n).2 (.inr ⟨_, rfl⟩) HCk.out HEk.out (fun W hW => Hm5.out.later hW) (fun W hW => get_any W _ _ _ _ hW ho5 e n hn)
  have HW2 := fun W => with_gen (.pointer none) k c s t e true n (strOfNums (if e then [0, (n : Int)] else [(n : Int)])) 0 W (fun _ => True) { data := #[] } false (.inl rfl) HCk.out HEk.out (fun _ _ => trivial) (fun X _ => get_nil e n X)
  unfold keyv at HW1 HW2
  simp only [Bool.and_false, Bool.false_eq_true, if_false] at HW2
  have HW2' := Lib.hid HW2
  clear HW2
  cases e with
  | true =>
    simp only [if_true, Bool.false_eq_true, if_false] at HW1 HW2' HSd'
    have hz : (strOfNums [0, (n : Int)]).size = 2 := by rw [strOfNums_size]; rfl
    have hi1 : wrap64 (((strOfNums [0, (n : Int)])[1]'(by rw [hz]; decide)).toNat : Int) = (n : Int) := num_at _ 1 n hn rfl _
    generalize strOfNums [0, (n : Int)] = S at *
    simp only [told_none, Bool.and_false, Bool.false_eq_true, if_false] at HW1
    obtain ⟨h0, h1, h2, h3, h4, h5, h6, h7, h8, h9, h10, h11⟩ := F5.out
    have HW1' := Lib.hid HW1
    clear HW1
    go_wp2_with fail
    refine HW1'.out.mono ?_
    rintro r v6 ⟨rfl, hb6⟩
    have B6 := bel_call HB5.out hb6
    have F6 := KB.out _ _ F5.out hb6
    clear h0 h1 h2 h3 h4 h5 h6 h7 h8 h9 h10 h11
    have F6' := Lib.hid F6
    obtain ⟨g0, g1, g2, g3, g4, g5, g6, g7, g8, g9, g10, g11⟩ := F6
    go_wp2_with fail
    refine (HW2'.out _).mono ?_
    rintro r v7 ⟨rfl, hb7⟩
    have B7 := bel_call B6 hb7
    have F7 := Lib.hid (KB.out _ _ F6'.out hb7)
    clear g0 g1 g2 g3 g4 g5 g6 g7 g8 g9 g10 g11 hb7 hb6
    obtain ⟨j0, j1, j2, j3, j4, j5, j6, j7, j8, j9, j10, j11⟩ := F7.out
    go_wp2_with fail
    refine (HSd'.out _).mono ?_
    rintro r v8 ⟨rfl, hb8⟩
    have B8 := bel_call B7 hb8
    have F8 := KB.out _ _ F7.out hb8
    have F8' := Lib.hid F8
    clear j0 j1 j2 j3 j4 j5 j6 j7 j8 j9 j10 j11 hb8
    obtain ⟨m0, m1, m2, m3, m4, m5, m6, m7, m8, m9, m10, m11⟩ := F8
    have BA8 : Below v8.heap.size v8 (v8.alloc (.cells #[.bool false, .int .i64 (wrap64 ((S[0]'(by rw [hz]; decide)).toNat : Int))] 46)) := bel_alloc (Below.refl _ _) _
    have mm8 := cellB' BA8 m8
    have mm9 := cellB' BA8 m9
    have mm10 := cellB' BA8 m10
    have mm11 := cellB' BA8 m11
    have hl8 : v1.heap.size < v8.heap.size := World.block_lt_of_cell? v8 ⟨v1.heap.size, 0, none⟩ m8
    have hl9 : v2.heap.size < v8.heap.size := World.block_lt_of_cell? v8 ⟨v2.heap.size, 0, none⟩ m10
    go_wp2_with fail
    refine (HA.out _).mono ?_
    rintro r v9 ⟨rfl, hb9⟩
    go_wp2_with fail
    go_ret
    exact ⟨rfl, bel_call (by first | exact bel_alloc B8 _ | exact bel_set (bel_set (bel_alloc B8 _) (by simp; exact Nat.le_trans B8.size (Nat.le_refl _)) _) (by simp; exact Nat.le_trans B8.size (Nat.le_refl _)) _) hb9⟩
  | false =>
    simp only [if_true, Bool.false_eq_true, if_false] at HW1 HW2' HSd'
    have hz : (strOfNums [(n : Int)]).size = 1 := by rw [strOfNums_size]; rfl
    have hi0 : wrap64 (((strOfNums [(n : Int)])[0]'(by rw [hz]; decide)).toNat : Int) = (n : Int) := num_at _ 0 n hn rfl _
    generalize strOfNums [(n : Int)] = S at *
    simp only [told_none, Bool.and_false, Bool.false_eq_true, if_false] at HW1
    obtain ⟨h0, h1, h2, h3, h4, h5, h6, h7, h8, h9, h10, h11⟩ := F5.out
    have HW1' := Lib.hid HW1
    clear HW1
    go_wp2_with fail
    refine HW1'.out.mono ?_
    rintro r v6 ⟨rfl, hb6⟩
    have B6 := bel_call HB5.out hb6
    have F6 := KB.out _ _ F5.out hb6
    clear h0 h1 h2 h3 h4 h5 h6 h7 h8 h9 h10 h11
    have F6' := Lib.hid F6
    obtain ⟨g0, g1, g2, g3, g4, g5, g6, g7, g8, g9, g10, g11⟩ := F6
    go_wp2_with fail
    refine (HW2'.out _).mono ?_
    rintro r v7 ⟨rfl, hb7⟩
    have B7 := bel_call B6 hb7
    have F7 := Lib.hid (KB.out _ _ F6'.out hb7)
    clear g0 g1 g2 g3 g4 g5 g6 g7 g8 g9 g10 g11 hb7 hb6
    obtain ⟨j0, j1, j2, j3, j4, j5, j6, j7, j8, j9, j10, j11⟩ := F7.out
    go_wp2_with fail
    refine (HSd'.out _).mono ?_
    rintro r v8 ⟨rfl, hb8⟩
    have B8 := bel_call B7 hb8
    have F8 := KB.out _ _ F7.out hb8
    have F8' := Lib.hid F8
    clear j0 j1 j2 j3 j4 j5 j6 j7 j8 j9 j10 j11 hb8
    obtain ⟨m0, m1, m2, m3, m4, m5, m6, m7, m8, m9, m10, m11⟩ := F8
    have BA8 : Below v8.heap.size v8 (v8.alloc (.cells #[.bool false, .int .i64 (wrap64 ((S[0]'(by rw [hz]; decide)).toNat : Int))] 46)) := bel_alloc (Below.refl _ _) _
    have mm8 := cellB' BA8 m8
    have mm9 := cellB' BA8 m9
    have mm10 := cellB' BA8 m10
    have mm11 := cellB' BA8 m11
    have hl8 : v1.heap.size < v8.heap.size := World.block_lt_of_cell? v8 ⟨v1.heap.size, 0, none⟩ m8
    have hl9 : v2.heap.size < v8.heap.size := World.block_lt_of_cell? v8 ⟨v2.heap.size, 0, none⟩ m10
    go_wp2_with fail
    refine (HA.out _).mono ?_
    rintro r v9 ⟨rfl, hb9⟩
    go_wp2_with fail
    go_ret
    exact ⟨rfl, bel_call (by first | exact bel_alloc B8 _ | exact bel_set (bel_set (bel_alloc B8 _) (by simp; exact Nat.le_trans B8.size (Nat.le_refl _)) _) (by simp; exact Nat.le_trans B8.size (Nat.le_refl _)) _) hb9⟩
theorem told_tt (k c : Int) (s t : Bool) (k' c' : Int) (s' t' : Bool) (x : ByteArray) (w : World) (hx : x.size ≤ 300) (hk : checkOf k c = 0) (e : Bool) (n : Nat) (hn : n < 256) (hs : kSends 2 k c s t false = (if e then [0, (n : Int)] else [(n : Int)])) (hk2 : checkOf k' c' = 0) (e2 : Bool) (n2 : Nat) (hn2 : n2 < 256) (hs2 : kSends 2 k' c' s' t' false = (if e2 then [0, (n2 : Int)] else [(n2 : Int)])) :
    Calls Try.prog 8 #[keyv k c s t, keyv k' c' s' t', .string x] w fun r w' => r = .returned (.bool true) ∧ Below w.heap.size w w' := by
  have hx1 : ¬ (300 : Int) < (x.size : Int) := by omega
  have HA := Lib.hid (fun W => awake_any W)
  have HNw := Lib.hid (fun W => new_any W)
  have HCd := code_ok k c s t hk e n hn hs
  have HE0 := encode_any 2 k c s t false
  have e1 : encText 2 k c s t false = kSends 2 k c s t false := by unfold encText; rw [if_neg (by omega), if_pos hk]
  have e2' : encErr 2 k c = 0 := by unfold encErr; rw [if_neg (by omega), hk]
  rw [e1, e2', hs] at HE0
  have HR := right_any k c s t
  rw [hk] at HR
  have HSd := rsends_any 2 k c s t false (by decide) hk
  rw [hs] at HSd
  have hn' : n < 256 := hn
  have HCd2 := code_ok k' c' s' t' hk2 e2 n2 hn2 hs2
  have HR2 := right_any k' c' s' t'
  rw [hk2] at HR2
  have HCk := Lib.hid HCd
  have HEk := Lib.hid HE0
  have HCd1' := Lib.hid HCd
  have HCd2' := Lib.hid HCd2
  have HR' := Lib.hid HR
  have HR2' := Lib.hid HR2
  have HSd' := Lib.hid HSd
  clear HSd e1 e2' hs
  clear hs2
  unfold Fn at HA HCd1' HCd2' HR' HR2' HSd'
  unfold keyv at HCd1' HCd2' HR' HR2' HSd'
  clear HCd HE0 HCd2 HR HR2
  unfold keyv
  go_enter Try.func8, Try.ntmps8
  go_wp2_with fail
  refine (HNw.out _).mono ?_
  rintro r w1 ⟨rfl, rfl⟩
  obtain ⟨u0, hu0⟩ : ∃ u0, (w.alloc (.cells #[.int .i64 k, .int .i64 c, .bool s, .bool t] 23)).alloc (.cells #[.int .i64 k', .int .i64 c', .bool s', .bool t'] 23) = u0 := ⟨_, rfl⟩
  have hz0 : u0.heap.size = w.heap.size + 2 := by rw [← hu0]; simp
  have B0 : Below w.heap.size w u0 := by rw [← hu0]; exact bel_alloc (bel_alloc (Below.refl _ _) _) _
  have a0 : u0.cell? ⟨w.heap.size, 0, none⟩ = some (.int .i64 k) ∧ u0.cell? ⟨w.heap.size, 1, none⟩ = some (.int .i64 c) ∧ u0.cell? ⟨w.heap.size, 2, none⟩ = some (.bool s) ∧ u0.cell? ⟨w.heap.size, 3, none⟩ = some (.bool t) ∧ u0.cell? ⟨w.heap.size + 1, 0, none⟩ = some (.int .i64 k') ∧ u0.cell? ⟨w.heap.size + 1, 1, none⟩ = some (.int .i64 c') ∧ u0.cell? ⟨w.heap.size + 1, 2, none⟩ = some (.bool s') ∧ u0.cell? ⟨w.heap.size + 1, 3, none⟩ = some (.bool t') := by rw [← hu0]; simp [go_sem]
  rw [hu0]
  clear hu0
  obtain ⟨u1, hu1⟩ : ∃ u1, (u0.alloc (.map #[] 0)).alloc (.cells #[.map (some u0.heap.size), .int .i64 4096, .int .i64 0, .bool false] 68) = u1 := ⟨_, rfl⟩
  have B01 : Below u0.heap.size u0 u1 := by rw [← hu1]; exact bel_alloc (bel_alloc (Below.refl _ _) _) _
  have B1 := bel_call B0 B01
  have hz1 : u1.heap.size = u0.heap.size + 2 := by rw [← hu1]; simp
  have hba : Bare u1 u0.heap.size := by rw [← hu1]; exact World.ownsMap.alloc (World.ownsMap_made u0 Try.prog 46 _) _
  have hmo : MObj u1 (u0.heap.size + 1) u0.heap.size 0 none := by
    refine ⟨?_, ?_, ?_, ?_, hba.is⟩ <;> (rw [← hu1]; simp [go_sem])
  rw [hu1]
  clear hu1
  have HZ := Lib.hid (show u0.heap.size = w.heap.size + 2 ∧ u1.heap.size = u0.heap.size + 2 from ⟨hz0, hz1⟩)
  clear hz0 hz1
  obtain ⟨p0, p1, p2, p3, p4, p5, p6, p7⟩ := a0
  have r0 := cellB' B01 p0
  have r1 := cellB' B01 p1
  have r2 := cellB' B01 p2
  have r3 := cellB' B01 p3
  have r4 := cellB' B01 p4
  have r5 := cellB' B01 p5
  have r6 := cellB' B01 p6
  have r7 := cellB' B01 p7
  clear p0 p1 p2 p3 p4 p5 p6 p7 B01
  have HMo := Lib.hid hmo
  have HBa := Lib.hid hba
  clear hmo hba
  go_wp2_with fail
  refine (HCd1'.out _).mono ?_
  rintro r v1 ⟨rfl, hb1⟩
  have BA1 : Below v1.heap.size v1 (v1.alloc (.cells #[.bool e, .int .i64 (n : Int)] 46)) := bel_alloc (Below.refl _ _) _
  have s0 := cellB' BA1 (cellB' hb1 r0)
  have s1 := cellB' BA1 (cellB' hb1 r1)
  have s2 := cellB' BA1 (cellB' hb1 r2)
  have s3 := cellB' BA1 (cellB' hb1 r3)
  have s4 := cellB' BA1 (cellB' hb1 r4)
  have s5 := cellB' BA1 (cellB' hb1 r5)
  have s6 := cellB' BA1 (cellB' hb1 r6)
  have s7 := cellB' BA1 (cellB' hb1 r7)
  have s8 : (v1.alloc (.cells #[.bool e, .int .i64 (n : Int)] 46)).cell? ⟨v1.heap.size, 0, none⟩ = some (.bool e) := by simp [go_sem]
  have s9 : (v1.alloc (.cells #[.bool e, .int .i64 (n : Int)] 46)).cell? ⟨v1.heap.size, 1, none⟩ = some (.int .i64 (n : Int)) := by simp [go_sem]
  clear r0 r1 r2 r3 r4 r5 r6 r7
  go_wp2_with fail
  refine (HCd2'.out _).mono ?_
  rintro r v2 ⟨rfl, hb2⟩
  have b12 : Below u1.heap.size u1 v2 := (bel_call hb1 BA1).trans (hb2.mono (bel_call hb1 BA1).size)
  have BA2 : Below v2.heap.size v2 (v2.alloc (.cells #[.bool e2, .int .i64 (n2 : Int)] 46)) := bel_alloc (Below.refl _ _) _
  have t0 := cellB' BA2 (cellB' hb2 s0)
  have t1 := cellB' BA2 (cellB' hb2 s1)
  have t2 := cellB' BA2 (cellB' hb2 s2)
  have t3 := cellB' BA2 (cellB' hb2 s3)
  have t4 := cellB' BA2 (cellB' hb2 s4)
  have t5 := cellB' BA2 (cellB' hb2 s5)
  have t6 := cellB' BA2 (cellB' hb2 s6)
  have t7 := cellB' BA2 (cellB' hb2 s7)
  have t8 := cellB' BA2 (cellB' hb2 s8)
  have t9 := cellB' BA2 (cellB' hb2 s9)
  have t10 : (v2.alloc (.cells #[.bool e2, .int .i64 (n2 : Int)] 46)).cell? ⟨v2.heap.size, 0, none⟩ = some (.bool e2) := by simp [go_sem]
  have t11 : (v2.alloc (.cells #[.bool e2, .int .i64 (n2 : Int)] 46)).cell? ⟨v2.heap.size, 1, none⟩ = some (.int .i64 (n2 : Int)) := by simp [go_sem]
  have hl1 : u1.heap.size ≤ v1.heap.size := hb1.size
  have hl2 : v1.heap.size < v2.heap.size := by have := hb2.size; simp at this; omega
  have b1A := bel_call b12 BA2
  clear s0 s1 s2 s3 s4 s5 s6 s7 s8 s9 hb1 hb2 b12
  go_wp2_with fail
  refine (HR'.out _).mono ?_
  rintro r v3 ⟨rfl, hb3⟩
  have b13 := bel_call b1A hb3
  have g0 := cellB' hb3 t0
  have g1 := cellB' hb3 t1
  have g2 := cellB' hb3 t2
  have g3 := cellB' hb3 t3
  have g4 := cellB' hb3 t4
  have g5 := cellB' hb3 t5
  have g6 := cellB' hb3 t6
  have g7 := cellB' hb3 t7
  have g8 := cellB' hb3 t8
  have g9 := cellB' hb3 t9
  have g10 := cellB' hb3 t10
  have g11 := cellB' hb3 t11
  clear t0 t1 t2 t3 t4 t5 t6 t7 t8 t9 t10 t11 hb3 b1A
  go_wp2_with fail
  refine (HR2'.out _).mono ?_
  rintro r v4 ⟨rfl, hb4⟩
  have b14 := bel_call b13 hb4
  have h0 := cellB' hb4 g0
  have h1 := cellB' hb4 g1
  have h2 := cellB' hb4 g2
  have h3 := cellB' hb4 g3
  have h4 := cellB' hb4 g4
  have h5 := cellB' hb4 g5
  have h6 := cellB' hb4 g6
  have h7 := cellB' hb4 g7
  have h8 := cellB' hb4 g8
  have h9 := cellB' hb4 g9
  have h10 := cellB' hb4 g10
  have h11 := cellB' hb4 g11
  clear g0 g1 g2 g3 g4 g5 g6 g7 g8 g9 g10 g11 hb4 b13
  obtain ⟨hz0, hz1⟩ := HZ.out
  have hmo4 := HMo.out.later b14
  have hba4 : Bare v4 u0.heap.size := HBa.out.kept (b14.block _ (by omega))
  have hz4 : v2.heap.size < v4.heap.size := World.block_lt_of_cell? v4 ⟨v2.heap.size, 0, none⟩ h10
  have B4 := bel_call B1 b14
  have Bs := Lib.hid (show Below w.heap.size w v4 ∧ w.heap.size + 2 = u0.heap.size ∧ u0.heap.size + 2 = u1.heap.size ∧ u1.heap.size ≤ v1.heap.size ∧ v1.heap.size < v2.heap.size ∧ v2.heap.size < v4.heap.size ∧ w.heap.size ≤ v4.heap.size from ⟨B4, by omega, by omega, hl1, hl2, hz4, B4.size⟩)
  clear b14 B4 hz4 hl1 hl2 B1 B0 hz0 hz1 HZ
  have F4 := Lib.hid (show (fun W : World => W.cell? ⟨w.heap.size, 0, none⟩ = some (.int .i64 k) ∧ W.cell? ⟨w.heap.size, 1, none⟩ = some (.int .i64 c) ∧ W.cell? ⟨w.heap.size, 2, none⟩ = some (.bool s) ∧ W.cell? ⟨w.heap.size, 3, none⟩ = some (.bool t) ∧ W.cell? ⟨w.heap.size + 1, 0, none⟩ = some (.int .i64 k') ∧ W.cell? ⟨w.heap.size + 1, 1, none⟩ = some (.int .i64 c') ∧ W.cell? ⟨w.heap.size + 1, 2, none⟩ = some (.bool s') ∧ W.cell? ⟨w.heap.size + 1, 3, none⟩ = some (.bool t') ∧ W.cell? ⟨v1.heap.size, 0, none⟩ = some (.bool e) ∧ W.cell? ⟨v1.heap.size, 1, none⟩ = some (.int .i64 (n : Int)) ∧ W.cell? ⟨v2.heap.size, 0, none⟩ = some (.bool e2) ∧ W.cell? ⟨v2.heap.size, 1, none⟩ = some (.int .i64 (n2 : Int))) v4 from ⟨h0, h1, h2, h3, h4, h5, h6, h7, h8, h9, h10, h11⟩)
  have KB := Lib.hid (show ∀ W W' : World, (fun W : World => W.cell? ⟨w.heap.size, 0, none⟩ = some (.int .i64 k) ∧ W.cell? ⟨w.heap.size, 1, none⟩ = some (.int .i64 c) ∧ W.cell? ⟨w.heap.size, 2, none⟩ = some (.bool s) ∧ W.cell? ⟨w.heap.size, 3, none⟩ = some (.bool t) ∧ W.cell? ⟨w.heap.size + 1, 0, none⟩ = some (.int .i64 k') ∧ W.cell? ⟨w.heap.size + 1, 1, none⟩ = some (.int .i64 c') ∧ W.cell? ⟨w.heap.size + 1, 2, none⟩ = some (.bool s') ∧ W.cell? ⟨w.heap.size + 1, 3, none⟩ = some (.bool t') ∧ W.cell? ⟨v1.heap.size, 0, none⟩ = some (.bool e) ∧ W.cell? ⟨v1.heap.size, 1, none⟩ = some (.int .i64 (n : Int)) ∧ W.cell? ⟨v2.heap.size, 0, none⟩ = some (.bool e2) ∧ W.cell? ⟨v2.heap.size, 1, none⟩ = some (.int .i64 (n2 : Int))) W → Below W.heap.size W W' → (fun W : World => W.cell? ⟨w.heap.size, 0, none⟩ = some (.int .i64 k) ∧ W.cell? ⟨w.heap.size, 1, none⟩ = some (.int .i64 c) ∧ W.cell? ⟨w.heap.size, 2, none⟩ = some (.bool s) ∧ W.cell? ⟨w.heap.size, 3, none⟩ = some (.bool t) ∧ W.cell? ⟨w.heap.size + 1, 0, none⟩ = some (.int .i64 k') ∧ W.cell? ⟨w.heap.size + 1, 1, none⟩ = some (.int .i64 c') ∧ W.cell? ⟨w.heap.size + 1, 2, none⟩ = some (.bool s') ∧ W.cell? ⟨w.heap.size + 1, 3, none⟩ = some (.bool t') ∧ W.cell? ⟨v1.heap.size, 0, none⟩ = some (.bool e) ∧ W.cell? ⟨v1.heap.size, 1, none⟩ = some (.int .i64 (n : Int)) ∧ W.cell? ⟨v2.heap.size, 0, none⟩ = some (.bool e2) ∧ W.cell? ⟨v2.heap.size, 1, none⟩ = some (.int .i64 (n2 : Int))) W' from by
    rintro W W' ⟨y0, y1, y2, y3, y4, y5, y6, y7, y8, y9, y10, y11⟩ hb
    exact ⟨cellB' hb y0, cellB' hb y1, cellB' hb y2, cellB' hb y3, cellB' hb y4, cellB' hb y5, cellB' hb y6, cellB' hb y7, cellB' hb y8, cellB' hb y9, cellB' hb y10, cellB' hb y11⟩)
  have hne2 : ∀ W', But2 (u0.heap.size + 1) u0.heap.size v4 W' → (fun W : World => W.cell? ⟨w.heap.size, 0, none⟩ = some (.int .i64 k) ∧ W.cell? ⟨w.heap.size, 1, none⟩ = some (.int .i64 c) ∧ W.cell? ⟨w.heap.size, 2, none⟩ = some (.bool s) ∧ W.cell? ⟨w.heap.size, 3, none⟩ = some (.bool t) ∧ W.cell? ⟨w.heap.size + 1, 0, none⟩ = some (.int .i64 k') ∧ W.cell? ⟨w.heap.size + 1, 1, none⟩ = some (.int .i64 c') ∧ W.cell? ⟨w.heap.size + 1, 2, none⟩ = some (.bool s') ∧ W.cell? ⟨w.heap.size + 1, 3, none⟩ = some (.bool t') ∧ W.cell? ⟨v1.heap.size, 0, none⟩ = some (.bool e) ∧ W.cell? ⟨v1.heap.size, 1, none⟩ = some (.int .i64 (n : Int)) ∧ W.cell? ⟨v2.heap.size, 0, none⟩ = some (.bool e2) ∧ W.cell? ⟨v2.heap.size, 1, none⟩ = some (.int .i64 (n2 : Int))) W' := fun W' hW => by
    obtain ⟨_, z1, z2, z3, z4, z5, z6⟩ := Bs.out
    exact ⟨(hW.cell (by omega) (by omega) (by omega)).trans h0, (hW.cell (by omega) (by omega) (by omega)).trans h1, (hW.cell (by omega) (by omega) (by omega)).trans h2, (hW.cell (by omega) (by omega) (by omega)).trans h3, (hW.cell (by omega) (by omega) (by omega)).trans h4, (hW.cell (by omega) (by omega) (by omega)).trans h5, (hW.cell (by omega) (by omega) (by omega)).trans h6, (hW.cell (by omega) (by omega) (by omega)).trans h7, (hW.cell (by omega) (by omega) (by omega)).trans h8, (hW.cell (by omega) (by omega) (by omega)).trans h9, (hW.cell (by omega) (by omega) (by omega)).trans h10, (hW.cell (by omega) (by omega) (by omega)).trans h11⟩
  have KS := Lib.hid hne2
  have HSet := Lib.hid (set_any v4 (u0.heap.size + 1) u0.heap.size hmo4 hba4 e2 n2 hn2 x hx)
  clear hne2 hmo4 hba4 HMo HBa
  go_wp2_with fail
  refine HSet.out.mono ?_
  rintro r v5 ⟨⟨rv, rfl⟩, ⟨u, hmo5⟩, hbut⟩
  have Hm5 := Lib.hid hmo5
  have F5 := Lib.hid (KS.out _ hbut)
  have B5 : Below w.heap.size w v5 := by
    obtain ⟨z0, z1, z2, z3, z4, z5, z6⟩ := Bs.out
    exact z0.trans (hbut.base z6 (by omega) (by omega))
  have HB5 := Lib.hid B5
  clear hmo5 hbut B5 h0 h1 h2 h3 h4 h5 h6 h7 h8 h9 h10 h11
  have ho5 := setTo_ok e2 n2 x hn2 hx
  have HW1 := with_gen (.pointer (some ⟨u0.heap.size + 1, 0, none⟩)) k c s t e true n (strOfNums (if e then [0, (n : Int)] else [(n : Int)])) 0 v5 (fun W => MObj W (u0.heap.size + 1) u0.heap.size u (setTo e2 n2 x)) (toldAt (setTo e2 n2 x) e n).1 (toldAt (setTo e2 n2 x) e n).2 (.inr ⟨_, rfl⟩) HCk.out HEk.out (fun W hW => Hm5.out.later hW) (fun W hW => get_any W _ _ _ _ hW ho5 e n hn)
  have HW2 := fun W => with_gen (.pointer none) k c s t e true n (strOfNums (if e then [0, (n : Int)] else [(n : Int)])) 0 W (fun _ => True) { data := #[] } false (.inl rfl) HCk.out HEk.out (fun _ _ => trivial) (fun X _ => get_nil e n X)
  unfold keyv at HW1 HW2
  simp only [Bool.and_false, Bool.false_eq_true, if_false] at HW2
  have HW2' := Lib.hid HW2
  clear HW2
  cases e with
  | true =>
    simp only [if_true, Bool.false_eq_true, if_false] at HW1 HW2' HSd'
    have hz : (strOfNums [0, (n : Int)]).size = 2 := by rw [strOfNums_size]; rfl
    have hi1 : wrap64 (((strOfNums [0, (n : Int)])[1]'(by rw [hz]; decide)).toNat : Int) = (n : Int) := num_at _ 1 n hn rfl _
    generalize strOfNums [0, (n : Int)] = S at *
    cases e2 with
    | true =>
      by_cases hnn : n2 = n
      · subst hnn
        by_cases hx0 : x.size = 0
        · have hto : toldAt (setTo true n2 x) true n2 = ({ data := #[] }, false) := by
            unfold setTo
            rw [if_neg (by simp [hx0])]
            rfl
          rw [hto] at HW1
          simp only [Bool.and_false, Bool.false_eq_true, if_false] at HW1
          have hxe : x = { data := #[] } := by
            cases x
            next d => simp [ByteArray.size] at hx0; simp [hx0]
          clear hto hx0
          subst hxe
          obtain ⟨h0, h1, h2, h3, h4, h5, h6, h7, h8, h9, h10, h11⟩ := F5.out
          have HW1' := Lib.hid HW1
          clear HW1
          go_wp2_with fail
          refine HW1'.out.mono ?_
          rintro r v6 ⟨rfl, hb6⟩
          have B6 := bel_call HB5.out hb6
          have F6 := KB.out _ _ F5.out hb6
          clear h0 h1 h2 h3 h4 h5 h6 h7 h8 h9 h10 h11
          have F6' := Lib.hid F6
          obtain ⟨g0, g1, g2, g3, g4, g5, g6, g7, g8, g9, g10, g11⟩ := F6
          go_wp2_with fail
          refine (HW2'.out _).mono ?_
          rintro r v7 ⟨rfl, hb7⟩
          have B7 := bel_call B6 hb7
          have F7 := Lib.hid (KB.out _ _ F6'.out hb7)
          clear g0 g1 g2 g3 g4 g5 g6 g7 g8 g9 g10 g11 hb7 hb6
          obtain ⟨j0, j1, j2, j3, j4, j5, j6, j7, j8, j9, j10, j11⟩ := F7.out
          go_wp2_with fail
          refine (HSd'.out _).mono ?_
          rintro r v8 ⟨rfl, hb8⟩
          have B8 := bel_call B7 hb8
          have F8 := KB.out _ _ F7.out hb8
          have F8' := Lib.hid F8
          clear j0 j1 j2 j3 j4 j5 j6 j7 j8 j9 j10 j11 hb8
          obtain ⟨m0, m1, m2, m3, m4, m5, m6, m7, m8, m9, m10, m11⟩ := F8
          have BA8 : Below v8.heap.size v8 (v8.alloc (.cells #[.bool false, .int .i64 (wrap64 ((S[0]'(by rw [hz]; decide)).toNat : Int))] 46)) := bel_alloc (Below.refl _ _) _
          have mm8 := cellB' BA8 m8
          have mm9 := cellB' BA8 m9
          have mm10 := cellB' BA8 m10
          have mm11 := cellB' BA8 m11
          have hl8 : v1.heap.size < v8.heap.size := World.block_lt_of_cell? v8 ⟨v1.heap.size, 0, none⟩ m8
          have hl9 : v2.heap.size < v8.heap.size := World.block_lt_of_cell? v8 ⟨v2.heap.size, 0, none⟩ m10
          go_wp2_with fail
          refine (HA.out _).mono ?_
          rintro r v9 ⟨rfl, hb9⟩
          go_wp2_with fail
          go_ret
          exact ⟨rfl, bel_call (by first | exact bel_alloc B8 _ | exact bel_set (bel_set (bel_alloc B8 _) (by simp; exact Nat.le_trans B8.size (Nat.le_refl _)) _) (by simp; exact Nat.le_trans B8.size (Nat.le_refl _)) _) hb9⟩
        · have hsz1 : ¬ x.toList = [] := fun e => hx0 (by rw [ByteArray.toList_eq] at e; simp at e; simp [ByteArray.size, e])
          have hsz2 : x.toList.isEmpty = false := by simpa using hsz1
          have hto : toldAt (setTo true n2 x) true n2 = (x, true) := by
            unfold setTo
            rw [if_pos (by simp [hx0])]
            simp [toldAt]
          rw [hto] at HW1
          simp only [Bool.and_true, if_true] at HW1
          clear hto
          obtain ⟨h0, h1, h2, h3, h4, h5, h6, h7, h8, h9, h10, h11⟩ := F5.out
          have HW1' := Lib.hid HW1
          clear HW1
          go_wp2_with fail
          refine HW1'.out.mono ?_
          rintro r v6 ⟨rfl, hb6⟩
          have B6 := bel_call HB5.out hb6
          have F6 := KB.out _ _ F5.out hb6
          clear h0 h1 h2 h3 h4 h5 h6 h7 h8 h9 h10 h11
          have F6' := Lib.hid F6
          obtain ⟨g0, g1, g2, g3, g4, g5, g6, g7, g8, g9, g10, g11⟩ := F6
          go_wp2_with fail
          refine (HW2'.out _).mono ?_
          rintro r v7 ⟨rfl, hb7⟩
          have B7 := bel_call B6 hb7
          have F7 := Lib.hid (KB.out _ _ F6'.out hb7)
          clear g0 g1 g2 g3 g4 g5 g6 g7 g8 g9 g10 g11 hb7 hb6
          obtain ⟨j0, j1, j2, j3, j4, j5, j6, j7, j8, j9, j10, j11⟩ := F7.out
          go_wp2_with fail
          refine (HSd'.out _).mono ?_
          rintro r v8 ⟨rfl, hb8⟩
          have B8 := bel_call B7 hb8
          have F8 := KB.out _ _ F7.out hb8
          have F8' := Lib.hid F8
          clear j0 j1 j2 j3 j4 j5 j6 j7 j8 j9 j10 j11 hb8
          obtain ⟨m0, m1, m2, m3, m4, m5, m6, m7, m8, m9, m10, m11⟩ := F8
          have BA8 : Below v8.heap.size v8 (v8.alloc (.cells #[.bool false, .int .i64 (wrap64 ((S[0]'(by rw [hz]; decide)).toNat : Int))] 46)) := bel_alloc (Below.refl _ _) _
          have mm8 := cellB' BA8 m8
          have mm9 := cellB' BA8 m9
          have mm10 := cellB' BA8 m10
          have mm11 := cellB' BA8 m11
          have hl8 : v1.heap.size < v8.heap.size := World.block_lt_of_cell? v8 ⟨v1.heap.size, 0, none⟩ m8
          have hl9 : v2.heap.size < v8.heap.size := World.block_lt_of_cell? v8 ⟨v2.heap.size, 0, none⟩ m10
          go_wp2_with fail
          refine (HA.out _).mono ?_
          rintro r v9 ⟨rfl, hb9⟩
          go_wp2_with fail
          go_ret
          exact ⟨rfl, bel_call (by first | exact bel_alloc B8 _ | exact bel_set (bel_set (bel_alloc B8 _) (by simp; exact Nat.le_trans B8.size (Nat.le_refl _)) _) (by simp; exact Nat.le_trans B8.size (Nat.le_refl _)) _) hb9⟩
      · have hto : toldAt (setTo true n2 x) true n = ({ data := #[] }, false) := by
          unfold setTo
          split
          · simp [toldAt, hnn]
          · rfl
        rw [hto] at HW1
        simp only [Bool.and_false, Bool.false_eq_true, if_false] at HW1
        have hd1 : ¬ (n2 : Int) = (n : Int) := by omega
        have hd2 : decide ((n2 : Int) = (n : Int)) = false := by simp; omega
        have hd3 : ((n2 : Int) == (n : Int)) = false := by simp; omega
        clear hto
        obtain ⟨h0, h1, h2, h3, h4, h5, h6, h7, h8, h9, h10, h11⟩ := F5.out
        have HW1' := Lib.hid HW1
        clear HW1
        go_wp2_with fail
        refine HW1'.out.mono ?_
        rintro r v6 ⟨rfl, hb6⟩
        have B6 := bel_call HB5.out hb6
        have F6 := KB.out _ _ F5.out hb6
        clear h0 h1 h2 h3 h4 h5 h6 h7 h8 h9 h10 h11
        have F6' := Lib.hid F6
        obtain ⟨g0, g1, g2, g3, g4, g5, g6, g7, g8, g9, g10, g11⟩ := F6
        go_wp2_with fail
        refine (HW2'.out _).mono ?_
        rintro r v7 ⟨rfl, hb7⟩
        have B7 := bel_call B6 hb7
        have F7 := Lib.hid (KB.out _ _ F6'.out hb7)
        clear g0 g1 g2 g3 g4 g5 g6 g7 g8 g9 g10 g11 hb7 hb6
        obtain ⟨j0, j1, j2, j3, j4, j5, j6, j7, j8, j9, j10, j11⟩ := F7.out
        go_wp2_with fail
        refine (HSd'.out _).mono ?_
        rintro r v8 ⟨rfl, hb8⟩
        have B8 := bel_call B7 hb8
        have F8 := KB.out _ _ F7.out hb8
        have F8' := Lib.hid F8
        clear j0 j1 j2 j3 j4 j5 j6 j7 j8 j9 j10 j11 hb8
        obtain ⟨m0, m1, m2, m3, m4, m5, m6, m7, m8, m9, m10, m11⟩ := F8
        have BA8 : Below v8.heap.size v8 (v8.alloc (.cells #[.bool false, .int .i64 (wrap64 ((S[0]'(by rw [hz]; decide)).toNat : Int))] 46)) := bel_alloc (Below.refl _ _) _
        have mm8 := cellB' BA8 m8
        have mm9 := cellB' BA8 m9
        have mm10 := cellB' BA8 m10
        have mm11 := cellB' BA8 m11
        have hl8 : v1.heap.size < v8.heap.size := World.block_lt_of_cell? v8 ⟨v1.heap.size, 0, none⟩ m8
        have hl9 : v2.heap.size < v8.heap.size := World.block_lt_of_cell? v8 ⟨v2.heap.size, 0, none⟩ m10
        go_wp2_with fail
        refine (HA.out _).mono ?_
        rintro r v9 ⟨rfl, hb9⟩
        go_wp2_with fail
        go_ret
        exact ⟨rfl, bel_call (by first | exact bel_alloc B8 _ | exact bel_set (bel_set (bel_alloc B8 _) (by simp; exact Nat.le_trans B8.size (Nat.le_refl _)) _) (by simp; exact Nat.le_trans B8.size (Nat.le_refl _)) _) hb9⟩
    | false =>
      have hto : toldAt (setTo false n2 x) true n = ({ data := #[] }, false) := by
        unfold setTo
        split
        · simp [toldAt]
        · rfl
      rw [hto] at HW1
      simp only [Bool.and_false, Bool.false_eq_true, if_false] at HW1
      obtain ⟨h0, h1, h2, h3, h4, h5, h6, h7, h8, h9, h10, h11⟩ := F5.out
      have HW1' := Lib.hid HW1
      clear HW1
      go_wp2_with fail
      refine HW1'.out.mono ?_
      rintro r v6 ⟨rfl, hb6⟩
      have B6 := bel_call HB5.out hb6
      have F6 := KB.out _ _ F5.out hb6
      clear h0 h1 h2 h3 h4 h5 h6 h7 h8 h9 h10 h11
      have F6' := Lib.hid F6
      obtain ⟨g0, g1, g2, g3, g4, g5, g6, g7, g8, g9, g10, g11⟩ := F6
      go_wp2_with fail
      refine (HW2'.out _).mono ?_
      rintro r v7 ⟨rfl, hb7⟩
      have B7 := bel_call B6 hb7
      have F7 := Lib.hid (KB.out _ _ F6'.out hb7)
      clear g0 g1 g2 g3 g4 g5 g6 g7 g8 g9 g10 g11 hb7 hb6
      obtain ⟨j0, j1, j2, j3, j4, j5, j6, j7, j8, j9, j10, j11⟩ := F7.out
      go_wp2_with fail
      refine (HSd'.out _).mono ?_
      rintro r v8 ⟨rfl, hb8⟩
      have B8 := bel_call B7 hb8
      have F8 := KB.out _ _ F7.out hb8
      have F8' := Lib.hid F8
      clear j0 j1 j2 j3 j4 j5 j6 j7 j8 j9 j10 j11 hb8
      obtain ⟨m0, m1, m2, m3, m4, m5, m6, m7, m8, m9, m10, m11⟩ := F8
      have BA8 : Below v8.heap.size v8 (v8.alloc (.cells #[.bool false, .int .i64 (wrap64 ((S[0]'(by rw [hz]; decide)).toNat : Int))] 46)) := bel_alloc (Below.refl _ _) _
      have mm8 := cellB' BA8 m8
      have mm9 := cellB' BA8 m9
      have mm10 := cellB' BA8 m10
      have mm11 := cellB' BA8 m11
      have hl8 : v1.heap.size < v8.heap.size := World.block_lt_of_cell? v8 ⟨v1.heap.size, 0, none⟩ m8
      have hl9 : v2.heap.size < v8.heap.size := World.block_lt_of_cell? v8 ⟨v2.heap.size, 0, none⟩ m10
      go_wp2_with fail
      refine (HA.out _).mono ?_
      rintro r v9 ⟨rfl, hb9⟩
      go_wp2_with fail
      go_ret
      exact ⟨rfl, bel_call (by first | exact bel_alloc B8 _ | exact bel_set (bel_set (bel_alloc B8 _) (by simp; exact Nat.le_trans B8.size (Nat.le_refl _)) _) (by simp; exact Nat.le_trans B8.size (Nat.le_refl _)) _) hb9⟩
  | false =>
    simp only [if_true, Bool.false_eq_true, if_false] at HW1 HW2' HSd'
    have hz : (strOfNums [(n : Int)]).size = 1 := by rw [strOfNums_size]; rfl
    have hi0 : wrap64 (((strOfNums [(n : Int)])[0]'(by rw [hz]; decide)).toNat : Int) = (n : Int) := num_at _ 0 n hn rfl _
    generalize strOfNums [(n : Int)] = S at *
    cases e2 with
    | true =>
      have hto : toldAt (setTo true n2 x) false n = ({ data := #[] }, false) := by
        unfold setTo
        split
        · simp [toldAt]
        · rfl
      rw [hto] at HW1
      simp only [Bool.and_false, Bool.false_eq_true, if_false] at HW1
      obtain ⟨h0, h1, h2, h3, h4, h5, h6, h7, h8, h9, h10, h11⟩ := F5.out
      have HW1' := Lib.hid HW1
      clear HW1
      go_wp2_with fail
      refine HW1'.out.mono ?_
      rintro r v6 ⟨rfl, hb6⟩
      have B6 := bel_call HB5.out hb6
      have F6 := KB.out _ _ F5.out hb6
      clear h0 h1 h2 h3 h4 h5 h6 h7 h8 h9 h10 h11
      have F6' := Lib.hid F6
      obtain ⟨g0, g1, g2, g3, g4, g5, g6, g7, g8, g9, g10, g11⟩ := F6
      go_wp2_with fail
      refine (HW2'.out _).mono ?_
      rintro r v7 ⟨rfl, hb7⟩
      have B7 := bel_call B6 hb7
      have F7 := Lib.hid (KB.out _ _ F6'.out hb7)
      clear g0 g1 g2 g3 g4 g5 g6 g7 g8 g9 g10 g11 hb7 hb6
      obtain ⟨j0, j1, j2, j3, j4, j5, j6, j7, j8, j9, j10, j11⟩ := F7.out
      go_wp2_with fail
      refine (HSd'.out _).mono ?_
      rintro r v8 ⟨rfl, hb8⟩
      have B8 := bel_call B7 hb8
      have F8 := KB.out _ _ F7.out hb8
      have F8' := Lib.hid F8
      clear j0 j1 j2 j3 j4 j5 j6 j7 j8 j9 j10 j11 hb8
      obtain ⟨m0, m1, m2, m3, m4, m5, m6, m7, m8, m9, m10, m11⟩ := F8
      have BA8 : Below v8.heap.size v8 (v8.alloc (.cells #[.bool false, .int .i64 (wrap64 ((S[0]'(by rw [hz]; decide)).toNat : Int))] 46)) := bel_alloc (Below.refl _ _) _
      have mm8 := cellB' BA8 m8
      have mm9 := cellB' BA8 m9
      have mm10 := cellB' BA8 m10
      have mm11 := cellB' BA8 m11
      have hl8 : v1.heap.size < v8.heap.size := World.block_lt_of_cell? v8 ⟨v1.heap.size, 0, none⟩ m8
      have hl9 : v2.heap.size < v8.heap.size := World.block_lt_of_cell? v8 ⟨v2.heap.size, 0, none⟩ m10
      go_wp2_with fail
      refine (HA.out _).mono ?_
      rintro r v9 ⟨rfl, hb9⟩
      go_wp2_with fail
      go_ret
      exact ⟨rfl, bel_call (by first | exact bel_alloc B8 _ | exact bel_set (bel_set (bel_alloc B8 _) (by simp; exact Nat.le_trans B8.size (Nat.le_refl _)) _) (by simp; exact Nat.le_trans B8.size (Nat.le_refl _)) _) hb9⟩
    | false =>
      by_cases hnn : n2 = n
      · subst hnn
        by_cases hx0 : x.size = 0
        · have hto : toldAt (setTo false n2 x) false n2 = ({ data := #[] }, false) := by
            unfold setTo
            rw [if_neg (by simp [hx0])]
            rfl
          rw [hto] at HW1
          simp only [Bool.and_false, Bool.false_eq_true, if_false] at HW1
          have hxe : x = { data := #[] } := by
            cases x
            next d => simp [ByteArray.size] at hx0; simp [hx0]
          clear hto hx0
          subst hxe
          obtain ⟨h0, h1, h2, h3, h4, h5, h6, h7, h8, h9, h10, h11⟩ := F5.out
          have HW1' := Lib.hid HW1
          clear HW1
          go_wp2_with fail
          refine HW1'.out.mono ?_
          rintro r v6 ⟨rfl, hb6⟩
          have B6 := bel_call HB5.out hb6
          have F6 := KB.out _ _ F5.out hb6
          clear h0 h1 h2 h3 h4 h5 h6 h7 h8 h9 h10 h11
          have F6' := Lib.hid F6
          obtain ⟨g0, g1, g2, g3, g4, g5, g6, g7, g8, g9, g10, g11⟩ := F6
          go_wp2_with fail
          refine (HW2'.out _).mono ?_
          rintro r v7 ⟨rfl, hb7⟩
          have B7 := bel_call B6 hb7
          have F7 := Lib.hid (KB.out _ _ F6'.out hb7)
          clear g0 g1 g2 g3 g4 g5 g6 g7 g8 g9 g10 g11 hb7 hb6
          obtain ⟨j0, j1, j2, j3, j4, j5, j6, j7, j8, j9, j10, j11⟩ := F7.out
          go_wp2_with fail
          refine (HSd'.out _).mono ?_
          rintro r v8 ⟨rfl, hb8⟩
          have B8 := bel_call B7 hb8
          have F8 := KB.out _ _ F7.out hb8
          have F8' := Lib.hid F8
          clear j0 j1 j2 j3 j4 j5 j6 j7 j8 j9 j10 j11 hb8
          obtain ⟨m0, m1, m2, m3, m4, m5, m6, m7, m8, m9, m10, m11⟩ := F8
          have BA8 : Below v8.heap.size v8 (v8.alloc (.cells #[.bool false, .int .i64 (wrap64 ((S[0]'(by rw [hz]; decide)).toNat : Int))] 46)) := bel_alloc (Below.refl _ _) _
          have mm8 := cellB' BA8 m8
          have mm9 := cellB' BA8 m9
          have mm10 := cellB' BA8 m10
          have mm11 := cellB' BA8 m11
          have hl8 : v1.heap.size < v8.heap.size := World.block_lt_of_cell? v8 ⟨v1.heap.size, 0, none⟩ m8
          have hl9 : v2.heap.size < v8.heap.size := World.block_lt_of_cell? v8 ⟨v2.heap.size, 0, none⟩ m10
          go_wp2_with fail
          refine (HA.out _).mono ?_
          rintro r v9 ⟨rfl, hb9⟩
          go_wp2_with fail
          go_ret
          exact ⟨rfl, bel_call (by first | exact bel_alloc B8 _ | exact bel_set (bel_set (bel_alloc B8 _) (by simp; exact Nat.le_trans B8.size (Nat.le_refl _)) _) (by simp; exact Nat.le_trans B8.size (Nat.le_refl _)) _) hb9⟩
        · by_cases hn0 : 0 < n2
          · have hsz1 : ¬ x.toList = [] := fun e => hx0 (by rw [ByteArray.toList_eq] at e; simp at e; simp [ByteArray.size, e])
            have hsz2 : x.toList.isEmpty = false := by simpa using hsz1
            have hto : toldAt (setTo false n2 x) false n2 = (x, true) := by
              unfold setTo
              rw [if_pos (by simp [hx0, hn0])]
              simp [toldAt]
            rw [hto] at HW1
            simp only [Bool.and_true, if_true] at HW1
            clear hto
            have hnp : (0 : Int) < (n2 : Int) := by omega
            obtain ⟨h0, h1, h2, h3, h4, h5, h6, h7, h8, h9, h10, h11⟩ := F5.out
            have HW1' := Lib.hid HW1
            clear HW1
            go_wp2_with fail
            refine HW1'.out.mono ?_
            rintro r v6 ⟨rfl, hb6⟩
            have B6 := bel_call HB5.out hb6
            have F6 := KB.out _ _ F5.out hb6
            clear h0 h1 h2 h3 h4 h5 h6 h7 h8 h9 h10 h11
            have F6' := Lib.hid F6
            obtain ⟨g0, g1, g2, g3, g4, g5, g6, g7, g8, g9, g10, g11⟩ := F6
            go_wp2_with fail
            refine (HW2'.out _).mono ?_
            rintro r v7 ⟨rfl, hb7⟩
            have B7 := bel_call B6 hb7
            have F7 := Lib.hid (KB.out _ _ F6'.out hb7)
            clear g0 g1 g2 g3 g4 g5 g6 g7 g8 g9 g10 g11 hb7 hb6
            obtain ⟨j0, j1, j2, j3, j4, j5, j6, j7, j8, j9, j10, j11⟩ := F7.out
            go_wp2_with fail
            refine (HSd'.out _).mono ?_
            rintro r v8 ⟨rfl, hb8⟩
            have B8 := bel_call B7 hb8
            have F8 := KB.out _ _ F7.out hb8
            have F8' := Lib.hid F8
            clear j0 j1 j2 j3 j4 j5 j6 j7 j8 j9 j10 j11 hb8
            obtain ⟨m0, m1, m2, m3, m4, m5, m6, m7, m8, m9, m10, m11⟩ := F8
            have BA8 : Below v8.heap.size v8 (v8.alloc (.cells #[.bool false, .int .i64 (wrap64 ((S[0]'(by rw [hz]; decide)).toNat : Int))] 46)) := bel_alloc (Below.refl _ _) _
            have mm8 := cellB' BA8 m8
            have mm9 := cellB' BA8 m9
            have mm10 := cellB' BA8 m10
            have mm11 := cellB' BA8 m11
            have hl8 : v1.heap.size < v8.heap.size := World.block_lt_of_cell? v8 ⟨v1.heap.size, 0, none⟩ m8
            have hl9 : v2.heap.size < v8.heap.size := World.block_lt_of_cell? v8 ⟨v2.heap.size, 0, none⟩ m10
            go_wp2_with fail
            refine (HA.out _).mono ?_
            rintro r v9 ⟨rfl, hb9⟩
            go_wp2_with fail
            go_ret
            exact ⟨rfl, bel_call (by first | exact bel_alloc B8 _ | exact bel_set (bel_set (bel_alloc B8 _) (by simp; exact Nat.le_trans B8.size (Nat.le_refl _)) _) (by simp; exact Nat.le_trans B8.size (Nat.le_refl _)) _) hb9⟩
          · have hsz1 : ¬ x.toList = [] := fun e => hx0 (by rw [ByteArray.toList_eq] at e; simp at e; simp [ByteArray.size, e])
            have hsz2 : x.toList.isEmpty = false := by simpa using hsz1
            have hto : toldAt (setTo false n2 x) false n2 = ({ data := #[] }, false) := by
              unfold setTo
              rw [if_neg (by simp [hn0])]
              rfl
            rw [hto] at HW1
            simp only [Bool.and_false, Bool.false_eq_true, if_false] at HW1
            clear hto
            have hnp : ¬ (0 : Int) < (n2 : Int) := by omega
            obtain ⟨h0, h1, h2, h3, h4, h5, h6, h7, h8, h9, h10, h11⟩ := F5.out
            have HW1' := Lib.hid HW1
            clear HW1
            go_wp2_with fail
            refine HW1'.out.mono ?_
            rintro r v6 ⟨rfl, hb6⟩
            have B6 := bel_call HB5.out hb6
            have F6 := KB.out _ _ F5.out hb6
            clear h0 h1 h2 h3 h4 h5 h6 h7 h8 h9 h10 h11
            have F6' := Lib.hid F6
            obtain ⟨g0, g1, g2, g3, g4, g5, g6, g7, g8, g9, g10, g11⟩ := F6
            go_wp2_with fail
            refine (HW2'.out _).mono ?_
            rintro r v7 ⟨rfl, hb7⟩
            have B7 := bel_call B6 hb7
            have F7 := Lib.hid (KB.out _ _ F6'.out hb7)
            clear g0 g1 g2 g3 g4 g5 g6 g7 g8 g9 g10 g11 hb7 hb6
            obtain ⟨j0, j1, j2, j3, j4, j5, j6, j7, j8, j9, j10, j11⟩ := F7.out
            go_wp2_with fail
            refine (HSd'.out _).mono ?_
            rintro r v8 ⟨rfl, hb8⟩
            have B8 := bel_call B7 hb8
            have F8 := KB.out _ _ F7.out hb8
            have F8' := Lib.hid F8
            clear j0 j1 j2 j3 j4 j5 j6 j7 j8 j9 j10 j11 hb8
            obtain ⟨m0, m1, m2, m3, m4, m5, m6, m7, m8, m9, m10, m11⟩ := F8
            have BA8 : Below v8.heap.size v8 (v8.alloc (.cells #[.bool false, .int .i64 (wrap64 ((S[0]'(by rw [hz]; decide)).toNat : Int))] 46)) := bel_alloc (Below.refl _ _) _
            have mm8 := cellB' BA8 m8
            have mm9 := cellB' BA8 m9
            have mm10 := cellB' BA8 m10
            have mm11 := cellB' BA8 m11
            have hl8 : v1.heap.size < v8.heap.size := World.block_lt_of_cell? v8 ⟨v1.heap.size, 0, none⟩ m8
            have hl9 : v2.heap.size < v8.heap.size := World.block_lt_of_cell? v8 ⟨v2.heap.size, 0, none⟩ m10
            go_wp2_with fail
            refine (HA.out _).mono ?_
            rintro r v9 ⟨rfl, hb9⟩
            go_wp2_with fail
            go_ret
            exact ⟨rfl, bel_call (by first | exact bel_alloc B8 _ | exact bel_set (bel_set (bel_alloc B8 _) (by simp; exact Nat.le_trans B8.size (Nat.le_refl _)) _) (by simp; exact Nat.le_trans B8.size (Nat.le_refl _)) _) hb9⟩
      · have hto : toldAt (setTo false n2 x) false n = ({ data := #[] }, false) := by
          unfold setTo
          split
          · simp [toldAt, hnn]
          · rfl
        rw [hto] at HW1
        simp only [Bool.and_false, Bool.false_eq_true, if_false] at HW1
        have hd1 : ¬ (n2 : Int) = (n : Int) := by omega
        have hd2 : decide ((n2 : Int) = (n : Int)) = false := by simp; omega
        have hd3 : ((n2 : Int) == (n : Int)) = false := by simp; omega
        clear hto
        obtain ⟨h0, h1, h2, h3, h4, h5, h6, h7, h8, h9, h10, h11⟩ := F5.out
        have HW1' := Lib.hid HW1
        clear HW1
        go_wp2_with fail
        refine HW1'.out.mono ?_
        rintro r v6 ⟨rfl, hb6⟩
        have B6 := bel_call HB5.out hb6
        have F6 := KB.out _ _ F5.out hb6
        clear h0 h1 h2 h3 h4 h5 h6 h7 h8 h9 h10 h11
        have F6' := Lib.hid F6
        obtain ⟨g0, g1, g2, g3, g4, g5, g6, g7, g8, g9, g10, g11⟩ := F6
        go_wp2_with fail
        refine (HW2'.out _).mono ?_
        rintro r v7 ⟨rfl, hb7⟩
        have B7 := bel_call B6 hb7
        have F7 := Lib.hid (KB.out _ _ F6'.out hb7)
        clear g0 g1 g2 g3 g4 g5 g6 g7 g8 g9 g10 g11 hb7 hb6
        obtain ⟨j0, j1, j2, j3, j4, j5, j6, j7, j8, j9, j10, j11⟩ := F7.out
        go_wp2_with fail
        refine (HSd'.out _).mono ?_
        rintro r v8 ⟨rfl, hb8⟩
        have B8 := bel_call B7 hb8
        have F8 := KB.out _ _ F7.out hb8
        have F8' := Lib.hid F8
        clear j0 j1 j2 j3 j4 j5 j6 j7 j8 j9 j10 j11 hb8
        obtain ⟨m0, m1, m2, m3, m4, m5, m6, m7, m8, m9, m10, m11⟩ := F8
        have BA8 : Below v8.heap.size v8 (v8.alloc (.cells #[.bool false, .int .i64 (wrap64 ((S[0]'(by rw [hz]; decide)).toNat : Int))] 46)) := bel_alloc (Below.refl _ _) _
        have mm8 := cellB' BA8 m8
        have mm9 := cellB' BA8 m9
        have mm10 := cellB' BA8 m10
        have mm11 := cellB' BA8 m11
        have hl8 : v1.heap.size < v8.heap.size := World.block_lt_of_cell? v8 ⟨v1.heap.size, 0, none⟩ m8
        have hl9 : v2.heap.size < v8.heap.size := World.block_lt_of_cell? v8 ⟨v2.heap.size, 0, none⟩ m10
        go_wp2_with fail
        refine (HA.out _).mono ?_
        rintro r v9 ⟨rfl, hb9⟩
        go_wp2_with fail
        go_ret
        exact ⟨rfl, bel_call (by first | exact bel_alloc B8 _ | exact bel_set (bel_set (bel_alloc B8 _) (by simp; exact Nat.le_trans B8.size (Nat.le_refl _)) _) (by simp; exact Nat.le_trans B8.size (Nat.le_refl _)) _) hb9⟩
theorem told_walk (k c : Int) (s t : Bool) (k' c' : Int) (s' t' : Bool) (x : ByteArray) (w : World) :
    Calls Try.prog 8 #[keyv k c s t, keyv k' c' s' t', .string x] w fun r w' => r = .returned (.bool true) ∧ Below w.heap.size w w' := by
  by_cases hx : x.size ≤ 300
  · by_cases hk : checkOf k c = 0
    · obtain ⟨e, n, hn, hs⟩ := dos_shape k c s t hk
      by_cases hk2 : checkOf k' c' = 0
      · obtain ⟨e2, n2, hn2, hs2⟩ := dos_shape k' c' s' t' hk2
        exact told_tt k c s t k' c' s' t' x w hx hk e n hn hs hk2 e2 n2 hn2 hs2
      · exact told_tf k c s t k' c' s' t' x w hx hk e n hn hs hk2
    · by_cases hk2 : checkOf k' c' = 0
      · obtain ⟨e2, n2, hn2, hs2⟩ := dos_shape k' c' s' t' hk2
        exact told_ft k c s t k' c' s' t' x w hx hk hk2 e2 n2 hn2 hs2
      · exact told_ff k c s t k' c' s' t' x w hx hk hk2
  · exact told_long k c s t k' c' s' t' x w (by omega)
end Go.Proofs.Ytkenihkfjepdfaa
