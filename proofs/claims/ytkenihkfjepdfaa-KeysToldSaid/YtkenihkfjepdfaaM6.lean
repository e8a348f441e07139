/- With: what it answers. -/
import Derived.Test.YtkenihkfjepdfaaM5
namespace Go.Proofs.Ytkenihkfjepdfaa
open Go.RowKit Go.Maps
set_option linter.unusedVariables false
set_option linter.unusedSimpArgs false
set_option maxRecDepth 100000
set_option maxHeartbeats 1000000
theorem cellB' {W W' : World} (hb : Below W.heap.size W W') {b o : Nat} {v : Value} (h : W.cell? ⟨b, o, none⟩ = some v) : W'.cell? ⟨b, o, none⟩ = some v :=
  (hb.cell (p := ⟨b, o, none⟩) (World.block_lt_of_cell? W ⟨b, o, none⟩ h)).trans h
theorem with_gen (m : Value) (k c : Int) (s t : Bool) (e is : Bool) (n : Nat) (T : ByteArray) (err : Int) (w : World) (P : World → Prop) (S : ByteArray) (q : Bool)
    (hm : m = .pointer none ∨ ∃ p, m = .pointer (some ⟨p, 0, none⟩))
    (HCd : Fn 16 #[keyv k c s t] (.tuple #[codeV e n, .bool is])) (HE : Fn 11 #[.int .i64 2, keyv k c s t, .bool false] (.tuple #[.string T, .int .i64 err]))
    (hP : ∀ W, Below w.heap.size w W → P W) (HG : ∀ W, P W → Calls Try.prog 29 #[m, codeV e n] W fun r w' => r = .returned (.tuple #[.string S, .bool q]) ∧ Below W.heap.size W w') :
    Calls Try.prog 18 #[m, keyv k c s t] w fun r w' => r = .returned (.tuple #[.string (if (is && q) = true then S else T), .int .i64 (if (is && q) = true then 0 else err)]) ∧ Below w.heap.size w w' := by
  unfold Fn keyv at *
  have HCd' := Lib.hid HCd
  have HE' := Lib.hid HE
  have HP' := Lib.hid hP
  have HG' := Lib.hid HG
  clear HCd HE hP HG
  have fin : ∀ m', m' = m → Calls Try.prog 18 #[m', .agg #[.int .i64 k, .int .i64 c, .bool s, .bool t]] w fun r w' => r = .returned (.tuple #[.string (if (is && q) = true then S else T), .int .i64 (if (is && q) = true then 0 else err)]) ∧ Below w.heap.size w w' := by
    rintro m' rfl
    have hB : Below w.heap.size w (w.alloc (.cells #[.int .i64 k, .int .i64 c, .bool s, .bool t] 23)) := bel_alloc (Below.refl _ _) _
    rcases hm with rfl | ⟨p, rfl⟩
    all_goals
      go_enter Try.func18, Try.ntmps18
      go_wp2_with fail
      refine (HCd'.out _).mono ?_
      rintro r w1 ⟨rfl, hb1⟩
      have B1 := bel_call hB hb1
      have k0 := hb1.cell (p := ⟨w.heap.size, 0, none⟩) (by simp)
      have k1 := hb1.cell (p := ⟨w.heap.size, 1, none⟩) (by simp)
      have k2 := hb1.cell (p := ⟨w.heap.size, 2, none⟩) (by simp)
      have k3 := hb1.cell (p := ⟨w.heap.size, 3, none⟩) (by simp)
      simp [go_sem] at k0 k1 k2 k3
      have BA : Below w1.heap.size w1 (w1.alloc (.cells #[.bool e, .int .i64 (n : Int)] 46)) := bel_alloc (Below.refl _ _) _
      go_wp2_with fail
      refine (HG'.out _ (HP'.out _ (bel_call B1 BA))).mono ?_
      rintro r w2 ⟨rfl, hb2⟩
      have B2 := bel_call (bel_call B1 BA) hb2
      have j0 := cellB' hb2 (cellB' BA k0)
      have j1 := cellB' hb2 (cellB' BA k1)
      have j2 := cellB' hb2 (cellB' BA k2)
      have j3 := cellB' hb2 (cellB' BA k3)
      clear k0 k1 k2 k3 hb1 hb2 BA
      cases is
      · go_wp2_with fail
        refine (HE'.out _).mono ?_
        rintro r w3 ⟨rfl, hb3⟩
        go_wp2_with fail
        go_ret2
        exact ⟨rfl, bel_call B2 hb3⟩
      · cases q
        · go_wp2_with fail
          refine (HE'.out _).mono ?_
          rintro r w3 ⟨rfl, hb3⟩
          go_wp2_with fail
          go_ret2
          exact ⟨rfl, bel_call B2 hb3⟩
        · go_wp2_with fail
          go_ret2
          exact ⟨rfl, B2⟩
  exact fin m rfl
end Go.Proofs.Ytkenihkfjepdfaa
