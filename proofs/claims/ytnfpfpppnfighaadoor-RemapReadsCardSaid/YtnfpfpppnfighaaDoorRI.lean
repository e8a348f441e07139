/- RemapReads: the law's walk. -/
import Derived.Test.YtnfpfpppnfighaaDoorRH
import Derived.Test.YtnfpfpppnfighaaDoorR9
namespace Go.Proofs.YtnfpfpppnfighaaDoor
open Go.Shelf Go.RowKit
set_option linter.unusedVariables false
set_option linter.unusedSimpArgs false
set_option maxRecDepth 100000
set_option maxHeartbeats 4000000 in
theorem reads_walk (w : World) (htab : Tab w) (l : List UInt8) :
    Calls Tryd.prog 3 #[.string (st l)] w fun r w' => r = .returned (.bool true) ∧ Below w.heap.size w w' := by
  have HA := Lib.hid (fun W (hb : Below w.heap.size w W) => awake_any W (tab_below htab W hb))
  have HP := Lib.hid (fun W (h : l.length ≤ 300) => parse_any W l (by omega))
  have HQ := Lib.hid (fun W (h : l.length ≤ 300) => rparse_any W l (by omega))
  obtain ⟨e, n, T, c, h1, h2⟩ : ∃ (e : Bool) (n : Int) (T : ByteArray) (c : Int), parseV (parseP l) = .tuple #[.agg #[.bool e, .int .i64 n], .string T, .int .i64 c] ∧ rparseV (parseP l) = .tuple #[.agg #[.bool e, .int .i64 n, .string T], .int .i64 c] := by
    cases parseP l with
    | error k => exact ⟨_, _, _, _, rfl, rfl⟩
    | ok p => obtain ⟨e, n, t⟩ := p; exact ⟨_, _, _, _, rfl, rfl⟩
  rw [h1] at HP
  rw [h2] at HQ
  obtain ⟨s, hs⟩ : ∃ s, st l = s := ⟨_, rfl⟩
  have z1 : s.size = l.length := by rw [← hs, st_size]
  rw [hs] at HP HQ ⊢
  obtain ⟨N, hN⟩ : ∃ N, l.length = N := ⟨_, rfl⟩
  rw [hN] at HP HQ z1
  clear htab h1 h2 hs hN
  by_cases l1 : N ≤ 300
  · have p1 : ¬ (300 : Int) < (N : Int) := by omega
    go_enter Tryd.func3, Tryd.ntmps3
    go_wp2_with fail
    refine (HP.out _ l1).mono ?_
    rintro r w1 ⟨rfl, hb1⟩
    have Hb1 := Lib.hid (bel_alloc hb1 (.cells #[.bool e, .int .i64 n] 24))
    have HCl := Lib.hid (show ∀ W, W = w1.alloc (.cells #[.bool e, .int .i64 n] 24) → W.cell? ⟨w1.heap.size, 0, none⟩ = some (.bool e) ∧ W.cell? ⟨w1.heap.size, 1, none⟩ = some (.int .i64 n) from by
      intro W hW
      subst hW
      simp [go_sem])
    clear hb1
    go_wp2_with fail
    obtain ⟨w2, hw2⟩ : ∃ w2, (w1.alloc (.cells #[.bool e, .int .i64 n] 24)) = w2 := ⟨_, rfl⟩
    rw [hw2] at Hb1 ⊢
    obtain ⟨k1, k2⟩ := HCl.out w2 hw2.symm
    clear hw2 HCl
    obtain ⟨B1, hB1⟩ : ∃ B, w1.heap.size = B := ⟨_, rfl⟩
    rw [hB1] at k1 k2 ⊢
    clear hB1
    refine (HQ.out _ l1).mono ?_
    rintro r w3 ⟨rfl, hb3⟩
    replace k1 := cellB hb3 k1
    replace k2 := cellB hb3 k2
    have Hb3 := Lib.hid (bel_call Hb1.out hb3)
    clear hb3
    have d1 : ∀ o, (w3.alloc o).cell? ⟨B1, 0, none⟩ = some (.bool e) := fun o => cellB (bel_alloc (Below.refl _ _) o) k1
    have d2 : ∀ o, (w3.alloc o).cell? ⟨B1, 1, none⟩ = some (.int .i64 n) := fun o => cellB (bel_alloc (Below.refl _ _) o) k2
    clear k1 k2
    have Hb4 := Lib.hid (fun o => bel_alloc Hb3.out o)
    go_wp2_with fail
    refine (HA.out _ (Hb4.out _)).mono ?_
    rintro r w5 ⟨rfl, hb5⟩
    go_wp2_with fail
    go_ret
    exact ⟨rfl, bel_call (Hb4.out _) hb5⟩
  · have p1 : (300 : Int) < (N : Int) := by omega
    clear HP HQ
    go_enter Tryd.func3, Tryd.ntmps3
    go_wp2_with fail
    refine (HA.out _ (Below.refl _ _)).mono ?_
    rintro r w5 ⟨rfl, hb5⟩
    go_wp2_with fail
    go_ret
    exact ⟨rfl, hb5⟩
end Go.Proofs.YtnfpfpppnfighaaDoor
