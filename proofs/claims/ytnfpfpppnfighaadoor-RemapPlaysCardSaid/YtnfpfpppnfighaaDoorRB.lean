/- RemapApart: the law's walk. -/
import Derived.Test.YtnfpfpppnfighaaDoorRA
namespace Go.Proofs.YtnfpfpppnfighaaDoor
open Go.Shelf Go.RowKit
set_option linter.unusedVariables false
set_option linter.unusedSimpArgs false
set_option maxRecDepth 100000
theorem toList_inj {a b : ByteArray} (h : a.toList = b.toList) : a = b := by
  rw [ByteArray.toList_eq, ByteArray.toList_eq] at h
  exact ByteArray.ext (Array.toList_inj.1 h)
def opV (a : Int) (e : Bool) (n : Int) (t : List UInt8) : Value := .agg #[.int .i64 a, .bool e, .int .i64 n, .string (st t)]
set_option maxHeartbeats 4000000 in
theorem apart_walk (w : World) (htab : Tab w) (a1 : Int) (e1 : Bool) (n1 : Int) (t1 : List UInt8) (a2 : Int) (e2 : Bool) (n2 : Int) (t2 : List UInt8)
    (h1 : -9223372036854775808 ≤ n1 ∧ n1 ≤ 9223372036854775807) (h2 : -9223372036854775808 ≤ n2 ∧ n2 ≤ 9223372036854775807) :
    Calls Tryd.prog 5 #[opV a1 e1 n1 t1, opV a2 e2 n2 t2] w fun r w' => r = .returned (.bool true) ∧ Below w.heap.size w w' := by
  unfold opV
  have HA := Lib.hid (fun W (hb : Below w.heap.size w W) => awake_any W (tab_below htab W hb))
  have HT1 := Lib.hid (fun W (hb : Below w.heap.size w W) (hl : t1.length ≤ 300) => tell_any W (tab_below htab W hb) e1 n1 h1.1 h1.2 t1 (by omega))
  have HT2 := Lib.hid (fun W (hb : Below w.heap.size w W) (hl : t2.length ≤ 300) => tell_any W (tab_below htab W hb) e2 n2 h2.1 h2.2 t2 (by omega))
  obtain ⟨s1, hs1⟩ : ∃ s, st t1 = s := ⟨_, rfl⟩
  obtain ⟨s2, hs2⟩ : ∃ s, st t2 = s := ⟨_, rfl⟩
  have z1 : s1.size = t1.length := by rw [← hs1, st_size]
  have z2 : s2.size = t2.length := by rw [← hs2, st_size]
  have HS := Lib.hid (And.intro hs1 hs2)
  rw [hs1] at HT1 ⊢
  rw [hs2] at HT2 ⊢
  clear htab h1 h2 hs1 hs2
  obtain ⟨N1, hN1⟩ : ∃ N, t1.length = N := ⟨_, rfl⟩
  obtain ⟨N2, hN2⟩ : ∃ N, t2.length = N := ⟨_, rfl⟩
  rw [hN1] at HT1 z1
  rw [hN2] at HT2 z2
  have HNN := Lib.hid (And.intro hN1 hN2)
  clear hN1 hN2
  by_cases l1 : N1 ≤ 300
  · have p1 : ¬ (300 : Int) < (N1 : Int) := by omega
    by_cases l2 : N2 ≤ 300
    · have p2 : ¬ (300 : Int) < (N2 : Int) := by omega
      obtain ⟨A1, c1, hv1, hc1⟩ : ∃ A c, tellV e1 n1 t1 = .tuple #[.string A, .int .i64 c] ∧ ((c = 0 ∧ mayB e1 n1 = true ∧ A = st (tellP e1 n1 t1)) ∨ c = 1) := by
        unfold tellV
        cases hm : mayB e1 n1 with
        | true => exact ⟨_, 0, rfl, .inl ⟨rfl, rfl, rfl⟩⟩
        | false => exact ⟨_, 1, rfl, .inr rfl⟩
      obtain ⟨A2, c2, hv2, hc2⟩ : ∃ A c, tellV e2 n2 t2 = .tuple #[.string A, .int .i64 c] ∧ ((c = 0 ∧ mayB e2 n2 = true ∧ A = st (tellP e2 n2 t2)) ∨ c = 1) := by
        unfold tellV
        cases hm : mayB e2 n2 with
        | true => exact ⟨_, 0, rfl, .inl ⟨rfl, rfl, rfl⟩⟩
        | false => exact ⟨_, 1, rfl, .inr rfl⟩
      rw [hv1] at HT1
      rw [hv2] at HT2
      have HInj := Lib.hid (fun (hz1 : c1 = 0) (hz2 : c2 = 0) (hA : A1 = A2) => (show e1 = e2 ∧ n1 = n2 ∧ t1 = t2 from by
        rcases hc1 with ⟨_, m1, rfl⟩ | h
        · rcases hc2 with ⟨_, m2, rfl⟩ | h
          · exact tell_inj m1 m2 (st_inj hA)
          · omega
        · omega))
      have HSm := Lib.hid (fun (hz1 : c1 = 0) (hz2 : c2 = 0) (he : e1 = e2) (hn : n1 = n2) (ht : t1 = t2) => (show A1 = A2 from by
        rcases hc1 with ⟨_, m1, rfl⟩ | h
        · rcases hc2 with ⟨_, m2, rfl⟩ | h
          · rw [he, hn, ht]
          · omega
        · omega))
      have hw1 : c1 = 0 ∨ c1 = 1 := by rcases hc1 with ⟨h, _⟩ | h; exact .inl h; exact .inr h
      have hw2 : c2 = 0 ∨ c2 = 1 := by rcases hc2 with ⟨h, _⟩ | h; exact .inl h; exact .inr h
      clear hv1 hv2 hc1 hc2
      have hc0 : Below w.heap.size w ((w.alloc (.cells #[.int .i64 a1, .bool e1, .int .i64 n1, .string s1] 39)).alloc (.cells #[.int .i64 a2, .bool e2, .int .i64 n2, .string s2] 39)) := bel_alloc (bel_alloc (Below.refl _ _) _) _
      have hcl : ∀ W, W = ((w.alloc (.cells #[.int .i64 a1, .bool e1, .int .i64 n1, .string s1] 39)).alloc (.cells #[.int .i64 a2, .bool e2, .int .i64 n2, .string s2] 39)) → (W.cell? ⟨w.heap.size, 1, none⟩ = some (.bool e1) ∧ W.cell? ⟨w.heap.size, 2, none⟩ = some (.int .i64 n1) ∧ W.cell? ⟨w.heap.size, 3, none⟩ = some (.string s1)) ∧
          (W.cell? ⟨w.heap.size + 1, 1, none⟩ = some (.bool e2) ∧ W.cell? ⟨w.heap.size + 1, 2, none⟩ = some (.int .i64 n2) ∧ W.cell? ⟨w.heap.size + 1, 3, none⟩ = some (.string s2)) := by
        intro W hW
        subst hW
        simp [go_sem]
      have HC0 := Lib.hid hc0
      have HCl := Lib.hid hcl
      clear hc0 hcl
      go_enter Tryd.func5, Tryd.ntmps5
      go_wp2_with fail
      obtain ⟨w0, hw0⟩ : ∃ w0, ((w.alloc (.cells #[.int .i64 a1, .bool e1, .int .i64 n1, .string s1] 39)).alloc (.cells #[.int .i64 a2, .bool e2, .int .i64 n2, .string s2] 39)) = w0 := ⟨_, rfl⟩
      rw [hw0] at HC0 ⊢
      obtain ⟨⟨k1, k2, k3⟩, k4, k5, k6⟩ := HCl.out w0 hw0.symm
      clear hw0 HCl
      obtain ⟨B1, hB1⟩ : ∃ B, w.heap.size = B := ⟨_, rfl⟩
      rw [hB1] at k1 k2 k3 k4 k5 k6 ⊢
      obtain ⟨B2, hB2⟩ : ∃ B, B1 + 1 = B := ⟨_, rfl⟩
      rw [hB2] at k4 k5 k6 ⊢
      clear hB1 hB2
      refine (HT1.out _ HC0.out l1).mono ?_
      rintro r w3 ⟨rfl, hb3⟩
      replace k1 := cellB hb3 k1
      replace k2 := cellB hb3 k2
      replace k3 := cellB hb3 k3
      replace k4 := cellB hb3 k4
      replace k5 := cellB hb3 k5
      replace k6 := cellB hb3 k6
      have Hb3 := Lib.hid (bel_call HC0.out hb3)
      clear hb3
      go_wp2_with fail
      refine (HT2.out _ Hb3.out l2).mono ?_
      rintro r w4 ⟨rfl, hb4⟩
      replace k1 := cellB hb4 k1
      replace k2 := cellB hb4 k2
      replace k3 := cellB hb4 k3
      replace k4 := cellB hb4 k4
      replace k5 := cellB hb4 k5
      replace k6 := cellB hb4 k6
      have Hb4 := Lib.hid (bel_call Hb3.out hb4)
      clear hb4
      have HAw := Lib.hid (HA.out w4 Hb4.out)
      rcases hw1 with rfl | rfl
      · rcases hw2 with rfl | rfl
        · have HI := Lib.hid (HInj.out rfl rfl)
          have HSa := Lib.hid (HSm.out rfl rfl)
          clear HInj HSm
          go_upto_region 7 with fail
          by_cases hall : e1 = e2 ∧ n1 = n2 ∧ t1 = t2
          · obtain ⟨rfl, rfl, ht⟩ := hall
            have hA : A1 = A2 := HSa.out rfl rfl ht
            have hss : s1 = s2 := by rw [← HS.out.1, ← HS.out.2, ht]
            subst hA hss
            clear HSa HI
            go_wp2_with fail
            refine HAw.out.mono ?_
            rintro r w5 ⟨rfl, hb5⟩
            go_wp2_with fail
            go_ret
            exact ⟨rfl, bel_call Hb4.out hb5⟩
          · have hA1 : ¬ A1 = A2 := fun h => hall (HI.out h)
            have x1 : ¬ A1.toList = A2.toList := fun h => hA1 (toList_inj h)
            have x2 : (A1.toList == A2.toList) = false := by simpa using x1
            by_cases he : e1 = e2
            · by_cases hn : n1 = n2
              · have ht : ¬ s1 = s2 := fun h => hall ⟨he, hn, st_inj (by rw [HS.out.1, HS.out.2, h])⟩
                have x3 : ¬ s1.toList = s2.toList := fun h => ht (toList_inj h)
                have x4 : (s1.toList == s2.toList) = false := by simpa using x3
                subst he hn
                clear HSa HI hall HT1 HT2
                go_wp2_with fail
                refine HAw.out.mono ?_
                rintro r w5 ⟨rfl, hb5⟩
                go_wp2_with fail
                go_ret
                exact ⟨rfl, bel_call Hb4.out hb5⟩
              · have hn2 : (n1 == n2) = false := by simpa using hn
                subst he
                clear HSa HI hall HT1 HT2
                go_wp2_with fail
                refine HAw.out.mono ?_
                rintro r w5 ⟨rfl, hb5⟩
                go_wp2_with fail
                go_ret
                exact ⟨rfl, bel_call Hb4.out hb5⟩
            · clear HSa HI hall HT1 HT2
              cases e1 <;> cases e2
              · exact absurd rfl he
              · go_wp2_with fail
                refine HAw.out.mono ?_
                rintro r w5 ⟨rfl, hb5⟩
                go_wp2_with fail
                go_ret
                exact ⟨rfl, bel_call Hb4.out hb5⟩
              · go_wp2_with fail
                refine HAw.out.mono ?_
                rintro r w5 ⟨rfl, hb5⟩
                go_wp2_with fail
                go_ret
                exact ⟨rfl, bel_call Hb4.out hb5⟩
              · exact absurd rfl he
        · go_wp2_with fail
          refine HAw.out.mono ?_
          rintro r w5 ⟨rfl, hb5⟩
          go_wp2_with fail
          go_ret
          exact ⟨rfl, bel_call Hb4.out hb5⟩
      · go_wp2_with fail
        refine HAw.out.mono ?_
        rintro r w5 ⟨rfl, hb5⟩
        go_wp2_with fail
        go_ret
        exact ⟨rfl, bel_call Hb4.out hb5⟩
    · have p2 : (300 : Int) < (N2 : Int) := by omega
      clear HT1 HT2 HS HNN
      have hc0 : Below w.heap.size w ((w.alloc (.cells #[.int .i64 a1, .bool e1, .int .i64 n1, .string s1] 39)).alloc (.cells #[.int .i64 a2, .bool e2, .int .i64 n2, .string s2] 39)) := bel_alloc (bel_alloc (Below.refl _ _) _) _
      have HC0 := Lib.hid hc0
      clear hc0
      go_enter Tryd.func5, Tryd.ntmps5
      go_wp2_with fail
      refine (HA.out _ HC0.out).mono ?_
      rintro r w5 ⟨rfl, hb5⟩
      go_wp2_with fail
      go_ret
      exact ⟨rfl, bel_call HC0.out hb5⟩
  · have p1 : (300 : Int) < (N1 : Int) := by omega
    clear HT1 HT2 HS HNN
    have hc0 : Below w.heap.size w ((w.alloc (.cells #[.int .i64 a1, .bool e1, .int .i64 n1, .string s1] 39)).alloc (.cells #[.int .i64 a2, .bool e2, .int .i64 n2, .string s2] 39)) := bel_alloc (bel_alloc (Below.refl _ _) _) _
    have HC0 := Lib.hid hc0
    clear hc0
    go_enter Tryd.func5, Tryd.ntmps5
    go_wp2_with fail
    refine (HA.out _ HC0.out).mono ?_
    rintro r w5 ⟨rfl, hb5⟩
    go_wp2_with fail
    go_ret
    exact ⟨rfl, bel_call HC0.out hb5⟩
end Go.Proofs.YtnfpfpppnfighaaDoor
