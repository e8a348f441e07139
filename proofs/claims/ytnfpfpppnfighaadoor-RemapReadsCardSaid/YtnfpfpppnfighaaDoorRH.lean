/- The document's Parse: the walk. -/
import Derived.Test.YtnfpfpppnfighaaDoorRG
namespace Go.Proofs.YtnfpfpppnfighaaDoor
open Go.Shelf Go.RowKit
set_option linter.unusedVariables false
set_option linter.unusedSimpArgs false
set_option maxRecDepth 100000
set_option maxHeartbeats 4000000 in
theorem rparse_any (w : World) (l : List UInt8) (hl : l.length ≤ 100000) :
    Calls Tryd.prog 12 #[.string (st l)] w fun e w' => e = .returned (rparseV (parseP l)) ∧ Below w.heap.size w w' := by
  have HIt := Lib.hid (fun W (t : List UInt8) (h : t.length ≤ 100000) => ritem_any W t h)
  obtain ⟨R, hR⟩ : ∃ R, rparseV (parseP l) = R := ⟨_, rfl⟩
  have HNo := Lib.hid (fun (h : items l = none) => (show R = .tuple #[.agg #[.bool false, .int .i64 0, .string ⟨#[]⟩], .int .i64 14] from by rw [← hR, parseP_items, h]; rfl))
  have HEr := Lib.hid (fun xs (h : items l = some xs) (h2 : parseI xs = .error 15) => (show R = .tuple #[.agg #[.bool false, .int .i64 0, .string ⟨#[]⟩], .int .i64 15] from by rw [← hR, parseP_items, h]; simp only [h2]; rfl))
  have HOk := Lib.hid (fun xs e n t (h : items l = some xs) (h2 : parseI xs = .ok (e, n, t)) => (show R = .tuple #[.agg #[.bool e, .int .i64 n, .string (st t)], .int .i64 0] from by rw [← hR, parseP_items, h]; simp only [h2]; rfl))
  have HLen := Lib.hid (fun xs (h : items l = some xs) => (show ((xs.map (·.text)).flatten).length ≤ 100000 from Nat.le_trans (items_len _ l xs h) hl))
  rw [hR]
  obtain ⟨s, hs⟩ : ∃ s, st l = s := ⟨_, rfl⟩
  obtain ⟨n, hn⟩ : ∃ n, l.length = n := ⟨_, rfl⟩
  have zs : s.size = n := by rw [← hs, st_size, hn]
  have HEx := Lib.hid (fun (k : Nat) => (show s.extract k n = st (l.drop k) from by rw [← hs, st_extract, ← hn, List.take_length]))
  have HIx := Lib.hid (fun (k : Nat) (hk : k < s.size) (hkl : k < l.length) => (show (s[k]'hk).toNat = (l[k]'hkl).toNat from by subst hs; rw [st_get]))
  have HN := Lib.hid hn
  have HLn := Lib.hid hl
  obtain ⟨I, hI⟩ : ∃ I, items l = I := ⟨_, rfl⟩
  have HI := Lib.hid hI
  rw [hI] at HNo HEr HOk HLen
  rw [hs]
  clear hR hs hn hl hI
  obtain ⟨lb, hlb⟩ : ∃ lb, w.heap.size = lb := ⟨_, rfl⟩
  have HLB := Lib.hid hlb
  go_enter Tryd.func12, Tryd.ntmps12
  go_wp2_with fail
  clear hlb
  go_loopw [4, 5, 6, 7] (fun v1 v2 v3 i wr => ∃ (done : List Itm) (t : List UInt8) (k : Nat), i = .int .i64 (k : Int) ∧ k ≤ n ∧ l.drop k = t ∧ I = (items t).map (done ++ ·) ∧ done.length ≤ k ∧
      PL wr lb v1 (bits done) v2 (nums done) v3 (txts done) ∧ Below lb w wr) (fun _ _ _ i _ => n - (intOf i).toNat)
  case atStart => exact ⟨[], l, 0, rfl, by omega, rfl, by rw [HI.out]; simp, by simp, ⟨OwnR.nil _ _ _, OwnR.nil _ _ _, OwnR.nil _ _ _, by rw [← HLB.out]; exact (MapKept.heap_alloc w _).1⟩, by rw [← HLB.out]; exact bel_alloc (Below.refl _ _) _⟩
  case round =>
    obtain ⟨done, t, k, rfl, hk, ht, hI, hdk, hpl, hbl⟩ := hrel
    have HT := Lib.hid ht
    have HIt2 := Lib.hid hI
    have HPL := Lib.hid hpl
    have HBl := Lib.hid hbl
    have htl : t.length ≤ 100000 := by rw [← ht, List.length_drop]; have := HLn.out; omega
    have htn : t.length = n - k := by rw [← ht, List.length_drop, HN.out]
    have Htn := Lib.hid htn
    have Hdk := Lib.hid hdk
    have hex := HEx.out k
    rw [ht] at hex
    have q1 : (k : Int) ≤ (n : Int) := by omega
    have HItm := Lib.hid (fun W => HIt.out W t htl)
    obtain ⟨T, hT⟩ : ∃ T, st t = T := ⟨_, rfl⟩
    rw [hT] at hex HItm
    clear ht hI hpl hbl htl htn hT hdk
    cases hp : itemP t with
    | none =>
      have HIN := Lib.hid (items_none hp)
      rw [hp] at HItm
      simp only [rretP] at HItm
      clear hp
      go_wp2_with fail
      refine (HItm.out _).mono ?_
      rintro e w2 ⟨rfl, hb2⟩
      have HP2 := Lib.hid (HPL.out.call hb2)
      have HB := Lib.hid (HBl.out.trans (hb2.mono HPL.out.lt))
      have HR := Lib.hid (HNo.out (by rw [HIt2.out, HIN.out]; rfl))
      clear hb2
      have hh := HP2.out.res
      have c0 : w2.cell? ⟨lb, 0, none⟩ = some (.bool false) := by simp [World.cell?, hh]
      have c1 : w2.cell? ⟨lb, 1, none⟩ = some (.int .i64 0) := by simp [World.cell?, hh]
      have c2 : w2.cell? ⟨lb, 2, none⟩ = some (.string ⟨#[]⟩) := by simp [World.cell?, hh]
      have f0 := Lib.frozen_of_heap hh 0
      have f1 := Lib.frozen_of_heap hh 1
      have f2 := Lib.frozen_of_heap hh 2
      have HZ := Lib.hid (res3 (W := w2) (b := lb) (.bool false) (.int .i64 0) (.string ⟨#[]⟩) c0 c1 c2)
      clear hh
      go_wp2_with fail
      obtain ⟨z0, z1, z2⟩ := HZ.out
      refine bodyPost_ret (v := .tuple #[.agg #[.bool false, .int .i64 0, .string ⟨#[]⟩], .int .i64 14]) (by simp [results, Tryd.results12, go_sem, z0, z1, z2]) rfl ⟨by rw [HR.out], ?_⟩
      first
        | exact bel_set3B HB.out (Nat.le_refl _) _ _ _
        | (rw [HLB.out]; exact bel_set3B HB.out (Nat.le_refl _) _ _ _)
    | some pr =>
      obtain ⟨x, t'⟩ := pr
      have HP := Lib.hid hp
      have hlt := (itemP_len hp).1
      rw [hp] at HItm
      simp only [rretP] at HItm
      obtain ⟨u, hu⟩ : ∃ u, t.length - t'.length = u := ⟨_, rfl⟩
      rw [hu] at HItm
      have Hu := Lib.hid (show t.length = u + t'.length from by omega)
      have u1 : ((u : Int) == 0) = false := by simp; omega
      have u2 : ¬ (u : Int) = 0 := by omega
      have hku : k + u ≤ n := by have := Htn.out; omega
      have hn9 : n ≤ 100000 := by have := HLn.out; have := HN.out; omega
      obtain ⟨K, hK⟩ : ∃ K, k + u = K := ⟨_, rfl⟩
      have w1 : IntKind.i64.wrap ((k : Int) + (u : Int)) = (K : Int) := by rw [IntWalk.i64_in _ (by omega)]; omega
      have hKn : K ≤ n := by omega
      have HK := Lib.hid (show l.drop K = t' from by
        have e1 := itemP_drop HP.out
        rw [hu] at e1
        rw [e1, ← hK, ← HT.out, List.drop_drop])
      have HKk := Lib.hid hK
      have hd9 : done.length ≤ 1000000 := by have := Hdk.out; omega
      have Hd9 := Lib.hid hd9
      have HKl := Lib.hid (show t'.length = n - K from by rw [← HK.out, List.length_drop, HN.out])
      clear hp hu hlt hd9 hK
      obtain ⟨xb, xi, xt⟩ := x
      simp only at HItm
      go_wp2_with fail
      refine (HItm.out _).mono ?_
      rintro e w2 ⟨rfl, hb2⟩
      have HP2 := Lib.hid (HPL.out.call hb2)
      have HB2 := Lib.hid (HBl.out.trans (hb2.mono HPL.out.lt))
      clear hb2
      go_upto_region 12 with (first
        | (at_builtin; refine wp_appR rfl (.tmp 27) (.tmp 29) 78 4 (.bool false) 1 Tryd.underlying78 info4 rfl (by decide) rfl lb _ (bits done) _ _ _ rfl rfl rfl (by simp) HP2.out.o1 HP2.out.lt (by simp [bits]; exact Hd9.out) ?_; intro v1' w3 o3 b3 fr3 sz3; have HP3 := Lib.hid (HP2.out.a1 o3 fr3); have HB3 := Lib.hid (HB2.out.trans b3); clear o3 b3 fr3 sz3)
        | (at_builtin; refine wp_appR rfl (.tmp 31) (.tmp 33) 79 3 (.int .i64 0) 8 Tryd.underlying79 info3 rfl (by decide) rfl lb _ (nums done) _ _ _ rfl rfl rfl (by simp) HP3.out.o2 HP3.out.lt (by simp [nums]; exact Hd9.out) ?_; intro v2' w4 o4 b4 fr4 sz4; have HP4 := Lib.hid (HP3.out.a2 o4 fr4); have HB4 := Lib.hid (HB3.out.trans b4); clear o4 b4 fr4 sz4)
        | (at_builtin; refine wp_appR rfl (.tmp 35) (.tmp 37) 47 9 (.string ⟨#[]⟩) 16 Tryd.underlying47 info9 rfl (by decide) rfl lb _ (txts done) _ _ _ rfl rfl rfl (by simp) HP4.out.o3 HP4.out.lt (by simp [txts]; exact Hd9.out) ?_; intro v3' w5 o5 b5 fr5 sz5; have HP5 := Lib.hid (HP4.out.a3 o5 fr5); have HB5 := Lib.hid (HB4.out.trans b5); clear o5 b5 fr5 sz5; clear HP2 HP3 HP4 HB2 HB3 HB4))
      have HP6 := Lib.hid (show PL w5 lb v1' (bits (done ++ [⟨xb, xi, xt⟩])) v2' (nums (done ++ [⟨xb, xi, xt⟩])) v3' (txts (done ++ [⟨xb, xi, xt⟩])) from by
        rw [← bits_snoc, ← nums_snoc, ← txts_snoc]; exact HP5.out)
      clear HP5
      cases t' with
      | cons b2 r2 =>
        have hKl : K < n := by have := HKl.out; simp at this; omega
        have hks : K < s.size := by omega
        have hkl : K < l.length := by rw [HN.out]; exact hKl
        have hdr := HK.out
        rw [List.drop_eq_getElem_cons hkl] at hdr
        rw [List.cons.injEq] at hdr
        have hx : (s[K]'hks).toNat = b2.toNat := by rw [HIx.out K hks hkl, hdr.1]
        have HDr := Lib.hid hdr.2
        clear hdr
        have p1 : ((K : Int) == (n : Int)) = false := by simp; omega
        have p2 : (K : Int) < (n : Int) := by omega
        have p3 : ¬ (K : Int) = (n : Int) := by omega
        by_cases h59 : b2 = 59
        · subst h59
          have HM := Lib.hid (items_more HP.out)
          have w2' : IntKind.i64.wrap ((K : Int) + 1) = ((K + 1 : Nat) : Int) := by rw [IntWalk.i64_in _ (by omega)]; rfl
          have hku1 := HKk.out
          go_wp2_with fail
          go_roundw
          case rel => exact ⟨done ++ [⟨xb, xi, xt⟩], r2, K + 1, rfl, by omega, HDr.out, by rw [HIt2.out, HM.out]; exact more_map done _ _, by (have h1 := Hdk.out; have h2 := HKk.out; have h3 := Hu.out; have h4 := (itemP_len HP.out).1; simp at h3 h4 ⊢; omega), HP6.out, HB5.out⟩
          case measure => (simp [intOf]; have h2 := HKk.out; omega)
        · have HM := Lib.hid (items_bad HP.out h59)
          have HR := Lib.hid (HNo.out (by rw [HIt2.out, HM.out]; rfl))
          have g1 : ¬ b2.toNat = 59 := fun e => h59 (UInt8.toNat_inj.1 e)
          obtain ⟨bb, hbb⟩ : ∃ bb, b2.toNat = bb := ⟨_, rfl⟩
          rw [hbb] at hx g1
          have g2 : ((bb : Int) == 59) = false := by simp; omega
          have g3 : ¬ (bb : Int) = 59 := by omega
          clear h59 hbb HKl HDr
          have hh := HP6.out.res
          have c0 : w5.cell? ⟨lb, 0, none⟩ = some (.bool false) := by simp [World.cell?, hh]
          have c1 : w5.cell? ⟨lb, 1, none⟩ = some (.int .i64 0) := by simp [World.cell?, hh]
          have c2 : w5.cell? ⟨lb, 2, none⟩ = some (.string ⟨#[]⟩) := by simp [World.cell?, hh]
          have f0 := Lib.frozen_of_heap hh 0
          have f1 := Lib.frozen_of_heap hh 1
          have f2 := Lib.frozen_of_heap hh 2
          have HZ := Lib.hid (res3 (W := w5) (b := lb) (.bool false) (.int .i64 0) (.string ⟨#[]⟩) c0 c1 c2)
          clear hh
          go_wp2_with fail
          obtain ⟨z0, z1, z2⟩ := HZ.out
          refine bodyPost_ret (v := .tuple #[.agg #[.bool false, .int .i64 0, .string ⟨#[]⟩], .int .i64 14]) (by simp [results, Tryd.results12, go_sem, z0, z1, z2]) rfl ⟨by rw [HR.out], ?_⟩
          first
            | exact bel_set3B HB5.out (Nat.le_refl _) _ _ _
            | (rw [HLB.out]; exact bel_set3B HB5.out (Nat.le_refl _) _ _ _)
      | nil =>
        obtain rfl : K = n := by have := HKl.out; simp at this; omega
        have HD := Lib.hid (show I = some (done ++ [⟨xb, xi, xt⟩]) from by rw [HIt2.out, items_last HP.out]; rfl)
        have hD0 : 0 < (done ++ [(⟨xb, xi, xt⟩ : Itm)]).length := by simp
        have hDl : (done ++ [(⟨xb, xi, xt⟩ : Itm)]).length ≤ 1000001 := by have := Hd9.out; simp; omega
        obtain ⟨D, hD⟩ : ∃ D, done ++ [(⟨xb, xi, xt⟩ : Itm)] = D := ⟨_, rfl⟩
        rw [hD] at HP6 HD hD0 hDl
        clear hD HItm HKl HK HKk Hu HP HIt2 HPL HBl Htn Hdk HIx HEx HIt HT HI HN HLn
        have HFl := Lib.hid (HLen.out D HD.out)
        obtain ⟨g1, c1, g2, c2, g3, c3, rfl, rfl, rfl, hcl⟩ := HP6.out.form hD0
        have HCl := Lib.hid hcl
        obtain ⟨⟨yb, yi, yt⟩, rest, hDy⟩ : ∃ y rest, D = y :: rest := by
          cases D with
          | nil => simp at hD0
          | cons y r => exact ⟨y, r, rfl⟩
        have HDy := Lib.hid hDy
        obtain ⟨M, hM⟩ : ∃ M, D.length = M := ⟨_, rfl⟩
        have HM := Lib.hid hM
        have hMr : M = rest.length + 1 := by rw [← hM, hDy]; rfl
        have ha : w5.cell? ⟨g1, 0, none⟩ = some (.bool yb) ∧ w5.cell? ⟨g2, 0, none⟩ = some (.int .i64 yi) := by
          obtain ⟨k1, k2, _⟩ := hcl 0 hD0
          subst hDy
          exact ⟨k1, k2⟩
        obtain ⟨a1, a2⟩ := ha
        have ad : ∀ o, (w5.alloc o).cell? ⟨g2, 0, none⟩ = some (.int .i64 yi) := fun o => cellB (bel_alloc (Below.refl _ _) o) a2
        rw [hM] at hD0 hDl ⊢
        have p0 : (0 : Int) < (M : Int) := by omega
        clear hcl hDy hM
        cases yb with
        | false =>
          have HR := Lib.hid (HEr.out D HD.out (by rw [HDy.out]; rfl))
          have hh := HP6.out.res
          have c0 : w5.cell? ⟨lb, 0, none⟩ = some (.bool false) := by simp [World.cell?, hh]
          have c1 : w5.cell? ⟨lb, 1, none⟩ = some (.int .i64 0) := by simp [World.cell?, hh]
          have c2 : w5.cell? ⟨lb, 2, none⟩ = some (.string ⟨#[]⟩) := by simp [World.cell?, hh]
          have f0 := Lib.frozen_of_heap hh 0
          have f1 := Lib.frozen_of_heap hh 1
          have f2 := Lib.frozen_of_heap hh 2
          have HZ := Lib.hid (res3 (W := w5) (b := lb) (.bool false) (.int .i64 0) (.string ⟨#[]⟩) c0 c1 c2)
          clear hh
          go_wp2_with fail
          obtain ⟨z0, z1, z2⟩ := HZ.out
          refine bodyPost_ret (v := .tuple #[.agg #[.bool false, .int .i64 0, .string ⟨#[]⟩], .int .i64 15]) (by simp [results, Tryd.results12, go_sem, z0, z1, z2]) rfl ⟨by rw [HR.out], ?_⟩
          first
            | exact bel_set3B HB5.out (Nat.le_refl _) _ _ _
            | (rw [HLB.out]; exact bel_set3B HB5.out (Nat.le_refl _) _ _ _)
        | true =>
          have HPE := Lib.hid (fun NN => PE.start HP6.out (by rw [HM.out]; exact hD0) HB5.out NN)
          by_cases hyi : yi = 0
          · subst hyi
            go_upto_region 21 with fail
            obtain ⟨db, hdb⟩ : ∃ db, w5.heap.size = db := ⟨_, rfl⟩
            obtain ⟨wD, hwD⟩ : ∃ wD, (w5.alloc (.cells #[.bool false, .int .i64 0, .string ⟨#[]⟩] 29)) = wD := ⟨_, rfl⟩
            have HPs := Lib.hid (show PE w wD lb db g3 D false 0 [] from by rw [← hdb, ← hwD]; exact HPE.out 0)
            have HCd := Lib.hid (fun i (hi : i < D.length) => (show wD.cell? ⟨g1, i, none⟩ = some (.bool (D[i]'hi).num) ∧ wD.cell? ⟨g2, i, none⟩ = some (.int .i64 (D[i]'hi).n) from by
              obtain ⟨k1, k2, _⟩ := HCl.out i hi
              rw [← hwD]
              exact ⟨cellB (bel_alloc (Below.refl _ _) _) k1, cellB (bel_alloc (Below.refl _ _) _) k2⟩))
            rw [hdb, hwD]
            clear hdb hwD HP6 HPE HB5 HCl a1 a2 ad
            cases rest with
            | nil =>
              obtain rfl : M = 1 := hMr
              have HR := Lib.hid (HEr.out D HD.out (by rw [HDy.out]; rfl))
              have HPb := Lib.hid HPs.out.bel
              change Hid (PE w wD lb db g3 D false 0 []) at HPs
              have hh := HPs.out.res
              have c0 : wD.cell? ⟨lb, 0, none⟩ = some (.bool false) := by simp [World.cell?, hh]
              have c1 : wD.cell? ⟨lb, 1, none⟩ = some (.int .i64 0) := by simp [World.cell?, hh]
              have c2 : wD.cell? ⟨lb, 2, none⟩ = some (.string ⟨#[]⟩) := by simp [World.cell?, hh]
              have f0 := Lib.frozen_of_heap hh 0
              have f1 := Lib.frozen_of_heap hh 1
              have f2 := Lib.frozen_of_heap hh 2
              have HZ := Lib.hid (res3 (W := wD) (b := lb) (.bool false) (.int .i64 0) (.string ⟨#[]⟩) c0 c1 c2)
              clear hh
              go_wp2_with fail
              obtain ⟨z0, z1, z2⟩ := HZ.out
              refine bodyPost_ret (v := .tuple #[.agg #[.bool false, .int .i64 0, .string ⟨#[]⟩], .int .i64 15]) (by simp [results, Tryd.results12, go_sem, z0, z1, z2]) rfl ⟨by rw [HR.out], ?_⟩
              first
                | exact bel_set3B HPb.out (Nat.le_refl _) _ _ _
                | (rw [HLB.out]; exact bel_set3B HPb.out (Nat.le_refl _) _ _ _)
            | cons z rest2 =>
              obtain ⟨zb, zi, zt⟩ := z
              have hM2 : 2 ≤ M := by rw [hMr]; simp
              have m1 : ¬ (M : Int) < 2 := by omega
              have m2 : (1 : Int) < (M : Int) := by omega
              have hz : wD.cell? ⟨g1, 1, none⟩ = some (.bool zb) ∧ wD.cell? ⟨g2, 1, none⟩ = some (.int .i64 zi) := by
                have h1 : 1 < D.length := by rw [HM.out]; omega
                obtain ⟨k1, k2⟩ := HCd.out 1 h1
                have hdy := HDy.out
                subst hdy
                exact ⟨k1, k2⟩
              obtain ⟨b1, b2⟩ := hz
              have HM2 := Lib.hid hM2
              clear hMr hM2 HCd
              cases zb with
              | false =>
                have HR := Lib.hid (HEr.out D HD.out (by rw [HDy.out]; rfl))
                have HPb := Lib.hid HPs.out.bel
                have hh := HPs.out.res
                have c0 : wD.cell? ⟨lb, 0, none⟩ = some (.bool false) := by simp [World.cell?, hh]
                have c1 : wD.cell? ⟨lb, 1, none⟩ = some (.int .i64 0) := by simp [World.cell?, hh]
                have c2 : wD.cell? ⟨lb, 2, none⟩ = some (.string ⟨#[]⟩) := by simp [World.cell?, hh]
                have f0 := Lib.frozen_of_heap hh 0
                have f1 := Lib.frozen_of_heap hh 1
                have f2 := Lib.frozen_of_heap hh 2
                have HZ := Lib.hid (res3 (W := wD) (b := lb) (.bool false) (.int .i64 0) (.string ⟨#[]⟩) c0 c1 c2)
                clear hh
                go_wp2_with fail
                obtain ⟨z0, z1, z2⟩ := HZ.out
                refine bodyPost_ret (v := .tuple #[.agg #[.bool false, .int .i64 0, .string ⟨#[]⟩], .int .i64 15]) (by simp [results, Tryd.results12, go_sem, z0, z1, z2]) rfl ⟨by rw [HR.out], ?_⟩
                first
                  | exact bel_set3B HPb.out (Nat.le_refl _) _ _ _
                  | (rw [HLB.out]; exact bel_set3B HPb.out (Nat.le_refl _) _ _ _)
              | true =>
                have HPt := Lib.hid (HPs.out.more true zi [])
                obtain ⟨⟨d0, d1, d2⟩, ⟨e0, e1, e2⟩, -, -⟩ := HPs.out.cells
                rw [st_nil] at HPt d2
                go_upto_region 25 with fail
                obtain ⟨wE, hwE⟩ : ∃ wE, (((wD.setCell ⟨db, 0, none⟩ (.bool true)).setCell ⟨db, 1, none⟩ (.int .i64 zi)).setCell ⟨db, 2, none⟩ (.string ⟨#[]⟩)) = wE := ⟨_, rfl⟩
                rw [hwE] at HPt ⊢
                clear hwE d0 d1 d2 e0 e1 e2 b1 b2 HPs
                have HR := Lib.hid (HOk.out D true zi (accF D 2 M) HD.out (by rw [← HM.out, accF_end, HDy.out]; simp [parseI]))
                have hFM : 2 ≤ M := by exact HM2.out
                have HFs := Lib.hid hFM
                clear hFM
                go_wp2_with fail
                go_loopw [14] (fun i wr => ∃ k : Nat, 2 ≤ k ∧ k ≤ M ∧ i = .int .i64 (k : Int) ∧ PE w wr lb db g3 D true zi (accF D 2 k)) (fun i _ => M - (intOf i).toNat)
                case atStart => exact ⟨2, Nat.le_refl _, HFs.out, rfl, by rw [accF_start]; exact HPt.out⟩
                case round =>
                  obtain ⟨k, hF, hk, rfl, hpe⟩ := hrel
                  have HPe := Lib.hid hpe
                  obtain ⟨⟨d0, d1, d2⟩, ⟨e0, e1, f2⟩, ⟨c0, c1, c2⟩, f0, f1, f3⟩ := hpe.cells
                  clear hpe
                  by_cases hlt : k < M
                  · have q1 : (k : Int) < (M : Int) := by omega
                    have hkD : k < D.length := by rw [HM.out]; exact hlt
                    have tx := HPe.out.txt k hkD
                    have HSum := Lib.hid (show st (accF D 2 k) ++ st (D[k]'hkD).text = st (accF D 2 (k + 1)) from by rw [st_append, accF_step D 2 k hF hkD])
                    have la := accF_len D 2 k HFl.out
                    have lx := accF_len D 2 (k + 1) HFl.out
                    rw [accF_step D 2 k hF hkD, List.length_append] at lx
                    obtain ⟨A, hA⟩ : ∃ A, st (accF D 2 k) = A := ⟨_, rfl⟩
                    obtain ⟨X, hX⟩ : ∃ X, st (D[k]'hkD).text = X := ⟨_, rfl⟩
                    have sa : A.size ≤ 100000 := by rw [← hA, st_size]; exact la
                    have sx : X.size ≤ 100000 := by rw [← hX, st_size]; omega
                    rw [hA] at d2 HSum
                    rw [hX] at tx HSum
                    obtain ⟨LA, hLA⟩ : ∃ L, A.size = L := ⟨_, rfl⟩
                    obtain ⟨LX, hLX⟩ : ∃ L, X.size = L := ⟨_, rfl⟩
                    have s3 : ¬ 9223372036854775807 < LA + LX := by omega
                    have w1 : IntKind.i64.wrap ((k : Int) + 1) = (k : Int) + 1 := IntWalk.i64_in _ (by omega)
                    clear hA hX la lx sa sx HR hkD d0 d1 e0 e1 c0 c1 c2 f0 f1 f3
                    go_wp2_with fail
                    go_region
                    go_wp2_with fail
                    go_roundw
                    case rel => exact ⟨k + 1, by omega, by omega, by go_num, by rw [HSum.out]; exact (HPe.out.put _).drew⟩
                    case measure => (simp [intOf]; omega)
                  · have q1 : ¬ (k : Int) < (M : Int) := by omega
                    obtain rfl : k = M := by omega
                    obtain ⟨T2, hT2⟩ : ∃ T2, st (accF D 2 k) = T2 := ⟨_, rfl⟩
                    rw [hT2] at d2 HR
                    clear hT2
                    have HZ := Lib.hid (res3 (W := wr) (b := lb) (.bool true) (.int .i64 zi) (.string T2) c0 c1 c2)
                    have HBf := Lib.hid HPe.out.bel
                    go_wp2_with fail
                    obtain ⟨z0, z1, z2⟩ := HZ.out
                    refine bodyPost_ret (v := .tuple #[.agg #[.bool true, .int .i64 zi, .string T2], .int .i64 0]) (by simp [results, Tryd.results12, go_sem, z0, z1, z2]) rfl ⟨by rw [HR.out], ?_⟩
                    first
                      | exact bel_set3B HBf.out (Nat.le_refl _) _ _ _
                      | (rw [HLB.out]; exact bel_set3B HBf.out (Nat.le_refl _) _ _ _)
          · have y1 : ((yi : Int) == 0) = false := by simp; omega
            have y2 : ¬ (yi : Int) = 0 := by omega
            go_upto_region 25 with fail
            obtain ⟨db, hdb⟩ : ∃ db, w5.heap.size = db := ⟨_, rfl⟩
            obtain ⟨wD, hwD⟩ : ∃ wD, (w5.alloc (.cells #[.bool false, .int .i64 yi, .string ⟨#[]⟩] 29)) = wD := ⟨_, rfl⟩
            have HPs := Lib.hid (show PE w wD lb db g3 D false yi [] from by rw [← hdb, ← hwD]; exact HPE.out yi)
            rw [hdb, hwD]
            clear hdb hwD HP6 HPE HB5 HCl a1 a2 ad
            have HR := Lib.hid (HOk.out D false yi (accF D 1 M) HD.out (by rw [← HM.out, accF_end, HDy.out]; simp [parseI, hyi]))
            have hFM : 1 ≤ M := by omega
            have HFs := Lib.hid hFM
            clear hFM
            go_wp2_with fail
            go_loopw [14] (fun i wr => ∃ k : Nat, 1 ≤ k ∧ k ≤ M ∧ i = .int .i64 (k : Int) ∧ PE w wr lb db g3 D false yi (accF D 1 k)) (fun i _ => M - (intOf i).toNat)
            case atStart => exact ⟨1, Nat.le_refl _, HFs.out, rfl, by rw [accF_start]; exact HPs.out⟩
            case round =>
              obtain ⟨k, hF, hk, rfl, hpe⟩ := hrel
              have HPe := Lib.hid hpe
              obtain ⟨⟨d0, d1, d2⟩, ⟨e0, e1, f2⟩, ⟨c0, c1, c2⟩, f0, f1, f3⟩ := hpe.cells
              clear hpe
              by_cases hlt : k < M
              · have q1 : (k : Int) < (M : Int) := by omega
                have hkD : k < D.length := by rw [HM.out]; exact hlt
                have tx := HPe.out.txt k hkD
                have HSum := Lib.hid (show st (accF D 1 k) ++ st (D[k]'hkD).text = st (accF D 1 (k + 1)) from by rw [st_append, accF_step D 1 k hF hkD])
                have la := accF_len D 1 k HFl.out
                have lx := accF_len D 1 (k + 1) HFl.out
                rw [accF_step D 1 k hF hkD, List.length_append] at lx
                obtain ⟨A, hA⟩ : ∃ A, st (accF D 1 k) = A := ⟨_, rfl⟩
                obtain ⟨X, hX⟩ : ∃ X, st (D[k]'hkD).text = X := ⟨_, rfl⟩
                have sa : A.size ≤ 100000 := by rw [← hA, st_size]; exact la
                have sx : X.size ≤ 100000 := by rw [← hX, st_size]; omega
                rw [hA] at d2 HSum
                rw [hX] at tx HSum
                obtain ⟨LA, hLA⟩ : ∃ L, A.size = L := ⟨_, rfl⟩
                obtain ⟨LX, hLX⟩ : ∃ L, X.size = L := ⟨_, rfl⟩
                have s3 : ¬ 9223372036854775807 < LA + LX := by omega
                have w1 : IntKind.i64.wrap ((k : Int) + 1) = (k : Int) + 1 := IntWalk.i64_in _ (by omega)
                clear hA hX la lx sa sx HR hkD d0 d1 e0 e1 c0 c1 c2 f0 f1 f3
                go_wp2_with fail
                go_region
                go_wp2_with fail
                go_roundw
                case rel => exact ⟨k + 1, by omega, by omega, by go_num, by rw [HSum.out]; exact (HPe.out.put _).drew⟩
                case measure => (simp [intOf]; omega)
              · have q1 : ¬ (k : Int) < (M : Int) := by omega
                obtain rfl : k = M := by omega
                obtain ⟨T2, hT2⟩ : ∃ T2, st (accF D 1 k) = T2 := ⟨_, rfl⟩
                rw [hT2] at d2 HR
                clear hT2
                have HZ := Lib.hid (res3 (W := wr) (b := lb) (.bool false) (.int .i64 yi) (.string T2) c0 c1 c2)
                have HBf := Lib.hid HPe.out.bel
                go_wp2_with fail
                obtain ⟨z0, z1, z2⟩ := HZ.out
                refine bodyPost_ret (v := .tuple #[.agg #[.bool false, .int .i64 yi, .string T2], .int .i64 0]) (by simp [results, Tryd.results12, go_sem, z0, z1, z2]) rfl ⟨by rw [HR.out], ?_⟩
                first
                  | exact bel_set3B HBf.out (Nat.le_refl _) _ _ _
                  | (rw [HLB.out]; exact bel_set3B HBf.out (Nat.le_refl _) _ _ _)
end Go.Proofs.YtnfpfpppnfighaaDoor
