/- tabs: Put. -/
import Derived.Test.YtpjodppcedkneaaTC
namespace Go.Proofs.Ytpjodppcedkneaa
open Go.RowKit Go.Maps Go.Sort Go.Shelf Go.ChangeMaps Go.WideMaps Go.WideElems
set_option linter.unusedVariables false
set_option linter.unusedSimpArgs false
set_option maxRecDepth 100000
theorem grown_cellG {W W3 : World} {b : Option Nat} {q o : Nat} {v : Value} (hg : W.grownBy W3 b) (hq : b ≠ some q) (h : W.cell? ⟨q, o, none⟩ = some v) : W3.cell? ⟨q, o, none⟩ = some v :=
  (World.cell?_of_block (hg.block q (World.block_lt_of_cell? W ⟨q, o, none⟩ h) (fun e => hq e.symm))).trans h
def putR (on : Bool) (c : Nat) (L : List Int) (S : Int → Bool) : Int → Bool := if anyBad c L then S else putS on L S
def putE (c : Nat) (L : List Int) : Int := if anyBad c L then 11 else 0
theorem putS_bd {c : Nat} {S : Int → Bool} {L : List Int} {on : Bool} (hb : anyBad c L = false) (hbd : ∀ x, S x = true → 0 ≤ x ∧ x < (c : Int)) : ∀ x, putS on L S x = true → 0 ≤ x ∧ x < (c : Int) := by
  intro x hx
  unfold putS at hx
  split at hx
  · rename_i h; exact anyBad_none hb x h
  · exact hbd x hx
theorem putS_nil (on : Bool) (L : List Int) (S : Int → Bool) : putS on (L.take 0) S = S := by funext x; simp [putS]
set_option maxHeartbeats 1000000 in
theorem put_any (w : World) (p b : Nat) (c : Nat) (S : Int → Bool) (h : TS w p b c S) (on : Bool) (v : Value) (L : List Int) (hL : IntsAt w v L) (hl : L.length ≤ 100000) :
    Calls Try.prog 12 #[.pointer (some ⟨p, 0, none⟩), .bool on, v] w fun e w' => e = .returned (.int .i64 (putE c L)) ∧ TS w' p b c (putR on c L S) ∧ w.grownBy w' (some b) := by
  have hne : p ≠ b := by obtain ⟨D, hT, _⟩ := h.ob; exact hT.apart
  have hplt : p < w.heap.size := by obtain ⟨D, hT, _⟩ := h.ob; exact hT.lt
  have hblt : b < w.heap.size := by obtain ⟨D, hT, _⟩ := h.ob; exact World.ownsMap.lt hT.m
  have hB1 : Below w.heap.size w (w.alloc (.cells #[.pointer (some ⟨p, 0, none⟩)] 23)) := bel_alloc (Below.refl _ w) _
  have hC := contains_any (w.alloc (.cells #[.pointer (some ⟨p, 0, none⟩)] 23)) p b w.heap.size c S (h.later hB1) (by simp [go_sem]) v L (hL.later hB1) hl
  obtain ⟨ad, cap, rfl, hcc⟩ := hL
  cases hbad : anyBad c L with
  | true =>
    rw [hbad] at hC
    have HC := Lib.hid hC
    have Hend := Lib.hid (fun q => (show TS ((w.alloc (.cells #[.pointer (some ⟨p, 0, none⟩)] 23)).drewN q) p b c (putR on c L S) ∧ w.grownBy ((w.alloc (.cells #[.pointer (some ⟨p, 0, none⟩)] 23)).drewN q) (some b) from by
      have : Below w.heap.size w ((w.alloc (.cells #[.pointer (some ⟨p, 0, none⟩)] 23)).drewN q) := bel_drewN hB1 q
      unfold putR
      rw [hbad]
      exact ⟨h.later this, grown_of_below this⟩))
    have He : putE c L = 11 := by unfold putE; rw [hbad]; rfl
    rw [He]
    clear hC h hcc hbad He hne hplt hblt hB1
    go_enter Try.func12, Try.ntmps12
    go_wp2_with fail
    refine HC.out.mono ?_
    rintro e w1 ⟨rfl, q, rfl⟩
    go_wp2_with fail
    go_ret
    exact ⟨rfl, Hend.out q⟩
  | false =>
    rw [hbad] at hC
    have He : putE c L = 0 := by unfold putE; rw [hbad]; rfl
    have Hr : putR on c L S = putS on L S := by unfold putR; rw [hbad]; rfl
    rw [He, Hr]
    obtain ⟨n, hn⟩ : ∃ n, L.length = n := ⟨_, rfl⟩
    have HN := Lib.hid hn
    have HC := Lib.hid hC
    have hcc1 : ∀ W, w.grownBy W (some b) → 0 < L.length → ∃ g off, ad = some ⟨g, off, none⟩ ∧ ∀ i (hi : i < L.length), W.cell? ⟨g, off + i, none⟩ = some (.int .i64 L[i]) := by
      intro W hg h0
      have hI : IntsAt w (.slice ad L.length cap) L := ⟨ad, cap, rfl, hcc⟩
      obtain ⟨D, hT, _⟩ := h.ob
      obtain ⟨ad', cap', hv, hc'⟩ := hI.kept hT.m hg
      obtain ⟨g, off, e, _, hx⟩ := hc' h0
      simp at hv
      exact ⟨g, off, hv.1.trans e, hx⟩
    have HCc := Lib.hid hcc1
    have hlit := anyBad_none hbad
    have HL := Lib.hid hlit
    have HT := Lib.hid h
    have HM0 : ∀ W, Below w.heap.size w W → MS W b c (putS on (L.take 0) S) := by
      intro W hW
      rw [putS_nil]
      obtain ⟨D, hT, hS⟩ := (h.later hW).ob
      exact ⟨D, hT.m, hS⟩
    have HM := Lib.hid HM0
    have HK := Lib.hid (fun W (hg : w.grownBy W (some b)) => (show W.cell? ⟨p, 1, none⟩ = some (.map (some b)) from by
      obtain ⟨D, hT, hS⟩ := h.ob
      exact grown_cell hg hne hT.c1))
    have HBx := Lib.hid (fun W (hg : (w.alloc (.cells #[.pointer (some ⟨p, 0, none⟩)] 23)).grownBy W (some b)) => (show W.cell? ⟨w.heap.size, 0, none⟩ = some (.pointer (some ⟨p, 0, none⟩)) from
      grown_cell hg (by omega) (by simp [go_sem])))
    have HG := Lib.hid (fun W (hg : (w.alloc (.cells #[.pointer (some ⟨p, 0, none⟩)] 23)).grownBy W (some b)) => (show w.grownBy W (some b) from (grown_of_below hB1).trans hg))
    have HEnd := Lib.hid (fun W (hg : w.grownBy W (some b)) (hm : MS W b c (putS on L S)) => (show TS W p b c (putS on L S) from by
      obtain ⟨D, hT, hS⟩ := h.ob
      obtain ⟨D', hm', hS'⟩ := hm
      exact ⟨h.lo, h.hi, putS_bd hbad h.bd, (hg.block p h.lt (fun e => hne (by cases e; rfl))).trans h.blk, D', ⟨grown_cell hg hne hT.c0, grown_cell hg hne hT.c1, hm'⟩, hS'⟩))
    have HB1 := Lib.hid hB1
    have Hhi := Lib.hid h.hi
    have Hbd := Lib.hid h.bd
    rw [hn] at hl ⊢ HC
    clear hC h hcc hcc1 hbad He Hr hne hplt hblt hB1 hn hlit HM0
    go_enter Try.func12, Try.ntmps12
    go_wp2_with fail
    refine HC.out.mono ?_
    rintro e w1 ⟨rfl, q, rfl⟩
    have hg0 : (w.alloc (.cells #[.pointer (some ⟨p, 0, none⟩)] 23)).grownBy ((w.alloc (.cells #[.pointer (some ⟨p, 0, none⟩)] 23)).drewN q) (some b) := grown_of_below (bel_drewN (Below.refl _ _) q)
    have Hg0 := Lib.hid hg0
    have HM1 := Lib.hid (HM.out ((w.alloc (.cells #[.pointer (some ⟨p, 0, none⟩)] 23)).drewN q) (bel_drewN HB1.out q))
    clear hg0
    obtain ⟨w2, hw2⟩ : ∃ w2, (w.alloc (.cells #[.pointer (some ⟨p, 0, none⟩)] 23)).drewN q = w2 := ⟨_, rfl⟩
    rw [hw2] at Hg0 HM1 ⊢
    clear hw2
    go_wp2_with fail
    go_loopw [18] (fun i wr => ∃ k : Nat, k ≤ n ∧ i = .int .i64 (k : Int) ∧ MS wr b c (putS on (L.take k) S) ∧ (w.alloc (.cells #[.pointer (some ⟨p, 0, none⟩)] 23)).grownBy wr (some b)) (fun i _ => n - (intOf i).toNat)
    case atStart => exact ⟨0, Nat.zero_le _, rfl, HM1.out, Hg0.out⟩
    case round =>
      obtain ⟨k, hk, rfl, hM, hg⟩ := hrel
      have Hg := Lib.hid hg
      have HMk := Lib.hid hM
      clear hg hM
      by_cases hlt : k < n
      · have q1 : (k : Int) < (n : Int) := by omega
        have hkL : k < L.length := by rw [HN.out]; omega
        obtain ⟨g, off, rfl, hx⟩ := HCc.out wr (HG.out wr Hg.out) (by omega)
        have d1 := hx k hkL
        have d2 := HBx.out wr Hg.out
        have d3 := HK.out wr (HG.out wr Hg.out)
        obtain ⟨D, hown, hS⟩ := HMk.out
        have HS := Lib.hid hS
        have hwx := HL.out L[k] (List.getElem_mem hkL)
        have hkey : keyOf Try.prog 3 (.int .i64 L[k]) = some (.int .i64 L[k]) := keyOf_int_mk Try.underlying3 (WalkArith.wf_i64 (by have := Hhi.out; omega))
        have Hkey := Lib.hid hkey
        have Hown := Lib.hid hown
        have HkL := Lib.hid hkL
        have HD := Lib.hid (World.ownsMap.isMap hown)
        clear hx hS hkey hown hwx
        cases on with
        | true =>
          obtain ⟨x, hxx⟩ : ∃ x, L[k]'hkL = x := ⟨_, rfl⟩
          rw [hxx] at d1 Hkey
          have HNext := Lib.hid (fun (W : World) (ho : OwnS W b 301 (D.put (.int .i64 x) (.agg []))) => ms_put (W := wr) (W' := W) HD.out HS.out hkL Hhi.out Hbd.out HL.out (by rw [hxx]; exact ho))
          clear hxx hkL
          go_wp2_with (at_mapUpdate; refine wpList_mapUpdate_own _ rfl _ _ _ 53 rfl 3 57 (int_keyed Try.underlying3) Try.underlying53 _ b 300 _ rfl Hown.out (by decide) _ _ _ rfl rfl Hkey.out _ [] unitElem_mk ?_; intro w3 hown3 hg3)
          go_roundw
          case rel => exact ⟨k + 1, by omega, by go_num, HNext.out _ hown3, Hg.out.trans hg3⟩
          case measure => simp [intOf]; omega
        | false =>
          obtain ⟨x, hxx⟩ : ∃ x, L[k]'hkL = x := ⟨_, rfl⟩
          rw [hxx] at d1 Hkey
          have HNext := Lib.hid (fun (W : World) (ho : OwnS W b 300 (D.del (.int .i64 x))) => ms_del (W := wr) (W' := W) HS.out hkL Hhi.out Hbd.out (by rw [hxx]; exact ho))
          clear hxx hkL
          go_wp2_with (at_delete; refine wpList_delete_own _ rfl _ _ 53 3 rfl 57 (int_keyed Try.underlying3) Try.underlying53 _ b 300 _ rfl Hown.out _ _ rfl Hkey.out ?_; intro w3 hown3 hg3)
          go_roundw
          case rel => exact ⟨k + 1, by omega, by go_num, HNext.out _ hown3, Hg.out.trans hg3.grown⟩
          case measure => simp [intOf]; omega
      · have q1 : ¬ (k : Int) < (n : Int) := by omega
        have hkn : k = n := by omega
        subst hkn
        have HE := Lib.hid (HEnd.out wr (HG.out wr Hg.out) (by have := HMk.out; rwa [List.take_of_length_le (by rw [HN.out]; exact Nat.le_refl _)] at this))
        go_wp2_with fail
        go_ret
        exact ⟨rfl, HE.out, HG.out wr Hg.out⟩
end Go.Proofs.Ytpjodppcedkneaa
