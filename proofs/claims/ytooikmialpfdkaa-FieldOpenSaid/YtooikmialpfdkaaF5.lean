/- The walk of Send at places that are there, in order. -/
import Derived.Test.YtooikmialpfdkaaF4
import Derived.Deep.RegionHeld3
import Derived.Deep.QuietTactic
import Derived.BigQuiet
import Derived.Deep.DeepCutAuto
namespace Go.Proofs.Ytooikmialpfdkaa
open Go.RowKit
set_option linter.unusedVariables false
theorem ret2_nums {a b : List Int} {x : Value} (h : a = b) : Ending.returned (.tuple #[.string (strOfNums a), x]) = .returned (.tuple #[.string (strOfNums b), x]) := by rw [h]
set_option maxRecDepth 100000 in
set_option maxHeartbeats 8000000 in
theorem send_ok (G : Grid) (fr fc tr tc : Nat) (w : World) (h : G.In w.heap.size w) (hok : G.Ok) (hf : G.thereP fr fc) (ht : G.thereP tr tc)
    (hle : ¬ G.num tr tc 0 < G.num fr fc 0) :
    Fn w 12 #[G.v, .agg #[.int .i64 fr, .int .i64 fc], .agg #[.int .i64 tr, .int .i64 tc], .func (.func 13) #[] #[]] (.tuple #[.string (strOfNums (sendOut G fr fc tr tc)), .int .i64 0]) := by
  have hn : 0 < G.n := hok.1
  have hfn : ∀ w, (binOp .eql 32 (.func (.func 13) #[] #[]) .nilFunc).run Try.prog w = .ok (.bool false) w := fun _ => by kernel_rfl
  have HC : ∀ W, Below w.heap.size w W → Fn W 24 #[G.v] (.int .i64 0) := fun W hW => by
    have := check_any G W (h.later hW hW.size)
    rwa [okB_yes hok] at this
  have HT : ∀ W, Below w.heap.size w W → ∀ r c, Fn W 26 #[G.v, .agg #[.int .i64 r, .int .i64 c]] (.bool (G.thereB r c)) := fun W hW r c => there_any G r c W (h.later hW hW.size) hn
  have HN : ∀ W, Below w.heap.size w W → ∀ r c, Fn W 27 #[G.v, .agg #[.int .i64 r, .int .i64 c], .int .i64 0] (.int .i64 (G.num r c 0)) := fun W hW r c => number_any G r c 0 W (h.later hW hW.size) hok
  have hBE := Lib.hid (show ∀ r', fr ≤ r' → r' ≤ tr → beginOf fr fc r' ≤ endOf (G.len 0) tr tc r' by
    intro r' h1 h2
    have hnf : G.num fr fc 0 = fr * (G.len 0 : Int) + fc := by simp [Grid.num, thereB_iff.2 hf]
    have hnt : G.num tr tc 0 = tr * (G.len 0 : Int) + tc := by simp [Grid.num, thereB_iff.2 ht]
    obtain ⟨_, _, _, f3⟩ := hf
    obtain ⟨_, _, _, t3⟩ := ht
    rw [hnf, hnt] at hle
    unfold beginOf endOf
    split
    · split
      · subst_vars; omega
      · omega
    · omega)
  have hft := Lib.hid (show fr ≤ tr by
    have hnf : G.num fr fc 0 = fr * (G.len 0 : Int) + fc := by simp [Grid.num, thereB_iff.2 hf]
    have hnt : G.num tr tc 0 = tr * (G.len 0 : Int) + tc := by simp [Grid.num, thereB_iff.2 ht]
    obtain ⟨_, _, _, t3⟩ := ht
    rw [hnf, hnt] at hle
    rcases Nat.lt_or_ge tr fr with h1 | h1
    · exfalso
      have h2 : (tr + 1) * G.len 0 ≤ fr * G.len 0 := Nat.mul_le_mul_right _ h1
      rw [Nat.add_mul] at h2
      have h3 : ((tr * G.len 0 : Nat) : Int) + G.len 0 ≤ ((fr * G.len 0 : Nat) : Int) := by omega
      rw [Int.natCast_mul, Int.natCast_mul] at h3
      omega
    · exact h1)
  have bf := thereB_iff.2 hf
  have bt := thereB_iff.2 ht
  have le : decide (G.num tr tc 0 < G.num fr fc 0) = false := by simpa using hle
  unfold Fn at *
  obtain ⟨b, off, ea, hb, hc⟩ := h.rows hn
  unfold Grid.v at *
  rw [ea] at HC HT HN ⊢
  have HC' := Lib.hid HC
  have HT' := Lib.hid HT
  have HN' := Lib.hid HN
  have H := Lib.hid h
  have Hok := Lib.hid hok
  have Hc := Lib.hid hc
  have Hf := Lib.hid hf
  have Ht := Lib.hid ht
  clear HC HT HN h hc ea hle hok hf ht
  go_enter Try.func12, Try.ntmps12
  go_wp2_with (go_at_call 24; refine (HC'.out _ (bel_alloc (bel_alloc (Below.refl _ _) _) _)).mono ?_; rintro e w1 ⟨rfl, hb1⟩)
  have B1 : Below w.heap.size w w1 := bel_call (bel_alloc (bel_alloc (Below.refl _ _) _) _) hb1
  have hz := hb1.size
  simp at hz
  have k0 := hb1.cell (p := ⟨w.heap.size, 0, none⟩) (by simp; omega)
  have k1 := hb1.cell (p := ⟨w.heap.size, 1, none⟩) (by simp; omega)
  have k2 := hb1.cell (p := ⟨w.heap.size + 1, 0, none⟩) (by simp)
  have k3 := hb1.cell (p := ⟨w.heap.size + 1, 1, none⟩) (by simp)
  simp [go_sem] at k0 k1 k2 k3
  have hz1 : w.heap.size + 1 < w1.heap.size := by omega
  clear hz
  have KB : ∀ W : World, Below w1.heap.size w1 W → (W.cell? ⟨w.heap.size, 0, none⟩ = some (.int .i64 fr) ∧ W.cell? ⟨w.heap.size, 1, none⟩ = some (.int .i64 fc) ∧ W.cell? ⟨w.heap.size + 1, 0, none⟩ = some (.int .i64 tr) ∧ W.cell? ⟨w.heap.size + 1, 1, none⟩ = some (.int .i64 tc)) ∧ Below w1.heap.size w1 W := fun W hW =>
    ⟨⟨(hW.cell (p := ⟨w.heap.size, 0, none⟩) (by simp; omega)).trans k0, (hW.cell (p := ⟨w.heap.size, 1, none⟩) (by simp; omega)).trans k1, (hW.cell (p := ⟨w.heap.size + 1, 0, none⟩) (by simp; omega)).trans k2, (hW.cell (p := ⟨w.heap.size + 1, 1, none⟩) (by simp; omega)).trans k3⟩, hW⟩
  go_region_held3 (fun W => (W.cell? ⟨w.heap.size, 0, none⟩ = some (.int .i64 fr) ∧ W.cell? ⟨w.heap.size, 1, none⟩ = some (.int .i64 fc) ∧ W.cell? ⟨w.heap.size + 1, 0, none⟩ = some (.int .i64 tr) ∧ W.cell? ⟨w.heap.size + 1, 1, none⟩ = some (.int .i64 tc)) ∧ Below w1.heap.size w1 W)
    (first | exact KB _ (Below.refl _ _).drew | exact KB _ (bel_call (‹(_ ∧ _ ∧ _ ∧ _) ∧ Below w1.heap.size w1 _›).2 hb2))
    (first | (go_at_call 26; refine (HT'.out _ (bel_call B1 (‹(_ ∧ _ ∧ _ ∧ _) ∧ Below w1.heap.size w1 _›).2) _ _).mono ?_; rintro e w2 ⟨rfl, hb2⟩) | (go_at_call 27; refine (HN'.out _ (bel_call B1 (‹(_ ∧ _ ∧ _ ∧ _) ∧ Below w1.heap.size w1 _›).2) _ _).mono ?_; rintro e w2 ⟨rfl, hb2⟩))
  obtain ⟨⟨k0', k1', k2', k3'⟩, B2⟩ := ‹(_ ∧ _ ∧ _ ∧ _) ∧ Below w1.heap.size w1 _›
  have B0 : Below w.heap.size w w2 := bel_call B1 B2
  have hz2 : w.heap.size + 1 < w2.heap.size := by have := B2.size; omega
  clear KB k0 k1 k2 k3 HC' HT' HN'
  go_wp2_with fail
  go_loopw [10, 11, 12, 13, 14, 15] (fun o r _ _ _ _ wr => ∃ r' : Nat, fr ≤ r' ∧ r' ≤ tr + 1 ∧ r = .int .i64 (r' : Int) ∧ OwnB wr w2.heap.size o (sendRows G fr fc tr tc (r' - fr)) ∧ Below w2.heap.size w2 wr) (fun _ r _ _ _ _ _ => (tr + 1) - (intOf r).toNat)
  case atStart => 
    refine ⟨fr, by omega, ?_, rfl, ?_, Below.refl _ _⟩
    · have := hft.out; omega
    · rw [Nat.sub_self]; exact OwnB.nil _ _
  case round =>
    obtain ⟨r', hr1, hr2, rfl, hown, hbr⟩ := hrel
    have BR : Below w.heap.size w wr := bel_call B0 hbr
    have c0 := (hbr.cell (p := ⟨w.heap.size, 0, none⟩) (by simp; omega)).trans k0'
    have c1 := (hbr.cell (p := ⟨w.heap.size, 1, none⟩) (by simp; omega)).trans k1'
    have c2 := (hbr.cell (p := ⟨w.heap.size + 1, 0, none⟩) (by simp; omega)).trans k2'
    have c3 := (hbr.cell (p := ⟨w.heap.size + 1, 1, none⟩) (by simp; omega)).trans k3'
    by_cases hlt : r' ≤ tr
    · obtain ⟨n1, n2, hg⟩ := Hok.out
      obtain ⟨_, t1, _, t3⟩ := Ht.out
      obtain ⟨_, _, _, f3⟩ := Hf.out
      have hrn : r' < G.n := by omega
      obtain ⟨m1, m2, m3⟩ := hg r' hrn
      have crw := Hc.out r' hrn
      obtain ⟨rb, ro, er, hrb, hcc⟩ := H.out.cells r' hrn (by omega)
      rw [er, m3] at crw
      have cr := (BR.cell (p := ⟨b, off + r', none⟩) hb).trans crw
      have Crw := Lib.hid crw
      clear crw
      rw [m3] at m1 m2 hcc
      have q0 : (r' : Int) < (G.n : Int) := by omega
      have Hcc := Lib.hid hcc
      have Er := Lib.hid er
      have M3 := Lib.hid m3
      clear hg hcc er m3
      have Hn1 := Lib.hid n1
      have Hm := Lib.hid (show 1 ≤ G.len 0 from m1)
      go_upto_if 60 with (go_quiet (fail))
      go_cut [12] (fun s wx => s = .int .i64 ((beginOf fr fc r' : Nat) : Int) ∧ ∃ n, wx = wr.drewN n)
      case first =>
        by_cases e : r' = fr
        · have e' : ((r' : Int) == (fr : Int)) = true := by simp; omega
          have E := Lib.hid e
          clear e
          go_wp2_with fail
          go_meet
          exact ⟨by rw [E.out]; simp [beginOf], _, rfl⟩
        · have e' : ((r' : Int) == (fr : Int)) = false := by simp; omega
          have E := Lib.hid e
          clear e
          go_wp2_with fail
          go_meet
          exact ⟨by simp [beginOf, E.out], _, rfl⟩
      case rest =>
        obtain ⟨rfl, n, rfl⟩ := hcut
        go_upto_if 66 with (fail)
        go_cut [13] (fun s wx => s = .int .i64 ((endOf (G.len 0) tr tc r' : Nat) : Int) ∧ ∃ n, wx = wr.drewN n)
        case first =>
          by_cases e : r' = tr
          · have e' : ((r' : Int) == (tr : Int)) = true := by simp; omega
            have E := Lib.hid e
            clear e
            go_wp2_with fail
            go_meet
            exact ⟨by rw [E.out]; simp [endOf], _, rfl⟩
          · have e' : ((r' : Int) == (tr : Int)) = false := by simp; omega
            have E := Lib.hid e
            clear e
            go_wp2_with fail
            go_meet
            exact ⟨by simp [endOf, E.out]; omega, _, rfl⟩
        case rest =>
          obtain ⟨rfl, n, rfl⟩ := hcut
          have hbe : beginOf fr fc r' ≤ endOf (G.len 0) tr tc r' := hBE.out r' hr1 hlt
          have hen : endOf (G.len 0) tr tc r' < G.len 0 := by unfold endOf; split <;> omega
          have Hown := Lib.hid hown
          have Hbr := Lib.hid hbr
          have Hsr := Lib.hid (show sendRows G fr fc tr tc (r' + 1 - fr) = sendRows G fr fc tr tc (r' - fr) ++ (rowOut (G.gd r') (G.gl r') (beginOf fr fc r') (endOf (G.len 0) tr tc r' + 1 - beginOf fr fc r')).1 ++ (if r' < tr then [31] else []) by
            rw [show r' + 1 - fr = (r' - fr) + 1 by omega, sendRows, show fr + (r' - fr) = r' by omega])
          have hL := sendRows_len G fr fc tr tc m2 (by omega) (r' - fr)
          generalize beginOf fr fc r' = bg at *
          generalize endOf (G.len 0) tr tc r' = en at *
          generalize hO0 : sendRows G fr fc tr tc (r' - fr) = O0 at *
          have HO0 := Lib.hid hO0
          clear hO0 hown hbr
          obtain ⟨wo, hwo⟩ : ∃ wo, wr.drewN n = wo := ⟨_, rfl⟩
          rw [hwo]
          have Bwo : Below w2.heap.size w2 wo := by rw [← hwo]; exact bel_drewN Hbr.out _
          have Owo : OwnB wo w2.heap.size u10 O0 := by rw [← hwo]; exact Hown.out.drewN _
          clear hwo
          go_wp2_with fail
          go_loopw [10, 14, 15] (fun o s c wx => ∃ c' : Nat, bg ≤ c' ∧ c' ≤ en + 1 ∧ c = .int .i64 (c' : Int) ∧ s = .bool (rowOut (G.gd r') (G.gl r') bg (c' - bg)).2 ∧ OwnB wx w2.heap.size o (O0 ++ (rowOut (G.gd r') (G.gl r') bg (c' - bg)).1) ∧ Below w2.heap.size w2 wx) (fun _ _ c _ => (en + 1) - (intOf c).toNat)
          case atStart =>
            refine ⟨bg, by omega, by omega, rfl, ?_, ?_, Bwo⟩
            · rw [Nat.sub_self]; rfl
            · rw [Nat.sub_self, rowOut_zero]; simpa using Owo
          case round =>
            obtain ⟨c', hc1, hc2, rfl, rfl, hown, hbx⟩ := hrel
            have BX : Below w.heap.size w wr := bel_call B0 hbx
            have Hown := Lib.hid hown
            have Hbx := Lib.hid hbx
            have crx := (BX.cell (p := ⟨b, off + r', none⟩) hb).trans Crw.out
            have hsz := hbx.size
            have hLr := rowOut_len (G.gd r') (G.gl r') bg (c' - bg)
            clear hown hbx
            by_cases hle2 : c' ≤ en
            · have q1 : (c' : Int) < (G.len 0 : Int) := by omega
              have cc := Hcc.out c' (by omega)
              have cg := (BX.cell (p := ⟨rb, ro + c' * 4, none⟩) hrb).trans cc.1
              have cd := (BX.cell (p := ⟨rb, ro + c' * 4 + 2, none⟩) hrb).trans cc.2.2.1
              clear cc
              by_cases g : G.gd r' c' = true
              · rw [g] at cd
                have Hs := Lib.hid (rowOut_skip (G.gd r') (G.gl r') bg (c' - bg) (by rw [show bg + (c' - bg) = c' by omega]; exact g))
                go_wp2_with fail
                go_roundw
                case rel => exact ⟨c' + 1, by omega, by omega, by go_num, by rw [show c' + 1 - bg = c' - bg + 1 by omega, Hs.out], by rw [show c' + 1 - bg = c' - bg + 1 by omega, Hs.out]; exact Hown.out, Hbx.out⟩
                case measure => simp [intOf]; omega
              · have gf : G.gd r' c' = false := by simpa using g
                rw [gf] at cd
                have hgl := H.out.glyphs r' hrn c' (by rw [M3.out]; omega)
                have HB := fun W => byte_any (G.gl r' c') W hgl.1 hgl.2
                unfold Fn at HB
                have hgf : G.gd r' (bg + (c' - bg)) = false := by rw [show bg + (c' - bg) = c' by omega]; exact gf
                have HG := Lib.hid hgf
                clear hgl g gf hgf
                have HB' := Lib.hid HB
                clear HB
                by_cases hs : (rowOut (G.gd r') (G.gl r') bg (c' - bg)).2 = true
                · have hk1 := rowOut_sent _ _ _ _ hs
                  have cd1 := (BX.cell (p := ⟨rb, ro + (c' - 1) * 4 + 2, none⟩) hrb).trans (Hcc.out (c' - 1) (by omega)).2.2.1
                  have q2 : (1 : Int) ≤ (c' : Int) := by omega
                  by_cases g2 : G.gd r' (c' - 1) = true
                  · rw [g2] at cd1
                    have Hs := Lib.hid (rowOut_sep (G.gd r') (G.gl r') bg (c' - bg) HG.out hs (by rw [show bg + (c' - bg) - 1 = c' - 1 by omega]; exact g2))
                    clear g2
                    go_wp2_with (first
                      | (go_at_call 13; refine (HB'.out _).mono ?_; rintro e w5 ⟨rfl, hb5⟩)
                      | (at_builtin; refine wp_app1 rfl (.tmp 98) (.tmp 109) rfl w2.heap.size _ _ _ _ _ rfl rfl rfl (own1.call hb5) (Nat.le_trans (Nat.le_trans (by omega) bel1.size) hb5.size) (by simp; omega) ?_; intro v2 W2 own2 bel2)
                      | (at_builtin; refine wp_app1 rfl (.tmp 95) (.tmp 96) rfl w2.heap.size _ _ _ _ _ rfl rfl (by simp) Hown.out (by omega) (by simp; omega) ?_; intro v1 W1 own1 bel1; have BW := bel_call B0 (Hbx.out.trans bel1); have crW := (BW.cell (p := ⟨b, off + r', none⟩) hb).trans Crw.out; have cgW := (BW.cell (p := ⟨rb, ro + c' * 4, none⟩) hrb).trans (Hcc.out c' (by omega)).1))
                    go_roundw
                    case rel => exact ⟨c' + 1, by omega, by omega, by go_num, by rw [show c' + 1 - bg = c' - bg + 1 by omega, Hs.out], by rw [show c' + 1 - bg = c' - bg + 1 by omega, Hs.out, show bg + (c' - bg) = c' by omega]; simpa using own2, ((Hbx.out.trans bel1).trans (hb5.mono (Nat.le_trans (by omega) bel1.size))).trans bel2⟩
                    case measure => simp [intOf]; omega
                  · have g2f : G.gd r' (c' - 1) = false := by simpa using g2
                    rw [g2f] at cd1
                    have Hs := Lib.hid (rowOut_add (G.gd r') (G.gl r') bg (c' - bg) HG.out (fun _ => by rw [show bg + (c' - bg) - 1 = c' - 1 by omega]; exact g2f))
                    clear g2 g2f
                    go_wp2_with (first
                      | (go_at_call 13; refine (HB'.out _).mono ?_; rintro e w5 ⟨rfl, hb5⟩)
                      | (at_builtin; refine wp_app1 rfl (.tmp 98) (.tmp 109) rfl w2.heap.size _ _ _ _ _ rfl rfl rfl (Hown.out.call hb5) (Nat.le_trans (by omega) hb5.size) (by simp; omega) ?_; intro v1 W1 own1 bel1))
                    go_roundw
                    case rel => exact ⟨c' + 1, by omega, by omega, by go_num, by rw [show c' + 1 - bg = c' - bg + 1 by omega, Hs.out], by rw [show c' + 1 - bg = c' - bg + 1 by omega, Hs.out, show bg + (c' - bg) = c' by omega]; simpa using own1, (Hbx.out.trans (hb5.mono (by omega))).trans bel1⟩
                    case measure => simp [intOf]; omega
                · have Hs := Lib.hid (rowOut_add (G.gd r') (G.gl r') bg (c' - bg) HG.out (fun e => absurd e hs))
                  have hs' : (rowOut (G.gd r') (G.gl r') bg (c' - bg)).2 = false := by simpa using hs
                  clear hs
                  go_wp2_with (first
                    | (go_at_call 13; refine (HB'.out _).mono ?_; rintro e w5 ⟨rfl, hb5⟩)
                    | (at_builtin; refine wp_app1 rfl (.tmp 98) (.tmp 109) rfl w2.heap.size _ _ _ _ _ rfl rfl rfl (Hown.out.call hb5) (Nat.le_trans (by omega) hb5.size) (by simp; omega) ?_; intro v1 W1 own1 bel1))
                  go_roundw
                  case rel => exact ⟨c' + 1, by omega, by omega, by go_num, by rw [show c' + 1 - bg = c' - bg + 1 by omega, Hs.out], by rw [show c' + 1 - bg = c' - bg + 1 by omega, Hs.out, show bg + (c' - bg) = c' by omega]; simpa using own1, (Hbx.out.trans (hb5.mono (by omega))).trans bel1⟩
                  case measure => simp [intOf]; omega
            · have hce : c' = en + 1 := by omega
              have q3 : (en : Int) < (c' : Int) := by omega
              have c0x := (BX.cell (p := ⟨b, off + r', none⟩) hb)
              clear c0x
              have d2 := (Hbx.out.cell (p := ⟨w.heap.size + 1, 0, none⟩) (by simp; omega)).trans k2'
              by_cases hl2 : r' < tr
              · have q4 : (r' : Int) < (tr : Int) := by omega
                have Hce := Lib.hid hce
                clear hce
                go_wp2_with (at_builtin; refine wp_app1 rfl (.tmp 115) (.tmp 116) rfl w2.heap.size _ _ _ _ _ rfl rfl (by simp) Hown.out (by omega) (by simp; omega) ?_; intro v1 W1 own1 bel1)
                go_roundw
                case rel => exact ⟨r' + 1, by omega, by omega, by go_num, by rw [Hsr.out, if_pos hl2, ← HO0.out, ← Hce.out]; simpa [HO0.out] using own1, Hbx.out.trans bel1⟩
                case measure => simp [intOf]; omega
              · have q4 : ¬ (r' : Int) < (tr : Int) := by omega
                have Hce := Lib.hid hce
                clear hce
                go_wp2
                go_roundw
                case rel => exact ⟨r' + 1, by omega, by omega, by go_num, by rw [Hsr.out, if_neg hl2, List.append_nil, ← Hce.out]; exact Hown.out, Hbx.out⟩
                case measure => simp [intOf]; omega
    · have e : r' = tr + 1 := by omega
      have q5 : (tr : Int) < (r' : Int) := by omega
      have hcv := conv_own hown
      have E := Lib.hid e
      clear e
      go_wp2
      go_ret2
      exact ⟨ret2_nums (by rw [sendOut, ← E.out]), bel_call B0 (hbr.mono (Nat.le_refl _))⟩
end Go.Proofs.Ytooikmialpfdkaa
