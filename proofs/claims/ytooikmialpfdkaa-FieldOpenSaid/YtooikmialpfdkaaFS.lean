/- What Send answers, by the program and by the document: the same. FieldSends answers true. -/
import Derived.Test.YtooikmialpfdkaaFB
import Derived.Test.YtooikmialpfdkaaFD
import Derived.Test.YtooikmialpfdkaaFI
import Derived.Test.YtooikmialpfdkaaF9
import Derived.Test.YtooikmialpfdkaaFr
namespace Go.Proofs.Ytooikmialpfdkaa
open Go.RowKit
set_option linter.unusedVariables false
set_option linter.unusedSimpArgs false
theorem lex {m fr fc tr tc : Nat} (h1 : fc < m) (h2 : tc < m) : ((tr : Int) * (m : Int) + tc < (fr : Int) * (m : Int) + fc) ↔ (tr < fr ∨ (tr = fr ∧ tc < fc)) := by
  rw [← Int.natCast_mul, ← Int.natCast_mul]
  constructor
  · intro h
    rcases Nat.lt_trichotomy tr fr with a | a | a
    · exact .inl a
    · subst a; exact .inr ⟨rfl, by omega⟩
    · exfalso
      have h3 : (fr + 1) * m ≤ tr * m := Nat.mul_le_mul_right _ a
      rw [Nat.add_mul] at h3
      omega
  · rintro (a | ⟨rfl, a⟩)
    · have h3 : (tr + 1) * m ≤ fr * m := Nat.mul_le_mul_right _ a
      rw [Nat.add_mul] at h3
      omega
    · omega
theorem send_both (G : Grid) (fr fc tr tc : Int) (w : World) (h : G.In w.heap.size w) : ∃ (s : List Int) (e : Int),
    (∀ W, Below w.heap.size w W → Fn W 12 #[G.v, posV fr fc, posV tr tc, .func (.func 13) #[] #[]] (.tuple #[.string (strOfNums s), .int .i64 e])) ∧
    (∀ W, Below w.heap.size w W → Fn W 16 #[G.v, posV fr fc, posV tr tc] (.tuple #[.string (strOfNums s), .int .i64 e])) := by
  by_cases hok : G.Ok
  · cases bf : G.thereB fr fc
    · exact ⟨[], 11, fun W hW => send_range G fr fc tr tc W (h.later hW hW.size) hok (.inl bf), fun W hW => rsend_range G fr fc tr tc W (h.later hW hW.size) hok (.inl bf)⟩
    · cases bt : G.thereB tr tc
      · exact ⟨[], 11, fun W hW => send_range G fr fc tr tc W (h.later hW hW.size) hok (.inr (.inl ⟨bf, bt⟩)), fun W hW => rsend_range G fr fc tr tc W (h.later hW hW.size) hok (.inr (.inl ⟨bf, bt⟩))⟩
      · have hf := thereB_iff.1 bf
        have ht := thereB_iff.1 bt
        obtain ⟨fr, rfl⟩ := Int.eq_ofNat_of_zero_le hf.1
        obtain ⟨fc, rfl⟩ := Int.eq_ofNat_of_zero_le hf.2.2.1
        obtain ⟨tr, rfl⟩ := Int.eq_ofNat_of_zero_le ht.1
        obtain ⟨tc, rfl⟩ := Int.eq_ofNat_of_zero_le ht.2.2.1
        have hnf : G.num fr fc 0 = fr * (G.len 0 : Int) + fc := by simp [Grid.num, bf]
        have hnt : G.num tr tc 0 = tr * (G.len 0 : Int) + tc := by simp [Grid.num, bt]
        have hl := lex (m := G.len 0) (fr := fr) (fc := fc) (tr := tr) (tc := tc) (by have := hf.2.2.2; omega) (by have := ht.2.2.2; omega)
        by_cases hle : G.num tr tc 0 < G.num fr fc 0
        · have hle' := hle
          rw [hnf, hnt, hl] at hle'
          refine ⟨[], 11, fun W hW => send_range G fr fc tr tc W (h.later hW hW.size) hok (.inr (.inr ⟨bf, bt, by simpa using hle⟩)), fun W hW => rsend_range G fr fc tr tc W (h.later hW hW.size) hok (.inr (.inr ⟨bf, bt, ?_⟩))⟩
          rcases hle' with a | ⟨a, b⟩
          · exact .inl (by simp; omega)
          · exact .inr ⟨by simp; omega, by simp; omega, by simp; omega⟩
        · have hle' := hle
          rw [hnf, hnt, hl] at hle'
          exact ⟨_, 0, fun W hW => send_ok G fr fc tr tc W (h.later hW hW.size) hok hf ht hle, fun W hW => rsend_ok G fr fc tr tc W (h.later hW hW.size) hok hf ht (by omega)⟩
  · exact ⟨[], 10, fun W hW => send_size G fr fc tr tc W (h.later hW hW.size) hok, fun W hW => rsend_size G fr fc tr tc W (h.later hW hW.size) hok⟩
theorem OwnF.view {e : TypeId} {w : World} {base : Nat} {v : Value} {L : List Fd} (h : OwnF e w base v L) : ∃ ad cap, v = .slice ad L.length cap ∧
    (0 < L.length → ∃ g, ad = some ⟨g, 0, none⟩ ∧ base ≤ g ∧ g < w.heap.size ∧ ∀ i (hi : i < L.length), w.cell? ⟨g, i * 3, none⟩ = some (.int .i64 (L[i].1 : Int)) ∧ w.cell? ⟨g, i * 3 + 1, none⟩ = some (.int .i64 (L[i].2.1 : Int)) ∧ w.cell? ⟨g, i * 3 + 2, none⟩ = some (.int .i64 (L[i].2.2 : Int))) := by
  by_cases h0 : 0 < L.length
  · obtain ⟨g, cap, hv, h1, h2, h3⟩ := h.read h0
    exact ⟨_, cap, hv, fun _ => ⟨g, rfl, h1, h2, h3⟩⟩
  · obtain ⟨ad, cap, hv⟩ := h.shape
    exact ⟨ad, cap, hv, fun h => absurd h h0⟩
theorem few_len {G : Grid} (hf : G.Few) : (fieldsOf G).length ≤ 1200 := by
  unfold fieldsOf
  by_cases hok : G.Ok
  · rw [okB_yes hok, if_pos rfl]
    have h1 := allF_len G G.n
    have h2 : G.n * G.len 0 ≤ 30 * 40 := Nat.mul_le_mul hf.1 (hf.2 0 (by have := hok.1; omega))
    omega
  · rw [not_okB hok]; simp
set_option maxRecDepth 100000
set_option maxHeartbeats 8000000
theorem sends_few (G : Grid) (fr fc tr tc : Int) (W : World) (h : G.In W.heap.size W) (hf : ¬ G.Few) : Fn W 4 #[G.v, posV fr fc, posV tr tc] (.bool true) := by
  have HF : ∀ w, Below W.heap.size W w → Fn w 9 #[G.v] (.bool false) := fun w hw => by
    have := few_any G w (h.later hw hw.size)
    rwa [not_fewB hf] at this
  have HA : ∀ w, Fn w 11 #[] (.bool true) := awake_any
  unfold Fn posV at *
  unfold Grid.v at *
  have HF' := Lib.hid HF
  have HA' := Lib.hid HA
  clear HF HA h hf
  go_enter Try.func4, Try.ntmps4
  go_wp2_with fail
  refine (HF'.out _ (by repeat (first | exact Below.refl _ _ | refine bel_alloc ?_ _))).mono ?_
  rintro e w1 ⟨rfl, hb1⟩
  go_wp2_with fail
  refine (HA'.out _).mono ?_
  rintro e w2 ⟨rfl, hb2⟩
  go_wp2
  go_ret
  exact ⟨rfl, by repeat (first | exact Below.refl _ _ | refine bel_alloc ?_ _ | refine bel_call ?_ hb2 | refine bel_call ?_ hb1)⟩
theorem sends_walk (G : Grid) (fr fc tr tc : Int) (W : World) (h : G.In W.heap.size W) : Fn W 4 #[G.v, posV fr fc, posV tr tc] (.bool true) := by
  rcases Classical.em (¬ G.Few) with hf | hf
  · exact sends_few G fr fc tr tc W h hf
  replace hf : G.Few := Classical.not_not.1 hf
  have HF : ∀ w, Below W.heap.size W w → Fn w 9 #[G.v] (.bool true) := fun w hw => by
    have := few_any G w (h.later hw hw.size)
    rwa [fewB_yes hf] at this
  have HA : ∀ w, Fn w 11 #[] (.bool true) := awake_any
  have hl2 := few_len hf
  have H1 : ∀ w, Below W.heap.size W w → Calls Try.prog 14 #[G.v] w fun e w' => ∃ v, e = .returned (.tuple #[v, .bool true]) ∧ OwnF 39 w' w.heap.size v (fieldsOf G) ∧ Below w.heap.size w w' := fun w hw => fields_law G w (h.later hw hw.size) (by omega)
  have H2 : ∀ w, Below W.heap.size W w → Calls Try.prog 15 #[G.v] w fun e w' => ∃ v, e = .returned v ∧ OwnF 40 w' w.heap.size v (fieldsOf G) ∧ Below w.heap.size w w' := fun w hw => all_ref G w (h.later hw hw.size)
  obtain ⟨s, er, H3, H4⟩ := send_both G fr fc tr tc W h
  have H5 := fun w => send_nil G fr fc tr tc w
  unfold Fn posV at *
  unfold Grid.v at *
  generalize fieldsOf G = L at *
  have HF' := Lib.hid HF
  have HA' := Lib.hid HA
  have H1' := Lib.hid H1
  have H2' := Lib.hid H2
  have H3' := Lib.hid H3
  have H4' := Lib.hid H4
  have H5' := Lib.hid H5
  clear HF HA H1 H2 H3 H4 H5 h hf
  go_enter Try.func4, Try.ntmps4
  go_wp2_with fail
  refine (HF'.out _ (by repeat (first | exact Below.refl _ _ | refine bel_alloc ?_ _))).mono ?_
  rintro e w1 ⟨rfl, hb1⟩
  have B1 : Below W.heap.size W w1 := bel_call (bel_alloc (bel_alloc (Below.refl _ _) _) _) hb1
  have hz := hb1.size
  simp at hz
  have k0 := hb1.cell (p := ⟨W.heap.size, 0, none⟩) (by simp; omega)
  have k1 := hb1.cell (p := ⟨W.heap.size, 1, none⟩) (by simp; omega)
  have k2 := hb1.cell (p := ⟨W.heap.size + 1, 0, none⟩) (by simp)
  have k3 := hb1.cell (p := ⟨W.heap.size + 1, 1, none⟩) (by simp)
  simp [go_sem] at k0 k1 k2 k3
  have hz1 : W.heap.size + 1 < w1.heap.size := by omega
  clear hz hb1 HF'
  have KB := Lib.hid (show ∀ w, Below w1.heap.size w1 w → w.cell? ⟨W.heap.size, 0, none⟩ = some (.int .i64 fr) ∧ w.cell? ⟨W.heap.size, 1, none⟩ = some (.int .i64 fc) ∧ w.cell? ⟨W.heap.size + 1, 0, none⟩ = some (.int .i64 tr) ∧ w.cell? ⟨W.heap.size + 1, 1, none⟩ = some (.int .i64 tc) from fun w hw =>
    ⟨(hw.cell (p := ⟨W.heap.size, 0, none⟩) (by simp; omega)).trans k0, (hw.cell (p := ⟨W.heap.size, 1, none⟩) (by simp; omega)).trans k1, (hw.cell (p := ⟨W.heap.size + 1, 0, none⟩) hz1).trans k2, (hw.cell (p := ⟨W.heap.size + 1, 1, none⟩) hz1).trans k3⟩)
  clear k0 k1 k2 k3
  go_wp2_with fail
  refine (H1'.out _ B1).mono ?_
  rintro e w2 ⟨v1, rfl, ho1, hb2⟩
  obtain ⟨a1, c1, rfl, hr1⟩ := ho1.view
  have B2 := bel_call B1 hb2
  have b2 : Below w1.heap.size w1 w2 := hb2
  clear hb2 ho1
  go_wp2_with fail
  refine (H2'.out _ B2).mono ?_
  rintro e w3 ⟨v2, rfl, ho2, hb3⟩
  obtain ⟨a2, c2, rfl, hr2⟩ := ho2.view
  have B3 := bel_call B2 hb3
  have b3 : Below w1.heap.size w1 w3 := b2.trans (hb3.mono b2.size)
  have HR1 := Lib.hid hr1
  have HR2 := Lib.hid hr2
  have Hb3 := Lib.hid hb3
  clear hb3 ho2 hr1 hr2
  obtain ⟨n, hn⟩ : ∃ n, L.length = n := ⟨_, rfl⟩
  rw [hn] at hl2 ⊢
  have HN := Lib.hid hn
  clear hn
  go_wp2_with fail
  go_loopw [10] (fun i wr => ∃ k : Nat, k ≤ n ∧ i = .int .i64 (k : Int) ∧ ∃ m, wr = w3.drewN m) (fun i _ => n - (intOf i).toNat)
  case atStart => exact ⟨0, Nat.zero_le _, rfl, 0, rfl⟩
  case round =>
    obtain ⟨k, hk, rfl, m, rfl⟩ := hrel
    by_cases hlt : k < n
    · have q1 : (k : Int) < (n : Int) := by omega
      obtain ⟨g1, rfl, _, hg1, hc1⟩ := HR1.out (by rw [HN.out]; omega)
      obtain ⟨g2, rfl, _, hg2, hc2⟩ := HR2.out (by rw [HN.out]; omega)
      obtain ⟨d0, d1, d2⟩ := hc1 k (by rw [HN.out]; omega)
      obtain ⟨d3, d4, d5⟩ := hc2 k (by rw [HN.out]; omega)
      have d0' := (Hb3.out.cell (p := ⟨g1, k * 3, none⟩) hg1).trans d0
      have d1' := (Hb3.out.cell (p := ⟨g1, k * 3 + 1, none⟩) hg1).trans d1
      have d2' := (Hb3.out.cell (p := ⟨g1, k * 3 + 2, none⟩) hg1).trans d2
      clear d0 d1 d2 hc1 hc2
      have hkL : k < L.length := by rw [HN.out]; omega
      generalize ((L[k]'hkL).1 : Int) = x0 at *
      generalize ((L[k]'hkL).2.1 : Int) = x1 at *
      generalize ((L[k]'hkL).2.2 : Int) = x2 at *
      go_wp2_with fail
      go_quiet (fail)
      go_wp2_with fail
      go_roundw
      case rel => exact ⟨k + 1, by omega, by go_num, _, rfl⟩
      case measure => simp [intOf]; omega
    · have q1 : ¬ (k : Int) < (n : Int) := by omega
      obtain ⟨k0, k1, k2, k3⟩ := KB.out _ (bel_drewN b3 m)
      go_wp2_with fail
      refine (H3'.out _ (bel_drewN B3 m)).mono ?_
      rintro e w4 ⟨rfl, hb4⟩
      have B4 := bel_call (bel_drewN B3 m) hb4
      have b4 := bel_call (bel_drewN b3 m) hb4
      clear k0 k1 k2 k3 hb4
      obtain ⟨k0, k1, k2, k3⟩ := KB.out _ b4
      go_wp2_with fail
      refine (H4'.out _ B4).mono ?_
      rintro e w5 ⟨rfl, hb5⟩
      have B5 := bel_call B4 hb5
      have b5 := bel_call b4 hb5
      clear k0 k1 k2 k3 hb5
      obtain ⟨k0, k1, k2, k3⟩ := KB.out _ b5
      go_wp2_with fail
      refine (H5'.out _).mono ?_
      rintro e w6 ⟨rfl, hb6⟩
      have B6 := bel_call B5 hb6
      clear k0 k1 k2 k3 hb6
      have hs0 : strOfNums [] = ({ data := #[] } : ByteArray) := rfl
      rw [hs0]
      go_wp2_with fail
      refine (HA'.out _).mono ?_
      rintro e w7 ⟨rfl, hb7⟩
      go_wp2_with fail
      go_ret
      exact ⟨rfl, bel_call B6 hb7⟩
end Go.Proofs.Ytooikmialpfdkaa
