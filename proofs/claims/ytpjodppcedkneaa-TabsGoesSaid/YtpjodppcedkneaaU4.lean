/- The document's tabs: Resize. -/
import Derived.Test.YtpjodppcedkneaaU3
namespace Go.Proofs.Ytpjodppcedkneaa
open Go.RowKit Go.Maps Go.Sort Go.Shelf
set_option linter.unusedVariables false
set_option linter.unusedSimpArgs false
set_option maxRecDepth 100000
theorem Chg.later {w w1 : World} {B : Nat} {X : List Nat} (h : Below B w w1) (hB : B ≤ w.heap.size) {w2 : World} (k : Chg w1 w2 X) (hX : ∀ x ∈ X, B ≤ x) : Below B w w2 :=
  h.trans (k.below (Nat.le_trans hB h.size) hX)
set_option maxHeartbeats 1000000 in
theorem rresize_any (w : World) (q g c : Nat) (S : Int → Bool) (h : RT w q g c S) (hbd : ∀ x, S x = true → 0 ≤ x ∧ x < (c : Int)) (h2 : c ≤ 255) (n : Nat) (hn : n ≤ 255) :
    Calls Try.prog 30 #[.pointer (some ⟨q, 0, none⟩), .int .i64 n] w fun e w' => ∃ q' g', e = .returned (.pointer (some ⟨q', 0, none⟩)) ∧ RT w' q' g' n (cutS n S) ∧ Below w.heap.size w w' ∧ w.heap.size ≤ q' ∧ w.heap.size ≤ g' := by
  have HNew := Lib.hid (rnew_any w n hn)
  have HM := Lib.hid (fun k => midS_step (fun _ => false) S k)
  have HR := Lib.hid (fun W (hb : Below w.heap.size w W) => h.later hb)
  have HEnd := Lib.hid (fun (k : Nat) (hk : k = n ∨ (k = c ∧ k ≤ n)) (x : Int) (h0 : 0 ≤ x) (h1 : x < (n : Int)) => (show midS (fun _ => false) S k x = cutS n S x from by
    unfold midS cutS
    rw [decide_eq_true h1, Bool.and_true]
    by_cases hx : x < (k : Int)
    · rw [if_pos hx]
    · rw [if_neg hx]
      cases hs : S x with
      | false => rfl
      | true => have := hbd x hs; omega))
  clear h hbd
  go_enter Try.func30, Try.ntmps30
  go_wp2_with fail
  refine HNew.out.mono ?_
  rintro e w1 ⟨rfl, hR1, hb1⟩
  have Hb1 := Lib.hid hb1
  have HR1 := Lib.hid hR1
  clear hb1 hR1
  obtain ⟨q', hq'⟩ : ∃ q', w.heap.size + 1 = q' := ⟨_, rfl⟩
  obtain ⟨g', hg'⟩ : ∃ g', w.heap.size = g' := ⟨_, rfl⟩
  rw [hq', hg'] at HR1
  rw [hq']
  have HQ := Lib.hid (show w.heap.size ≤ q' ∧ w.heap.size ≤ g' by omega)
  clear hq' hg'
  go_wp2_with fail
  go_loopw [6] (fun i wr => ∃ k : Nat, k ≤ n ∧ k ≤ c ∧ i = .int .i64 (k : Int) ∧ RT wr q' g' n (midS (fun _ => false) S k) ∧ Below w.heap.size w wr) (fun i _ => n - (intOf i).toNat)
  case atStart => exact ⟨0, Nat.zero_le _, Nat.zero_le _, rfl, HR1.out.cong (fun x h0 h1 => by unfold midS; rw [if_neg (by simpa using h0)]), Hb1.out⟩
  case round =>
    obtain ⟨k, hk, hkc, rfl, hR, hB⟩ := hrel
    have HRk := Lib.hid hR
    have HB := Lib.hid hB
    have k0 := (HR.out wr hB).cq
    have k1 := hR.cq
    clear hR hB
    by_cases hlt : k < n
    · have q1 : (k : Int) < (n : Int) := by omega
      by_cases hlt2 : k < c
      · have q2 : (k : Int) < (c : Int) := by omega
        have d1 := (HR.out wr HB.out).cg hlt2
        have HR2 := Lib.hid (HRk.out.later (bel_drew1 wr))
        have HB2 := Lib.hid (bel_call HB.out (bel_drew1 wr))
        have hM := HM.out k
        obtain ⟨b, hb⟩ : ∃ b, S (k : Int) = b := ⟨_, rfl⟩
        rw [hb] at hM d1
        have HMk := Lib.hid hM
        have fin : ∀ w2, RT w2 q' g' n (midS (fun _ => false) S k) → Below w.heap.size w w2 → w2.frozen? ⟨g', k, none⟩ = false ∧ w2.cell? ⟨g', k, none⟩ = some (.bool (midS (fun _ => false) S k (k : Int))) ∧ RT (w2.setCell ⟨g', k, none⟩ (.bool b)) q' g' n (setS (midS (fun _ => false) S k) (k : Int) b) ∧ Below w.heap.size w (w2.setCell ⟨g', k, none⟩ (.bool b)) := fun w2 a bb =>
          ⟨a.fz k, a.cg hlt, a.set k b, Chg.later bb (Nat.le_refl _) (chg_set w2 g' k (.bool b)) (fun x hx => by rw [List.mem_singleton] at hx; rw [hx]; exact HQ.out.2)⟩
        have Fin := Lib.hid fin
        clear hM fin hb
        go_wp2_with fail
        go_still_tail 13, (by kernel_rfl)
        change wpList _ _ _ _ _ wr.drew
        generalize wr.drew = w2 at *
        obtain ⟨d3, d4, hR3, hB3⟩ := Fin.out w2 HR2.out HB2.out
        have HR3 := Lib.hid hR3
        have HB3 := Lib.hid hB3
        clear hR3 hB3
        go_wp2_with fail
        go_roundw
        case rel => exact ⟨k + 1, by omega, by omega, by go_num, by rw [HMk.out]; exact HR3.out, HB3.out⟩
        case measure => simp [intOf]; omega
      · have q2 : ¬ (k : Int) < (c : Int) := by omega
        have HR3 := Lib.hid (HRk.out.cong (HEnd.out k (by omega)))
        go_wp2_with fail
        go_ret
        exact ⟨q', rfl, g', HR3.out, HB.out, HQ.out.1, HQ.out.2⟩
    · have q1 : ¬ (k : Int) < (n : Int) := by omega
      have HR3 := Lib.hid (HRk.out.cong (HEnd.out k (by omega)))
      go_wp2_with fail
      go_ret
      exact ⟨q', rfl, g', HR3.out, HB.out, HQ.out.1, HQ.out.2⟩
end Go.Proofs.Ytpjodppcedkneaa
