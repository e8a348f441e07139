/- tabs: ints, Next. -/
import Derived.Test.YtpjodppcedkneaaT3
import Derived.BigQuiet
namespace Go.Proofs.Ytpjodppcedkneaa
open Go.RowKit Go.Maps Go.Sort Go.Shelf
set_option linter.unusedVariables false
set_option linter.unusedSimpArgs false
set_option maxRecDepth 100000
theorem bel_drewN {B : Nat} {a w : World} (h : Below B a w) (n : Nat) : Below B a (w.drewN n) := ⟨h.os, h.tape, h.output, h.size, h.block⟩
/-- A slice of ints, as it is read. -/
def IntsAt (W : World) (v : Value) (L : List Int) : Prop := ∃ ad cap, v = .slice ad L.length cap ∧ (0 < L.length → ∃ g off, ad = some ⟨g, off, none⟩ ∧ g < W.heap.size ∧ ∀ i (hi : i < L.length), W.cell? ⟨g, off + i, none⟩ = some (.int .i64 L[i]))
theorem OwnI.at {w : World} {base : Nat} {v : Value} {L : List Int} (h : OwnI w base v L) : IntsAt w v L := by
  obtain ⟨h1, h2⟩ := h
  rcases h2 with ⟨rfl, h0⟩ | ⟨g, cap, cur, hv, hg, hh, hc, hm, hsz, ht⟩
  · exact ⟨none, 0, by rw [h0], fun h => by omega⟩
  · refine ⟨_, cap, hv, fun _ => ⟨g, 0, rfl, (Array.getElem?_eq_some_iff.1 hh).1, fun i hi => ?_⟩⟩
    have e1 : (L.map encZ)[i]? = some (.int .i64 L[i]) := by rw [List.getElem?_map, List.getElem?_eq_getElem hi]; rfl
    rw [← ht, List.getElem?_take, if_pos (by omega)] at e1
    simp only [World.cell?, hh, Nat.zero_add]
    simpa using e1
theorem IntsAt.later {W W' : World} {v : Value} {L : List Int} (h : IntsAt W v L) (hb : Below W.heap.size W W') : IntsAt W' v L := by
  obtain ⟨ad, cap, hv, hc⟩ := h
  refine ⟨ad, cap, hv, fun h0 => ?_⟩
  obtain ⟨g, off, ha, hg, hcc⟩ := hc h0
  exact ⟨g, off, ha, Nat.lt_of_lt_of_le hg hb.size, fun i hi => cellB hb (hcc i hi)⟩
set_option maxHeartbeats 1000000 in
theorem ints_same (w : World) (a b : Value) (L : List Int) (h1 : IntsAt w a L) (h2 : IntsAt w b L) (hl : L.length ≤ 100000) : Calls Try.prog 13 #[a, b] w fun e w' => e = .returned (.bool true) ∧ Below w.heap.size w w' := by
  obtain ⟨ad, cap, rfl, hc1⟩ := h1
  obtain ⟨ad2, cap2, rfl, hc2⟩ := h2
  have H1 := Lib.hid hc1
  have H2 := Lib.hid hc2
  clear hc1 hc2
  obtain ⟨n, hn⟩ : ∃ n, L.length = n := ⟨_, rfl⟩
  have HN := Lib.hid hn
  rw [hn] at hl ⊢
  clear hn
  go_enter Try.func13, Try.ntmps13
  go_wp2_with fail
  go_loopw [5] (fun i wr => ∃ k : Nat, k ≤ n ∧ i = .int .i64 (k : Int) ∧ ∃ m, wr = w.drewN m) (fun i _ => n - (intOf i).toNat)
  case atStart => exact ⟨0, Nat.zero_le _, rfl, 0, rfl⟩
  case round =>
    obtain ⟨k, hk, rfl, m, rfl⟩ := hrel
    by_cases hlt : k < n
    · have q1 : (k : Int) < (n : Int) := by omega
      obtain ⟨g, off, rfl, hg, hcc⟩ := H1.out (by rw [HN.out]; omega)
      obtain ⟨g2, off2, rfl, hg2, hcc2⟩ := H2.out (by rw [HN.out]; omega)
      have d1 := hcc k (by rw [HN.out]; omega)
      have d2 := hcc2 k (by rw [HN.out]; omega)
      clear hcc hcc2 hg hg2
      generalize L[k]'(by rw [HN.out]; omega) = x at *
      go_wp2_with fail
      go_quiet (fail)
      go_wp2_with fail
      go_roundw
      case rel => exact ⟨k + 1, by omega, by go_num, _, rfl⟩
      case measure => simp [intOf]; omega
    · have q1 : ¬ (k : Int) < (n : Int) := by omega
      go_wp2_with fail
      go_ret
      exact ⟨rfl, bel_drewN (Below.refl _ _) m⟩
/-- What Next answers. -/
def nextIn (L : List Int) (cols col : Int) : Int := (L.find? (fun x => decide (col < x))).getD (max (cols - 1) 0)
theorem next_nil (col : Int) (w : World) : Calls Try.prog 19 #[.pointer none, .int .i64 col] w fun e w' => e = .returned (.int .i64 0) ∧ w' = w := by
  have HL := Lib.hid (fun W => list_nil W)
  have HC := Lib.hid (fun W => cols_nil W)
  go_enter Try.func19, Try.ntmps19
  go_wp2_with fail
  refine (HL.out _).mono ?_
  rintro e w1 ⟨rfl, rfl⟩
  go_wp2_with fail
  go_loopw [10] (fun i wr => i = .int .i64 0 ∧ wr = w1) (fun i _ => 0)
  case atStart => exact ⟨rfl, rfl⟩
  case round =>
    obtain ⟨rfl, rfl⟩ := hrel
    go_wp2_with fail
    refine (HC.out _).mono ?_
    rintro e w2 ⟨rfl, rfl⟩
    go_wp2_with fail
    go_ret
    exact ⟨rfl, rfl⟩
set_option maxHeartbeats 1000000 in
theorem next_any (w : World) (p b : Nat) (cols : Int) (nn : Nat) (D : Set3) (h : TObj w p b cols nn D) (hmax : Maps.size D ≤ 100000) (h1 : 1 ≤ cols) (h2 : cols ≤ 255) (col : Int) (hl : (keysOf D).length ≤ 100000) :
    Calls Try.prog 19 #[.pointer (some ⟨p, 0, none⟩), .int .i64 col] w fun e w' => e = .returned (.int .i64 (nextIn (keysOf D) cols col)) ∧ Below w.heap.size w w' := by
  have HL := Lib.hid (list_is w p b cols nn D h hmax)
  have HC := Lib.hid (fun W hW => cols_any W p b cols nn D (h.later hW))
  clear h hmax
  generalize keysOf D = L at *
  go_enter Try.func19, Try.ntmps19
  go_wp2_with fail
  refine HL.out.mono ?_
  rintro e w1 ⟨v, rfl, hown, hb1⟩
  obtain ⟨ad, cap, rfl, hc⟩ := hown.at
  have HCc := Lib.hid hc
  have HCo := Lib.hid (HC.out w1 hb1)
  have Hb1 := Lib.hid hb1
  obtain ⟨n, hn⟩ : ∃ n, L.length = n := ⟨_, rfl⟩
  have HN := Lib.hid hn
  rw [hn] at hl ⊢
  clear hn hown hb1 hc HC HL
  have hw : IntKind.i64.wrap (cols - 1) = cols - 1 := IntWalk.i64_in _ (by omega)
  go_wp2_with fail
  go_loopw [10] (fun i wr => ∃ k : Nat, k ≤ n ∧ i = .int .i64 (k : Int) ∧ (∀ j (hj : j < L.length), j < k → ¬ col < L[j]) ∧ wr = w1) (fun i _ => n - (intOf i).toNat)
  case atStart => exact ⟨0, Nat.zero_le _, rfl, fun j _ h => absurd h (Nat.not_lt_zero j), rfl⟩
  case round =>
    obtain ⟨k, hk, rfl, hno, rfl⟩ := hrel
    have Hno := Lib.hid hno
    clear hno
    by_cases hlt : k < n
    · have q1 : (k : Int) < (n : Int) := by omega
      obtain ⟨g, off, rfl, hg, hcc⟩ := HCc.out (by rw [HN.out]; omega)
      have hkL : k < L.length := by rw [HN.out]; omega
      have d1 := hcc k hkL
      have hfound : col < L[k] → nextIn L cols col = L[k] := fun h => by
        unfold nextIn
        have : L.find? (fun x => decide (col < x)) = some L[k] := by
          rw [List.find?_eq_some_iff_getElem]
          exact ⟨by simpa using h, k, hkL, rfl, fun j hj => by simpa using Hno.out j (by omega) hj⟩
        rw [this]; rfl
      have hstep : ¬ col < L[k] → ∀ j (hj : j < L.length), j < k + 1 → ¬ col < L[j] := fun h j hj hjk => by
        by_cases e : j = k
        · subst e; exact h
        · exact Hno.out j hj (by omega)
      have Hf := Lib.hid hfound
      have Hs := Lib.hid hstep
      clear hcc hg hfound hstep
      generalize L[k] = x at *
      by_cases hx : col < x
      · have Hr := Lib.hid (Hf.out hx)
        clear Hf Hs
        go_wp2_with fail
        go_ret
        exact ⟨by rw [Hr.out]; rfl, Hb1.out⟩
      · have Hr := Lib.hid (Hs.out hx)
        clear Hf Hs
        go_wp2_with fail
        go_roundw
        case rel => exact ⟨k + 1, by omega, by go_num, Hr.out, trivial⟩
        case measure => simp [intOf]; omega
    · have q1 : ¬ (k : Int) < (n : Int) := by omega
      have hnone : nextIn L cols col = max (cols - 1) 0 := by
        unfold nextIn
        have : L.find? (fun x => decide (col < x)) = none := List.find?_eq_none.2 fun f hf => by
          obtain ⟨j, hj, rfl⟩ := List.getElem_of_mem hf
          have := Hno.out j hj (by rw [HN.out] at hj; omega)
          simpa using this
        rw [this]; rfl
      have Hn := Lib.hid (hnone.trans (show max (cols - 1) 0 = cols - 1 by omega))
      clear hnone
      go_wp2_with fail
      refine HCo.out.mono ?_
      rintro e w2 ⟨rfl, rfl⟩
      have hmx : max (cols - 1) 0 = cols - 1 := by omega
      go_wp2_with fail
      go_ret
      exact ⟨by rw [Hn.out]; rfl, Hb1.out⟩
end Go.Proofs.Ytpjodppcedkneaa
