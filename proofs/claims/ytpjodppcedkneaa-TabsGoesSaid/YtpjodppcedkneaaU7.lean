/- Calls, as the laws have them: does at any, Few. -/
import Derived.Test.YtpjodppcedkneaaU6
namespace Go.Proofs.Ytpjodppcedkneaa
open Go.RowKit Go.Maps Go.Sort Go.Shelf
set_option linter.unusedVariables false
set_option linter.unusedSimpArgs false
set_option maxRecDepth 100000
/-- Both, of some columns. -/
def BothE (W : World) (B p b q : Nat) : Prop := ∃ c S, Both W B p b q c S
theorem does_any (w : World) (B p b q : Nat) (h : BothE w B p b q) (hBw : B ≤ w.heap.size) (a n m : Int) (hn1 : n ≤ 9223372036854775807) (hm0 : -9223372036854775808 ≤ m) (hm1 : m ≤ 9223372036854775807) (lv : Value) (L : List Int) (hL : IntsAt w lv L) (hl : L.length ≤ 100000) :
    Calls Try.prog 16 #[.pointer (some ⟨p, 0, none⟩), .pointer (some ⟨q, 0, none⟩), .agg #[.int .i64 a, .int .i64 n, .int .i64 m, lv]] w fun e w' => ∃ q', e = .returned (.tuple #[.pointer (some ⟨q', 0, none⟩), .bool true]) ∧ BothE w' B p b q' ∧ Below B w w' := by
  obtain ⟨c, S, h⟩ := h
  by_cases h0 : a = 0
  · refine (does_put w B p b q c S h hBw a n m lv L hL hl true (.inl ⟨h0, rfl⟩)).mono ?_
    rintro e w' ⟨he, hb, hbl⟩
    exact ⟨q, he, ⟨_, _, hb⟩, hbl⟩
  by_cases h1 : a = 1
  · refine (does_put w B p b q c S h hBw a n m lv L hL hl false (.inr ⟨h1, rfl⟩)).mono ?_
    rintro e w' ⟨he, hb, hbl⟩
    exact ⟨q, he, ⟨_, _, hb⟩, hbl⟩
  by_cases h2 : a = 2
  · subst h2
    obtain ⟨ad, cap, rfl, -⟩ := hL
    refine (does_every w B p b q c S h hBw n m hn1 ad _ cap).mono ?_
    rintro e w' ⟨he, hb, hbl⟩
    exact ⟨q, he, ⟨_, _, hb⟩, hbl⟩
  by_cases h3 : a = 3
  · subst h3
    obtain ⟨ad, cap, rfl, -⟩ := hL
    refine (does_resize w B p b q c S h hBw n m ad _ cap).mono ?_
    rintro e w' ⟨q', he, hb, hbl⟩
    exact ⟨q', he, hb, hbl⟩
  refine (does_go w B p b q c S h hBw a n m h0 h1 h2 h3 hm0 hm1 lv).mono ?_
  rintro e w' ⟨he, hb, hbl⟩
  exact ⟨q, he, ⟨_, _, hb⟩, hbl⟩
/-- A call as it lies there. -/
structure OpD where
  a : Int
  n : Int
  m : Int
  ad : Option Addr
  cap : Nat
  L : List Int
structure OpD.ok (W : World) (o : OpD) : Prop where
  n1 : o.n ≤ 9223372036854775807
  m0 : -9223372036854775808 ≤ o.m
  m1 : o.m ≤ 9223372036854775807
  l : IntsAt W (.slice o.ad o.L.length o.cap) o.L
  ll : o.L.length ≤ 9223372036854775807
/-- The cells of one call. -/
def OpAt (W : World) (g off : Nat) (o : OpD) : Prop := W.cell? ⟨g, off, none⟩ = some (.int .i64 o.a) ∧ W.cell? ⟨g, off + 1, none⟩ = some (.int .i64 o.n) ∧ W.cell? ⟨g, off + 2, none⟩ = some (.int .i64 o.m) ∧ W.cell? ⟨g, off + 3, none⟩ = some (.slice o.ad o.L.length o.cap)
def OpsAt (W : World) (v : Value) (l : List OpD) : Prop := ∃ ad cap, v = .slice ad l.length cap ∧ (0 < l.length → ∃ g off, ad = some ⟨g, off, none⟩ ∧ g < W.heap.size ∧ ∀ i (hi : i < l.length), OpAt W g (off + i * 4) l[i]) ∧ ∀ o ∈ l, o.ok W
theorem OpAt.later {W W' : World} {g off : Nat} {o : OpD} (h : OpAt W g off o) (hb : Below W.heap.size W W') : OpAt W' g off o :=
  ⟨cellB hb h.1, cellB hb h.2.1, cellB hb h.2.2.1, cellB hb h.2.2.2⟩
theorem OpD.ok.later {W W' : World} {o : OpD} (h : o.ok W) (hb : Below W.heap.size W W') : o.ok W' := ⟨h.n1, h.m0, h.m1, h.l.later hb, h.ll⟩
theorem OpsAt.later {W W' : World} {v : Value} {l : List OpD} (h : OpsAt W v l) (hb : Below W.heap.size W W') : OpsAt W' v l := by
  obtain ⟨ad, cap, hv, hx, ho⟩ := h
  refine ⟨ad, cap, hv, fun h0 => ?_, fun o hm => (ho o hm).later hb⟩
  obtain ⟨g, off, ha, hg, hc⟩ := hx h0
  exact ⟨g, off, ha, Nat.lt_of_lt_of_le hg hb.size, fun i hi => (hc i hi).later hb⟩
/-- What Few says. -/
def fewB (l : List OpD) : Bool := l.all (fun o => decide (o.L.length ≤ 20)) && decide (l.length ≤ 40)
set_option maxHeartbeats 400000 in
theorem few_any (w : World) (v : Value) (l : List OpD) (h : OpsAt w v l) (hl : l.length ≤ 9223372036854775807) : Calls Try.prog 14 #[v] w fun e w' => e = .returned (.bool (fewB l)) ∧ w' = w := by
  obtain ⟨ad, cap, rfl, hx, ho⟩ := h
  obtain ⟨N, hN⟩ : ∃ N, l.length = N := ⟨_, rfl⟩
  have HN := Lib.hid hN
  have HX := Lib.hid hx
  have HBad := Lib.hid (fun (i : Nat) (hi : i < l.length) (h : ¬ l[i].L.length ≤ 20) => (show fewB l = false from by
    unfold fewB
    rw [Bool.and_eq_false_iff]
    left
    rw [List.all_eq_false]
    exact ⟨l[i], List.getElem_mem hi, by simpa using h⟩))
  have HGood := Lib.hid (fun (h : ∀ (i : Nat) (hi : i < l.length), l[i].L.length ≤ 20) => (show fewB l = decide (l.length ≤ 40) from by
    unfold fewB
    rw [show l.all (fun o => decide (o.L.length ≤ 20)) = true from by
      rw [List.all_eq_true]
      intro o hm
      obtain ⟨i, hi, rfl⟩ := List.getElem_of_mem hm
      simpa using h i hi, Bool.true_and]))
  rw [hN] at hl ⊢
  clear hx ho hN
  obtain ⟨R, hR⟩ : ∃ R, fewB l = R := ⟨_, rfl⟩
  rw [hR] at HBad HGood ⊢
  clear hR
  go_enter Try.func14, Try.ntmps14
  go_wp2_with fail
  go_loopw [3] (fun i wr => ∃ k : Nat, k ≤ N ∧ i = .int .i64 (k : Int) ∧ (∀ (j : Nat) (hj : j < l.length), j < k → l[j].L.length ≤ 20) ∧ wr = w) (fun i _ => N - (intOf i).toNat)
  case atStart => exact ⟨0, Nat.zero_le _, rfl, fun j _ h => absurd h (Nat.not_lt_zero j), rfl⟩
  case round =>
    obtain ⟨k, hk, rfl, hall, rfl⟩ := hrel
    have Hall := Lib.hid hall
    clear hall
    by_cases hlt : k < N
    · have q1 : (k : Int) < (N : Int) := by omega
      have hkL : k < l.length := by rw [HN.out]; exact hlt
      obtain ⟨g, off, rfl, hg, hc⟩ := HX.out (by omega)
      obtain ⟨_, _, _, d3⟩ := hc k hkL
      have HB := Lib.hid (HBad.out k hkL)
      have HS := Lib.hid (fun (hh : l[k].L.length ≤ 20) => (show ∀ (j : Nat) (hj : j < l.length), j < k + 1 → l[j].L.length ≤ 20 from fun j hj hjk => by
        by_cases e : j = k
        · subst e; exact hh
        · exact Hall.out j hj (by omega)))
      clear hc hg
      obtain ⟨x, hxx⟩ : ∃ x, l[k]'hkL = x := ⟨_, rfl⟩
      rw [hxx] at d3 HB HS
      clear hxx
      by_cases hb : x.L.length ≤ 20
      · have q2 : ¬ (20 : Int) < (x.L.length : Int) := by omega
        have Hr := Lib.hid (HS.out hb)
        clear HB HS hb
        go_wp2_with fail
        go_roundw
        case rel => exact ⟨k + 1, by omega, by go_num, Hr.out, trivial⟩
        case measure => simp [intOf]; omega
      · have q2 : (20 : Int) < (x.L.length : Int) := by omega
        have Hr := Lib.hid (HB.out hb)
        clear HB HS hb
        go_wp2_with fail
        go_ret
        exact ⟨by rw [Hr.out]; rfl, rfl⟩
    · have q1 : ¬ (k : Int) < (N : Int) := by omega
      have hr := HGood.out (fun i hi => Hall.out i hi (by rw [HN.out] at hi; omega))
      rw [HN.out] at hr
      by_cases h40 : N ≤ 40
      · have q2 : (N : Int) ≤ 40 := by omega
        rw [decide_eq_true h40] at hr
        have Hr := Lib.hid hr
        clear hr h40
        go_wp2_with fail
        go_ret
        exact ⟨by rw [Hr.out]; rfl, rfl⟩
      · have q2 : ¬ (N : Int) ≤ 40 := by omega
        rw [decide_eq_false h40] at hr
        have Hr := Lib.hid hr
        clear hr h40
        go_wp2_with fail
        go_ret
        exact ⟨by rw [Hr.out]; rfl, rfl⟩
end Go.Proofs.Ytpjodppcedkneaa
