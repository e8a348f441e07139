/- TabsGoes: the plain law, the law's walk. -/
import Derived.Test.YtpjodppcedkneaaU8
namespace Go.Proofs.Ytpjodppcedkneaa
open Go.RowKit Go.Maps Go.Sort Go.Shelf
set_option linter.unusedVariables false
set_option linter.unusedSimpArgs false
set_option maxRecDepth 100000
theorem next_mono (c : Nat) (S : Int → Bool) (hc : 1 ≤ c) {a b : Int} (h : a ≤ b) : nextIn (rise c S) c a ≤ nextIn (rise c S) c b := by
  rcases next_spec c S a hc with ⟨a1, a2⟩ | ⟨a1, a2, a3, a4, a5⟩
  · rcases next_spec c S b hc with ⟨b1, b2⟩ | ⟨b1, b2, b3, b4, b5⟩
    · omega
    · have := a2 _ b1 b2 b3; omega
  · rcases next_spec c S b hc with ⟨b1, b2⟩ | ⟨b1, b2, b3, b4, b5⟩
    · omega
    · exact a5 _ b1 b2 b3 (by omega)
theorem prev_mono (c : Nat) (S : Int → Bool) {a b : Int} (h : a ≤ b) : prevIn (rise c S) a ≤ prevIn (rise c S) b := by
  rcases prev_spec c S a with ⟨a1, a2⟩ | ⟨a1, a2, a3, a4, a5⟩
  · rcases prev_spec c S b with ⟨b1, b2⟩ | ⟨b1, b2, b3, b4, b5⟩ <;> omega
  · rcases prev_spec c S b with ⟨b1, b2⟩ | ⟨b1, b2, b3, b4, b5⟩
    · have := b2 _ a1 a2 a3; omega
    · exact b5 _ a1 a2 a3 (by omega)
theorem next_bd (c : Nat) (S : Int → Bool) (hc : 1 ≤ c) (a : Int) : 0 ≤ nextIn (rise c S) c a ∧ nextIn (rise c S) c a < (c : Int) := by
  rcases next_spec c S a hc with ⟨a1, a2⟩ | ⟨a1, a2, a3, a4, a5⟩ <;> omega
theorem prev_bd (c : Nat) (S : Int → Bool) (hc : 1 ≤ c) (a : Int) : 0 ≤ prevIn (rise c S) a ∧ prevIn (rise c S) a < (c : Int) := by
  rcases prev_spec c S a with ⟨a1, a2⟩ | ⟨a1, a2, a3, a4, a5⟩ <;> omega
theorem next_beyond (c : Nat) (S : Int → Bool) (hc : 1 ≤ c) (a : Int) (h1 : a < (c : Int)) : a ≤ nextIn (rise c S) c a ∧ (a < (c : Int) - 1 → nextIn (rise c S) c a ≠ a) := by
  rcases next_spec c S a hc with ⟨a1, a2⟩ | ⟨a1, a2, a3, a4, a5⟩ <;> omega
theorem prev_before (c : Nat) (S : Int → Bool) (a : Int) (h0 : 0 ≤ a) : prevIn (rise c S) a ≤ a ∧ (0 < a → prevIn (rise c S) a ≠ a) := by
  rcases prev_spec c S a with ⟨a1, a2⟩ | ⟨a1, a2, a3, a4, a5⟩ <;> omega
theorem stop_at (c : Nat) (S : Int → Bool) (hc : 1 ≤ c) (i : Nat) (hi : i < (rise c S).length) : nextIn (rise c S) c ((rise c S)[i] - 1) = (rise c S)[i] ∧ prevIn (rise c S) ((rise c S)[i] + 1) = (rise c S)[i] := by
  obtain ⟨⟨m1, m2⟩, m3⟩ := mem_rise.1 (List.getElem_mem hi)
  constructor
  · rcases next_spec c S ((rise c S)[i] - 1) hc with ⟨a1, a2⟩ | ⟨a1, a2, a3, a4, a5⟩
    · have := a2 _ m1 m2 m3; omega
    · have := a5 _ m1 m2 m3 (by omega); omega
  · rcases prev_spec c S ((rise c S)[i] + 1) with ⟨a1, a2⟩ | ⟨a1, a2, a3, a4, a5⟩
    · have := a2 _ m1 m2 m3; omega
    · have := a5 _ m1 m2 m3 (by omega); omega
theorem stop_by (c : Nat) (S : Int → Bool) (hc : 1 ≤ c) (i : Nat) (hi : i + 1 < (rise c S).length) : nextIn (rise c S) c (rise c S)[i] = (rise c S)[i + 1] ∧ prevIn (rise c S) (rise c S)[i + 1] = (rise c S)[i] := by
  obtain ⟨⟨m1, m2⟩, m3⟩ := mem_rise.1 (List.getElem_mem (show i < (rise c S).length by omega))
  obtain ⟨⟨n1, n2⟩, n3⟩ := mem_rise.1 (List.getElem_mem hi)
  have hs := List.pairwise_iff_getElem.1 (rise_lt c S)
  have h01 := hs i (i + 1) (by omega) hi (by omega)
  have hmid : ∀ y, 0 ≤ y → y < (c : Int) → S y = true → (rise c S)[i] < y → y < (rise c S)[i + 1] → False := by
    intro y y0 y1 y2 h1 h2
    obtain ⟨j, hj, rfl⟩ := List.getElem_of_mem (mem_rise.2 ⟨⟨y0, y1⟩, y2⟩)
    have : ¬ j ≤ i := fun h => by
      by_cases e : j = i
      · subst e; omega
      · have := hs j i hj (by omega) (by omega); omega
    by_cases e : j = i + 1
    · subst e; omega
    · have := hs (i + 1) j hi hj (by omega); omega
  constructor
  · rcases next_spec c S (rise c S)[i] hc with ⟨a1, a2⟩ | ⟨a1, a2, a3, a4, a5⟩
    · exact absurd h01 (a2 _ n1 n2 n3)
    · have h1 := a5 _ n1 n2 n3 h01
      by_cases e : nextIn (rise c S) c (rise c S)[i] = (rise c S)[i + 1]
      · exact e
      · exact (hmid _ a1 a2 a3 a4 (by omega)).elim
  · rcases prev_spec c S (rise c S)[i + 1] with ⟨a1, a2⟩ | ⟨a1, a2, a3, a4, a5⟩
    · exact absurd h01 (a2 _ m1 m2 m3)
    · have h1 := a5 _ m1 m2 m3 h01
      by_cases e : prevIn (rise c S) (rise c S)[i + 1] = (rise c S)[i]
      · exact e
      · exact (hmid _ a1 a2 a3 (by omega) a4).elim
theorem go_one (nx pv : Int → Int) (c x : Int) : goIn nx pv c x 1 = nx x := rfl
theorem go_back (nx pv : Int → Int) (c x : Int) : goIn nx pv c x (-1) = pv x := rfl
theorem go_both (nx pv : Int → Int) (c a n : Int) (h : n ≠ 0) (h1 : -40 ≤ n) (h2 : n ≤ 40) : goIn nx pv c a n = iter pv (max (-n) 0).toNat (iter nx (max n 0).toNat a) := by
  unfold goIn
  rw [if_neg h]
  by_cases hp : 0 < n
  · rw [if_pos hp, show (max (-n) 0).toNat = 0 by omega, show max n 0 = min n 255 by omega]
    rfl
  · rw [if_neg hp, show (max n 0).toNat = 0 by omega, show min (-(max n (-255))) 255 = max (-n) 0 by omega]
    rfl
set_option maxHeartbeats 4000000 in
theorem goes_walk (lv : Value) (l : List OpD) (x y n : Int) (w : World) (hL : OpsAt w lv l) (hll : l.length ≤ 9223372036854775807) :
    Calls Try.prog 5 #[lv, .agg #[.int .i64 x, .int .i64 y], .int .i64 n] w fun e w' => e = .returned (.bool true) ∧ Below w.heap.size w w' := by
  have HA := Lib.hid (fun W => awake_any W)
  have HOps := Lib.hid hL
  obtain ⟨ad, cap, hlv, -⟩ := id hL
  have HNew := Lib.hid (fun W => new_ts 30 (by omega) (by omega) W)
  have HFew := Lib.hid (fun W (hb : Below w.heap.size w W) => few_any W lv l (hL.later hb) hll)
  have HRn := Lib.hid (fun W => rnew_any W 30 (by omega))
  have Hlv := Lib.hid hlv
  obtain ⟨N, hN⟩ : ∃ N, l.length = N := ⟨_, rfl⟩
  have HN := Lib.hid hN
  rw [hN] at hlv hll
  clear hL hN
  subst hlv
  by_cases hbad : fewB l = false ∨ (fewB l = true ∧ (n < -40 ∨ 40 < n))
  · have hways : fewB l = false ∨ (fewB l = true ∧ n < -40) ∨ (fewB l = true ∧ ¬ n < -40 ∧ 40 < n) := by
      rcases hbad with h | ⟨h, h2⟩
      · exact .inl h
      · by_cases h3 : n < -40
        · exact .inr (.inl ⟨h, h3⟩)
        · exact .inr (.inr ⟨h, h3, by omega⟩)
    clear hbad
    rcases hways with hf | ⟨hf, g1⟩ | ⟨hf, g1, g2⟩
    all_goals (
      rw [hf] at HFew
      clear hf
      go_enter Try.func5, Try.ntmps5
      go_wp2_with fail
      obtain ⟨w0, hw0⟩ : ∃ w0, w.alloc (.cells #[.int .i64 x, .int .i64 y] 46) = w0 := ⟨_, rfl⟩
      rw [hw0]
      have HB0 := Lib.hid (show Below w.heap.size w w0 from hw0 ▸ bel_alloc (Below.refl _ _) _)
      clear hw0
      refine (HNew.out w0).mono ?_
      rintro e w1 ⟨rfl, _, hb1⟩
      have HB1 := Lib.hid (bel_call HB0.out hb1)
      clear hb1
      have HF := Lib.hid (HFew.out _ HB1.out)
      go_wp2_with fail
      refine HF.out.mono ?_
      rintro e w2 ⟨rfl, rfl⟩
      go_wp2_with fail
      refine (HA.out _).mono ?_
      rintro e w3 ⟨rfl, hb⟩
      go_wp2_with fail
      go_ret
      exact ⟨rfl, bel_call HB1.out hb⟩)
  · have hf : fewB l = true := by
      cases h : fewB l with
      | false => exact absurd (.inl h) hbad
      | true => rfl
    have g1 : ¬ n < -40 := fun h => hbad (.inr ⟨hf, .inl h⟩)
    have g2 : ¬ 40 < n := fun h => hbad (.inr ⟨hf, .inr h⟩)
    rw [hf] at HFew
    have HfB := Lib.hid (fun k hk => few_len hf k hk)
    clear hf hbad
    go_enter Try.func5, Try.ntmps5
    go_wp2_with fail
    obtain ⟨w0, hw0⟩ : ∃ w0, w.alloc (.cells #[.int .i64 x, .int .i64 y] 46) = w0 := ⟨_, rfl⟩
    rw [hw0]
    have HB0 := Lib.hid (show Below w.heap.size w w0 from hw0 ▸ bel_alloc (Below.refl _ _) _)
    have HXY := Lib.hid (show w0.cell? ⟨w.heap.size, 0, none⟩ = some (.int .i64 x) ∧ w0.cell? ⟨w.heap.size, 1, none⟩ = some (.int .i64 y) from by subst hw0; simp [go_sem])
    clear hw0
    obtain ⟨Bx, hBx⟩ : ∃ Bx, w.heap.size = Bx := ⟨_, rfl⟩
    rw [hBx] at HXY
    have HBx := Lib.hid hBx
    rw [hBx]
    clear hBx
    refine (HNew.out w0).mono ?_
    rintro e w1 ⟨rfl, hT1, hb1⟩
    have HF := Lib.hid (HFew.out _ (bel_call HB0.out hb1))
    have Hb1 := Lib.hid hb1
    have HT1 := Lib.hid hT1
    clear hb1 hT1
    obtain ⟨p, hp⟩ : ∃ p, w0.heap.size + 1 = p := ⟨_, rfl⟩
    rw [hp] at HT1 ⊢
    have Hp := Lib.hid hp
    clear hp
    go_wp2_with fail
    refine HF.out.mono ?_
    rintro e w2 ⟨rfl, rfl⟩
    go_wp2_with fail
    refine (HRn.out _).mono ?_
    rintro e w3 ⟨rfl, hR3, hb3⟩
    have hBE : BothE w3 w0.heap.size p w0.heap.size (w2.heap.size + 1) := ⟨30, _, HT1.out.later hb3, ⟨_, hR3, Hb1.out.size⟩, by have := Hp.out; omega, Nat.le_refl _, by have := Hb1.out.size; omega⟩
    have HBE := Lib.hid hBE
    have Hb3 := Lib.hid (bel_call Hb1.out hb3)
    obtain ⟨q, hq⟩ : ∃ q, w2.heap.size + 1 = q := ⟨_, rfl⟩
    rw [hq] at HBE ⊢
    clear hBE hR3 hb3 hq
    go_wp2_with fail
    go_loopw [9, 10] (fun r i wr => ∃ (k q : Nat), k ≤ N ∧ i = .int .i64 (k : Int) ∧ r = .pointer (some ⟨q, 0, none⟩) ∧ BothE wr w0.heap.size p w0.heap.size q ∧ Below w0.heap.size w0 wr) (fun _ i _ => N - (intOf i).toNat)
    case atStart => exact ⟨0, q, Nat.zero_le _, rfl, rfl, HBE.out, Hb3.out⟩
    case round =>
      obtain ⟨k, q2, hk, rfl, rfl, hbe, hbw⟩ := hrel
      have Hbe := Lib.hid hbe
      have Hbw := Lib.hid hbw
      clear hbe hbw
      by_cases hlt : k < N
      · have q1 : (k : Int) < (N : Int) := by omega
        have hkL : k < l.length := by rw [HN.out]; exact hlt
        obtain ⟨g, off, rfl, ⟨d0, d1, d2, d3⟩, hok⟩ := ops_cell HOps.out (bel_call HB0.out Hbw.out) Hlv.out k hkL
        have HD := Lib.hid (does_any wr _ _ _ _ Hbe.out Hbw.out.size l[k].a l[k].n l[k].m hok.n1 hok.m0 hok.m1 _ _ hok.l (by have := HfB.out k hkL; omega))
        clear hok
        generalize l[k]'hkL = o at *
        go_wp2_with fail
        refine HD.out.mono ?_
        rintro e w4 ⟨q3, rfl, hbe4, hbl4⟩
        have HBE4 := Lib.hid hbe4
        have HBl4 := Lib.hid (Hbw.out.trans hbl4)
        clear hbe4 hbl4 HD d0 d1 d2 d3
        go_wp2_with fail
        go_roundw
        case rel => exact ⟨k + 1, q3, by omega, by go_num, rfl, HBE4.out, HBl4.out⟩
        case measure => simp [intOf]; omega
      · have q1 : ¬ (k : Int) < (N : Int) := by omega
        obtain ⟨c, S, hb4⟩ := Hbe.out
        have HT := Lib.hid (fun W (hb : Below wr.heap.size wr W) => hb4.t.later hb)
        have hlo := hb4.t.lo
        have hhi := hb4.t.hi
        clear hb4 HRn HFew HF HNew HBE hlt
        obtain ⟨wz, hwz⟩ : ∃ wz, wz = wr := ⟨_, rfl⟩
        subst hwz
        have t0 := cellB Hbw.out HXY.out.1
        have t1 := cellB Hbw.out HXY.out.2
        obtain ⟨a, ha⟩ : ∃ a, min x y = a := ⟨_, rfl⟩
        obtain ⟨b, hb⟩ : ∃ b, max x y = b := ⟨_, rfl⟩
        have hab : a ≤ b := by omega
        have HCo := Lib.hid (fun W (hb : Below wz.heap.size wz W) => cols_ts W _ _ _ _ (HT.out W hb))
        have HLs := Lib.hid (fun W (hb : Below wz.heap.size wz W) => list_ts W _ _ _ _ (HT.out W hb))
        have HNx := Lib.hid (fun (col : Int) W (hb : Below wz.heap.size wz W) => next_ts W _ _ _ _ (HT.out W hb) col)
        have HPv := Lib.hid (fun (col : Int) W (hb : Below wz.heap.size wz W) => prev_ts W _ _ _ _ (HT.out W hb) col)
        have HG1 := Lib.hid (fun (col : Int) W (hb : Below wz.heap.size wz W) => go_one (nextIn (rise c S) c) (prevIn (rise c S)) c col ▸ go_ts W _ _ _ _ (HT.out W hb) col 1 (by omega) (by omega))
        have HG2 := Lib.hid (fun (col : Int) W (hb : Below wz.heap.size wz W) => go_back (nextIn (rise c S) c) (prevIn (rise c S)) c col ▸ go_ts W _ _ _ _ (HT.out W hb) col (-1) (by omega) (by omega))
        have HGn := Lib.hid (fun (hn : n ≠ 0) W (hb : Below wz.heap.size wz W) => go_both (nextIn (rise c S) c) (prevIn (rise c S)) c a n hn (by omega) (by omega) ▸ go_ts W _ _ _ _ (HT.out W hb) a n (by omega) (by omega))
        have HSt := Lib.hid (fun i hi => stop_at c S hlo i hi)
        have HSb := Lib.hid (fun i hi => stop_by c S hlo i hi)
        have HSm := Lib.hid (fun (i : Nat) (hi : i < (rise c S).length) => (mem_rise.1 (List.getElem_mem hi)).1)
        have hRl := rise_len c S
        have f1 : ¬ nextIn (rise c S) c b < nextIn (rise c S) c a := Int.not_lt.2 (next_mono c S hlo hab)
        have f2 : ¬ prevIn (rise c S) b < prevIn (rise c S) a := Int.not_lt.2 (prev_mono c S hab)
        have f3 : ¬ nextIn (rise c S) c a < 0 := by have := next_bd c S hlo a; omega
        have f4 : ¬ (c : Int) ≤ nextIn (rise c S) c a := by have := next_bd c S hlo a; omega
        have f5 : ¬ prevIn (rise c S) b < 0 := by have := prev_bd c S hlo b; omega
        have f6 : ¬ (c : Int) ≤ prevIn (rise c S) b := by have := prev_bd c S hlo b; omega
        have HNb := Lib.hid (fun (h : a < (c : Int)) => next_beyond c S hlo a h)
        have HPb := Lib.hid (fun (h : 0 ≤ a) => prev_before c S a h)
        have HNa1 := Lib.hid (HNx.out a)
        have HNb1 := Lib.hid (HNx.out b)
        have HPa1 := Lib.hid (HPv.out a)
        have HPb1 := Lib.hid (HPv.out b)
        obtain ⟨L, hLr⟩ : ∃ L, rise c S = L := ⟨_, rfl⟩
        rw [hLr] at f1 f2 f3 f4 f5 f6 HNb HPb HNa1 HNb1 HPa1 HPb1 HLs HNx HPv HG1 HG2 HGn hRl
        have HStL := Lib.hid (show ∀ (i : Nat) (hi : i < L.length), nextIn L c (L[i] - 1) = L[i] ∧ prevIn L (L[i] + 1) = L[i] from by subst hLr; exact HSt.out)
        have HSbL := Lib.hid (show ∀ (i : Nat) (hi : i + 1 < L.length), nextIn L c L[i] = L[i + 1] ∧ prevIn L L[i + 1] = L[i] from by subst hLr; exact HSb.out)
        have HSmL := Lib.hid (show ∀ (i : Nat) (hi : i < L.length), 0 ≤ L[i] ∧ L[i] < (c : Int) from by subst hLr; exact HSm.out)
        clear HSt HSb HSm hLr HT
        generalize nextIn L c a = xa at f1 f3 f4 HNb HNa1
        generalize nextIn L c b = xb at f1 HNb1
        generalize prevIn L a = ya at f2 HPb HPa1
        generalize prevIn L b = yb at f2 f5 f6 HPb1
        obtain ⟨m, hm⟩ : ∃ m, L.length = m := ⟨_, rfl⟩
        have HMl := Lib.hid hm
        rw [hm] at hRl
        clear hm hab
        go_wp2_with fail
        refine (HCo.out _ (Below.refl _ _)).mono ?_
        rintro e v9 ⟨rfl, hwv⟩
        replace hwv := hwv.symm
        subst hwv
        have HB := Lib.hid (Below.refl wz.heap.size wz)
        go_wp2_with fail
        refine (HNa1.out _ HB.out).mono ?_
        rintro e v9 ⟨rfl, hb9⟩
        replace HB := Lib.hid (bel_call HB.out hb9)
        clear hb9
        go_wp2_with fail
        refine (HNb1.out _ HB.out).mono ?_
        rintro e v9 ⟨rfl, hb9⟩
        replace HB := Lib.hid (bel_call HB.out hb9)
        clear hb9
        go_wp2_with fail
        refine (HPa1.out _ HB.out).mono ?_
        rintro e v9 ⟨rfl, hb9⟩
        replace HB := Lib.hid (bel_call HB.out hb9)
        clear hb9
        go_wp2_with fail
        refine (HPb1.out _ HB.out).mono ?_
        rintro e v9 ⟨rfl, hb9⟩
        replace HB := Lib.hid (bel_call HB.out hb9)
        clear hb9
        go_wp2_with fail
        refine (HNa1.out _ HB.out).mono ?_
        rintro e v9 ⟨rfl, hb9⟩
        replace HB := Lib.hid (bel_call HB.out hb9)
        clear hb9
        go_wp2_with fail
        refine (HNa1.out _ HB.out).mono ?_
        rintro e v9 ⟨rfl, hb9⟩
        replace HB := Lib.hid (bel_call HB.out hb9)
        clear hb9
        go_wp2_with fail
        refine (HPb1.out _ HB.out).mono ?_
        rintro e v9 ⟨rfl, hb9⟩
        replace HB := Lib.hid (bel_call HB.out hb9)
        clear hb9
        go_wp2_with fail
        refine (HPb1.out _ HB.out).mono ?_
        rintro e v9 ⟨rfl, hb9⟩
        replace HB := Lib.hid (bel_call HB.out hb9)
        clear hb9
        go_upto_region 14 with fail
        have hwc : IntKind.i64.wrap ((c : Int) - 1) = (c : Int) - 1 := IntWalk.i64_in _ (by omega)
        go_cut [166] from 122 to 166 (fun s wx => s = .bool false ∧ Below wz.heap.size wz wx)
        case first =>
          by_cases a0 : a < 0
          · have a0' : ¬ 0 ≤ a := by omega
            go_wp2_with fail
            go_meet
            exact ⟨rfl, HB.out⟩
          · have a0' : 0 ≤ a := by omega
            by_cases a1 : a < (c : Int)
            · obtain ⟨x1, x2⟩ := HNb.out a1
              obtain ⟨x3, x4⟩ := HPb.out a0'
              have y1 : ¬ xa < a := by omega
              have y2 : ¬ a < ya := by omega
              by_cases a2 : a < (c : Int) - 1
              · have y3 : (xa == a) = false := by simpa using x2 a2
                by_cases a3 : 0 < a
                · have y4 : (ya == a) = false := by simpa using x4 a3
                  clear x1 x2 x3 x4
                  go_wp2_with fail
                  refine (HNa1.out _ HB.out).mono ?_
                  rintro e v9 ⟨rfl, hb9⟩
                  replace HB := Lib.hid (bel_call HB.out hb9)
                  clear hb9
                  go_wp2_with fail
                  refine (HPa1.out _ HB.out).mono ?_
                  rintro e v9 ⟨rfl, hb9⟩
                  replace HB := Lib.hid (bel_call HB.out hb9)
                  clear hb9
                  go_wp2_with fail
                  refine (HNa1.out _ HB.out).mono ?_
                  rintro e v9 ⟨rfl, hb9⟩
                  replace HB := Lib.hid (bel_call HB.out hb9)
                  clear hb9
                  go_wp2_with fail
                  refine (HPa1.out _ HB.out).mono ?_
                  rintro e v9 ⟨rfl, hb9⟩
                  replace HB := Lib.hid (bel_call HB.out hb9)
                  clear hb9
                  go_wp2_with fail
                  go_meet
                  exact ⟨by rw [decide_eq_false (Int.not_lt.2 y1), decide_eq_false (Int.not_lt.2 y2)]; rfl, HB.out⟩
                · clear x1 x2 x3 x4
                  go_wp2_with fail
                  refine (HNa1.out _ HB.out).mono ?_
                  rintro e v9 ⟨rfl, hb9⟩
                  replace HB := Lib.hid (bel_call HB.out hb9)
                  clear hb9
                  go_wp2_with fail
                  refine (HPa1.out _ HB.out).mono ?_
                  rintro e v9 ⟨rfl, hb9⟩
                  replace HB := Lib.hid (bel_call HB.out hb9)
                  clear hb9
                  go_wp2_with fail
                  refine (HNa1.out _ HB.out).mono ?_
                  rintro e v9 ⟨rfl, hb9⟩
                  replace HB := Lib.hid (bel_call HB.out hb9)
                  clear hb9
                  go_wp2_with fail
                  go_meet
                  exact ⟨by rw [decide_eq_false (Int.not_lt.2 y1), decide_eq_false (Int.not_lt.2 y2)]; rfl, HB.out⟩
              · by_cases a3 : 0 < a
                · have y4 : (ya == a) = false := by simpa using x4 a3
                  clear x1 x2 x3 x4
                  go_wp2_with fail
                  refine (HNa1.out _ HB.out).mono ?_
                  rintro e v9 ⟨rfl, hb9⟩
                  replace HB := Lib.hid (bel_call HB.out hb9)
                  clear hb9
                  go_wp2_with fail
                  refine (HPa1.out _ HB.out).mono ?_
                  rintro e v9 ⟨rfl, hb9⟩
                  replace HB := Lib.hid (bel_call HB.out hb9)
                  clear hb9
                  go_wp2_with fail
                  refine (HPa1.out _ HB.out).mono ?_
                  rintro e v9 ⟨rfl, hb9⟩
                  replace HB := Lib.hid (bel_call HB.out hb9)
                  clear hb9
                  go_wp2_with fail
                  go_meet
                  exact ⟨by rw [decide_eq_false (Int.not_lt.2 y1), decide_eq_false (Int.not_lt.2 y2)]; rfl, HB.out⟩
                · clear x1 x2 x3 x4
                  go_wp2_with fail
                  refine (HNa1.out _ HB.out).mono ?_
                  rintro e v9 ⟨rfl, hb9⟩
                  replace HB := Lib.hid (bel_call HB.out hb9)
                  clear hb9
                  go_wp2_with fail
                  refine (HPa1.out _ HB.out).mono ?_
                  rintro e v9 ⟨rfl, hb9⟩
                  replace HB := Lib.hid (bel_call HB.out hb9)
                  clear hb9
                  go_wp2_with fail
                  go_meet
                  exact ⟨by rw [decide_eq_false (Int.not_lt.2 y1), decide_eq_false (Int.not_lt.2 y2)]; rfl, HB.out⟩
            · go_wp2_with fail
              go_meet
              exact ⟨rfl, HB.out⟩
        case rest =>
          obtain ⟨rfl, hbc⟩ := hcut
          have HBc := Lib.hid hbc
          clear hbc HB f1 f2 f3 f4 f5 f6 HNb HPb HNa1 HNb1 HPa1 HPb1
          obtain ⟨N1, hN1⟩ : ∃ N1 : Nat, (max n 0).toNat = N1 := ⟨_, rfl⟩
          obtain ⟨N2, hN2⟩ : ∃ N2 : Nat, (max (-n) 0).toNat = N2 := ⟨_, rfl⟩
          have HAb := Lib.hid (show (N1 : Int) = max n 0 ∧ (N2 : Int) = max (-n) 0 by omega)
          have hb1 : N1 ≤ 40 := by omega
          have hb2 : N2 ≤ 40 := by omega
          rw [hN1, hN2] at HGn
          clear hN1 hN2
          go_wp2_with fail
          go_loopw [14, 15] (fun v i wx => ∃ k : Nat, k ≤ N1 ∧ i = .int .i64 (k : Int) ∧ v = .int .i64 (iter (nextIn L c) k a) ∧ Below wz.heap.size wz wx) (fun _ i _ => N1 - (intOf i).toNat)
          case atStart => exact ⟨0, Nat.zero_le _, rfl, rfl, HBc.out⟩
          case round =>
            obtain ⟨k1, hk1, rfl, rfl, hbx⟩ := hrel
            have Hbx := Lib.hid hbx
            clear hbx
            by_cases hlt : k1 < N1
            · have q2 : (k1 : Int) < n := by have := HAb.out; omega
              go_wp2_with fail
              refine (HG1.out _ _ Hbx.out).mono ?_
              rintro e v1 ⟨rfl, hbv⟩
              have Hbv := Lib.hid (bel_call Hbx.out hbv)
              clear hbv
              go_wp2_with fail
              go_roundw
              case rel => exact ⟨k1 + 1, by omega, by go_num, rfl, Hbv.out⟩
              case measure => simp [intOf]; omega
            · have hkN : k1 = N1 := by omega
              subst hkN
              have q2 : ¬ (k1 : Int) < n := by have := HAb.out; omega
              clear hlt HBc
              obtain ⟨v0, hv0⟩ : ∃ v0, v0 = wr := ⟨_, rfl⟩
              subst hv0
              go_wp2_with fail
              go_loopw [14, 16] (fun v i wx => ∃ j : Nat, j ≤ N2 ∧ i = .int .i64 (-(j : Int)) ∧ v = .int .i64 (iter (prevIn L) j (iter (nextIn L c) k1 a)) ∧ Below wz.heap.size wz wx) (fun _ i _ => N2 - (-(intOf i)).toNat)
              case atStart => exact ⟨0, Nat.zero_le _, rfl, rfl, Hbx.out⟩
              case round =>
                obtain ⟨j, hj, rfl, rfl, hby⟩ := hrel
                have Hby := Lib.hid hby
                clear hby
                have wj : IntKind.i64.wrap (-(j : Int) - 1) = -(j : Int) - 1 := IntWalk.i64_in _ (by omega)
                by_cases hlt2 : j < N2
                · have p1 : n < -(j : Int) := by have := HAb.out; omega
                  go_wp2_with fail
                  refine (HG2.out _ _ Hby.out).mono ?_
                  rintro e v1 ⟨rfl, hbv⟩
                  have Hbv := Lib.hid (bel_call Hby.out hbv)
                  clear hbv
                  go_wp2_with fail
                  go_roundw
                  case rel => exact ⟨j + 1, by omega, by (congr 1; push_cast; omega), rfl, Hbv.out⟩
                  case measure => simp [intOf]; omega
                · have hjN : j = N2 := by omega
                  subst hjN
                  have p1 : ¬ n < -(j : Int) := by have := HAb.out; omega
                  clear hlt2
                  generalize iter (prevIn L) j (iter (nextIn L c) k1 a) = X at *
                  obtain ⟨v1, hv1⟩ : ∃ v1, v1 = wr := ⟨_, rfl⟩
                  subst hv1
                  go_upto_region 25 with fail
                  go_cut [193] from 184 to 193 (fun s wx => s = .bool false ∧ Below wz.heap.size wz wx)
                  case first =>
                    by_cases hn0 : n = 0
                    · have z1 : (n == 0) = true := by simpa using hn0
                      have z2 : (n != 0) = false := by simp [hn0]
                      clear hn0
                      go_wp2_with fail
                      go_meet
                      exact ⟨rfl, Hby.out⟩
                    · have z1 : (n == 0) = false := by simpa using hn0
                      have z2 : (n != 0) = true := by simpa using hn0
                      have HG := Lib.hid (HGn.out hn0)
                      clear hn0 HGn
                      go_wp2_with fail
                      refine (HG.out _ Hby.out).mono ?_
                      rintro e v2 ⟨rfl, hbv⟩
                      have Hbv := Lib.hid (bel_call Hby.out hbv)
                      clear hbv
                      go_wp2_with fail
                      go_meet
                      exact ⟨by simp, Hbv.out⟩
                  case rest =>
                    obtain ⟨rfl, hbc⟩ := hcut
                    have HBd := Lib.hid hbc
                    clear hbc Hby Hbx HGn HG1 HG2 p1 q2 wj hj hk1
                    go_wp2_with fail
                    refine (HLs.out _ HBd.out).mono ?_
                    rintro e wl ⟨sv, rfl, hown, hbl⟩
                    have HIn := Lib.hid hown.at
                    obtain ⟨sad, scap, rfl, -⟩ := hown.at
                    have HBl := Lib.hid (bel_call HBd.out hbl)
                    rw [HMl.out] at HIn ⊢
                    clear hown hbl HBd HLs
                    go_wp2_with fail
                    go_loopw [18] (fun i wx => ∃ k : Nat, k ≤ m ∧ i = .int .i64 (k : Int) ∧ Below wl.heap.size wl wx) (fun i _ => m - (intOf i).toNat)
                    case atStart => exact ⟨0, Nat.zero_le _, rfl, Below.refl _ _⟩
                    case round =>
                      obtain ⟨k3, hk3, rfl, hbq⟩ := hrel
                      have Hbq := Lib.hid hbq
                      clear hbq
                      by_cases hlt3 : k3 < m
                      · have q3 : (k3 : Int) < (m : Int) := by omega
                        have hkL : k3 < L.length := by rw [HMl.out]; exact hlt3
                        obtain ⟨sad2, scap2, hsv, hsx⟩ := HIn.out.later Hbq.out
                        rw [HMl.out] at hsv
                        simp only [Value.slice.injEq] at hsv
                        obtain ⟨rfl, _, rfl⟩ := hsv
                        obtain ⟨g, off, rfl, -, hsc⟩ := hsx (by omega)
                        have d1 := hsc k3 hkL
                        have hbd := HSmL.out k3 hkL
                        obtain ⟨e1, e2⟩ := HStL.out k3 hkL
                        have HN1 := Lib.hid (fun W (hb : Below wz.heap.size wz W) => e1 ▸ HNx.out (L[k3] - 1) W hb)
                        have HP1 := Lib.hid (fun W (hb : Below wz.heap.size wz W) => e2 ▸ HPv.out (L[k3] + 1) W hb)
                        have hw1 : IntKind.i64.wrap (L[k3] - 1) = L[k3] - 1 := IntWalk.i64_in _ (by omega)
                        have hw2 : IntKind.i64.wrap (L[k3] + 1) = L[k3] + 1 := IntWalk.i64_in _ (by omega)
                        obtain ⟨s1, hs1⟩ : ∃ s1, L[k3]'hkL = s1 := ⟨_, rfl⟩
                        by_cases hk0 : k3 = 0
                        · rw [hs1] at d1 HN1 HP1 hw1 hw2
                          have q4 : ¬ 0 < (k3 : Int) := by omega
                          have q5 : decide (0 < k3) = false := decide_eq_false (by omega)
                          clear e1 e2 hbd hs1 hsc hsx hk0 HNx HPv HStL HSbL HSmL
                          go_wp2_with fail
                          have HKB := Lib.hid (fun (W W2 : World) (hk : (W.cell? ⟨g, off + k3, none⟩ = some (.int .i64 s1)) ∧ Below wl.heap.size wl W) (hb : Below W.heap.size W W2) => (show (W2.cell? ⟨g, off + k3, none⟩ = some (.int .i64 s1)) ∧ Below wl.heap.size wl W2 from ⟨cellB hb hk.1, bel_call hk.2 hb⟩))
                          refine wp_region_held_drew (S := fun W => (W.cell? ⟨g, off + k3, none⟩ = some (.int .i64 s1)) ∧ Below wl.heap.size wl W) (by kernel_rfl) ⟨d1, bel_call Hbq.out (bel_drew1 _)⟩ (fun hHeld => ?_)
                          refine wpAnyH_step (i := 0) (d := some 202) (v := ?_) rfl rfl (by kernel_rfl) (by kernel_rfl) (by kernel_rfl) (fun _ _ _ h => h) (Or.inl ⟨by rfl, ?_⟩) (by assumption) ?_
                          rotate_left
                          · intro w hSw; (try dsimp only at hSw); go_simp; (try with_reducible rfl)
                          try simp only [Act.put, List.setIfInBounds_toArray, List.set_cons_zero, List.set_cons_succ]
                          refine wpAnyH_step (i := 1) (d := some 203) (v := ?_) rfl rfl (by kernel_rfl) (by kernel_rfl) (by kernel_rfl) (fun _ _ _ h => h) (Or.inl ⟨by rfl, ?_⟩) (by assumption) ?_
                          rotate_left
                          · intro w hSw; (try dsimp only at hSw); go_simp; (try with_reducible rfl)
                          try simp only [Act.put, List.setIfInBounds_toArray, List.set_cons_zero, List.set_cons_succ]
                          refine wpAnyH_step (i := 2) (d := some 204) (v := ?_) rfl rfl (by kernel_rfl) (by kernel_rfl) (by kernel_rfl) (fun _ _ _ h => h) (Or.inl ⟨by rfl, ?_⟩) (by assumption) ?_
                          rotate_left
                          · intro w hSw; (try dsimp only at hSw); go_simp; (try with_reducible rfl)
                          try simp only [Act.put, List.setIfInBounds_toArray, List.set_cons_zero, List.set_cons_succ]
                          refine wpAnyH_step (i := 3) (d := some 205) (v := ?_) rfl rfl (by kernel_rfl) (by kernel_rfl) (by kernel_rfl) (fun _ _ _ h => h) (Or.inl ⟨by rfl, ?_⟩) (by assumption) ?_
                          rotate_left
                          · intro w hSw; (try dsimp only at hSw); go_simp; (try with_reducible rfl)
                          try simp only [Act.put, List.setIfInBounds_toArray, List.set_cons_zero, List.set_cons_succ]
                          refine wpAnyH_step (i := 4) (d := some 206) (v := ?_) rfl rfl (by kernel_rfl) (by kernel_rfl) (by kernel_rfl) (fun _ _ _ h => h) (Or.inl ⟨by rfl, ?_⟩) (by assumption) ?_
                          rotate_left
                          · intro w hSw; (try dsimp only at hSw); go_simp; (try with_reducible rfl)
                          try simp only [Act.put, List.setIfInBounds_toArray, List.set_cons_zero, List.set_cons_succ]
                          refine wpAnyH_step (i := 5) (d := some 207) (v := ?_) rfl rfl (by kernel_rfl) (by kernel_rfl) (by kernel_rfl) (fun _ _ _ h => h) (Or.inl ⟨by rfl, ?_⟩) (by assumption) ?_
                          rotate_left
                          · intro w hSw; (try dsimp only at hSw); go_simp; (try with_reducible rfl)
                          try simp only [Act.put, List.setIfInBounds_toArray, List.set_cons_zero, List.set_cons_succ]
                          refine wpAnyH_step (i := 7) (d := some 209) (v := ?_) rfl rfl (by kernel_rfl) (by kernel_rfl) (by kernel_rfl) (fun _ _ _ h => h) (Or.inl ⟨by rfl, ?_⟩) (by assumption) ?_
                          rotate_left
                          · intro w hSw; (try dsimp only at hSw); go_simp; (try with_reducible rfl)
                          try simp only [Act.put, List.setIfInBounds_toArray, List.set_cons_zero, List.set_cons_succ]
                          refine wpAnyH_step (i := 8) (d := some 210) (v := ?_) rfl rfl (by kernel_rfl) (by kernel_rfl) (by kernel_rfl) (fun _ _ _ h => h) (Or.inl ⟨by rfl, ?_⟩) (by assumption) ?_
                          rotate_left
                          · intro w hSw; (try dsimp only at hSw); go_simp; (try with_reducible rfl)
                          try simp only [Act.put, List.setIfInBounds_toArray, List.set_cons_zero, List.set_cons_succ]
                          refine wpAnyH_step (i := 9) (d := some 211) (v := ?_) rfl rfl (by kernel_rfl) (by kernel_rfl) (by kernel_rfl) (fun _ _ _ h => h) (Or.inl ⟨by rfl, ?_⟩) (by assumption) ?_
                          rotate_left
                          · intro w hSw; (try dsimp only at hSw); go_simp; (try with_reducible rfl)
                          try simp only [Act.put, List.setIfInBounds_toArray, List.set_cons_zero, List.set_cons_succ]
                          refine wpAnyH_step (i := 10) (d := some 212) (v := ?_) rfl rfl (by kernel_rfl) (by kernel_rfl) (by kernel_rfl) (fun _ _ _ h => h) (Or.inl ⟨by rfl, ?_⟩) (by assumption) ?_
                          rotate_left
                          · intro w hSw; (try dsimp only at hSw); go_simp; (try with_reducible rfl)
                          try simp only [Act.put, List.setIfInBounds_toArray, List.set_cons_zero, List.set_cons_succ]
                          refine wpAnyH_ready (rs := [6]) (by kernel_rfl) (by simp) ?_
                          refine AllReadyH.cons rfl (fun K hK => ?_) AllReadyH.nil
                          go_simp
                          refine (HN1.out _ (bel_call HBl.out hHeld.2)).mono ?_
                          rintro e w2 ⟨rfl, hb2⟩
                          have Hb2 := Lib.hid hb2
                          clear hb2
                          (try go_wp2_with fail)
                          refine hK.out _ _ ?_ (fun hHeld => ?_)
                          · exact HKB.out _ _ hHeld Hb2.out
                          clear hK K
                          try simp only [Act.put, List.setIfInBounds_toArray, List.set_cons_zero, List.set_cons_succ]
                          refine wpAnyH_step (i := 11) (d := some 213) (v := ?_) rfl rfl (by kernel_rfl) (by kernel_rfl) (by kernel_rfl) (fun _ _ _ h => h) (Or.inl ⟨by rfl, ?_⟩) (by assumption) ?_
                          rotate_left
                          · intro w hSw; (try dsimp only at hSw); go_simp; (try with_reducible rfl)
                          try simp only [Act.put, List.setIfInBounds_toArray, List.set_cons_zero, List.set_cons_succ]
                          refine wpAnyH_step (i := 12) (d := some 214) (v := ?_) rfl rfl (by kernel_rfl) (by kernel_rfl) (by kernel_rfl) (fun _ _ _ h => h) (Or.inl ⟨by rfl, ?_⟩) (by assumption) ?_
                          rotate_left
                          · intro w hSw; (try dsimp only at hSw); go_simp; (try with_reducible rfl)
                          try simp only [Act.put, List.setIfInBounds_toArray, List.set_cons_zero, List.set_cons_succ]
                          refine wpAnyH_step (i := 13) (d := some 215) (v := ?_) rfl rfl (by kernel_rfl) (by kernel_rfl) (by kernel_rfl) (fun _ _ _ h => h) (Or.inl ⟨by rfl, ?_⟩) (by assumption) ?_
                          rotate_left
                          · intro w hSw; (try dsimp only at hSw); go_simp; (try with_reducible rfl)
                          try simp only [Act.put, List.setIfInBounds_toArray, List.set_cons_zero, List.set_cons_succ]
                          refine wpAnyH_step (i := 14) (d := some 216) (v := ?_) rfl rfl (by kernel_rfl) (by kernel_rfl) (by kernel_rfl) (fun _ _ _ h => h) (Or.inl ⟨by rfl, ?_⟩) (by assumption) ?_
                          rotate_left
                          · intro w hSw; (try dsimp only at hSw); go_simp; (try with_reducible rfl)
                          try simp only [Act.put, List.setIfInBounds_toArray, List.set_cons_zero, List.set_cons_succ]
                          refine wpAnyH_step (i := 15) (d := some 217) (v := ?_) rfl rfl (by kernel_rfl) (by kernel_rfl) (by kernel_rfl) (fun _ _ _ h => h) (Or.inl ⟨by rfl, ?_⟩) (by assumption) ?_
                          rotate_left
                          · intro w hSw; (try dsimp only at hSw); go_simp; (try with_reducible rfl)
                          try simp only [Act.put, List.setIfInBounds_toArray, List.set_cons_zero, List.set_cons_succ]
                          refine wpAnyH_step (i := 16) (d := some 218) (v := ?_) rfl rfl (by kernel_rfl) (by kernel_rfl) (by kernel_rfl) (fun _ _ _ h => h) (Or.inl ⟨by rfl, ?_⟩) (by assumption) ?_
                          rotate_left
                          · intro w hSw; (try dsimp only at hSw); go_simp; (try with_reducible rfl)
                          try simp only [Act.put, List.setIfInBounds_toArray, List.set_cons_zero, List.set_cons_succ]
                          refine wpAnyH_step (i := 17) (d := some 219) (v := ?_) rfl rfl (by kernel_rfl) (by kernel_rfl) (by kernel_rfl) (fun _ _ _ h => h) (Or.inl ⟨by rfl, ?_⟩) (by assumption) ?_
                          rotate_left
                          · intro w hSw; (try dsimp only at hSw); go_simp; (try with_reducible rfl)
                          try simp only [Act.put, List.setIfInBounds_toArray, List.set_cons_zero, List.set_cons_succ]
                          refine wpAnyH_step (i := 18) (d := some 220) (v := ?_) rfl rfl (by kernel_rfl) (by kernel_rfl) (by kernel_rfl) (fun _ _ _ h => h) (Or.inl ⟨by rfl, ?_⟩) (by assumption) ?_
                          rotate_left
                          · intro w hSw; (try dsimp only at hSw); go_simp; (try with_reducible rfl)
                          try simp only [Act.put, List.setIfInBounds_toArray, List.set_cons_zero, List.set_cons_succ]
                          refine wpAnyH_step (i := 20) (d := some 222) (v := ?_) rfl rfl (by kernel_rfl) (by kernel_rfl) (by kernel_rfl) (fun _ _ _ h => h) (Or.inl ⟨by rfl, ?_⟩) (by assumption) ?_
                          rotate_left
                          · intro w hSw; (try dsimp only at hSw); go_simp; (try with_reducible rfl)
                          try simp only [Act.put, List.setIfInBounds_toArray, List.set_cons_zero, List.set_cons_succ]
                          refine wpAnyH_step (i := 21) (d := some 223) (v := ?_) rfl rfl (by kernel_rfl) (by kernel_rfl) (by kernel_rfl) (fun _ _ _ h => h) (Or.inl ⟨by rfl, ?_⟩) (by assumption) ?_
                          rotate_left
                          · intro w hSw; (try dsimp only at hSw); go_simp; (try with_reducible rfl)
                          try simp only [Act.put, List.setIfInBounds_toArray, List.set_cons_zero, List.set_cons_succ]
                          refine wpAnyH_step (i := 22) (d := some 224) (v := ?_) rfl rfl (by kernel_rfl) (by kernel_rfl) (by kernel_rfl) (fun _ _ _ h => h) (Or.inl ⟨by rfl, ?_⟩) (by assumption) ?_
                          rotate_left
                          · intro w hSw; (try dsimp only at hSw); go_simp; (try with_reducible rfl)
                          try simp only [Act.put, List.setIfInBounds_toArray, List.set_cons_zero, List.set_cons_succ]
                          refine wpAnyH_step (i := 23) (d := some 225) (v := ?_) rfl rfl (by kernel_rfl) (by kernel_rfl) (by kernel_rfl) (fun _ _ _ h => h) (Or.inl ⟨by rfl, ?_⟩) (by assumption) ?_
                          rotate_left
                          · intro w hSw; (try dsimp only at hSw); go_simp; (try with_reducible rfl)
                          try simp only [Act.put, List.setIfInBounds_toArray, List.set_cons_zero, List.set_cons_succ]
                          refine wpAnyH_ready (rs := [19]) (by kernel_rfl) (by simp) ?_
                          refine AllReadyH.cons rfl (fun K hK => ?_) AllReadyH.nil
                          go_simp
                          refine (HP1.out _ (bel_call HBl.out hHeld.2)).mono ?_
                          rintro e w2 ⟨rfl, hb2⟩
                          have Hb2 := Lib.hid hb2
                          clear hb2
                          (try go_wp2_with fail)
                          refine hK.out _ _ ?_ (fun hHeld => ?_)
                          · exact HKB.out _ _ hHeld Hb2.out
                          clear hK K
                          try simp only [Act.put, List.setIfInBounds_toArray, List.set_cons_zero, List.set_cons_succ]
                          refine wpAnyH_step (i := 24) (d := some 226) (v := ?_) rfl rfl (by kernel_rfl) (by kernel_rfl) (by kernel_rfl) (fun _ _ _ h => h) (Or.inl ⟨by rfl, ?_⟩) (by assumption) ?_
                          rotate_left
                          · intro w hSw; (try dsimp only at hSw); go_simp; (try with_reducible rfl)
                          try simp only [Act.put, List.setIfInBounds_toArray, List.set_cons_zero, List.set_cons_succ]
                          refine wpAnyH_step (i := 25) (d := some 227) (v := ?_) rfl rfl (by kernel_rfl) (by kernel_rfl) (by kernel_rfl) (fun _ _ _ h => h) (Or.inl ⟨by rfl, ?_⟩) (by assumption) ?_
                          rotate_left
                          · intro w hSw; (try dsimp only at hSw); go_simp; (try with_reducible rfl)
                          try simp only [Act.put, List.setIfInBounds_toArray, List.set_cons_zero, List.set_cons_succ]
                          refine wpAnyH_step (i := 26) (d := some 228) (v := ?_) rfl rfl (by kernel_rfl) (by kernel_rfl) (by kernel_rfl) (fun _ _ _ h => h) (Or.inl ⟨by rfl, ?_⟩) (by assumption) ?_
                          rotate_left
                          · intro w hSw; (try dsimp only at hSw); go_simp; (try with_reducible rfl)
                          try simp only [Act.put, List.setIfInBounds_toArray, List.set_cons_zero, List.set_cons_succ]
                          refine wpAnyH_step (i := 27) (d := some 229) (v := ?_) rfl rfl (by kernel_rfl) (by kernel_rfl) (by kernel_rfl) (fun _ _ _ h => h) (Or.inl ⟨by rfl, ?_⟩) (by assumption) ?_
                          rotate_left
                          · intro w hSw; (try dsimp only at hSw); go_simp; (try with_reducible rfl)
                          try simp only [Act.put, List.setIfInBounds_toArray, List.set_cons_zero, List.set_cons_succ]
                          refine wpAnyH_step (i := 28) (d := some 230) (v := ?_) rfl rfl (by kernel_rfl) (by kernel_rfl) (by kernel_rfl) (fun _ _ _ h => h) (Or.inl ⟨by rfl, ?_⟩) (by assumption) ?_
                          rotate_left
                          · intro w hSw; (try dsimp only at hSw); go_simp; (try with_reducible rfl)
                          try simp only [Act.put, List.setIfInBounds_toArray, List.set_cons_zero, List.set_cons_succ]
                          refine wpAnyH_step (i := 29) (d := some 231) (v := ?_) rfl rfl (by kernel_rfl) (by kernel_rfl) (by kernel_rfl) (fun _ _ _ h => h) (Or.inl ⟨by rfl, ?_⟩) (by assumption) ?_
                          rotate_left
                          · intro w hSw; (try dsimp only at hSw); go_simp; (try with_reducible rfl)
                          try simp only [Act.put, List.setIfInBounds_toArray, List.set_cons_zero, List.set_cons_succ]
                          refine wpAnyH_step (i := 30) (d := some 232) (v := undef) rfl rfl (by kernel_rfl) (by kernel_rfl) (by kernel_rfl) (fun _ _ _ h => h) (Or.inr ⟨by rfl, rfl⟩) (by assumption) ?_
                          try simp only [Act.put, List.setIfInBounds_toArray, List.set_cons_zero, List.set_cons_succ]
                          refine wpAnyH_step (i := 31) (d := some 233) (v := undef) rfl rfl (by kernel_rfl) (by kernel_rfl) (by kernel_rfl) (fun _ _ _ h => h) (Or.inr ⟨by rfl, rfl⟩) (by assumption) ?_
                          try simp only [Act.put, List.setIfInBounds_toArray, List.set_cons_zero, List.set_cons_succ]
                          refine wpAnyH_step (i := 32) (d := some 234) (v := undef) rfl rfl (by kernel_rfl) (by kernel_rfl) (by kernel_rfl) (fun _ _ _ h => h) (Or.inr ⟨by rfl, rfl⟩) (by assumption) ?_
                          try simp only [Act.put, List.setIfInBounds_toArray, List.set_cons_zero, List.set_cons_succ]
                          refine wpAnyH_step (i := 33) (d := some 235) (v := undef) rfl rfl (by kernel_rfl) (by kernel_rfl) (by kernel_rfl) (fun _ _ _ h => h) (Or.inr ⟨by rfl, rfl⟩) (by assumption) ?_
                          try simp only [Act.put, List.setIfInBounds_toArray, List.set_cons_zero, List.set_cons_succ]
                          refine wpAnyH_step (i := 34) (d := some 236) (v := undef) rfl rfl (by kernel_rfl) (by kernel_rfl) (by kernel_rfl) (fun _ _ _ h => h) (Or.inr ⟨by rfl, rfl⟩) (by assumption) ?_
                          try simp only [Act.put, List.setIfInBounds_toArray, List.set_cons_zero, List.set_cons_succ]
                          refine wpAnyH_step (i := 35) (d := some 237) (v := undef) rfl rfl (by kernel_rfl) (by kernel_rfl) (by kernel_rfl) (fun _ _ _ h => h) (Or.inr ⟨by rfl, rfl⟩) (by assumption) ?_
                          try simp only [Act.put, List.setIfInBounds_toArray, List.set_cons_zero, List.set_cons_succ]
                          refine wpAnyH_step (i := 37) (d := some 239) (v := undef) rfl rfl (by kernel_rfl) (by kernel_rfl) (by kernel_rfl) (fun _ _ _ h => h) (Or.inr ⟨by rfl, rfl⟩) (by assumption) ?_
                          try simp only [Act.put, List.setIfInBounds_toArray, List.set_cons_zero, List.set_cons_succ]
                          refine wpAnyH_step (i := 38) (d := some 240) (v := undef) rfl rfl (by kernel_rfl) (by kernel_rfl) (by kernel_rfl) (fun _ _ _ h => h) (Or.inr ⟨by rfl, rfl⟩) (by assumption) ?_
                          try simp only [Act.put, List.setIfInBounds_toArray, List.set_cons_zero, List.set_cons_succ]
                          refine wpAnyH_step (i := 39) (d := some 241) (v := undef) rfl rfl (by kernel_rfl) (by kernel_rfl) (by kernel_rfl) (fun _ _ _ h => h) (Or.inr ⟨by rfl, rfl⟩) (by assumption) ?_
                          try simp only [Act.put, List.setIfInBounds_toArray, List.set_cons_zero, List.set_cons_succ]
                          refine wpAnyH_step (i := 40) (d := some 242) (v := undef) rfl rfl (by kernel_rfl) (by kernel_rfl) (by kernel_rfl) (fun _ _ _ h => h) (Or.inr ⟨by rfl, rfl⟩) (by assumption) ?_
                          try simp only [Act.put, List.setIfInBounds_toArray, List.set_cons_zero, List.set_cons_succ]
                          refine wpAnyH_step (i := 36) (d := some 238) (v := undef) rfl rfl (by kernel_rfl) (by kernel_rfl) (by kernel_rfl) (fun _ _ _ h => h) (Or.inr ⟨by rfl, rfl⟩) (by assumption) ?_
                          try simp only [Act.put, List.setIfInBounds_toArray, List.set_cons_zero, List.set_cons_succ]
                          refine wpAnyH_step (i := 41) (d := some 243) (v := undef) rfl rfl (by kernel_rfl) (by kernel_rfl) (by kernel_rfl) (fun _ _ _ h => h) (Or.inr ⟨by rfl, rfl⟩) (by assumption) ?_
                          try simp only [Act.put, List.setIfInBounds_toArray, List.set_cons_zero, List.set_cons_succ]
                          refine wpAnyH_step (i := 42) (d := some 244) (v := undef) rfl rfl (by kernel_rfl) (by kernel_rfl) (by kernel_rfl) (fun _ _ _ h => h) (Or.inr ⟨by rfl, rfl⟩) (by assumption) ?_
                          try simp only [Act.put, List.setIfInBounds_toArray, List.set_cons_zero, List.set_cons_succ]
                          refine wpAnyH_step (i := 43) (d := some 245) (v := undef) rfl rfl (by kernel_rfl) (by kernel_rfl) (by kernel_rfl) (fun _ _ _ h => h) (Or.inr ⟨by rfl, rfl⟩) (by assumption) ?_
                          try simp only [Act.put, List.setIfInBounds_toArray, List.set_cons_zero, List.set_cons_succ]
                          refine wpAnyH_step (i := 44) (d := some 246) (v := undef) rfl rfl (by kernel_rfl) (by kernel_rfl) (by kernel_rfl) (fun _ _ _ h => h) (Or.inr ⟨by rfl, rfl⟩) (by assumption) ?_
                          try simp only [Act.put, List.setIfInBounds_toArray, List.set_cons_zero, List.set_cons_succ]
                          refine wpAnyH_step (i := 45) (d := some 247) (v := undef) rfl rfl (by kernel_rfl) (by kernel_rfl) (by kernel_rfl) (fun _ _ _ h => h) (Or.inr ⟨by rfl, rfl⟩) (by assumption) ?_
                          try simp only [Act.put, List.setIfInBounds_toArray, List.set_cons_zero, List.set_cons_succ]
                          refine wpAnyH_step (i := 46) (d := some 248) (v := undef) rfl rfl (by kernel_rfl) (by kernel_rfl) (by kernel_rfl) (fun _ _ _ h => h) (Or.inr ⟨by rfl, rfl⟩) (by assumption) ?_
                          try simp only [Act.put, List.setIfInBounds_toArray, List.set_cons_zero, List.set_cons_succ]
                          refine wpAnyH_step (i := 47) (d := some 249) (v := undef) rfl rfl (by kernel_rfl) (by kernel_rfl) (by kernel_rfl) (fun _ _ _ h => h) (Or.inr ⟨by rfl, rfl⟩) (by assumption) ?_
                          try simp only [Act.put, List.setIfInBounds_toArray, List.set_cons_zero, List.set_cons_succ]
                          refine wpAnyH_step (i := 49) (d := some 251) (v := undef) rfl rfl (by kernel_rfl) (by kernel_rfl) (by kernel_rfl) (fun _ _ _ h => h) (Or.inr ⟨by rfl, rfl⟩) (by assumption) ?_
                          try simp only [Act.put, List.setIfInBounds_toArray, List.set_cons_zero, List.set_cons_succ]
                          refine wpAnyH_step (i := 50) (d := some 252) (v := undef) rfl rfl (by kernel_rfl) (by kernel_rfl) (by kernel_rfl) (fun _ _ _ h => h) (Or.inr ⟨by rfl, rfl⟩) (by assumption) ?_
                          try simp only [Act.put, List.setIfInBounds_toArray, List.set_cons_zero, List.set_cons_succ]
                          refine wpAnyH_step (i := 51) (d := some 253) (v := undef) rfl rfl (by kernel_rfl) (by kernel_rfl) (by kernel_rfl) (fun _ _ _ h => h) (Or.inr ⟨by rfl, rfl⟩) (by assumption) ?_
                          try simp only [Act.put, List.setIfInBounds_toArray, List.set_cons_zero, List.set_cons_succ]
                          refine wpAnyH_step (i := 52) (d := some 254) (v := undef) rfl rfl (by kernel_rfl) (by kernel_rfl) (by kernel_rfl) (fun _ _ _ h => h) (Or.inr ⟨by rfl, rfl⟩) (by assumption) ?_
                          try simp only [Act.put, List.setIfInBounds_toArray, List.set_cons_zero, List.set_cons_succ]
                          refine wpAnyH_step (i := 53) (d := some 255) (v := undef) rfl rfl (by kernel_rfl) (by kernel_rfl) (by kernel_rfl) (fun _ _ _ h => h) (Or.inr ⟨by rfl, rfl⟩) (by assumption) ?_
                          try simp only [Act.put, List.setIfInBounds_toArray, List.set_cons_zero, List.set_cons_succ]
                          refine wpAnyH_step (i := 48) (d := some 250) (v := undef) rfl rfl (by kernel_rfl) (by kernel_rfl) (by kernel_rfl) (fun _ _ _ h => h) (Or.inr ⟨by rfl, rfl⟩) (by assumption) ?_
                          try simp only [Act.put, List.setIfInBounds_toArray, List.set_cons_zero, List.set_cons_succ]
                          refine wpAnyH_step (i := 54) (d := some 256) (v := undef) rfl rfl (by kernel_rfl) (by kernel_rfl) (by kernel_rfl) (fun _ _ _ h => h) (Or.inr ⟨by rfl, rfl⟩) (by assumption) ?_
                          try simp only [Act.put, List.setIfInBounds_toArray, List.set_cons_zero, List.set_cons_succ]
                          refine wpAnyH_step (i := 55) (d := some 257) (v := undef) rfl rfl (by kernel_rfl) (by kernel_rfl) (by kernel_rfl) (fun _ _ _ h => h) (Or.inr ⟨by rfl, rfl⟩) (by assumption) ?_
                          try simp only [Act.put, List.setIfInBounds_toArray, List.set_cons_zero, List.set_cons_succ]
                          refine wpAnyH_step (i := 56) (d := some 258) (v := ?_) rfl rfl (by kernel_rfl) (by kernel_rfl) (by kernel_rfl) (fun _ _ _ h => h) (Or.inl ⟨by rfl, ?_⟩) (by assumption) ?_
                          rotate_left
                          · intro w hSw; (try dsimp only at hSw); go_simp; (try with_reducible rfl)
                          try simp only [Act.put, List.setIfInBounds_toArray, List.set_cons_zero, List.set_cons_succ]
                          refine wpAnyH_step (i := 57) (d := some 259) (v := ?_) rfl rfl (by kernel_rfl) (by kernel_rfl) (by kernel_rfl) (fun _ _ _ h => h) (Or.inl ⟨by rfl, ?_⟩) (by assumption) ?_
                          rotate_left
                          · intro w hSw; (try dsimp only at hSw); go_simp; (try with_reducible rfl)
                          try simp only [Act.put, List.setIfInBounds_toArray, List.set_cons_zero, List.set_cons_succ]
                          refine wpAnyH_done (by kernel_rfl) ?_ _
                          have HX := Lib.hid hHeld.2
                          clear hHeld
                          go_wp2_with fail
                          go_roundw
                          case rel => exact ⟨k3 + 1, by omega, by go_num, HX.out⟩
                          case measure => simp [intOf]; omega
                        · have hpre : ∃ k' : Nat, (k' : Int) = (k3 : Int) - 1 ∧ k' < m ∧ ∃ (h' : k' < L.length), nextIn L c (L[k']) = L[k3] ∧ prevIn L L[k3] = L[k'] := by
                            obtain ⟨k', rfl⟩ : ∃ k' : Nat, k3 = k' + 1 := ⟨k3 - 1, by omega⟩
                            exact ⟨k', by push_cast; omega, by omega, by omega, HSbL.out k' hkL⟩
                          obtain ⟨k', hk'1, hk'2, h', e3, e4⟩ := hpre
                          have HN0 := Lib.hid (fun W (hb : Below wz.heap.size wz W) => e3 ▸ HNx.out (L[k']'h') W hb)
                          have HP0 := Lib.hid (fun W (hb : Below wz.heap.size wz W) => e4 ▸ HPv.out (L[k3]) W hb)
                          have d0 := hsc k' h'
                          have hw3 : IntKind.i64.wrap ((k3 : Int) - 1) = (k' : Int) := by rw [hk'1]; exact IntWalk.i64_in _ (by omega)
                          have q4 : 0 < (k3 : Int) := by omega
                          have q5 : decide (0 < k3) = true := decide_eq_true (by omega)
                          have q6 : (k' : Int) < (m : Int) := by omega
                          rw [hs1] at d1 HN1 HP1 hw1 hw2 HN0 HP0
                          obtain ⟨s0, hs0⟩ : ∃ s0, L[k']'h' = s0 := ⟨_, rfl⟩
                          rw [hs0] at d0 HN0 HP0
                          clear e1 e2 e3 e4 hbd hs1 hs0 hsc hsx hk0 HNx HPv HStL HSbL HSmL hk'1
                          go_wp2_with fail
                          have HKB := Lib.hid (fun (W W2 : World) (hk : (W.cell? ⟨g, off + k3, none⟩ = some (.int .i64 s1) ∧ W.cell? ⟨g, off + k', none⟩ = some (.int .i64 s0)) ∧ Below wl.heap.size wl W) (hb : Below W.heap.size W W2) => (show (W2.cell? ⟨g, off + k3, none⟩ = some (.int .i64 s1) ∧ W2.cell? ⟨g, off + k', none⟩ = some (.int .i64 s0)) ∧ Below wl.heap.size wl W2 from ⟨⟨cellB hb hk.1.1, cellB hb hk.1.2⟩, bel_call hk.2 hb⟩))
                          refine wp_region_held_drew (S := fun W => (W.cell? ⟨g, off + k3, none⟩ = some (.int .i64 s1) ∧ W.cell? ⟨g, off + k', none⟩ = some (.int .i64 s0)) ∧ Below wl.heap.size wl W) (by kernel_rfl) ⟨⟨d1, d0⟩, bel_call Hbq.out (bel_drew1 _)⟩ (fun hHeld => ?_)
                          refine wpAnyH_step (i := 0) (d := some 202) (v := ?_) rfl rfl (by kernel_rfl) (by kernel_rfl) (by kernel_rfl) (fun _ _ _ h => h) (Or.inl ⟨by rfl, ?_⟩) (by assumption) ?_
                          rotate_left
                          · intro w hSw; (try dsimp only at hSw); go_simp; (try with_reducible rfl)
                          try simp only [Act.put, List.setIfInBounds_toArray, List.set_cons_zero, List.set_cons_succ]
                          refine wpAnyH_step (i := 1) (d := some 203) (v := ?_) rfl rfl (by kernel_rfl) (by kernel_rfl) (by kernel_rfl) (fun _ _ _ h => h) (Or.inl ⟨by rfl, ?_⟩) (by assumption) ?_
                          rotate_left
                          · intro w hSw; (try dsimp only at hSw); go_simp; (try with_reducible rfl)
                          try simp only [Act.put, List.setIfInBounds_toArray, List.set_cons_zero, List.set_cons_succ]
                          refine wpAnyH_step (i := 2) (d := some 204) (v := ?_) rfl rfl (by kernel_rfl) (by kernel_rfl) (by kernel_rfl) (fun _ _ _ h => h) (Or.inl ⟨by rfl, ?_⟩) (by assumption) ?_
                          rotate_left
                          · intro w hSw; (try dsimp only at hSw); go_simp; (try with_reducible rfl)
                          try simp only [Act.put, List.setIfInBounds_toArray, List.set_cons_zero, List.set_cons_succ]
                          refine wpAnyH_step (i := 3) (d := some 205) (v := ?_) rfl rfl (by kernel_rfl) (by kernel_rfl) (by kernel_rfl) (fun _ _ _ h => h) (Or.inl ⟨by rfl, ?_⟩) (by assumption) ?_
                          rotate_left
                          · intro w hSw; (try dsimp only at hSw); go_simp; (try with_reducible rfl)
                          try simp only [Act.put, List.setIfInBounds_toArray, List.set_cons_zero, List.set_cons_succ]
                          refine wpAnyH_step (i := 4) (d := some 206) (v := ?_) rfl rfl (by kernel_rfl) (by kernel_rfl) (by kernel_rfl) (fun _ _ _ h => h) (Or.inl ⟨by rfl, ?_⟩) (by assumption) ?_
                          rotate_left
                          · intro w hSw; (try dsimp only at hSw); go_simp; (try with_reducible rfl)
                          try simp only [Act.put, List.setIfInBounds_toArray, List.set_cons_zero, List.set_cons_succ]
                          refine wpAnyH_step (i := 5) (d := some 207) (v := ?_) rfl rfl (by kernel_rfl) (by kernel_rfl) (by kernel_rfl) (fun _ _ _ h => h) (Or.inl ⟨by rfl, ?_⟩) (by assumption) ?_
                          rotate_left
                          · intro w hSw; (try dsimp only at hSw); go_simp; (try with_reducible rfl)
                          try simp only [Act.put, List.setIfInBounds_toArray, List.set_cons_zero, List.set_cons_succ]
                          refine wpAnyH_step (i := 7) (d := some 209) (v := ?_) rfl rfl (by kernel_rfl) (by kernel_rfl) (by kernel_rfl) (fun _ _ _ h => h) (Or.inl ⟨by rfl, ?_⟩) (by assumption) ?_
                          rotate_left
                          · intro w hSw; (try dsimp only at hSw); go_simp; (try with_reducible rfl)
                          try simp only [Act.put, List.setIfInBounds_toArray, List.set_cons_zero, List.set_cons_succ]
                          refine wpAnyH_step (i := 8) (d := some 210) (v := ?_) rfl rfl (by kernel_rfl) (by kernel_rfl) (by kernel_rfl) (fun _ _ _ h => h) (Or.inl ⟨by rfl, ?_⟩) (by assumption) ?_
                          rotate_left
                          · intro w hSw; (try dsimp only at hSw); go_simp; (try with_reducible rfl)
                          try simp only [Act.put, List.setIfInBounds_toArray, List.set_cons_zero, List.set_cons_succ]
                          refine wpAnyH_step (i := 9) (d := some 211) (v := ?_) rfl rfl (by kernel_rfl) (by kernel_rfl) (by kernel_rfl) (fun _ _ _ h => h) (Or.inl ⟨by rfl, ?_⟩) (by assumption) ?_
                          rotate_left
                          · intro w hSw; (try dsimp only at hSw); go_simp; (try with_reducible rfl)
                          try simp only [Act.put, List.setIfInBounds_toArray, List.set_cons_zero, List.set_cons_succ]
                          refine wpAnyH_step (i := 10) (d := some 212) (v := ?_) rfl rfl (by kernel_rfl) (by kernel_rfl) (by kernel_rfl) (fun _ _ _ h => h) (Or.inl ⟨by rfl, ?_⟩) (by assumption) ?_
                          rotate_left
                          · intro w hSw; (try dsimp only at hSw); go_simp; (try with_reducible rfl)
                          try simp only [Act.put, List.setIfInBounds_toArray, List.set_cons_zero, List.set_cons_succ]
                          refine wpAnyH_ready (rs := [6]) (by kernel_rfl) (by simp) ?_
                          refine AllReadyH.cons rfl (fun K hK => ?_) AllReadyH.nil
                          go_simp
                          refine (HN1.out _ (bel_call HBl.out hHeld.2)).mono ?_
                          rintro e w2 ⟨rfl, hb2⟩
                          have Hb2 := Lib.hid hb2
                          clear hb2
                          (try go_wp2_with fail)
                          refine hK.out _ _ ?_ (fun hHeld => ?_)
                          · exact HKB.out _ _ hHeld Hb2.out
                          clear hK K
                          try simp only [Act.put, List.setIfInBounds_toArray, List.set_cons_zero, List.set_cons_succ]
                          refine wpAnyH_step (i := 11) (d := some 213) (v := ?_) rfl rfl (by kernel_rfl) (by kernel_rfl) (by kernel_rfl) (fun _ _ _ h => h) (Or.inl ⟨by rfl, ?_⟩) (by assumption) ?_
                          rotate_left
                          · intro w hSw; (try dsimp only at hSw); go_simp; (try with_reducible rfl)
                          try simp only [Act.put, List.setIfInBounds_toArray, List.set_cons_zero, List.set_cons_succ]
                          refine wpAnyH_step (i := 12) (d := some 214) (v := ?_) rfl rfl (by kernel_rfl) (by kernel_rfl) (by kernel_rfl) (fun _ _ _ h => h) (Or.inl ⟨by rfl, ?_⟩) (by assumption) ?_
                          rotate_left
                          · intro w hSw; (try dsimp only at hSw); go_simp; (try with_reducible rfl)
                          try simp only [Act.put, List.setIfInBounds_toArray, List.set_cons_zero, List.set_cons_succ]
                          refine wpAnyH_step (i := 13) (d := some 215) (v := ?_) rfl rfl (by kernel_rfl) (by kernel_rfl) (by kernel_rfl) (fun _ _ _ h => h) (Or.inl ⟨by rfl, ?_⟩) (by assumption) ?_
                          rotate_left
                          · intro w hSw; (try dsimp only at hSw); go_simp; (try with_reducible rfl)
                          try simp only [Act.put, List.setIfInBounds_toArray, List.set_cons_zero, List.set_cons_succ]
                          refine wpAnyH_step (i := 14) (d := some 216) (v := ?_) rfl rfl (by kernel_rfl) (by kernel_rfl) (by kernel_rfl) (fun _ _ _ h => h) (Or.inl ⟨by rfl, ?_⟩) (by assumption) ?_
                          rotate_left
                          · intro w hSw; (try dsimp only at hSw); go_simp; (try with_reducible rfl)
                          try simp only [Act.put, List.setIfInBounds_toArray, List.set_cons_zero, List.set_cons_succ]
                          refine wpAnyH_step (i := 15) (d := some 217) (v := ?_) rfl rfl (by kernel_rfl) (by kernel_rfl) (by kernel_rfl) (fun _ _ _ h => h) (Or.inl ⟨by rfl, ?_⟩) (by assumption) ?_
                          rotate_left
                          · intro w hSw; (try dsimp only at hSw); go_simp; (try with_reducible rfl)
                          try simp only [Act.put, List.setIfInBounds_toArray, List.set_cons_zero, List.set_cons_succ]
                          refine wpAnyH_step (i := 16) (d := some 218) (v := ?_) rfl rfl (by kernel_rfl) (by kernel_rfl) (by kernel_rfl) (fun _ _ _ h => h) (Or.inl ⟨by rfl, ?_⟩) (by assumption) ?_
                          rotate_left
                          · intro w hSw; (try dsimp only at hSw); go_simp; (try with_reducible rfl)
                          try simp only [Act.put, List.setIfInBounds_toArray, List.set_cons_zero, List.set_cons_succ]
                          refine wpAnyH_step (i := 17) (d := some 219) (v := ?_) rfl rfl (by kernel_rfl) (by kernel_rfl) (by kernel_rfl) (fun _ _ _ h => h) (Or.inl ⟨by rfl, ?_⟩) (by assumption) ?_
                          rotate_left
                          · intro w hSw; (try dsimp only at hSw); go_simp; (try with_reducible rfl)
                          try simp only [Act.put, List.setIfInBounds_toArray, List.set_cons_zero, List.set_cons_succ]
                          refine wpAnyH_step (i := 18) (d := some 220) (v := ?_) rfl rfl (by kernel_rfl) (by kernel_rfl) (by kernel_rfl) (fun _ _ _ h => h) (Or.inl ⟨by rfl, ?_⟩) (by assumption) ?_
                          rotate_left
                          · intro w hSw; (try dsimp only at hSw); go_simp; (try with_reducible rfl)
                          try simp only [Act.put, List.setIfInBounds_toArray, List.set_cons_zero, List.set_cons_succ]
                          refine wpAnyH_step (i := 20) (d := some 222) (v := ?_) rfl rfl (by kernel_rfl) (by kernel_rfl) (by kernel_rfl) (fun _ _ _ h => h) (Or.inl ⟨by rfl, ?_⟩) (by assumption) ?_
                          rotate_left
                          · intro w hSw; (try dsimp only at hSw); go_simp; (try with_reducible rfl)
                          try simp only [Act.put, List.setIfInBounds_toArray, List.set_cons_zero, List.set_cons_succ]
                          refine wpAnyH_step (i := 21) (d := some 223) (v := ?_) rfl rfl (by kernel_rfl) (by kernel_rfl) (by kernel_rfl) (fun _ _ _ h => h) (Or.inl ⟨by rfl, ?_⟩) (by assumption) ?_
                          rotate_left
                          · intro w hSw; (try dsimp only at hSw); go_simp; (try with_reducible rfl)
                          try simp only [Act.put, List.setIfInBounds_toArray, List.set_cons_zero, List.set_cons_succ]
                          refine wpAnyH_step (i := 22) (d := some 224) (v := ?_) rfl rfl (by kernel_rfl) (by kernel_rfl) (by kernel_rfl) (fun _ _ _ h => h) (Or.inl ⟨by rfl, ?_⟩) (by assumption) ?_
                          rotate_left
                          · intro w hSw; (try dsimp only at hSw); go_simp; (try with_reducible rfl)
                          try simp only [Act.put, List.setIfInBounds_toArray, List.set_cons_zero, List.set_cons_succ]
                          refine wpAnyH_step (i := 23) (d := some 225) (v := ?_) rfl rfl (by kernel_rfl) (by kernel_rfl) (by kernel_rfl) (fun _ _ _ h => h) (Or.inl ⟨by rfl, ?_⟩) (by assumption) ?_
                          rotate_left
                          · intro w hSw; (try dsimp only at hSw); go_simp; (try with_reducible rfl)
                          try simp only [Act.put, List.setIfInBounds_toArray, List.set_cons_zero, List.set_cons_succ]
                          refine wpAnyH_ready (rs := [19]) (by kernel_rfl) (by simp) ?_
                          refine AllReadyH.cons rfl (fun K hK => ?_) AllReadyH.nil
                          go_simp
                          refine (HP1.out _ (bel_call HBl.out hHeld.2)).mono ?_
                          rintro e w2 ⟨rfl, hb2⟩
                          have Hb2 := Lib.hid hb2
                          clear hb2
                          (try go_wp2_with fail)
                          refine hK.out _ _ ?_ (fun hHeld => ?_)
                          · exact HKB.out _ _ hHeld Hb2.out
                          clear hK K
                          try simp only [Act.put, List.setIfInBounds_toArray, List.set_cons_zero, List.set_cons_succ]
                          refine wpAnyH_step (i := 24) (d := some 226) (v := ?_) rfl rfl (by kernel_rfl) (by kernel_rfl) (by kernel_rfl) (fun _ _ _ h => h) (Or.inl ⟨by rfl, ?_⟩) (by assumption) ?_
                          rotate_left
                          · intro w hSw; (try dsimp only at hSw); go_simp; (try with_reducible rfl)
                          try simp only [Act.put, List.setIfInBounds_toArray, List.set_cons_zero, List.set_cons_succ]
                          refine wpAnyH_step (i := 25) (d := some 227) (v := ?_) rfl rfl (by kernel_rfl) (by kernel_rfl) (by kernel_rfl) (fun _ _ _ h => h) (Or.inl ⟨by rfl, ?_⟩) (by assumption) ?_
                          rotate_left
                          · intro w hSw; (try dsimp only at hSw); go_simp; (try with_reducible rfl)
                          try simp only [Act.put, List.setIfInBounds_toArray, List.set_cons_zero, List.set_cons_succ]
                          refine wpAnyH_step (i := 26) (d := some 228) (v := ?_) rfl rfl (by kernel_rfl) (by kernel_rfl) (by kernel_rfl) (fun _ _ _ h => h) (Or.inl ⟨by rfl, ?_⟩) (by assumption) ?_
                          rotate_left
                          · intro w hSw; (try dsimp only at hSw); go_simp; (try with_reducible rfl)
                          try simp only [Act.put, List.setIfInBounds_toArray, List.set_cons_zero, List.set_cons_succ]
                          refine wpAnyH_step (i := 27) (d := some 229) (v := ?_) rfl rfl (by kernel_rfl) (by kernel_rfl) (by kernel_rfl) (fun _ _ _ h => h) (Or.inl ⟨by rfl, ?_⟩) (by assumption) ?_
                          rotate_left
                          · intro w hSw; (try dsimp only at hSw); go_simp; (try with_reducible rfl)
                          try simp only [Act.put, List.setIfInBounds_toArray, List.set_cons_zero, List.set_cons_succ]
                          refine wpAnyH_step (i := 28) (d := some 230) (v := ?_) rfl rfl (by kernel_rfl) (by kernel_rfl) (by kernel_rfl) (fun _ _ _ h => h) (Or.inl ⟨by rfl, ?_⟩) (by assumption) ?_
                          rotate_left
                          · intro w hSw; (try dsimp only at hSw); go_simp; (try with_reducible rfl)
                          try simp only [Act.put, List.setIfInBounds_toArray, List.set_cons_zero, List.set_cons_succ]
                          refine wpAnyH_step (i := 29) (d := some 231) (v := ?_) rfl rfl (by kernel_rfl) (by kernel_rfl) (by kernel_rfl) (fun _ _ _ h => h) (Or.inl ⟨by rfl, ?_⟩) (by assumption) ?_
                          rotate_left
                          · intro w hSw; (try dsimp only at hSw); go_simp; (try with_reducible rfl)
                          try simp only [Act.put, List.setIfInBounds_toArray, List.set_cons_zero, List.set_cons_succ]
                          refine wpAnyH_step (i := 30) (d := some 232) (v := ?_) rfl rfl (by kernel_rfl) (by kernel_rfl) (by kernel_rfl) (fun _ _ _ h => h) (Or.inl ⟨by rfl, ?_⟩) (by assumption) ?_
                          rotate_left
                          · intro w hSw; (try dsimp only at hSw); go_simp; (try with_reducible rfl)
                          try simp only [Act.put, List.setIfInBounds_toArray, List.set_cons_zero, List.set_cons_succ]
                          refine wpAnyH_step (i := 31) (d := some 233) (v := ?_) rfl rfl (by kernel_rfl) (by kernel_rfl) (by kernel_rfl) (fun _ _ _ h => h) (Or.inl ⟨by rfl, ?_⟩) (by assumption) ?_
                          rotate_left
                          · intro w hSw; (try dsimp only at hSw); go_simp; (try with_reducible rfl)
                          try simp only [Act.put, List.setIfInBounds_toArray, List.set_cons_zero, List.set_cons_succ]
                          refine wpAnyH_step (i := 32) (d := some 234) (v := ?_) rfl rfl (by kernel_rfl) (by kernel_rfl) (by kernel_rfl) (fun _ _ _ h => h) (Or.inl ⟨by rfl, ?_⟩) (by assumption) ?_
                          rotate_left
                          · intro w hSw; (try dsimp only at hSw); go_simp; (try with_reducible rfl)
                          try simp only [Act.put, List.setIfInBounds_toArray, List.set_cons_zero, List.set_cons_succ]
                          refine wpAnyH_step (i := 33) (d := some 235) (v := ?_) rfl rfl (by kernel_rfl) (by kernel_rfl) (by kernel_rfl) (fun _ _ _ h => h) (Or.inl ⟨by rfl, ?_⟩) (by assumption) ?_
                          rotate_left
                          · intro w hSw; (try dsimp only at hSw); go_simp; (try with_reducible rfl)
                          try simp only [Act.put, List.setIfInBounds_toArray, List.set_cons_zero, List.set_cons_succ]
                          refine wpAnyH_step (i := 34) (d := some 236) (v := ?_) rfl rfl (by kernel_rfl) (by kernel_rfl) (by kernel_rfl) (fun _ _ _ h => h) (Or.inl ⟨by rfl, ?_⟩) (by assumption) ?_
                          rotate_left
                          · intro w hSw; (try dsimp only at hSw); go_simp; (try with_reducible rfl)
                          try simp only [Act.put, List.setIfInBounds_toArray, List.set_cons_zero, List.set_cons_succ]
                          refine wpAnyH_step (i := 35) (d := some 237) (v := ?_) rfl rfl (by kernel_rfl) (by kernel_rfl) (by kernel_rfl) (fun _ _ _ h => h) (Or.inl ⟨by rfl, ?_⟩) (by assumption) ?_
                          rotate_left
                          · intro w hSw; (try dsimp only at hSw); go_simp; (try with_reducible rfl)
                          try simp only [Act.put, List.setIfInBounds_toArray, List.set_cons_zero, List.set_cons_succ]
                          refine wpAnyH_step (i := 37) (d := some 239) (v := ?_) rfl rfl (by kernel_rfl) (by kernel_rfl) (by kernel_rfl) (fun _ _ _ h => h) (Or.inl ⟨by rfl, ?_⟩) (by assumption) ?_
                          rotate_left
                          · intro w hSw; (try dsimp only at hSw); go_simp; (try with_reducible rfl)
                          try simp only [Act.put, List.setIfInBounds_toArray, List.set_cons_zero, List.set_cons_succ]
                          refine wpAnyH_step (i := 38) (d := some 240) (v := ?_) rfl rfl (by kernel_rfl) (by kernel_rfl) (by kernel_rfl) (fun _ _ _ h => h) (Or.inl ⟨by rfl, ?_⟩) (by assumption) ?_
                          rotate_left
                          · intro w hSw; (try dsimp only at hSw); go_simp; (try with_reducible rfl)
                          try simp only [Act.put, List.setIfInBounds_toArray, List.set_cons_zero, List.set_cons_succ]
                          refine wpAnyH_step (i := 39) (d := some 241) (v := ?_) rfl rfl (by kernel_rfl) (by kernel_rfl) (by kernel_rfl) (fun _ _ _ h => h) (Or.inl ⟨by rfl, ?_⟩) (by assumption) ?_
                          rotate_left
                          · intro w hSw; (try dsimp only at hSw); go_simp; (try with_reducible rfl)
                          try simp only [Act.put, List.setIfInBounds_toArray, List.set_cons_zero, List.set_cons_succ]
                          refine wpAnyH_step (i := 40) (d := some 242) (v := ?_) rfl rfl (by kernel_rfl) (by kernel_rfl) (by kernel_rfl) (fun _ _ _ h => h) (Or.inl ⟨by rfl, ?_⟩) (by assumption) ?_
                          rotate_left
                          · intro w hSw; (try dsimp only at hSw); go_simp; (try with_reducible rfl)
                          try simp only [Act.put, List.setIfInBounds_toArray, List.set_cons_zero, List.set_cons_succ]
                          refine wpAnyH_ready (rs := [36]) (by kernel_rfl) (by simp) ?_
                          refine AllReadyH.cons rfl (fun K hK => ?_) AllReadyH.nil
                          go_simp
                          refine (HN0.out _ (bel_call HBl.out hHeld.2)).mono ?_
                          rintro e w2 ⟨rfl, hb2⟩
                          have Hb2 := Lib.hid hb2
                          clear hb2
                          (try go_wp2_with fail)
                          refine hK.out _ _ ?_ (fun hHeld => ?_)
                          · exact HKB.out _ _ hHeld Hb2.out
                          clear hK K
                          try simp only [Act.put, List.setIfInBounds_toArray, List.set_cons_zero, List.set_cons_succ]
                          refine wpAnyH_step (i := 41) (d := some 243) (v := ?_) rfl rfl (by kernel_rfl) (by kernel_rfl) (by kernel_rfl) (fun _ _ _ h => h) (Or.inl ⟨by rfl, ?_⟩) (by assumption) ?_
                          rotate_left
                          · intro w hSw; (try dsimp only at hSw); go_simp; (try with_reducible rfl)
                          try simp only [Act.put, List.setIfInBounds_toArray, List.set_cons_zero, List.set_cons_succ]
                          refine wpAnyH_step (i := 42) (d := some 244) (v := ?_) rfl rfl (by kernel_rfl) (by kernel_rfl) (by kernel_rfl) (fun _ _ _ h => h) (Or.inl ⟨by rfl, ?_⟩) (by assumption) ?_
                          rotate_left
                          · intro w hSw; (try dsimp only at hSw); go_simp; (try with_reducible rfl)
                          try simp only [Act.put, List.setIfInBounds_toArray, List.set_cons_zero, List.set_cons_succ]
                          refine wpAnyH_step (i := 43) (d := some 245) (v := ?_) rfl rfl (by kernel_rfl) (by kernel_rfl) (by kernel_rfl) (fun _ _ _ h => h) (Or.inl ⟨by rfl, ?_⟩) (by assumption) ?_
                          rotate_left
                          · intro w hSw; (try dsimp only at hSw); go_simp; (try with_reducible rfl)
                          try simp only [Act.put, List.setIfInBounds_toArray, List.set_cons_zero, List.set_cons_succ]
                          refine wpAnyH_step (i := 44) (d := some 246) (v := ?_) rfl rfl (by kernel_rfl) (by kernel_rfl) (by kernel_rfl) (fun _ _ _ h => h) (Or.inl ⟨by rfl, ?_⟩) (by assumption) ?_
                          rotate_left
                          · intro w hSw; (try dsimp only at hSw); go_simp; (try with_reducible rfl)
                          try simp only [Act.put, List.setIfInBounds_toArray, List.set_cons_zero, List.set_cons_succ]
                          refine wpAnyH_step (i := 45) (d := some 247) (v := ?_) rfl rfl (by kernel_rfl) (by kernel_rfl) (by kernel_rfl) (fun _ _ _ h => h) (Or.inl ⟨by rfl, ?_⟩) (by assumption) ?_
                          rotate_left
                          · intro w hSw; (try dsimp only at hSw); go_simp; (try with_reducible rfl)
                          try simp only [Act.put, List.setIfInBounds_toArray, List.set_cons_zero, List.set_cons_succ]
                          refine wpAnyH_step (i := 46) (d := some 248) (v := ?_) rfl rfl (by kernel_rfl) (by kernel_rfl) (by kernel_rfl) (fun _ _ _ h => h) (Or.inl ⟨by rfl, ?_⟩) (by assumption) ?_
                          rotate_left
                          · intro w hSw; (try dsimp only at hSw); go_simp; (try with_reducible rfl)
                          try simp only [Act.put, List.setIfInBounds_toArray, List.set_cons_zero, List.set_cons_succ]
                          refine wpAnyH_step (i := 47) (d := some 249) (v := ?_) rfl rfl (by kernel_rfl) (by kernel_rfl) (by kernel_rfl) (fun _ _ _ h => h) (Or.inl ⟨by rfl, ?_⟩) (by assumption) ?_
                          rotate_left
                          · intro w hSw; (try dsimp only at hSw); go_simp; (try with_reducible rfl)
                          try simp only [Act.put, List.setIfInBounds_toArray, List.set_cons_zero, List.set_cons_succ]
                          refine wpAnyH_step (i := 49) (d := some 251) (v := ?_) rfl rfl (by kernel_rfl) (by kernel_rfl) (by kernel_rfl) (fun _ _ _ h => h) (Or.inl ⟨by rfl, ?_⟩) (by assumption) ?_
                          rotate_left
                          · intro w hSw; (try dsimp only at hSw); go_simp; (try with_reducible rfl)
                          try simp only [Act.put, List.setIfInBounds_toArray, List.set_cons_zero, List.set_cons_succ]
                          refine wpAnyH_step (i := 50) (d := some 252) (v := ?_) rfl rfl (by kernel_rfl) (by kernel_rfl) (by kernel_rfl) (fun _ _ _ h => h) (Or.inl ⟨by rfl, ?_⟩) (by assumption) ?_
                          rotate_left
                          · intro w hSw; (try dsimp only at hSw); go_simp; (try with_reducible rfl)
                          try simp only [Act.put, List.setIfInBounds_toArray, List.set_cons_zero, List.set_cons_succ]
                          refine wpAnyH_step (i := 51) (d := some 253) (v := ?_) rfl rfl (by kernel_rfl) (by kernel_rfl) (by kernel_rfl) (fun _ _ _ h => h) (Or.inl ⟨by rfl, ?_⟩) (by assumption) ?_
                          rotate_left
                          · intro w hSw; (try dsimp only at hSw); go_simp; (try with_reducible rfl)
                          try simp only [Act.put, List.setIfInBounds_toArray, List.set_cons_zero, List.set_cons_succ]
                          refine wpAnyH_step (i := 52) (d := some 254) (v := ?_) rfl rfl (by kernel_rfl) (by kernel_rfl) (by kernel_rfl) (fun _ _ _ h => h) (Or.inl ⟨by rfl, ?_⟩) (by assumption) ?_
                          rotate_left
                          · intro w hSw; (try dsimp only at hSw); go_simp; (try with_reducible rfl)
                          try simp only [Act.put, List.setIfInBounds_toArray, List.set_cons_zero, List.set_cons_succ]
                          refine wpAnyH_step (i := 53) (d := some 255) (v := ?_) rfl rfl (by kernel_rfl) (by kernel_rfl) (by kernel_rfl) (fun _ _ _ h => h) (Or.inl ⟨by rfl, ?_⟩) (by assumption) ?_
                          rotate_left
                          · intro w hSw; (try dsimp only at hSw); go_simp; (try with_reducible rfl)
                          try simp only [Act.put, List.setIfInBounds_toArray, List.set_cons_zero, List.set_cons_succ]
                          refine wpAnyH_ready (rs := [48]) (by kernel_rfl) (by simp) ?_
                          refine AllReadyH.cons rfl (fun K hK => ?_) AllReadyH.nil
                          go_simp
                          refine (HP0.out _ (bel_call HBl.out hHeld.2)).mono ?_
                          rintro e w2 ⟨rfl, hb2⟩
                          have Hb2 := Lib.hid hb2
                          clear hb2
                          (try go_wp2_with fail)
                          refine hK.out _ _ ?_ (fun hHeld => ?_)
                          · exact HKB.out _ _ hHeld Hb2.out
                          clear hK K
                          try simp only [Act.put, List.setIfInBounds_toArray, List.set_cons_zero, List.set_cons_succ]
                          refine wpAnyH_step (i := 54) (d := some 256) (v := ?_) rfl rfl (by kernel_rfl) (by kernel_rfl) (by kernel_rfl) (fun _ _ _ h => h) (Or.inl ⟨by rfl, ?_⟩) (by assumption) ?_
                          rotate_left
                          · intro w hSw; (try dsimp only at hSw); go_simp; (try with_reducible rfl)
                          try simp only [Act.put, List.setIfInBounds_toArray, List.set_cons_zero, List.set_cons_succ]
                          refine wpAnyH_step (i := 55) (d := some 257) (v := ?_) rfl rfl (by kernel_rfl) (by kernel_rfl) (by kernel_rfl) (fun _ _ _ h => h) (Or.inl ⟨by rfl, ?_⟩) (by assumption) ?_
                          rotate_left
                          · intro w hSw; (try dsimp only at hSw); go_simp; (try with_reducible rfl)
                          try simp only [Act.put, List.setIfInBounds_toArray, List.set_cons_zero, List.set_cons_succ]
                          refine wpAnyH_step (i := 56) (d := some 258) (v := ?_) rfl rfl (by kernel_rfl) (by kernel_rfl) (by kernel_rfl) (fun _ _ _ h => h) (Or.inl ⟨by rfl, ?_⟩) (by assumption) ?_
                          rotate_left
                          · intro w hSw; (try dsimp only at hSw); go_simp; (try with_reducible rfl)
                          try simp only [Act.put, List.setIfInBounds_toArray, List.set_cons_zero, List.set_cons_succ]
                          refine wpAnyH_step (i := 57) (d := some 259) (v := ?_) rfl rfl (by kernel_rfl) (by kernel_rfl) (by kernel_rfl) (fun _ _ _ h => h) (Or.inl ⟨by rfl, ?_⟩) (by assumption) ?_
                          rotate_left
                          · intro w hSw; (try dsimp only at hSw); go_simp; (try with_reducible rfl)
                          try simp only [Act.put, List.setIfInBounds_toArray, List.set_cons_zero, List.set_cons_succ]
                          refine wpAnyH_done (by kernel_rfl) ?_ _
                          have HX := Lib.hid hHeld.2
                          clear hHeld
                          go_wp2_with fail
                          go_roundw
                          case rel => exact ⟨k3 + 1, by omega, by go_num, HX.out⟩
                          case measure => simp [intOf]; omega
                      · have q3 : ¬ (k3 : Int) < (m : Int) := by omega
                        go_wp2_with fail
                        refine (HA.out _).mono ?_
                        rintro e v4 ⟨rfl, hb4⟩
                        go_wp2_with fail
                        go_ret
                        exact ⟨rfl, bel_call (bel_call (bel_call HB0.out Hbw.out) (bel_call HBl.out Hbq.out)) hb4⟩
end Go.Proofs.Ytpjodppcedkneaa
