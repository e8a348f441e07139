/- RemapOrder: the law's walk. -/
import Derived.Test.YtnfpfpppnfighaaDoorRN
namespace Go.Proofs.YtnfpfpppnfighaaDoor
open Go.Shelf Go.RowKit Go.Maps
set_option linter.unusedVariables false
set_option linter.unusedSimpArgs false
set_option maxRecDepth 100000
/-- What a call leaves at its code. -/
def valO (x : OpD) : Option (List UInt8) := if mayB x.e x.n then (if x.t = [] then none else some x.t) else none
def tellM (m : MF) (x : OpD) : MF := if mayB x.e x.n then m.put x.e x.n (valO x) else m
/-- The map tells just the calls of S. -/
def Fits (l : List OpD) (m : MF) (S : Nat → Prop) : Prop := (∀ i (hi : i < l.length), S i → m l[i].e l[i].n = valO l[i]) ∧ ∀ e n, (∀ i (hi : i < l.length), S i → ¬ (l[i].e = e ∧ l[i].n = n)) → m e n = none
def Apart (l : List OpD) (k : Nat) : Prop := ∀ i (hi : i < l.length) j (hj : j < l.length), i < k → j < i → ¬ (l[j].e = l[i].e ∧ l[j].n = l[i].n)
theorem Apart.ne {l : List OpD} (h : Apart l l.length) {i j : Nat} (hi : i < l.length) (hj : j < l.length) (hij : i ≠ j) : ¬ (l[i].e = l[j].e ∧ l[i].n = l[j].n) := by
  rcases Nat.lt_or_gt_of_ne hij with h1 | h1
  · exact h j hj i hi hj h1
  · intro ⟨h2, h3⟩
    exact h i hi j hj hi h1 ⟨h2.symm, h3.symm⟩
theorem Fits.none (l : List OpD) (S : Nat → Prop) (h : ∀ i, i < l.length → ¬ S i) : Fits l (fun _ _ => Option.none) S := ⟨fun i hi hs => absurd hs (h i hi), fun _ _ _ => rfl⟩
theorem Fits.tell {l : List OpD} {m : MF} {S S' : Nat → Prop} (h : Fits l m S) (ha : Apart l l.length) (i : Nat) (hi : i < l.length) (hS : ¬ S i) (hS' : ∀ j, j < l.length → (S' j ↔ (S j ∨ j = i))) : Fits l (tellM m l[i]) S' := by
  have hno : m l[i].e l[i].n = Option.none := h.2 _ _ (fun j hj hs => ha.ne hj hi (fun e => hS (e ▸ hs)))
  constructor
  · intro j hj hs
    rcases (hS' j hj).1 hs with h1 | rfl
    · have hne : j ≠ i := fun e => hS (e ▸ h1)
      unfold tellM MF.put
      split
      · show (if l[j].e = l[i].e ∧ l[j].n = l[i].n then valO l[i] else m l[j].e l[j].n) = _
        rw [if_neg (ha.ne hj hi hne)]; exact h.1 j hj h1
      · exact h.1 j hj h1
    · unfold tellM MF.put
      split
      · show (if l[j].e = l[j].e ∧ l[j].n = l[j].n then valO l[j] else m l[j].e l[j].n) = _
        rw [if_pos ⟨rfl, rfl⟩]
      · next hm => rw [hno]; unfold valO; rw [if_neg hm]
  · intro e n hx
    have h1 : ¬ (e = l[i].e ∧ n = l[i].n) := fun ⟨h1, h2⟩ => hx i hi ((hS' i hi).2 (.inr rfl)) ⟨h1.symm, h2.symm⟩
    have h2 : m e n = Option.none := h.2 e n (fun j hj hs => hx j hj ((hS' j hj).2 (.inl hs)))
    unfold tellM MF.put
    split
    · show (if e = l[i].e ∧ n = l[i].n then valO l[i] else m e n) = _
      rw [if_neg h1]; exact h2
    · exact h2
theorem Fits.same {l : List OpD} {m m' : MF} {S S' : Nat → Prop} (h : Fits l m S) (h' : Fits l m' S') (hS : ∀ i, i < l.length → S i) (hS' : ∀ i, i < l.length → S' i) : m = m' := by
  funext e n
  by_cases hx : ∃ i, ∃ hi : i < l.length, l[i].e = e ∧ l[i].n = n
  · obtain ⟨i, hi, rfl, rfl⟩ := hx
    rw [h.1 i hi (hS i hi), h'.1 i hi (hS' i hi)]
  · rw [h.2 e n (fun i hi _ he => hx ⟨i, hi, he⟩), h'.2 e n (fun i hi _ he => hx ⟨i, hi, he⟩)]
/-- With room, Set just tells. -/
theorem set_roomy (m : MF) (over : Bool) (x : OpD) (k : Nat) (hk : k ≤ 20) (ht : tot m ≤ 103 * k) (hl : x.t.length ≤ 100) :
    setM 4096 m x.e x.n x.t = tellM m x ∧ setO 4096 m over x.e x.n x.t = over ∧ tot (tellM m x) ≤ 103 * (k + 1) := by
  unfold setM setO tellM valO
  by_cases hm : mayB x.e x.n = true
  · obtain ⟨a, ha, hlt⟩ : ∃ a : Nat, x.n = (a : Int) ∧ a < 256 := by
      have := hm
      unfold mayB at this
      simp only [Bool.and_eq_true, decide_eq_true_eq] at this
      exact ⟨x.n.toNat, by omega, by omega⟩
    simp only [hm, if_true]
    have h1 := tot_put m x.e a hlt none
    have h2 := tot_put m x.e a hlt (some x.t)
    have h3 := tot_ge m x.e a hlt
    rw [← ha] at h1 h2 h3
    rw [show costO Option.none = 0 from rfl] at h1
    rw [show costO (some x.t) = 3 + x.t.length from rfl] at h2
    by_cases hs : x.t = []
    · simp only [if_pos hs]
      exact ⟨trivial, trivial, by omega⟩
    · have ho : ¬ (4096 : Int) < (tot m : Int) - costO (m x.e x.n) + 3 + x.t.length := by omega
      simp only [if_neg hs, if_neg ho]
      exact ⟨trivial, trivial, by omega⟩
  · have hm' : mayB x.e x.n = false := by simpa using hm
    simp only [hm']
    exact ⟨by simp, by simp, by simp; omega⟩
theorem MObj.low {W : World} {base base' p b N : Nat} {most : Int} {m : MF} {over : Bool} (h : MObj W base p b N most m over) (hb : base' ≤ base) : MObj W base' p b N most m over := ⟨h.blk, h.map, by have := h.lo; omega⟩
set_option maxHeartbeats 4000000 in
theorem order_walk (w : World) (htab : Tab w) (lv : Value) (l : List OpD) (hL : OpsAt w lv l) :
    Calls Tryd.prog 7 #[lv] w fun e w' => e = .returned (.bool true) ∧ Below w.heap.size w w' := by
  have HA := Lib.hid (fun W (hb : Below w.heap.size w W) => awake_any W (tab_below htab W hb))
  have HOps := Lib.hid hL
  obtain ⟨ad, cap, hlv, -⟩ := id hL
  have HNew := Lib.hid (fun W => new_any W 4096 (by omega) (by omega))
  have Hlv := Lib.hid hlv
  obtain ⟨N, hN⟩ : ∃ N, l.length = N := ⟨_, rfl⟩
  have HN := Lib.hid hN
  have hll : N ≤ 140737488351232 := by obtain ⟨_, _, _, _, _, h⟩ := hL; omega
  rw [hN] at hlv
  clear hL hN htab
  subst hlv
  have h0t : tot (fun _ _ => none) = 0 := by decide +kernel
  have H0t := Lib.hid h0t
  clear h0t
  go_enter Tryd.func7, Tryd.ntmps7
  go_wp2_with fail
  refine (HNew.out _).mono ?_
  rintro r w1 ⟨rfl, hO1, hb1⟩
  have hne1 := hO1.ne
  have hlt1 := hO1.lt
  have hlm1 := hO1.map.lt
  obtain ⟨p1, hp1⟩ : ∃ p, w.heap.size + 1 = p := ⟨_, rfl⟩
  obtain ⟨b1, hbb1⟩ : ∃ b, w.heap.size = b := ⟨_, rfl⟩
  rw [hp1] at hne1 hlt1 hO1 ⊢
  have hO1' : MObj w1 w.heap.size p1 b1 0 4096 (fun _ _ => none) false := by
    rw [← hbb1]; exact hO1
  have HO1 := Lib.hid hO1'
  have Hb1 := Lib.hid hb1
  have HB1 := Lib.hid (show w.heap.size ≤ p1 ∧ w.heap.size ≤ b1 ∧ p1 < w1.heap.size ∧ b1 < w1.heap.size from by omega)
  clear hO1 hO1' hb1 hne1 hlt1 hlm1 hp1 hbb1
  go_wp2_with fail
  refine (HNew.out _).mono ?_
  rintro r w2 ⟨rfl, hO2, hb2⟩
  obtain ⟨p2, hp2⟩ : ∃ p, w1.heap.size + 1 = p := ⟨_, rfl⟩
  obtain ⟨b2, hbb2⟩ : ∃ b, w1.heap.size = b := ⟨_, rfl⟩
  rw [hp2] at hO2 ⊢
  have hO2' : MObj w2 w1.heap.size p2 b2 0 4096 (fun _ _ => none) false := by
    rw [← hbb2]; exact hO2
  have HO2 := Lib.hid (hO2'.low Hb1.out.size)
  have HO1' := Lib.hid (HO1.out.later hb2)
  have Hb2 := Lib.hid (bel_call Hb1.out hb2)
  have HNE := Lib.hid (show p2 ≠ p1 ∧ p2 ≠ b1 ∧ b2 ≠ p1 ∧ b2 ≠ b1 from by have := HB1.out; omega)
  clear hO2 hO2' hb2 HO1 Hb1 HB1 hp2 hbb2 HNew
  by_cases h20 : 20 < N
  · have q0 : (20 : Int) < (N : Int) := by omega
    go_wp2_with fail
    refine (HA.out _ Hb2.out).mono ?_
    rintro r w3 ⟨rfl, hb3⟩
    go_wp2_with fail
    go_ret
    exact ⟨rfl, bel_call Hb2.out hb3⟩
  · have q0 : ¬ (20 : Int) < (N : Int) := by omega
    go_wp2_with fail
    go_loopw [7, 8] (fun i j wr => ∃ k : Nat, k ≤ N ∧ i = .int .i64 (k : Int) ∧ (Apart l k ∧ ∀ i (hi : i < l.length), i < k → l[i].t.length ≤ 100) ∧ Below w2.heap.size w2 wr) (fun i _ _ => N - (intOf i).toNat)
    case atStart => exact ⟨0, Nat.zero_le _, rfl, ⟨fun i hi j hj h => by omega, fun i hi h => by omega⟩, Below.refl _ _⟩
    case round =>
      obtain ⟨k, hk, rfl, hap, hbw⟩ := hrel
      have Hap := Lib.hid hap
      have Hbw := Lib.hid hbw
      clear hap hbw
      by_cases hlt : k < N
      · have q1 : (k : Int) < (N : Int) := by omega
        have hkL : k < l.length := by rw [HN.out]; exact hlt
        go_wp2_with fail
        go_loopw [8] (fun j wr => ∃ i : Nat, i ≤ k ∧ j = .int .i64 (i : Int) ∧ (∀ j (hj : j < l.length), j < i → ¬ (l[j].e = l[k].e ∧ l[j].n = l[k].n)) ∧ Below w2.heap.size w2 wr) (fun j _ => k - (intOf j).toNat)
        case atStart => exact ⟨0, Nat.zero_le _, rfl, fun j hj h => by omega, Hbw.out⟩
        case round =>
          obtain ⟨i, hi, rfl, hdi, hbv⟩ := hrel
          have Hdi := Lib.hid hdi
          have Hbv := Lib.hid hbv
          clear hdi hbv
          obtain ⟨g, off, rfl, ⟨d0, d1, d2, d3⟩, hok⟩ := ops_cell HOps.out (bel_call Hb2.out Hbv.out) Hlv.out k hkL
          by_cases hik : i < k
          · have q2 : (i : Int) < (k : Int) := by omega
            have q3 : (i : Int) < (N : Int) := by omega
            have hiL : i < l.length := by rw [HN.out]; omega
            obtain ⟨g', off', e', ⟨f0, f1, f2, f3⟩, hok'⟩ := ops_cell HOps.out (bel_call Hb2.out Hbv.out) Hlv.out i hiL
            simp only [Option.some.injEq, Addr.mk.injEq] at e'
            obtain ⟨rfl, rfl, -⟩ := e'
            have HX := Lib.hid (show l[i].e = l[i].e ∧ l[i].n = l[i].n ∧ l[k].e = l[k].e ∧ l[k].n = l[k].n from ⟨rfl, rfl, rfl, rfl⟩)
            have Hbd := Lib.hid (fun q => (show Below w2.heap.size w2 (wr.drewN q) from bel_drewN Hbv.out q))
            clear d0 d3 f0 f3 hok hok'
            by_cases hs : l[i].e = l[k].e ∧ l[i].n = l[k].n
            · obtain ⟨hs1, hs2⟩ := hs
              rw [hs1] at f1
              rw [hs2] at f2
              clear hs1 hs2 HX
              generalize l[k].e = E at *
              generalize l[k].n = R at *
              go_wp2_with fail
              go_quiet (fail)
              go_wp2_with fail
              refine (HA.out _ (bel_call Hb2.out (Hbd.out _))).mono ?_
              rintro r w3 ⟨rfl, hb3⟩
              go_wp2_with fail
              go_ret
              exact ⟨rfl, bel_call (bel_call Hb2.out (Hbd.out _)) hb3⟩
            · have HD := Lib.hid (show ∀ j (hj : j < l.length), j < i + 1 → ¬ (l[j].e = l[k].e ∧ l[j].n = l[k].n) from fun j hj h => by
                by_cases hji : j = i
                · subst hji; exact hs
                · exact Hdi.out j hj (by omega))
              have hs' : (l[i].e = !l[k].e) ∨ (l[i].e = l[k].e ∧ (l[i].n == l[k].n) = false) := by
                by_cases he : l[i].e = l[k].e
                · exact .inr ⟨he, by simpa using fun h => hs ⟨he, h⟩⟩
                · exact .inl (by revert he; cases l[i].e <;> cases l[k].e <;> simp)
              clear hs HX Hdi
              obtain ⟨E, hE⟩ : ∃ E, l[k].e = E := ⟨_, rfl⟩
              obtain ⟨R, hR⟩ : ∃ R, l[k].n = R := ⟨_, rfl⟩
              obtain ⟨E', hE'⟩ : ∃ E', l[i].e = E' := ⟨_, rfl⟩
              obtain ⟨R', hR'⟩ : ∃ R', l[i].n = R' := ⟨_, rfl⟩
              rw [hE] at d1 hs'
              rw [hR] at d2 hs'
              rw [hE'] at f1 hs'
              rw [hR'] at f2 hs'
              clear hE hR hE' hR'
              rcases hs' with rfl | ⟨rfl, hR⟩
              · cases E
                all_goals (
                  simp only [Bool.not_true, Bool.not_false] at f1
                  go_wp2_with fail
                  go_quiet (fail)
                  go_wp2_with fail
                  go_roundw
                  case rel => exact ⟨i + 1, by omega, by go_num, HD.out, Hbd.out _⟩
                  case measure => simp [intOf]; omega)
              · go_wp2_with fail
                go_quiet (fail)
                go_wp2_with fail
                go_roundw
                case rel => exact ⟨i + 1, by omega, by go_num, HD.out, Hbd.out _⟩
                case measure => simp [intOf]; omega
          · have q2 : ¬ (i : Int) < (k : Int) := by omega
            obtain rfl : i = k := by omega
            have hz : (st l[i].t).size = l[i].t.length := st_size _
            have htl : l[i].t.length ≤ 140737488351232 := hok.2
            have HAp := Lib.hid (show l[i].t.length ≤ 100 → (Apart l (i + 1) ∧ ∀ j (hj : j < l.length), j < i + 1 → l[j].t.length ≤ 100) from fun h100 => by
              refine ⟨fun a ha b hb h1 h2 => ?_, fun a ha h1 => ?_⟩
              · by_cases hai : a = i
                · subst hai; exact Hdi.out b hb h2
                · exact Hap.out.1 a ha b hb (by omega) h2
              · by_cases hai : a = i
                · subst hai; exact h100
                · exact Hap.out.2 a ha (by omega))
            obtain ⟨S, hS⟩ : ∃ S, st l[i].t = S := ⟨_, rfl⟩
            obtain ⟨L, hLt⟩ : ∃ L, l[i].t.length = L := ⟨_, rfl⟩
            rw [hS] at d3 hz
            rw [hLt] at hz htl HAp
            clear d0 d1 d2 hok hS hLt Hdi
            by_cases h100 : 100 < L
            · have q3 : (100 : Int) < (L : Int) := by omega
              go_wp2_with fail
              refine (HA.out _ (bel_call Hb2.out Hbv.out)).mono ?_
              rintro r w3 ⟨rfl, hb3⟩
              go_wp2_with fail
              go_ret
              exact ⟨rfl, bel_call (bel_call Hb2.out Hbv.out) hb3⟩
            · have q3 : ¬ (100 : Int) < (L : Int) := by omega
              go_wp2_with fail
              go_roundw
              case rel => exact ⟨i + 1, by omega, by go_num, HAp.out (by omega), Hbv.out⟩
              case measure => simp [intOf]; omega
      · have q1 : ¬ (k : Int) < (N : Int) := by omega
        obtain rfl : k = N := by omega
        have hap : Apart l l.length ∧ ∀ i (hi : i < l.length), l[i].t.length ≤ 100 := by
          exact ⟨by rw [HN.out]; exact Hap.out.1, fun i hi => Hap.out.2 i hi (by have := HN.out; omega)⟩
        have HAp := Lib.hid hap
        clear hap Hap
        have H1 := Lib.hid (show MObj wr w.heap.size p1 b1 0 4096 (fun _ _ => none) false ∧ MObj wr w.heap.size p2 b2 0 4096 (fun _ _ => none) false ∧ Below w.heap.size w wr from ⟨HO1'.out.later Hbw.out, HO2.out.later Hbw.out, bel_call Hb2.out Hbw.out⟩)
        clear Hbw HO1' HO2 Hb2
        go_wp2_with fail
        go_loopw [9] (fun i wr => ∃ (j N1 N2 : Nat) (m1 m2 : MF), j ≤ k ∧ N1 ≤ j ∧ N2 ≤ j ∧ i = .int .i64 (j : Int) ∧ MObj wr w.heap.size p1 b1 N1 4096 m1 false ∧ MObj wr w.heap.size p2 b2 N2 4096 m2 false ∧ (Fits l m1 (fun i => i < j) ∧ Fits l m2 (fun i => k ≤ i + j)) ∧ (tot m1 ≤ 103 * j ∧ tot m2 ≤ 103 * j) ∧ Below w.heap.size w wr) (fun i _ => k - (intOf i).toNat)
        case atStart => exact ⟨0, 0, 0, _, _, Nat.zero_le _, Nat.le_refl _, Nat.le_refl _, rfl, H1.out.1, H1.out.2.1, ⟨Fits.none _ _ (fun i hi => by omega), Fits.none _ _ (fun i hi => by rw [HN.out] at hi; omega)⟩, by rw [H0t.out]; omega, H1.out.2.2⟩
        case round =>
          obtain ⟨j, N1, N2, m1, m2, hj, hN1, hN2, rfl, ho1, ho2, hfit, htt, hbw⟩ := hrel
          have Ho1 := Lib.hid ho1
          have Ho2 := Lib.hid ho2
          have Hfit := Lib.hid hfit
          have Htt := Lib.hid htt
          have Hbw := Lib.hid hbw
          clear ho1 ho2 hfit htt hbw H1
          by_cases hjk : j < k
          · have q4 : (j : Int) < (k : Int) := by omega
            have hjL : j < l.length := by rw [HN.out]; exact hjk
            obtain ⟨K, hK⟩ : ∃ K, k - 1 - j = K := ⟨_, rfl⟩
            have hKL : K < l.length := by rw [HN.out]; omega
            obtain ⟨g, off, rfl, -, hok⟩ := ops_cell HOps.out Hbw.out Hlv.out j hjL
            have HOj := Lib.hid (show ∀ W, Below w.heap.size w W → ((W.cell? ⟨g, off + j * 4 + 1, none⟩ = some (.bool l[j].e) ∧ W.cell? ⟨g, off + j * 4 + 2, none⟩ = some (.int .i64 l[j].n) ∧ W.cell? ⟨g, off + j * 4 + 3, none⟩ = some (.string (st l[j].t))) ∧ Below w.heap.size w W) from fun W hW => by
              obtain ⟨g', off', e', ⟨d0', d1', d2', d3'⟩, hok'⟩ := ops_cell HOps.out hW Hlv.out j hjL
              simp only [Option.some.injEq, Addr.mk.injEq] at e'
              obtain ⟨rfl, rfl, -⟩ := e'
              exact ⟨⟨d1', d2', d3'⟩, hW⟩)
            have HOK := Lib.hid (show (∀ W, Below w.heap.size w W → ((W.cell? ⟨g, off + K * 4 + 1, none⟩ = some (.bool l[K].e) ∧ W.cell? ⟨g, off + K * 4 + 2, none⟩ = some (.int .i64 l[K].n) ∧ W.cell? ⟨g, off + K * 4 + 3, none⟩ = some (.string (st l[K].t))) ∧ Below w.heap.size w W)) ∧ l[K].ok from by
              have hh : ∀ W, Below w.heap.size w W → (((W.cell? ⟨g, off + K * 4 + 1, none⟩ = some (.bool l[K].e) ∧ W.cell? ⟨g, off + K * 4 + 2, none⟩ = some (.int .i64 l[K].n) ∧ W.cell? ⟨g, off + K * 4 + 3, none⟩ = some (.string (st l[K].t))) ∧ Below w.heap.size w W) ∧ l[K].ok) := fun W hW => by
                obtain ⟨g', off', e', ⟨d0', d1', d2', d3'⟩, hok'⟩ := ops_cell HOps.out hW Hlv.out K hKL
                simp only [Option.some.injEq, Addr.mk.injEq] at e'
                obtain ⟨rfl, rfl, -⟩ := e'
                exact ⟨⟨⟨d1', d2', d3'⟩, hW⟩, hok'⟩
              exact ⟨fun W hW => (hh W hW).1, (hh _ Hbw.out).2⟩)
            obtain ⟨e1, e2, e3⟩ := set_roomy m1 false l[j] j (by omega) Htt.out.1 (HAp.out.2 j hjL)
            obtain ⟨f1, f2, f3⟩ := set_roomy m2 false l[K] j (by omega) Htt.out.2 (HAp.out.2 K hKL)
            have HS1 := Lib.hid (set_to wr.drew w.heap.size p1 b1 N1 4096 m1 false (Ho1.out.later (Below.refl _ _).drew) (by omega) (by have := Htt.out.1; omega) (by omega) l[j].e l[j].n hok.1.1 hok.1.2 l[j].t (by have := HAp.out.2 j hjL; omega))
            rw [e1, e2] at HS1
            have HS2 := Lib.hid (fun W (hW : MObj W w.heap.size p2 b2 N2 4096 m2 false) => set_to W w.heap.size p2 b2 N2 4096 m2 false hW (by omega) (by have := Htt.out.2; omega) (by omega) l[K].e l[K].n HOK.out.2.1.1 HOK.out.2.1.2 l[K].t (by have := HAp.out.2 K hKL; omega))
            rw [f1, f2] at HS2
            have HFt := Lib.hid (show (Fits l (tellM m1 l[j]) (fun i => i < j + 1) ∧ Fits l (tellM m2 l[K]) (fun i => k ≤ i + (j + 1))) ∧ (tot (tellM m1 l[j]) ≤ 103 * (j + 1) ∧ tot (tellM m2 l[K]) ≤ 103 * (j + 1)) from
              ⟨⟨Hfit.out.1.tell HAp.out.1 j hjL (by omega) (fun i hi => by omega), Hfit.out.2.tell HAp.out.1 K hKL (by omega) (fun i hi => by rw [HN.out] at hi; omega)⟩, e3, f3⟩)
            clear hok e1 e2 e3 f1 f2 f3
            generalize l[j]'hjL = x at *
            generalize l[K]'hKL = y at *
            have v1 : IntKind.i64.wrap ((k : Int) - 1) = ((k - 1 : Nat) : Int) := by rw [IntWalk.i64_in _ (by omega)]; omega
            have v2 : IntKind.i64.wrap (((k - 1 : Nat) : Int) - (j : Int)) = (K : Int) := by rw [IntWalk.i64_in _ (by omega)]; omega
            have hKk : K < k := by omega
            clear hK
            go_upto_region 20 with fail
            have HLo := Lib.hid (And.intro Ho1.out.lo Ho2.out.lo)
            refine wp_region_held_drew (S := fun W => (W.cell? ⟨g, off + j * 4 + 1, none⟩ = some (.bool x.e) ∧ W.cell? ⟨g, off + j * 4 + 2, none⟩ = some (.int .i64 x.n) ∧ W.cell? ⟨g, off + j * 4 + 3, none⟩ = some (.string (st x.t))) ∧ Below w.heap.size w W) (by kernel_rfl) (HOj.out _ Hbw.out.drew) (fun hHeld => ?_)
            refine wpAnyH_step (i := 0) (d := some 78) (v := ?_) rfl rfl (by kernel_rfl) (by kernel_rfl) (by kernel_rfl) (fun _ _ _ h => h) (Or.inl ⟨by rfl, ?_⟩) (by assumption) ?_
            rotate_left
            · intro w hSw; (try dsimp only at hSw); go_simp; (try with_reducible rfl)
            try simp only [Act.put, List.setIfInBounds_toArray, List.set_cons_zero, List.set_cons_succ]
            refine wpAnyH_step (i := 1) (d := some 79) (v := ?_) rfl rfl (by kernel_rfl) (by kernel_rfl) (by kernel_rfl) (fun _ _ _ h => h) (Or.inl ⟨by rfl, ?_⟩) (by assumption) ?_
            rotate_left
            · intro w hSw; (try dsimp only at hSw); go_simp; (try with_reducible rfl)
            try simp only [Act.put, List.setIfInBounds_toArray, List.set_cons_zero, List.set_cons_succ]
            refine wpAnyH_step (i := 2) (d := some 80) (v := ?_) rfl rfl (by kernel_rfl) (by kernel_rfl) (by kernel_rfl) (fun _ _ _ h => h) (Or.inl ⟨by rfl, ?_⟩) (by assumption) ?_
            rotate_left
            · intro w hSw; (try dsimp only at hSw); go_simp; (try with_reducible rfl)
            try simp only [Act.put, List.setIfInBounds_toArray, List.set_cons_zero, List.set_cons_succ]
            refine wpAnyH_step (i := 3) (d := some 81) (v := ?_) rfl rfl (by kernel_rfl) (by kernel_rfl) (by kernel_rfl) (fun _ _ _ h => h) (Or.inl ⟨by rfl, ?_⟩) (by assumption) ?_
            rotate_left
            · intro w hSw; (try dsimp only at hSw); go_simp; (try with_reducible rfl)
            try simp only [Act.put, List.setIfInBounds_toArray, List.set_cons_zero, List.set_cons_succ]
            refine wpAnyH_step (i := 4) (d := some 82) (v := ?_) rfl rfl (by kernel_rfl) (by kernel_rfl) (by kernel_rfl) (fun _ _ _ h => h) (Or.inl ⟨by rfl, ?_⟩) (by assumption) ?_
            rotate_left
            · intro w hSw; (try dsimp only at hSw); go_simp; (try with_reducible rfl)
            try simp only [Act.put, List.setIfInBounds_toArray, List.set_cons_zero, List.set_cons_succ]
            refine wpAnyH_step (i := 5) (d := some 83) (v := ?_) rfl rfl (by kernel_rfl) (by kernel_rfl) (by kernel_rfl) (fun _ _ _ h => h) (Or.inl ⟨by rfl, ?_⟩) (by assumption) ?_
            rotate_left
            · intro w hSw; (try dsimp only at hSw); go_simp; (try with_reducible rfl)
            try simp only [Act.put, List.setIfInBounds_toArray, List.set_cons_zero, List.set_cons_succ]
            refine wpAnyH_step (i := 6) (d := some 84) (v := ?_) rfl rfl (by kernel_rfl) (by kernel_rfl) (by kernel_rfl) (fun _ _ _ h => h) (Or.inl ⟨by rfl, ?_⟩) (by assumption) ?_
            rotate_left
            · intro w hSw; (try dsimp only at hSw); go_simp; (try with_reducible rfl)
            try simp only [Act.put, List.setIfInBounds_toArray, List.set_cons_zero, List.set_cons_succ]
            refine wpAnyH_step (i := 7) (d := some 85) (v := ?_) rfl rfl (by kernel_rfl) (by kernel_rfl) (by kernel_rfl) (fun _ _ _ h => h) (Or.inl ⟨by rfl, ?_⟩) (by assumption) ?_
            rotate_left
            · intro w hSw; (try dsimp only at hSw); go_simp; (try with_reducible rfl)
            try simp only [Act.put, List.setIfInBounds_toArray, List.set_cons_zero, List.set_cons_succ]
            refine wpAnyH_step (i := 8) (d := some 86) (v := ?_) rfl rfl (by kernel_rfl) (by kernel_rfl) (by kernel_rfl) (fun _ _ _ h => h) (Or.inl ⟨by rfl, ?_⟩) (by assumption) ?_
            rotate_left
            · intro w hSw; (try dsimp only at hSw); go_simp; (try with_reducible rfl)
            try simp only [Act.put, List.setIfInBounds_toArray, List.set_cons_zero, List.set_cons_succ]
            refine wpAnyH_step (i := 9) (d := some 87) (v := ?_) rfl rfl (by kernel_rfl) (by kernel_rfl) (by kernel_rfl) (fun _ _ _ h => h) (Or.inl ⟨by rfl, ?_⟩) (by assumption) ?_
            rotate_left
            · intro w hSw; (try dsimp only at hSw); go_simp; (try with_reducible rfl)
            try simp only [Act.put, List.setIfInBounds_toArray, List.set_cons_zero, List.set_cons_succ]
            refine wpAnyH_step (i := 10) (d := some 88) (v := ?_) rfl rfl (by kernel_rfl) (by kernel_rfl) (by kernel_rfl) (fun _ _ _ h => h) (Or.inl ⟨by rfl, ?_⟩) (by assumption) ?_
            rotate_left
            · intro w hSw; (try dsimp only at hSw); go_simp; (try with_reducible rfl)
            try simp only [Act.put, List.setIfInBounds_toArray, List.set_cons_zero, List.set_cons_succ]
            refine wpAnyH_ready (rs := [11]) (by kernel_rfl) (by simp) ?_
            refine AllReadyH.cons rfl (fun K hK => ?_) AllReadyH.nil
            go_simp
            refine HS1.out.mono ?_
            rintro r w4 ⟨rfl, ⟨M1, hM1, ho4⟩, hto4⟩
            have HP4 := Lib.hid (And.intro ho4 (hto4.obj (Ho2.out.later (Below.refl _ _).drew) HNE.out.1 HNE.out.2.1 HNE.out.2.2.1 HNE.out.2.2.2))
            have HB4 := Lib.hid (Hbw.out.drew.trans (hto4.below HLo.out.1.1 HLo.out.1.2 Hbw.out.size))
            clear ho4 hto4
            (try go_wp2_with fail)
            refine hK.out _ _ ?_ (fun hHeld => ?_)
            · exact HOj.out _ HB4.out
            clear hK K
            try simp only [Act.put, List.setIfInBounds_toArray, List.set_cons_zero, List.set_cons_succ]
            refine wpAnyH_done (by kernel_rfl) ?_ _
            have Hbw4 := Lib.hid hHeld.2
            clear hHeld HS1 HOj Ho1 Ho2
            go_upto_region 21 with fail
            refine wp_region_held_drew (S := fun W => (W.cell? ⟨g, off + K * 4 + 1, none⟩ = some (.bool y.e) ∧ W.cell? ⟨g, off + K * 4 + 2, none⟩ = some (.int .i64 y.n) ∧ W.cell? ⟨g, off + K * 4 + 3, none⟩ = some (.string (st y.t))) ∧ Below w.heap.size w W) (by kernel_rfl) (HOK.out.1 _ Hbw4.out.drew) (fun hHeld => ?_)
            refine wpAnyH_step (i := 0) (d := some 90) (v := ?_) rfl rfl (by kernel_rfl) (by kernel_rfl) (by kernel_rfl) (fun _ _ _ h => h) (Or.inl ⟨by rfl, ?_⟩) (by assumption) ?_
            rotate_left
            · intro w hSw; (try dsimp only at hSw); go_simp; (try with_reducible rfl)
            try simp only [Act.put, List.setIfInBounds_toArray, List.set_cons_zero, List.set_cons_succ]
            refine wpAnyH_step (i := 1) (d := some 91) (v := ?_) rfl rfl (by kernel_rfl) (by kernel_rfl) (by kernel_rfl) (fun _ _ _ h => h) (Or.inl ⟨by rfl, ?_⟩) (by assumption) ?_
            rotate_left
            · intro w hSw; (try dsimp only at hSw); go_simp; (try with_reducible rfl)
            try simp only [Act.put, List.setIfInBounds_toArray, List.set_cons_zero, List.set_cons_succ]
            refine wpAnyH_step (i := 2) (d := some 92) (v := ?_) rfl rfl (by kernel_rfl) (by kernel_rfl) (by kernel_rfl) (fun _ _ _ h => h) (Or.inl ⟨by rfl, ?_⟩) (by assumption) ?_
            rotate_left
            · intro w hSw; (try dsimp only at hSw); go_simp; (try with_reducible rfl)
            try simp only [Act.put, List.setIfInBounds_toArray, List.set_cons_zero, List.set_cons_succ]
            refine wpAnyH_step (i := 3) (d := some 93) (v := ?_) rfl rfl (by kernel_rfl) (by kernel_rfl) (by kernel_rfl) (fun _ _ _ h => h) (Or.inl ⟨by rfl, ?_⟩) (by assumption) ?_
            rotate_left
            · intro w hSw; (try dsimp only at hSw); go_simp; (try with_reducible rfl)
            try simp only [Act.put, List.setIfInBounds_toArray, List.set_cons_zero, List.set_cons_succ]
            refine wpAnyH_step (i := 4) (d := some 94) (v := ?_) rfl rfl (by kernel_rfl) (by kernel_rfl) (by kernel_rfl) (fun _ _ _ h => h) (Or.inl ⟨by rfl, ?_⟩) (by assumption) ?_
            rotate_left
            · intro w hSw; (try dsimp only at hSw); go_simp; (try with_reducible rfl)
            try simp only [Act.put, List.setIfInBounds_toArray, List.set_cons_zero, List.set_cons_succ]
            refine wpAnyH_step (i := 5) (d := some 95) (v := ?_) rfl rfl (by kernel_rfl) (by kernel_rfl) (by kernel_rfl) (fun _ _ _ h => h) (Or.inl ⟨by rfl, ?_⟩) (by assumption) ?_
            rotate_left
            · intro w hSw; (try dsimp only at hSw); go_simp; (try with_reducible rfl)
            try simp only [Act.put, List.setIfInBounds_toArray, List.set_cons_zero, List.set_cons_succ]
            refine wpAnyH_step (i := 6) (d := some 96) (v := ?_) rfl rfl (by kernel_rfl) (by kernel_rfl) (by kernel_rfl) (fun _ _ _ h => h) (Or.inl ⟨by rfl, ?_⟩) (by assumption) ?_
            rotate_left
            · intro w hSw; (try dsimp only at hSw); go_simp; (try with_reducible rfl)
            try simp only [Act.put, List.setIfInBounds_toArray, List.set_cons_zero, List.set_cons_succ]
            refine wpAnyH_step (i := 7) (d := some 97) (v := ?_) rfl rfl (by kernel_rfl) (by kernel_rfl) (by kernel_rfl) (fun _ _ _ h => h) (Or.inl ⟨by rfl, ?_⟩) (by assumption) ?_
            rotate_left
            · intro w hSw; (try dsimp only at hSw); go_simp; (try with_reducible rfl)
            try simp only [Act.put, List.setIfInBounds_toArray, List.set_cons_zero, List.set_cons_succ]
            refine wpAnyH_step (i := 8) (d := some 98) (v := ?_) rfl rfl (by kernel_rfl) (by kernel_rfl) (by kernel_rfl) (fun _ _ _ h => h) (Or.inl ⟨by rfl, ?_⟩) (by assumption) ?_
            rotate_left
            · intro w hSw; (try dsimp only at hSw); go_simp; (try with_reducible rfl)
            try simp only [Act.put, List.setIfInBounds_toArray, List.set_cons_zero, List.set_cons_succ]
            refine wpAnyH_step (i := 9) (d := some 99) (v := ?_) rfl rfl (by kernel_rfl) (by kernel_rfl) (by kernel_rfl) (fun _ _ _ h => h) (Or.inl ⟨by rfl, ?_⟩) (by assumption) ?_
            rotate_left
            · intro w hSw; (try dsimp only at hSw); go_simp; (try with_reducible rfl)
            try simp only [Act.put, List.setIfInBounds_toArray, List.set_cons_zero, List.set_cons_succ]
            refine wpAnyH_step (i := 10) (d := some 100) (v := ?_) rfl rfl (by kernel_rfl) (by kernel_rfl) (by kernel_rfl) (fun _ _ _ h => h) (Or.inl ⟨by rfl, ?_⟩) (by assumption) ?_
            rotate_left
            · intro w hSw; (try dsimp only at hSw); go_simp; (try with_reducible rfl)
            try simp only [Act.put, List.setIfInBounds_toArray, List.set_cons_zero, List.set_cons_succ]
            refine wpAnyH_step (i := 11) (d := some 101) (v := ?_) rfl rfl (by kernel_rfl) (by kernel_rfl) (by kernel_rfl) (fun _ _ _ h => h) (Or.inl ⟨by rfl, ?_⟩) (by assumption) ?_
            rotate_left
            · intro w hSw; (try dsimp only at hSw); go_simp; (try with_reducible rfl)
            try simp only [Act.put, List.setIfInBounds_toArray, List.set_cons_zero, List.set_cons_succ]
            refine wpAnyH_step (i := 12) (d := some 102) (v := ?_) rfl rfl (by kernel_rfl) (by kernel_rfl) (by kernel_rfl) (fun _ _ _ h => h) (Or.inl ⟨by rfl, ?_⟩) (by assumption) ?_
            rotate_left
            · intro w hSw; (try dsimp only at hSw); go_simp; (try with_reducible rfl)
            try simp only [Act.put, List.setIfInBounds_toArray, List.set_cons_zero, List.set_cons_succ]
            refine wpAnyH_step (i := 13) (d := some 103) (v := ?_) rfl rfl (by kernel_rfl) (by kernel_rfl) (by kernel_rfl) (fun _ _ _ h => h) (Or.inl ⟨by rfl, ?_⟩) (by assumption) ?_
            rotate_left
            · intro w hSw; (try dsimp only at hSw); go_simp; (try with_reducible rfl)
            try simp only [Act.put, List.setIfInBounds_toArray, List.set_cons_zero, List.set_cons_succ]
            refine wpAnyH_step (i := 14) (d := some 104) (v := ?_) rfl rfl (by kernel_rfl) (by kernel_rfl) (by kernel_rfl) (fun _ _ _ h => h) (Or.inl ⟨by rfl, ?_⟩) (by assumption) ?_
            rotate_left
            · intro w hSw; (try dsimp only at hSw); go_simp; (try with_reducible rfl)
            try simp only [Act.put, List.setIfInBounds_toArray, List.set_cons_zero, List.set_cons_succ]
            refine wpAnyH_step (i := 15) (d := some 105) (v := ?_) rfl rfl (by kernel_rfl) (by kernel_rfl) (by kernel_rfl) (fun _ _ _ h => h) (Or.inl ⟨by rfl, ?_⟩) (by assumption) ?_
            rotate_left
            · intro w hSw; (try dsimp only at hSw); go_simp; (try with_reducible rfl)
            try simp only [Act.put, List.setIfInBounds_toArray, List.set_cons_zero, List.set_cons_succ]
            refine wpAnyH_step (i := 16) (d := some 106) (v := ?_) rfl rfl (by kernel_rfl) (by kernel_rfl) (by kernel_rfl) (fun _ _ _ h => h) (Or.inl ⟨by rfl, ?_⟩) (by assumption) ?_
            rotate_left
            · intro w hSw; (try dsimp only at hSw); go_simp; (try with_reducible rfl)
            try simp only [Act.put, List.setIfInBounds_toArray, List.set_cons_zero, List.set_cons_succ]
            refine wpAnyH_step (i := 17) (d := some 107) (v := ?_) rfl rfl (by kernel_rfl) (by kernel_rfl) (by kernel_rfl) (fun _ _ _ h => h) (Or.inl ⟨by rfl, ?_⟩) (by assumption) ?_
            rotate_left
            · intro w hSw; (try dsimp only at hSw); go_simp; (try with_reducible rfl)
            try simp only [Act.put, List.setIfInBounds_toArray, List.set_cons_zero, List.set_cons_succ]
            refine wpAnyH_step (i := 18) (d := some 108) (v := ?_) rfl rfl (by kernel_rfl) (by kernel_rfl) (by kernel_rfl) (fun _ _ _ h => h) (Or.inl ⟨by rfl, ?_⟩) (by assumption) ?_
            rotate_left
            · intro w hSw; (try dsimp only at hSw); go_simp; (try with_reducible rfl)
            try simp only [Act.put, List.setIfInBounds_toArray, List.set_cons_zero, List.set_cons_succ]
            refine wpAnyH_ready (rs := [19]) (by kernel_rfl) (by simp) ?_
            refine AllReadyH.cons rfl (fun K hK => ?_) AllReadyH.nil
            go_simp
            refine (HS2.out _ (HP4.out.2.later (Below.refl _ _).drew)).mono ?_
            rintro r w5 ⟨rfl, ⟨M2, hM2, ho5⟩, hto5⟩
            have HP5 := Lib.hid (And.intro (hto5.obj (HP4.out.1.later (Below.refl _ _).drew) (Ne.symm HNE.out.1) (Ne.symm HNE.out.2.2.1) (Ne.symm HNE.out.2.1) (Ne.symm HNE.out.2.2.2)) ho5)
            have HB5 := Lib.hid (Hbw4.out.drew.trans (hto5.below HLo.out.2.1 HLo.out.2.2 Hbw4.out.size))
            clear ho5 hto5
            (try go_wp2_with fail)
            refine hK.out _ _ ?_ (fun hHeld => ?_)
            · exact HOK.out.1 _ HB5.out
            clear hK K
            try simp only [Act.put, List.setIfInBounds_toArray, List.set_cons_zero, List.set_cons_succ]
            refine wpAnyH_done (by kernel_rfl) ?_ _
            have Hbw5 := Lib.hid hHeld.2
            clear hHeld HS2 HOK
            go_wp2_with fail
            go_roundw
            case rel => exact ⟨j + 1, M1, M2, _, _, by omega, by omega, by omega, by go_num, HP5.out.1, HP5.out.2, HFt.out.1, HFt.out.2, Hbw5.out⟩
            case measure => simp [intOf]; omega
          · have q4 : ¬ (j : Int) < (k : Int) := by omega
            obtain rfl : j = k := by omega
            obtain rfl : m1 = m2 := Hfit.out.1.same Hfit.out.2 (fun i hi => by rw [HN.out] at hi; omega) (fun i hi => by omega)
            have Ho12 := Lib.hid (And.intro Ho1.out Ho2.out)
            clear Htt Hfit Ho1 Ho2
            go_wp2_with fail
            go_loopw [10, 11, 12, 13, 14] (fun i s1 f1 s2 f2 wr => ∃ i' : Nat, i' ≤ j ∧ i = .int .i64 (i' : Int) ∧ (MObj wr w.heap.size p1 b1 N1 4096 m1 false ∧ MObj wr w.heap.size p2 b2 N2 4096 m1 false) ∧ Below w.heap.size w wr) (fun i _ _ _ _ _ => j - (intOf i).toNat)
            case atStart => exact ⟨0, Nat.zero_le _, rfl, Ho12.out, Hbw.out⟩
            case round =>
              obtain ⟨i, hi, rfl, ho3, hbw3⟩ := hrel
              have Ho3 := Lib.hid ho3
              have Hbw3 := Lib.hid hbw3
              clear ho3 hbw3 Ho12 Hbw
              by_cases hik : i < j
              · have q5 : (i : Int) < (j : Int) := by omega
                have hiL : i < l.length := by rw [HN.out]; exact hik
                obtain ⟨g, off, rfl, ⟨d0, d1, d2, d3⟩, hok⟩ := ops_cell HOps.out Hbw3.out Hlv.out i hiL
                have HG1 := Lib.hid (get_any wr w.heap.size p1 b1 N1 4096 m1 false Ho3.out.1 l[i].e l[i].n hok.1.1 hok.1.2)
                have HG2 := Lib.hid (fun W (hW : Below wr.heap.size wr W) => get_any W w.heap.size p2 b2 N2 4096 m1 false (Ho3.out.2.later hW) l[i].e l[i].n hok.1.1 hok.1.2)
                clear hok d0 d3
                generalize l[i]'hiL = x at *
                go_upto_region 25 with fail
                go_wp2_with fail
                refine HG1.out.mono ?_
                rintro r w4 ⟨rfl, hb4⟩
                replace d1 := cellB hb4 d1
                replace d2 := cellB hb4 d2
                have Hb4 := Lib.hid hb4
                clear hb4
                go_wp2_with fail
                refine (HG2.out _ Hb4.out).mono ?_
                rintro r w5 ⟨rfl, hb5⟩
                have Hb5 := Lib.hid (bel_call Hb4.out hb5)
                have Hbw5 := Lib.hid (bel_call Hbw3.out Hb5.out)
                clear hb5 d1 d2
                obtain ⟨S, hS⟩ : ∃ S, st ((m1 x.e x.n).getD []) = S := ⟨_, rfl⟩
                obtain ⟨f, hf⟩ : ∃ f, (m1 x.e x.n).isSome = f := ⟨_, rfl⟩
                rw [hS, hf]
                clear hS hf HG1 HG2
                have sb : (S.toList == S.toList) = true := by simp
                go_wp2_with fail
                go_roundw
                case rel => exact ⟨i + 1, by omega, by go_num, ⟨Ho3.out.1.later Hb5.out, Ho3.out.2.later Hb5.out⟩, Hbw5.out⟩
                case measure => simp [intOf]; omega
              · have q5 : ¬ (i : Int) < (j : Int) := by omega
                have HU1 := Lib.hid (used_any wr w.heap.size p1 b1 N1 4096 m1 false Ho3.out.1)
                have HU2 := Lib.hid (used_any wr w.heap.size p2 b2 N2 4096 m1 false Ho3.out.2)
                have HV1 := Lib.hid (over_any wr w.heap.size p1 b1 N1 4096 m1 false Ho3.out.1)
                have HV2 := Lib.hid (over_any wr w.heap.size p2 b2 N2 4096 m1 false Ho3.out.2)
                have Haw := Lib.hid (HA.out _ Hbw3.out)
                obtain ⟨T, hT⟩ : ∃ T, tot m1 = T := ⟨_, rfl⟩
                rw [hT] at HU1 HU2
                clear hT
                go_wp2_with fail
                refine HU1.out.mono ?_
                rintro r w4 ⟨rfl, rfl⟩
                go_wp2_with fail
                refine HU2.out.mono ?_
                rintro r w5 ⟨rfl, rfl⟩
                go_wp2_with fail
                refine HV1.out.mono ?_
                rintro r w6 ⟨rfl, rfl⟩
                go_wp2_with fail
                refine HV2.out.mono ?_
                rintro r w7 ⟨rfl, rfl⟩
                go_wp2_with fail
                refine Haw.out.mono ?_
                rintro r w8 ⟨rfl, hb8⟩
                go_wp2_with fail
                go_ret
                exact ⟨rfl, bel_call Hbw3.out hb8⟩
end Go.Proofs.YtnfpfpppnfighaaDoor
