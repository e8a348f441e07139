/- The document's digit, item: the walks. -/
import Derived.Test.YtnfpfpppnfighaaDoorRA
import Derived.Deep.QuietTactic
namespace Go.Proofs.YtnfpfpppnfighaaDoor
open Go.Shelf Go.RowKit
set_option linter.unusedVariables false
set_option linter.unusedSimpArgs false
set_option maxRecDepth 100000
theorem rdigit_any (w : World) (c : Nat) (hc : c < 256) : Calls Tryd.prog 45 #[.int .u8 c] w fun r w' => r = .returned (.bool (decide (48 ≤ c) && decide (c ≤ 57))) ∧ w' = w := by
  by_cases h1 : 48 ≤ c
  · have p1 : (48 : Int) ≤ (c : Int) := by omega
    by_cases h2 : c ≤ 57
    · have p2 : (c : Int) ≤ 57 := by omega
      go_enter Tryd.func45, Tryd.ntmps45
      go_wp2_with fail
      go_ret
      exact ⟨by simp [h1, h2], rfl⟩
    · have p2 : ¬ (c : Int) ≤ 57 := by omega
      go_enter Tryd.func45, Tryd.ntmps45
      go_wp2_with fail
      go_ret
      exact ⟨by simp; try omega, rfl⟩
  · have p1 : ¬ (48 : Int) ≤ (c : Int) := by omega
    go_enter Tryd.func45, Tryd.ntmps45
    go_wp2_with fail
    go_ret
    exact ⟨by simp; try omega, rfl⟩
/-- What the document's item hands back. -/
def rretP (n : Nat) : Option (Itm × List UInt8) → Value
  | none => .tuple #[.bool false, .int .i64 0, .string ⟨#[]⟩, .int .i64 0]
  | some (x, t) => .tuple #[.bool x.num, .int .i64 x.n, .string (st x.text), .int .i64 ((n - t.length : Nat) : Int)]
theorem index_at {r : List UInt8} {b : UInt8} {o : Nat} (h1 : r[o]? = some b) (h2 : ∀ j, j < o → r[j]? ≠ some b) : Lib.indexByte r b = (o : Int) := by
  have hg := Lib.indexByte_ge r b
  by_cases hn : Lib.indexByte r b = -1
  · exact absurd h1 (Lib.indexByte_none hn o)
  · obtain ⟨k, hk⟩ : ∃ k : Nat, Lib.indexByte r b = (k : Int) := ⟨(Lib.indexByte r b).toNat, by omega⟩
    obtain ⟨k1, k2⟩ := Lib.indexByte_some hk
    rw [hk]
    rcases Nat.lt_trichotomy k o with h | h | h
    · exact absurd k1 (h2 k h)
    · rw [h]
    · exact absurd h1 (k2 o h)
theorem index_no {r : List UInt8} {b : UInt8} (h2 : ∀ j, j < r.length → r[j]? ≠ some b) : Lib.indexByte r b < 0 := by
  have hg := Lib.indexByte_ge r b
  by_cases hn : Lib.indexByte r b < 0
  · exact hn
  · obtain ⟨k, hk⟩ : ∃ k : Nat, Lib.indexByte r b = (k : Int) := ⟨(Lib.indexByte r b).toNat, by omega⟩
    obtain ⟨k1, k2⟩ := Lib.indexByte_some hk
    exact absurd k1 (h2 k (List.getElem?_eq_some_iff.1 k1).1)
set_option maxHeartbeats 1000000 in
theorem rquoted_any (w : World) (b : UInt8) (r : List UInt8) (hl : r.length ≤ 100000) (hb : b = 34 ∨ b = 39) :
    Calls Tryd.prog 31 #[.string (st (b :: r))] w fun e w' => e = .returned (rretP (r.length + 1) (quoP b r)) ∧ Below w.heap.size w w' := by
  obtain ⟨s, hs⟩ : ∃ s, st (b :: r) = s := ⟨_, rfl⟩
  obtain ⟨n, hn⟩ : ∃ n, r.length + 1 = n := ⟨_, rfl⟩
  have zs : s.size = n := by rw [← hs, st_size, ← hn]; rfl
  have ps : 0 < s.size := by omega
  have HXs : (s[0]'ps).toNat = b.toNat := by subst hs; rw [st_get]; rfl
  have HIx := Lib.hid (fun (k : Nat) (hk : k + 1 < s.size) (hkl : k < r.length) => (show (s[k + 1]'hk).toNat = (r[k]'hkl).toNat from by subst hs; rw [st_get]; rfl))
  have nes : ¬ s.toList = [] := fun e => by rw [toList_nil_iff_emptyBytes] at e; rw [e] at ps; exact absurd ps (by decide)
  have nbs : s.toList.isEmpty = false := by rw [List.isEmpty_eq_false_iff]; exact nes
  have pos : (1 : Int) ≤ (n : Int) := by omega
  have pns : 0 < n := by omega
  have pps : 1 ≤ n := by omega
  have HEx := Lib.hid (fun (k : Nat) (h : 1 ≤ k) => (show s.extract 1 k = st (r.take (k - 1)) from by
    obtain ⟨j, rfl⟩ : ∃ j, k = j + 1 := ⟨k - 1, by omega⟩
    rw [← hs, st_extract, List.take_succ_cons]; rfl))
  have HNo := Lib.hid (fun (h : ∀ j, j < r.length → r[j]? ≠ some b) => (show rretP n (quoP b r) = .tuple #[.bool false, .int .i64 0, .string ⟨#[]⟩, .int .i64 0] from by
    unfold quoP; rw [if_pos (index_no h)]; rfl))
  have HYes := Lib.hid (fun (o : Nat) (h1 : r[o]? = some b) (h2 : ∀ j, j < o → r[j]? ≠ some b) => (show rretP n (quoP b r) = .tuple #[.bool false, .int .i64 0, .string (st (r.take o)), .int .i64 ((o + 2 : Nat) : Int)] from by
    have ho := (List.getElem?_eq_some_iff.1 h1).1
    unfold quoP; rw [index_at h1 h2, if_neg (by omega), Int.toNat_natCast]
    simp only [rretP, List.length_drop, ← hn]
    congr 7
    omega))
  have HL := Lib.hid (show r.length + 1 = n from hn)
  obtain ⟨Q, hQ⟩ : ∃ Q : Nat → Prop, (fun k => ∀ j, j + 1 < k → r[j]? ≠ some b) = Q := ⟨_, rfl⟩
  have HQ1 := Lib.hid (show Q 1 from by subst hQ; intro j h; omega)
  have HQs := Lib.hid (fun (k : Nat) (hk : 1 ≤ k) (h : k - 1 < r.length) (hq : Q k) (hc : ¬ (r[k - 1]'h).toNat = b.toNat) => (show Q (k + 1) from by
    subst hQ
    intro j hj
    by_cases hjk : j + 1 < k
    · exact hq j hjk
    · obtain rfl : j = k - 1 := by omega
      rw [List.getElem?_eq_getElem h]
      intro e
      rw [Option.some.injEq] at e
      exact hc (by rw [e])))
  have HNoQ := Lib.hid (fun (hq : Q n) => HNo.out (by subst hQ; intro j hj; exact hq j (by omega)))
  have HYesQ := Lib.hid (fun (k : Nat) (hk : 1 ≤ k) (h : k - 1 < r.length) (hq : Q k) (hc : (r[k - 1]'h).toNat = b.toNat) => (show rretP n (quoP b r) = .tuple #[.bool false, .int .i64 0, .string (s.extract 1 k), .int .i64 ((k + 1 : Nat) : Int)] from by
    subst hQ
    rw [HEx.out k hk, HYes.out (k - 1) (by rw [List.getElem?_eq_getElem h, UInt8.toNat_inj.1 hc]) (fun j hj => hq j (by omega))]
    rw [show k - 1 + 2 = k + 1 by omega]))
  rw [hs]
  obtain ⟨R, hR⟩ : ∃ R, rretP n (quoP b r) = R := ⟨_, rfl⟩
  rw [hR] at HNoQ HYesQ
  rw [hn, hR]
  clear hs hR hn hQ HNo HYes HEx
  rcases hb with rfl | rfl
  · go_enter Tryd.func31, Tryd.ntmps31
    go_wp2_with fail
    go_loopw [6] (fun i wr => ∃ k : Nat, 1 ≤ k ∧ k ≤ n ∧ i = .int .i64 (k : Int) ∧ Below w.heap.size w wr ∧ Q k) (fun i _ => n - (intOf i).toNat)
    case atStart => exact ⟨1, by omega, by omega, rfl, Below.refl _ _, HQ1.out⟩
    case round =>
      obtain ⟨k, hk1, hk2, rfl, hbl, hno⟩ := hrel
      have HBl := Lib.hid hbl
      clear hbl
      have HNn := Lib.hid hno
      clear hno
      by_cases hlt : k < n
      · have q1 : (k : Int) < (n : Int) := by omega
        have q2 : k < s.size := by omega
        have q0 : (0 : Int) < (n : Int) := by omega
        have hkl : k - 1 < r.length := by have := HL.out; omega
        obtain ⟨c, hc⟩ : ∃ c, (r[k - 1]'hkl).toNat = c := ⟨_, rfl⟩
        have hx : (s[k]'q2).toNat = c := by
          have := HIx.out (k - 1) (by omega) hkl
          rw [← hc, ← this]
          congr 1
          simp only [Nat.sub_add_cancel hk1]
        have HCc := Lib.hid hc
        clear hc
        have w1 : IntKind.i64.wrap ((k : Int) + 1) = (k : Int) + 1 := IntWalk.i64_in _ (by omega)
        have w3 : (1 : Int) ≤ (k : Int) := by omega
        have w4 : (k : Int) ≤ (n : Int) := by omega
        have w5 : k ≤ n := hk2
        by_cases hce : c = 34
        · subst hce
          have HRr := Lib.hid (HYesQ.out k hk1 hkl HNn.out HCc.out)
          obtain ⟨E, hE⟩ : ∃ E, s.extract 1 k = E := ⟨_, rfl⟩
          rw [hE] at HRr
          go_wp2_with fail
          go_quiet (fail)
          go_wp2_with fail
          go_quiet (fail)
          go_wp2_with fail
          refine bodyPost_ret (v := .tuple #[.bool false, .int .i64 0, .string E, .int .i64 ((k : Int) + 1)]) (by simp [results, Tryd.results31, go_sem]) rfl ⟨by rw [HRr.out]; rfl, bel_drewN (bel_drewN HBl.out _) _⟩
        · have hcb : ((c : Int) == 34) = false := by simp; omega
          have hcc : ¬ (c : Int) = 34 := by omega
          have HNx := Lib.hid (HQs.out k hk1 hkl HNn.out (by rw [HCc.out]; exact hce))
          go_wp2_with fail
          go_quiet (fail)
          go_wp2_with fail
          go_roundw
          case rel => exact ⟨k + 1, by omega, by omega, by go_num, bel_drewN HBl.out _, HNx.out⟩
          case measure => simp [intOf]; omega
      · have q1 : ¬ (k : Int) < (n : Int) := by omega
        obtain rfl : k = n := by omega
        have HRr := Lib.hid (HNoQ.out HNn.out)
        go_wp2_with fail
        refine bodyPost_ret (v := .tuple #[.bool false, .int .i64 0, .string ⟨#[]⟩, .int .i64 0]) (by simp [results, Tryd.results31, go_sem]) rfl ⟨by rw [HRr.out], HBl.out⟩
  · go_enter Tryd.func31, Tryd.ntmps31
    go_wp2_with fail
    go_loopw [6] (fun i wr => ∃ k : Nat, 1 ≤ k ∧ k ≤ n ∧ i = .int .i64 (k : Int) ∧ Below w.heap.size w wr ∧ Q k) (fun i _ => n - (intOf i).toNat)
    case atStart => exact ⟨1, by omega, by omega, rfl, Below.refl _ _, HQ1.out⟩
    case round =>
      obtain ⟨k, hk1, hk2, rfl, hbl, hno⟩ := hrel
      have HBl := Lib.hid hbl
      clear hbl
      have HNn := Lib.hid hno
      clear hno
      by_cases hlt : k < n
      · have q1 : (k : Int) < (n : Int) := by omega
        have q2 : k < s.size := by omega
        have q0 : (0 : Int) < (n : Int) := by omega
        have hkl : k - 1 < r.length := by have := HL.out; omega
        obtain ⟨c, hc⟩ : ∃ c, (r[k - 1]'hkl).toNat = c := ⟨_, rfl⟩
        have hx : (s[k]'q2).toNat = c := by
          have := HIx.out (k - 1) (by omega) hkl
          rw [← hc, ← this]
          congr 1
          simp only [Nat.sub_add_cancel hk1]
        have HCc := Lib.hid hc
        clear hc
        have w1 : IntKind.i64.wrap ((k : Int) + 1) = (k : Int) + 1 := IntWalk.i64_in _ (by omega)
        have w3 : (1 : Int) ≤ (k : Int) := by omega
        have w4 : (k : Int) ≤ (n : Int) := by omega
        have w5 : k ≤ n := hk2
        by_cases hce : c = 39
        · subst hce
          have HRr := Lib.hid (HYesQ.out k hk1 hkl HNn.out HCc.out)
          obtain ⟨E, hE⟩ : ∃ E, s.extract 1 k = E := ⟨_, rfl⟩
          rw [hE] at HRr
          go_wp2_with fail
          go_quiet (fail)
          go_wp2_with fail
          go_quiet (fail)
          go_wp2_with fail
          refine bodyPost_ret (v := .tuple #[.bool false, .int .i64 0, .string E, .int .i64 ((k : Int) + 1)]) (by simp [results, Tryd.results31, go_sem]) rfl ⟨by rw [HRr.out]; rfl, bel_drewN (bel_drewN HBl.out _) _⟩
        · have hcb : ((c : Int) == 39) = false := by simp; omega
          have hcc : ¬ (c : Int) = 39 := by omega
          have HNx := Lib.hid (HQs.out k hk1 hkl HNn.out (by rw [HCc.out]; exact hce))
          go_wp2_with fail
          go_quiet (fail)
          go_wp2_with fail
          go_roundw
          case rel => exact ⟨k + 1, by omega, by omega, by go_num, bel_drewN HBl.out _, HNx.out⟩
          case measure => simp [intOf]; omega
      · have q1 : ¬ (k : Int) < (n : Int) := by omega
        obtain rfl : k = n := by omega
        have HRr := Lib.hid (HNoQ.out HNn.out)
        go_wp2_with fail
        refine bodyPost_ret (v := .tuple #[.bool false, .int .i64 0, .string ⟨#[]⟩, .int .i64 0]) (by simp [results, Tryd.results31, go_sem]) rfl ⟨by rw [HRr.out], HBl.out⟩
theorem valF_nil (acc : Nat) : valF acc [] = acc := by unfold valF; rfl
theorem valF_cons (acc : Nat) (b : UInt8) (r : List UInt8) : valF acc (b :: r) = valF (acc * 10 + (b.toNat - 48)) r := by
  conv => lhs; unfold valF
theorem valF_snoc (b : UInt8) (l : List UInt8) : ∀ (acc : Nat), valF acc (l ++ [b]) = valF acc l * 10 + (b.toNat - 48) := by
  induction l with
  | nil => intro acc; rw [List.nil_append, valF_cons, valF_nil, valF_nil]
  | cons x r ih => intro acc; rw [List.cons_append, valF_cons, valF_cons, ih]
theorem conv2 (W : World) (y : Int) (B : Nat) (hc : W.cell? ⟨B, 0, none⟩ = some (.int .u8 y)) : (convert 70 9 (.slice (some ⟨B, 0, none⟩) 1 1)).run Tryd.prog W = .ok (.string (strOfNums [y])) W := by
  refine run_convert_bytes_arg _ 70 5 Tryd.underlying70 Tryd.underlying5 B 0 1 1 [y] rfl (fun i hi => ?_) 9 Tryd.underlying9
  obtain rfl : i = 0 := by omega
  simpa using hc
theorem valF_take (l : List UInt8) (k : Nat) (h : k < l.length) : valF 0 (l.take (k + 1)) = valF 0 (l.take k) * 10 + (l[k].toNat - 48) := by
  rw [List.take_succ_eq_append_getElem h, valF_snoc]
theorem valF_hi (l : List UInt8) (k : Nat) (hk : k ≤ digs l) (h5 : k ≤ 5) : valF 0 (l.take k) ≤ 100000 := by
  have hd : ∀ b ∈ l.take k, isDig b = true := by
    intro b hb
    obtain ⟨i, hi, rfl⟩ := List.getElem_of_mem hb
    rw [List.getElem_take]
    exact digs_all l i (by rw [List.length_take] at hi; omega)
  have h1 := valF_lt (l.take k) 0 hd
  have h2 : (l.take k).length ≤ 5 := by rw [List.length_take]; omega
  have h3 : 10 ^ (l.take k).length ≤ 10 ^ 5 := Nat.pow_le_pow_right (by omega) h2
  omega
set_option maxHeartbeats 1000000 in
theorem rnumber_any (w : World) (b : UInt8) (r : List UInt8) (hl : r.length ≤ 100000) (hb : ¬ (b = 34 ∨ b = 39)) :
    Calls Tryd.prog 31 #[.string (st (b :: r))] w fun e w' => e = .returned (rretP (r.length + 1) (numP (b :: r))) ∧ Below w.heap.size w w' := by
  have HD := Lib.hid rdigit_any
  obtain ⟨l, hll⟩ : ∃ l, b :: r = l := ⟨_, rfl⟩
  obtain ⟨s, hs⟩ : ∃ s, st l = s := ⟨_, rfl⟩
  obtain ⟨n, hn⟩ : ∃ n, l.length = n := ⟨_, rfl⟩
  have hrn : r.length + 1 = n := by rw [← hn, ← hll]; rfl
  obtain ⟨D, hD⟩ : ∃ D, digs l = D := ⟨_, rfl⟩
  have zs : s.size = n := by rw [← hs, st_size, ← hn]
  have hDn : D ≤ n := by rw [← hD, ← hn]; exact digs_le l
  have ps : 0 < s.size := by omega
  have HXs : (s[0]'ps).toNat = b.toNat := by subst hs; rw [st_get]; subst hll; rfl
  have HIx := Lib.hid (fun (k : Nat) (hk : k < s.size) (hkl : k < l.length) => (show (s[k]'hk).toNat = (l[k]'hkl).toNat from by subst hs; rw [st_get]))
  have nes : ¬ s.toList = [] := fun e => by rw [toList_nil_iff_emptyBytes] at e; rw [e] at ps; exact absurd ps (by decide)
  have nbs : s.toList.isEmpty = false := by rw [List.isEmpty_eq_false_iff]; exact nes
  have q0 : (0 : Int) < (n : Int) := by omega
  have pns : 0 < n := by omega
  have HDg := Lib.hid (fun (k : Nat) (hk : k < D) (h : k < l.length) => (show 48 ≤ (l[k]'h).toNat ∧ (l[k]'h).toNat ≤ 57 from by
    have := digs_all l k (by rw [hD]; exact hk)
    unfold isDig at this
    simpa using this))
  have HDe := Lib.hid (fun (h : D < l.length) => (show (l[D]'h).toNat < 48 ∨ 57 < (l[D]'h).toNat from by
    have := digs_end l (by rw [hD]; exact h)
    simp only [hD] at this
    unfold isDig at this
    simp only [Bool.and_eq_false_iff, decide_eq_false_iff_not] at this
    omega))
  have HN := Lib.hid hn
  have HNone := Lib.hid (fun (h : ¬ (1 ≤ D ∧ D ≤ 4 ∧ valF 0 (l.take D) ≤ 255)) => (show rretP n (numP l) = .tuple #[.bool false, .int .i64 0, .string ⟨#[]⟩, .int .i64 0] from by
    unfold numP; rw [hD, if_neg h]; rfl))
  have HSome := Lib.hid (fun (h : 1 ≤ D ∧ D ≤ 4 ∧ valF 0 (l.take D) ≤ 255) => (show rretP n (numP l) = .tuple #[.bool true, .int .i64 (valF 0 (l.take D)), .string (st [UInt8.ofNat (valF 0 (l.take D))]), .int .i64 D] from by
    unfold numP; rw [hD, if_pos h]
    simp only [rretP, List.length_drop]
    rw [hn, show n - (n - D) = D by omega]))
  obtain ⟨V, hV⟩ : ∃ V : Nat → Nat, (fun k => valF 0 (l.take k)) = V := ⟨_, rfl⟩
  have HV0 := Lib.hid (show V 0 = 0 from by subst hV; rfl)
  have HVs := Lib.hid (fun (k : Nat) (h : k < l.length) => (show V (k + 1) = V k * 10 + ((l[k]'h).toNat - 48) from by subst hV; exact valF_take l k h))
  have HVh := Lib.hid (fun (k : Nat) (hk : k ≤ D) (h5 : k ≤ 5) => (show V k ≤ 100000 from by subst hV; exact valF_hi l k (by omega) h5))
  have eV : valF 0 (l.take D) = V D := by subst hV; rfl
  rw [eV] at HNone HSome
  rw [hrn, hll, hs]
  obtain ⟨R, hR⟩ : ∃ R, rretP n (numP l) = R := ⟨_, rfl⟩
  rw [hR] at HNone HSome ⊢
  have c1 : ¬ b.toNat = 34 := fun e => hb (.inl (UInt8.toNat_inj.1 e))
  have c2 : ¬ b.toNat = 39 := fun e => hb (.inr (UInt8.toNat_inj.1 e))
  obtain ⟨bb, hbb⟩ : ∃ bb, b.toNat = bb := ⟨_, rfl⟩
  have hbb256 : bb < 256 := by rw [← hbb]; exact b.toNat_lt
  rw [hbb] at HXs c1 c2
  have c3 : ((bb : Int) == 34) = false := by simp; omega
  have c4 : ((bb : Int) == 39) = false := by simp; omega
  have c5 : ¬ (bb : Int) = 34 := by omega
  have c6 : ¬ (bb : Int) = 39 := by omega
  clear hb hbb hs hD hn hV eV hR hrn hll
  go_enter Tryd.func31, Tryd.ntmps31
  go_wp2_with fail
  obtain ⟨wz, hwz⟩ : ∃ wz, wz = w := ⟨_, rfl⟩
  go_loopw [7, 8] (fun a i wr => ∃ k : Nat, k ≤ D ∧ k ≤ 5 ∧ a = .int .i64 (V k : Int) ∧ i = .int .i64 (k : Int) ∧ wr = w) (fun _ i _ => 5 - (intOf i).toNat)
  case atStart => exact ⟨0, by omega, by omega, by rw [HV0.out]; rfl, rfl, rfl⟩
  case round =>
    obtain ⟨k, hk, hk5, rfl, rfl, rfl⟩ := hrel
    have hways : (k < D ∧ k < 5) ∨ (k = 5) ∨ (k = D ∧ k < 5) := by omega
    rcases hways with ⟨g1, g2⟩ | g1 | ⟨g1, g2⟩
    · have q1 : (k : Int) < (n : Int) := by omega
      have q2 : k < s.size := by omega
      have q3 : k < n := by omega
      have q4 : (k : Int) < 5 := by omega
      have hkl : k < l.length := by rw [HN.out]; exact q3
      have hx := HIx.out k q2 hkl
      have hd := HDg.out k g1 hkl
      have hv := HVs.out k hkl
      obtain ⟨c, hc⟩ : ∃ c, (l[k]'hkl).toNat = c := ⟨_, rfl⟩
      have hc256 : c < 256 := by rw [← hc]; exact (l[k]'hkl).toNat_lt
      rw [hc] at hx hd hv
      clear hc
      have HDc := Lib.hid (fun W => HD.out W c hc256)
      have db : (decide (48 ≤ c) && decide (c ≤ 57)) = true := by simp; omega
      rw [db] at HDc
      have hvb := HVh.out k hk hk5
      obtain ⟨x, hxv⟩ : ∃ x, V k = x := ⟨_, rfl⟩
      rw [hxv] at hv hvb ⊢
      have w1 : IntKind.i64.wrap (10 * (x : Int)) = 10 * (x : Int) := IntWalk.i64_in _ (by omega)
      have w2 : IntKind.u8.wrap ((c : Int) - 48) = (c : Int) - 48 := by (unfold IntKind.wrap; simp [IntKind.signed, IntKind.bits]; try omega)
      have w3 : IntKind.i64.wrap ((c : Int) - 48) = (c : Int) - 48 := IntWalk.i64_in _ (by omega)
      have w4 : IntKind.i64.wrap (10 * (x : Int) + ((c : Int) - 48)) = 10 * (x : Int) + ((c : Int) - 48) := IntWalk.i64_in _ (by omega)
      have w5 : IntKind.i64.wrap ((k : Int) + 1) = (k : Int) + 1 := IntWalk.i64_in _ (by omega)
      have HVx := Lib.hid (show (10 * (x : Int) + ((c : Int) - 48)) = ((V (k + 1) : Nat) : Int) from by rw [hv]; omega)
      clear hxv hv db
      go_wp2_with fail
      refine (HDc.out _).mono ?_
      rintro e w2 ⟨rfl, rfl⟩
      go_wp2_with fail
      go_roundw
      case rel => exact ⟨k + 1, by omega, by omega, by rw [HVx.out], by go_num, trivial⟩
      case measure => simp [intOf]; omega
    · obtain rfl : k = 5 := g1
      have HR := Lib.hid (HNone.out (by omega))
      have hx5 : (¬ (5 : Int) < (n : Int)) ∨ (∃ (h : 5 < s.size) (c : Nat), (5 : Int) < (n : Int) ∧ 5 < n ∧ (s[5]'h).toNat = c ∧ c < 256 ∧ (decide (48 ≤ c) && decide (c ≤ 57)) = true) ∨
          (∃ (h : 5 < s.size) (c : Nat), (5 : Int) < (n : Int) ∧ 5 < n ∧ (s[5]'h).toNat = c ∧ c < 256 ∧ (decide (48 ≤ c) && decide (c ≤ 57)) = false) := by
        by_cases h5 : 5 < n
        · right
          have hs5 : 5 < s.size := by omega
          cases hb5 : (decide (48 ≤ (s[5]'hs5).toNat) && decide ((s[5]'hs5).toNat ≤ 57)) with
          | true => exact .inl ⟨hs5, _, by omega, h5, rfl, (s[5]'hs5).toNat_lt, hb5⟩
          | false => exact .inr ⟨hs5, _, by omega, h5, rfl, (s[5]'hs5).toNat_lt, hb5⟩
        · left; omega
      obtain ⟨x, hxv⟩ : ∃ x, V 5 = x := ⟨_, rfl⟩
      rw [hxv]
      clear hxv HNone HSome
      rcases hx5 with q1 | ⟨hs5, c, q1, q2, hx, hc256, db⟩ | ⟨hs5, c, q1, q2, hx, hc256, db⟩
      · go_wp2_with fail
        refine bodyPost_ret (v := .tuple #[.bool false, .int .i64 0, .string ⟨#[]⟩, .int .i64 0]) (by simp [results, Tryd.results31, go_sem]) rfl ⟨by rw [HR.out], Below.refl _ _⟩
      · have HDc := Lib.hid (fun W => HD.out W c hc256)
        rw [db] at HDc
        clear db
        go_wp2_with fail
        refine (HDc.out _).mono ?_
        rintro e w2 ⟨rfl, he⟩
        replace he := he.symm
        subst he
        go_wp2_with fail
        refine bodyPost_ret (v := .tuple #[.bool false, .int .i64 0, .string ⟨#[]⟩, .int .i64 0]) (by simp [results, Tryd.results31, go_sem]) rfl ⟨by rw [HR.out], Below.refl _ _⟩
      · have HDc := Lib.hid (fun W => HD.out W c hc256)
        rw [db] at HDc
        clear db
        go_wp2_with fail
        refine (HDc.out _).mono ?_
        rintro e w2 ⟨rfl, he⟩
        replace he := he.symm
        subst he
        go_wp2_with fail
        refine bodyPost_ret (v := .tuple #[.bool false, .int .i64 0, .string ⟨#[]⟩, .int .i64 0]) (by simp [results, Tryd.results31, go_sem]) rfl ⟨by rw [HR.out], Below.refl _ _⟩
    · subst g1
      have hx5 : (¬ (k : Int) < (n : Int)) ∨ (∃ (h : k < s.size) (c : Nat), (k : Int) < (n : Int) ∧ k < n ∧ (s[k]'h).toNat = c ∧ c < 256 ∧ (decide (48 ≤ c) && decide (c ≤ 57)) = false) := by
        by_cases h5 : k < n
        · right
          have hs5 : k < s.size := by omega
          have hkl : k < l.length := by rw [HN.out]; exact h5
          have hd := HDe.out hkl
          have hx := HIx.out k hs5 hkl
          rw [← hx] at hd
          exact ⟨hs5, _, by omega, h5, rfl, (s[k]'hs5).toNat_lt, by simp; omega⟩
        · left; omega
      have hvb := HVh.out k (by omega) (by omega)
      obtain ⟨x, hxv⟩ : ∃ x, V k = x := ⟨_, rfl⟩
      rw [hxv] at HNone HSome hvb ⊢
      clear hxv HIx HDg HDe HN HVs HVh HV0 hk hk5
      by_cases k0 : k = 0
      · have HR := Lib.hid (HNone.out (by omega))
        clear HNone HSome
        have db : (decide (48 ≤ bb) && decide (bb ≤ 57)) = false := by
          rcases hx5 with q1 | ⟨hs5, c, q1, q2, hx, hc256, db⟩
          · omega
          · subst k0
            rw [HXs] at hx
            rw [hx]
            exact db
        have HDc := Lib.hid (fun W => HD.out W bb hbb256)
        rw [db] at HDc
        have e0 : (k : Int) = 0 := by omega
        rw [e0]
        clear db hx5 e0 k0
        go_wp2_with fail
        refine (HDc.out _).mono ?_
        rintro e w2 ⟨rfl, he⟩
        replace he := he.symm
        subst he
        go_wp2_with fail
        refine bodyPost_ret (v := .tuple #[.bool false, .int .i64 0, .string ⟨#[]⟩, .int .i64 0]) (by simp [results, Tryd.results31, go_sem]) rfl ⟨by rw [HR.out], Below.refl _ _⟩
      · have k1 : ¬ (k : Int) = 0 := by omega
        have k2 : ((k : Int) == 0) = false := by simp; omega
        have k3 : ¬ (k : Int) = 5 := by omega
        have k4 : ((k : Int) == 5) = false := by simp; omega
        by_cases hX : x ≤ 255
        · have x1 : ¬ 255 < (x : Int) := by omega
          have HR := Lib.hid (HSome.out ⟨by omega, by omega, hX⟩)
          clear HNone HSome
          have w8 : IntKind.u8.wrap (x : Int) = (x : Int) := by (unfold IntKind.wrap; simp [IntKind.signed, IntKind.bits]; try omega)
          have HXs := Lib.hid (show strOfNums [((x : Nat) : Int)] = st [UInt8.ofNat x] from by unfold strOfNums st; simp)
          obtain ⟨X, hXX⟩ : ∃ X, strOfNums [((x : Nat) : Int)] = X := ⟨_, rfl⟩
          have HXX := Lib.hid hXX
          have hcv : ∀ wr : World, Sem.run Tryd.prog (convert 70 9 (.slice (some ⟨wr.heap.size, 0, none⟩) 1 1)) (wr.alloc (.cells #[.int .u8 x] 5)).drew = .ok (.string X) (wr.alloc (.cells #[.int .u8 x] 5)).drew := fun wr => by
            rw [← HXX.out]
            exact conv2 _ _ _ (show (wr.alloc (.cells #[.int .u8 x] 5)).cell? ⟨wr.heap.size, 0, none⟩ = _ from by simp [go_sem])
          rw [hXX] at HXs
          clear hXX
          rcases hx5 with q1 | ⟨hs5, c, q1, q2, hx, hc256, db⟩
          · go_wp2_with fail
            go_region
            go_wp2_with fail
            refine bodyPost_ret (v := .tuple #[.bool true, .int .i64 x, .string X, .int .i64 k]) (by simp [results, Tryd.results31, go_sem]) rfl ⟨by rw [HR.out, HXs.out], bel_drewN (bel_alloc (Below.refl _ _) _) 1⟩
          · have HDc := Lib.hid (fun W => HD.out W c hc256)
            rw [db] at HDc
            clear db
            go_wp2_with fail
            refine (HDc.out _).mono ?_
            rintro e w2 ⟨rfl, he⟩
            replace he := he.symm
            subst he
            go_wp2_with fail
            go_region
            go_wp2_with fail
            refine bodyPost_ret (v := .tuple #[.bool true, .int .i64 x, .string X, .int .i64 k]) (by simp [results, Tryd.results31, go_sem]) rfl ⟨by rw [HR.out, HXs.out], bel_drewN (bel_alloc (Below.refl _ _) _) 1⟩
        · have x1 : 255 < (x : Int) := by omega
          have HR := Lib.hid (HNone.out (by omega))
          clear HNone HSome
          rcases hx5 with q1 | ⟨hs5, c, q1, q2, hx, hc256, db⟩
          · go_wp2_with fail
            refine bodyPost_ret (v := .tuple #[.bool false, .int .i64 0, .string ⟨#[]⟩, .int .i64 0]) (by simp [results, Tryd.results31, go_sem]) rfl ⟨by rw [HR.out], Below.refl _ _⟩
          · have HDc := Lib.hid (fun W => HD.out W c hc256)
            rw [db] at HDc
            clear db
            go_wp2_with fail
            refine (HDc.out _).mono ?_
            rintro e w2 ⟨rfl, he⟩
            replace he := he.symm
            subst he
            go_wp2_with fail
            refine bodyPost_ret (v := .tuple #[.bool false, .int .i64 0, .string ⟨#[]⟩, .int .i64 0]) (by simp [results, Tryd.results31, go_sem]) rfl ⟨by rw [HR.out], Below.refl _ _⟩
theorem ritem_any (w : World) (l : List UInt8) (hl : l.length ≤ 100000) :
    Calls Tryd.prog 31 #[.string (st l)] w fun e w' => e = .returned (rretP l.length (itemP l)) ∧ Below w.heap.size w w' := by
  cases l with
  | nil =>
    rw [st_nil]
    go_enter Tryd.func31, Tryd.ntmps31
    go_wp2_with fail
    refine bodyPost_ret (v := .tuple #[.bool false, .int .i64 0, .string ⟨#[]⟩, .int .i64 0]) (by simp [results, Tryd.results31, go_sem]) rfl ⟨rfl, Below.refl _ _⟩
  | cons b r =>
    simp only [itemP]
    by_cases hb : b = 34 ∨ b = 39
    · rw [if_pos hb]
      exact rquoted_any w b r (by simp at hl; omega) hb
    · rw [if_neg hb]
      exact rnumber_any w b r (by simp at hl; omega) hb
end Go.Proofs.YtnfpfpppnfighaaDoor
