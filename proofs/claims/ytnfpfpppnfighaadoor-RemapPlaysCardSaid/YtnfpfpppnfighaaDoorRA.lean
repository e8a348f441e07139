/- remap: what is told is read: plain. -/
import Derived.Test.YtnfpfpppnfighaaDoorR9
namespace Go.Proofs.YtnfpfpppnfighaaDoor
open Go.Shelf Go.RowKit
set_option linter.unusedVariables false
set_option linter.unusedSimpArgs false
set_option maxRecDepth 100000
theorem digs_append : ∀ (l tail : List UInt8), (∀ b ∈ l, isDig b = true) → (∀ b r, tail = b :: r → isDig b = false) → digs (l ++ tail) = l.length
  | [], tail, _, h => by
    cases tail with
    | nil => rfl
    | cons b r => simp [digs, h b r rfl]
  | c :: l, tail, h1, h2 => by
    have := digs_append l tail (fun b hb => h1 b (by simp [hb])) h2
    have hc := h1 c (by simp)
    simp only [List.cons_append, digs, hc, if_true, this, List.length_cons]
/-- A number's digits. -/
structure DecOk (l : List UInt8) (a : Nat) : Prop where
  dig : ∀ b ∈ l, isDig b = true
  lo : 1 ≤ l.length
  hi : l.length ≤ 3
  val : valF 0 l = a
theorem ofNat_dig (d : Nat) (h : d < 10) : (UInt8.ofNat (48 + d)).toNat = 48 + d := by
  rw [UInt8.toNat_ofNat']
  omega
theorem isDig_of (d : Nat) (h : d < 10) : isDig (UInt8.ofNat (48 + d)) = true := by
  unfold isDig
  rw [ofNat_dig d h]
  simp; omega
theorem dec_ok (a : Nat) (h : a ≤ 255) : DecOk (Lib.decDigits a) a := by
  by_cases h1 : a < 10
  · rw [Lib.decDigits, dif_pos h1]
    exact ⟨by intro b hb; rw [List.mem_singleton] at hb; rw [hb]; exact isDig_of a h1, by simp, by simp, by show 0 * 10 + ((UInt8.ofNat (48 + a)).toNat - 48) = a; rw [ofNat_dig a h1]; omega⟩
  · by_cases h2 : a < 100
    · have e : a = (a / 10) * 10 + a % 10 := by omega
      rw [e, dd2 (a / 10) (a % 10) (by omega) (by omega) (by omega)]
      refine ⟨?_, by simp, by simp, ?_⟩
      · intro b hb
        rw [List.mem_cons, List.mem_singleton] at hb
        rcases hb with rfl | rfl
        · exact isDig_of _ (by omega)
        · exact isDig_of _ (by omega)
      · show (0 * 10 + ((UInt8.ofNat (48 + a / 10)).toNat - 48)) * 10 + ((UInt8.ofNat (48 + a % 10)).toNat - 48) = _
        rw [ofNat_dig (a / 10) (by omega), ofNat_dig (a % 10) (by omega)]; omega
    · rw [Lib.decDigits, dif_neg (by omega)]
      have e : a / 10 = (a / 100) * 10 + (a / 10) % 10 := by omega
      rw [e, dd2 (a / 100) (a / 10 % 10) (by omega) (by omega) (by omega)]
      refine ⟨?_, by simp, by simp, ?_⟩
      · intro b hb
        rw [List.mem_append, List.mem_cons, List.mem_singleton, List.mem_singleton] at hb
        rcases hb with (rfl | rfl) | rfl
        · exact isDig_of _ (by omega)
        · exact isDig_of _ (by omega)
        · exact isDig_of _ (by omega)
      · show ((0 * 10 + ((UInt8.ofNat (48 + a / 100)).toNat - 48)) * 10 + ((UInt8.ofNat (48 + a / 10 % 10)).toNat - 48)) * 10 + ((UInt8.ofNat (48 + a % 10)).toNat - 48) = a
        rw [ofNat_dig (a / 100) (by omega), ofNat_dig (a / 10 % 10) (by omega), ofNat_dig (a % 10) (by omega)]; omega
def numI (a : Nat) : Itm := ⟨true, a, [UInt8.ofNat a]⟩
theorem itemP_dec (a : Nat) (h : a ≤ 255) (tail : List UInt8) (ht : ∀ b r, tail = b :: r → isDig b = false) : itemP (Lib.decDigits a ++ tail) = some (numI a, tail) := by
  have hd := dec_ok a h
  have hdg := digs_append (Lib.decDigits a) tail hd.dig ht
  have hnum : numP (Lib.decDigits a ++ tail) = some (numI a, tail) := by
    unfold numP
    rw [hdg, List.take_left, List.drop_left, hd.val, if_pos ⟨hd.lo, Nat.le_trans hd.hi (by decide), h⟩]
    rfl
  cases hl : Lib.decDigits a with
  | nil => have := hd.lo; rw [hl] at this; simp at this
  | cons c r =>
    rw [hl] at hnum
    have hc := hd.dig c (by rw [hl]; simp)
    unfold isDig at hc
    simp only [Bool.and_eq_true, decide_eq_true_eq] at hc
    show itemP (c :: (r ++ tail)) = _
    simp only [itemP]
    rw [if_neg (by rintro (rfl | rfl) <;> simp at hc)]
    exact hnum
theorem items_join : ∀ (rest : List Nat) (a : Nat), a ≤ 255 → (∀ x ∈ rest, x ≤ 255) → items (Lib.decDigits a ++ (rest.map fun x => 59 :: Lib.decDigits x).flatten) = some (numI a :: rest.map numI)
  | [], a, ha, _ => by
    have := itemP_dec a ha [] (by simp)
    simpa using items_last this
  | b :: rest, a, ha, hr => by
    have h1 := itemP_dec a ha (59 :: (Lib.decDigits b ++ (rest.map fun x => 59 :: Lib.decDigits x).flatten)) (by
      intro c r h; simp at h; rw [← h.1]; decide)
    have h2 := items_join rest b (hr b (by simp)) (fun x hx => hr x (by simp [hx]))
    have h3 := items_more h1
    rw [h2] at h3
    simpa using h3
theorem bytesP_dec (t : List UInt8) : bytesP t = ((t.map UInt8.toNat).map fun x => 59 :: Lib.decDigits x).flatten := by
  unfold bytesP
  rw [List.map_map]
  congr 1
theorem flat_bytes (t : List UInt8) : (((t.map UInt8.toNat).map numI).map (·.text)).flatten = t := by
  induction t with
  | nil => rfl
  | cons b r ih =>
    simp only [List.map_cons, List.flatten_cons, ih, numI]
    show UInt8.ofNat b.toNat :: r = b :: r
    rw [UInt8.ofNat_toNat]
/-- What is told is read. -/
theorem parse_tell (e : Bool) (n : Int) (t : List UInt8) (h : mayB e n = true) : parseP (tellP e n t) = .ok (e, n.toNat, t) := by
  unfold mayB at h
  simp only [Bool.and_eq_true, decide_eq_true_eq, Bool.or_eq_true] at h
  obtain ⟨⟨h0, h1⟩, h2⟩ := h
  obtain ⟨a, rfl⟩ : ∃ a : Nat, n = (a : Int) := ⟨n.toNat, by omega⟩
  have hi : Lib.itoa (a : Int) = Lib.decDigits a := by unfold Lib.itoa; rw [if_neg (by omega), Int.toNat_natCast]
  have hb : ∀ x ∈ t.map UInt8.toNat, x ≤ 255 := by intro x hx; rw [List.mem_map] at hx; obtain ⟨b, _, rfl⟩ := hx; have := b.toNat_lt; omega
  rw [parseP_items]
  unfold tellP
  rw [hi, bytesP_dec, Int.toNat_natCast]
  cases e with
  | true =>
    have h48 : Lib.decDigits 0 = [48] := by rw [Lib.decDigits, dif_pos (by decide)]; rfl
    have := items_join (a :: t.map UInt8.toNat) 0 (by decide) (by intro x hx; simp at hx; rcases hx with rfl | hx; omega; exact hb x (by simpa using hx))
    rw [h48] at this
    have e2 : (if true = true then ([48, 59] : List UInt8) else []) ++ Lib.decDigits a ++ ((t.map UInt8.toNat).map fun x => 59 :: Lib.decDigits x).flatten = [48] ++ ((a :: t.map UInt8.toNat).map fun x => 59 :: Lib.decDigits x).flatten := by simp
    rw [e2, this]
    show parseI (numI 0 :: (numI a :: (t.map UInt8.toNat).map numI)) = _
    simp only [parseI, numI, Bool.not_true, Bool.false_eq_true, if_false, if_true]
    rw [flat_bytes]
  | false =>
    have ha : a ≠ 0 := by simp at h2; omega
    have := items_join (t.map UInt8.toNat) a (by omega) hb
    have e2 : (if false = true then ([48, 59] : List UInt8) else []) ++ Lib.decDigits a ++ ((t.map UInt8.toNat).map fun x => 59 :: Lib.decDigits x).flatten = Lib.decDigits a ++ ((t.map UInt8.toNat).map fun x => 59 :: Lib.decDigits x).flatten := by simp
    rw [e2, this]
    have hB := parse_B (xs := numI a :: (t.map UInt8.toNat).map numI) rfl ha
    refine hB.trans ?_
    show Except.ok (false, a, (((t.map UInt8.toNat).map numI).map (·.text)).flatten) = _
    rw [flat_bytes]
theorem tell_inj {e e' : Bool} {n n' : Int} {t t' : List UInt8} (h : mayB e n = true) (h' : mayB e' n' = true) (heq : tellP e n t = tellP e' n' t') : e = e' ∧ n = n' ∧ t = t' := by
  have p1 := parse_tell e n t h
  rw [heq, parse_tell e' n' t' h'] at p1
  simp only [Except.ok.injEq, Prod.mk.injEq] at p1
  obtain ⟨rfl, hn, rfl⟩ := p1
  refine ⟨rfl, ?_, rfl⟩
  unfold mayB at h h'
  simp only [Bool.and_eq_true, decide_eq_true_eq] at h h'
  omega
end Go.Proofs.YtnfpfpppnfighaaDoor
