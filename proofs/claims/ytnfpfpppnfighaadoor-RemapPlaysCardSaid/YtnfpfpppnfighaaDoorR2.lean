/- remap: what a body says: plain. -/
import Derived.Test.YtnfpfpppnfighaaDoorR1
namespace Go.Proofs.YtnfpfpppnfighaaDoor
open Go.Shelf Go.RowKit
set_option linter.unusedVariables false
set_option linter.unusedSimpArgs false
/-- Bytes as a string. -/
def st (l : List UInt8) : ByteArray := ⟨l.toArray⟩
theorem st_size (l : List UInt8) : (st l).size = l.length := by unfold st; show l.toArray.size = _; simp
theorem st_list (l : List UInt8) : (st l).data.toList = l := by unfold st; simp
theorem st_of (s : ByteArray) : s = st s.data.toList := by cases s; simp [st]
theorem st_inj {a b : List UInt8} (h : st a = st b) : a = b := by rw [← st_list a, h, st_list]
theorem st_get (l : List UInt8) (i : Nat) (h : i < (st l).size) : (st l)[i] = l[i]'(by rw [st_size] at h; exact h) := by
  show (st l).data[i]'_ = _
  simp [st]
theorem st_extract (l : List UInt8) (a b : Nat) : (st l).extract a b = st ((l.take b).drop a) := by
  apply ByteArray.ext
  rw [ByteArray.data_extract]
  unfold st
  apply Array.ext'
  simp
  rw [List.drop_take]
theorem st_append (a b : List UInt8) : st a ++ st b = st (a ++ b) := by apply ByteArray.ext; simp [st]
theorem st_nil : st [] = ⟨#[]⟩ := rfl
/-- A part of a body. -/
structure Itm where
  num : Bool
  n : Nat
  text : List UInt8
deriving DecidableEq
def Itm.val (x : Itm) : Value := .agg #[.bool x.num, .int .i64 x.n, .string (st x.text)]
def isDig (b : UInt8) : Bool := decide (48 ≤ b.toNat) && decide (b.toNat ≤ 57)
/-- How many digits come first. -/
def digs : List UInt8 → Nat
  | [] => 0
  | b :: r => if isDig b then digs r + 1 else 0
theorem digs_le : ∀ l : List UInt8, digs l ≤ l.length
  | [] => Nat.le_refl _
  | b :: r => by unfold digs; split <;> simp <;> (have := digs_le r; omega)
theorem digs_all : ∀ (l : List UInt8) (k : Nat) (h : k < digs l), isDig (l[k]'(Nat.lt_of_lt_of_le h (digs_le l))) = true
  | [], k, h => by simp [digs] at h
  | b :: r, k, h => by
    by_cases hb : isDig b = true
    · cases k with
      | zero => exact hb
      | succ k =>
        have e : digs (b :: r) = digs r + 1 := by simp [digs, hb]
        exact digs_all r k (by omega)
    · simp [digs, hb] at h
theorem digs_end : ∀ (l : List UInt8) (h : digs l < l.length), isDig l[digs l] = false
  | [], h => by simp at h
  | b :: r, h => by
    by_cases hb : isDig b = true
    · have e : digs (b :: r) = digs r + 1 := by simp [digs, hb]
      have h2 : digs r < r.length := by rw [e] at h; simpa using h
      have := digs_end r h2
      simp only [e, List.getElem_cons_succ]
      exact this
    · have e : digs (b :: r) = 0 := by simp [digs, hb]
      simp only [e, List.getElem_cons_zero]
      simpa using hb
/-- The number that digits tell, behind one. -/
def valF (acc : Nat) : List UInt8 → Nat
  | [] => acc
  | b :: r => valF (acc * 10 + (b.toNat - 48)) r
theorem digitVal_dig {b : UInt8} (h : isDig b = true) : Lib.digitVal b = some (b.toNat - 48) := by
  unfold isDig at h
  simp only [Bool.and_eq_true, decide_eq_true_eq] at h
  unfold Lib.digitVal
  rw [if_pos ⟨h.1, h.2⟩]
theorem decFrom_val : ∀ (l : List UInt8) (acc : Nat), (∀ b ∈ l, isDig b = true) → Lib.decFrom acc l = some (valF acc l)
  | [], acc, _ => rfl
  | b :: r, acc, h => by
    unfold Lib.decFrom valF
    rw [digitVal_dig (h b (by simp))]
    exact decFrom_val r _ (fun x hx => h x (by simp [hx]))
theorem valF_lt (l : List UInt8) : ∀ (acc : Nat), (∀ b ∈ l, isDig b = true) → valF acc l < (acc + 1) * 10 ^ l.length := by
  induction l with
  | nil => intro acc _; rw [List.length_nil, Nat.pow_zero]; unfold valF; omega
  | cons b r ih =>
    intro acc h
    have h1 := ih (acc * 10 + (b.toNat - 48)) (fun x hx => h x (by simp [hx]))
    have hb := h b (by simp)
    unfold isDig at hb
    simp only [Bool.and_eq_true, decide_eq_true_eq] at hb
    unfold valF
    generalize hx : b.toNat - 48 = x at h1 ⊢
    have h2 : acc * 10 + x + 1 ≤ (acc + 1) * 10 := by omega
    rw [List.length_cons, Nat.pow_succ]
    generalize 10 ^ r.length = P at h1 ⊢
    have h3 := Nat.mul_le_mul_right P h2
    have e : (acc + 1) * (P * 10) = (acc + 1) * 10 * P := by rw [Nat.mul_comm P 10, Nat.mul_assoc]
    rw [e]
    exact Nat.lt_of_lt_of_le h1 h3
/-- The number at the beginning. -/
def numP (l : List UInt8) : Option (Itm × List UInt8) :=
  if 1 ≤ digs l ∧ digs l ≤ 4 ∧ valF 0 (l.take (digs l)) ≤ 255 then some (⟨true, valF 0 (l.take (digs l)), [UInt8.ofNat (valF 0 (l.take (digs l)))]⟩, l.drop (digs l)) else none
theorem take_digs (l : List UInt8) : ∀ b ∈ l.take (digs l), isDig b = true := by
  intro b hb
  obtain ⟨i, hi, rfl⟩ := List.getElem_of_mem hb
  rw [List.getElem_take]
  exact digs_all l i (by rw [List.length_take] at hi; omega)
theorem atoi_digs (l : List UInt8) (h : 1 ≤ digs l) : Lib.atoi (l.take (digs l)) = some ((valF 0 (l.take (digs l)) : Nat) : Int) := by
  have hd := take_digs l
  have hlen : (l.take (digs l)).length = digs l := by rw [List.length_take]; have := digs_le l; omega
  cases hm : l.take (digs l) with
  | nil => rw [hm] at hlen; simp at hlen; omega
  | cons b r =>
    rw [hm] at hd
    have hb := hd b (by simp)
    unfold isDig at hb
    simp only [Bool.and_eq_true, decide_eq_true_eq] at hb
    simp only [Lib.atoi]
    rw [if_neg (by simp; intro e; subst e; simp at hb), if_neg (by simp; intro e; subst e; simp at hb)]
    unfold Lib.decNat
    rw [if_neg (by simp), decFrom_val _ _ hd]
    rfl
/-- The string at the beginning: q: its mark. -/
def quoP (q : UInt8) (r : List UInt8) : Option (Itm × List UInt8) :=
  if Lib.indexByte r q < 0 then none else some (⟨false, 0, r.take (Lib.indexByte r q).toNat⟩, r.drop ((Lib.indexByte r q).toNat + 1))
/-- The part at the beginning. -/
def itemP : List UInt8 → Option (Itm × List UInt8)
  | [] => none
  | b :: r => if b = 34 ∨ b = 39 then quoP b r else numP (b :: r)
/-- A body's parts. -/
def itemsF : Nat → List UInt8 → Option (List Itm)
  | 0, _ => none
  | f + 1, l => match itemP l with
    | none => none
    | some (x, []) => some [x]
    | some (x, b :: r) => if b = 59 then (itemsF f r).map (x :: ·) else none
theorem quoP_len {q : UInt8} {r : List UInt8} {x : Itm} {t : List UInt8} (h : quoP q r = some (x, t)) : t.length < (q :: r).length ∧ x.text.length ≤ (q :: r).length - t.length := by
  unfold quoP at h
  split at h
  · cases h
  · simp only [Option.some.injEq, Prod.mk.injEq] at h
    obtain ⟨rfl, rfl⟩ := h
    simp only [List.length_drop, List.length_cons, List.length_take]
    omega
theorem numP_len {l : List UInt8} {x : Itm} {t : List UInt8} (h : numP l = some (x, t)) : t.length < l.length ∧ x.text.length ≤ l.length - t.length := by
  unfold numP at h
  split at h
  · next hc =>
    simp only [Option.some.injEq, Prod.mk.injEq] at h
    obtain ⟨rfl, rfl⟩ := h
    have := digs_le l
    simp only [List.length_drop, List.length_cons, List.length_nil]
    omega
  · cases h
theorem itemP_len {l : List UInt8} {x : Itm} {t : List UInt8} (h : itemP l = some (x, t)) : t.length < l.length ∧ x.text.length ≤ l.length - t.length := by
  cases l with
  | nil => cases h
  | cons b r =>
    simp only [itemP] at h
    by_cases hq : b = 34 ∨ b = 39
    · rw [if_pos hq] at h; exact quoP_len h
    · rw [if_neg hq] at h; exact numP_len h
/-- What a body tells: whether the key is a further one, its number, the text; else what is wrong. -/
def parseI : List Itm → Except Int (Bool × Nat × List UInt8)
  | [] => .error 15
  | x :: r => if !x.num then .error 15 else if x.n = 0 then (match r with
      | [] => .error 15
      | y :: r' => if !y.num then .error 15 else .ok (true, y.n, (r'.map (·.text)).flatten))
    else .ok (false, x.n, (r.map (·.text)).flatten)
def parseP (l : List UInt8) : Except Int (Bool × Nat × List UInt8) := match itemsF (l.length + 1) l with
  | none => .error 14
  | some xs => parseI xs
end Go.Proofs.YtnfpfpppnfighaaDoor
