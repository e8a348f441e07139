/- The document's tabs: what lies there; New, There, Next, Prev. -/
import Derived.Test.YtpjodppcedkneaaU0
import Derived.Deep.OwnRows
namespace Go.Proofs.Ytpjodppcedkneaa
open Go.RowKit Go.Maps Go.Sort Go.Shelf
set_option linter.unusedVariables false
set_option linter.unusedSimpArgs false
set_option maxRecDepth 100000
/-- The document's tabs behind a pointer. -/
structure RT (W : World) (q g c : Nat) (S : Int → Bool) : Prop where
  ne : q ≠ g
  hq : W.heap[q]? = some (.cells #[.slice (some ⟨g, 0, none⟩) c c] 44)
  hg : W.rowIs g 4 c (fun i => .bool (S (i : Int)))
theorem RT.qlt {W : World} {q g c : Nat} {S : Int → Bool} (h : RT W q g c S) : q < W.heap.size := (Array.getElem?_eq_some_iff.1 h.hq).1
theorem RT.glt {W : World} {q g c : Nat} {S : Int → Bool} (h : RT W q g c S) : g < W.heap.size := h.hg.lt
theorem RT.cq {W : World} {q g c : Nat} {S : Int → Bool} (h : RT W q g c S) : W.cell? ⟨q, 0, none⟩ = some (.slice (some ⟨g, 0, none⟩) c c) := by simp [World.cell?, h.hq]
theorem RT.cg {W : World} {q g c : Nat} {S : Int → Bool} (h : RT W q g c S) {i : Nat} (hi : i < c) : W.cell? ⟨g, i, none⟩ = some (.bool (S (i : Int))) := h.hg.cell hi
theorem RT.fz {W : World} {q g c : Nat} {S : Int → Bool} (h : RT W q g c S) (i : Nat) : W.frozen? ⟨g, i, none⟩ = false := h.hg.frozen i
theorem RT.chg {W W' : World} {q g c : Nat} {S : Int → Bool} {X : List Nat} (h : RT W q g c S) (hc : Chg W W' X) (h1 : q ∉ X) (h2 : g ∉ X) : RT W' q g c S :=
  ⟨h.ne, (hc.block q h.qlt h1).trans h.hq, h.hg.of_block (hc.block g h.glt h2)⟩
theorem RT.later {W W' : World} {q g c : Nat} {S : Int → Bool} (h : RT W q g c S) (hb : Below W.heap.size W W') : RT W' q g c S :=
  ⟨h.ne, (hb.block q h.qlt).trans h.hq, h.hg.of_block (hb.block g h.glt)⟩
theorem RT.cong {W : World} {q g c : Nat} {S T : Int → Bool} (h : RT W q g c S) (e : ∀ x : Int, 0 ≤ x → x < (c : Int) → S x = T x) : RT W q g c T :=
  ⟨h.ne, h.hq, h.hg.congr fun i hi => by rw [e i (by omega) (by omega)]⟩
/-- One column turned. -/
def setS (S : Int → Bool) (k : Int) (b : Bool) : Int → Bool := fun x => if x = k then b else S x
theorem RT.set {W : World} {q g c : Nat} {S : Int → Bool} (h : RT W q g c S) (i : Nat) (b : Bool) : RT (W.setCell ⟨g, i, none⟩ (.bool b)) q g c (setS S (i : Int) b) := by
  refine ⟨h.ne, (heap_setCell_other _ _ _ _ h.ne).trans h.hq, (h.hg.set i (.bool b)).congr fun j hj => ?_⟩
  unfold setS
  by_cases e : j = i
  · rw [if_pos e, if_pos (by rw [e])]
  · rw [if_neg e, if_neg (by omega)]
theorem chg_set (W : World) (g i : Nat) (v : Value) : Chg W (W.setCell ⟨g, i, none⟩ v) [g] :=
  ⟨rfl, rfl, rfl, by simp [World.setCell], fun k hk hX => heap_setCell_other _ _ _ _ (fun e => hX (by rw [e]; simp))⟩
theorem info4 : (Try.prog.info? 4).map (fun i => (i.zero, i.size, i.bytes)) = some (some (.bool false), 1, 1) := by kernel_rfl
theorem rnew_any (w : World) (c : Nat) (h2 : c ≤ 255) : Calls Try.prog 15 #[.int .i64 c] w fun e w' => e = .returned (.pointer (some ⟨w.heap.size + 1, 0, none⟩)) ∧ RT w' (w.heap.size + 1) w.heap.size c (fun _ => false) ∧ Below w.heap.size w w' := by
  have hmm := fun W => run_make_row' (P := Try.prog) 42 4 (.bool false) 1 Try.underlying42 info4 rfl .i64 .i64 c (by omega) (by omega) W
  have hR : RT ((w.alloc (.cells (madeCells #[.bool false] c) 4)).alloc (.cells #[.slice (some ⟨w.heap.size, 0, none⟩) c c] 44)) (w.heap.size + 1) w.heap.size c (fun _ => false) := by
    refine ⟨by omega, ?_, (World.rowIs_made w (.bool false) c 4).alloc _⟩
    have := (MapKept.heap_alloc (w.alloc (.cells (madeCells #[.bool false] c) 4)) (.cells #[.slice (some ⟨w.heap.size, 0, none⟩) c c] 44)).1
    rw [show (w.alloc (.cells (madeCells #[.bool false] c) 4)).heap.size = w.heap.size + 1 by simp] at this
    exact this
  have HR := Lib.hid hR
  clear hR
  go_enter Try.func15, Try.ntmps15
  go_wp2_with fail
  go_ret
  exact ⟨rfl, HR.out, bel_alloc (bel_alloc (Below.refl _ _) _) _⟩
theorem there_any (w : World) (q g c : Nat) (S : Int → Bool) (h : RT w q g c S) (col : Int) : Calls Try.prog 42 #[.pointer (some ⟨q, 0, none⟩), .int .i64 col] w fun e w' => e = .returned (.bool (decide (0 ≤ col ∧ col < (c : Int)))) ∧ w' = w := by
  have k0 := h.cq
  clear h
  by_cases h1 : 0 ≤ col
  · by_cases h2 : col < (c : Int)
    · have e : decide (0 ≤ col ∧ col < (c : Int)) = true := decide_eq_true ⟨h1, h2⟩
      rw [e]; clear e
      go_enter Try.func42, Try.ntmps42
      go_wp2_with fail
      go_ret
      exact ⟨rfl, rfl⟩
    · have e : decide (0 ≤ col ∧ col < (c : Int)) = false := decide_eq_false (fun h => h2 h.2)
      rw [e]; clear e
      go_enter Try.func42, Try.ntmps42
      go_wp2_with fail
      go_ret
      exact ⟨rfl, rfl⟩
  · have e : decide (0 ≤ col ∧ col < (c : Int)) = false := decide_eq_false (fun h => h1 h.1)
    rw [e]; clear e
    go_enter Try.func42, Try.ntmps42
    go_wp2_with fail
    go_ret
    exact ⟨rfl, rfl⟩
set_option maxHeartbeats 400000 in
theorem rnext_any (w : World) (q g c : Nat) (S : Int → Bool) (h : RT w q g c S) (h1 : 1 ≤ c) (h2 : c ≤ 255) (col : Int) :
    Calls Try.prog 31 #[.pointer (some ⟨q, 0, none⟩), .int .i64 col] w fun e w' => e = .returned (.int .i64 (nextIn (rise c S) c col)) ∧ w' = w := by
  have k0 := h.cq
  have HC := Lib.hid (fun (i : Nat) (hi : i < c) => h.cg hi)
  have hw : IntKind.i64.wrap ((c : Int) - 1) = (c : Int) - 1 := IntWalk.i64_in _ (by omega)
  have HF := Lib.hid (fun (k : Nat) (hk : k < c) (hs : S (k : Int) = true) (hc : col < (k : Int)) (ha : ∀ y : Int, 0 ≤ y → y < (k : Int) → S y = true → y ≤ col) =>
    (next_is (rise_lt c S) (cols := c) (mem_rise.2 ⟨⟨by omega, by omega⟩, hs⟩) hc (fun y hy hcy => by
      obtain ⟨⟨a, b⟩, d⟩ := mem_rise.1 hy
      refine Int.not_lt.1 fun hlt => ?_
      have := ha y a hlt d; omega) : nextIn (rise c S) c col = (k : Int)))
  have HN := Lib.hid (fun (ha : ∀ y : Int, 0 ≤ y → y < (c : Int) → S y = true → y ≤ col) => ((next_no (cols := c) (fun y hy => by
      obtain ⟨⟨a, b⟩, d⟩ := mem_rise.1 hy
      have := ha y a b d; omega)).trans (by omega) : nextIn (rise c S) c col = (c : Int) - 1))
  clear h
  obtain ⟨z, hz⟩ : ∃ z, nextIn (rise c S) c col = z := ⟨_, rfl⟩
  rw [hz] at HF HN ⊢
  clear hz
  go_enter Try.func31, Try.ntmps31
  go_wp2_with fail
  go_loopw [5] (fun i wr => ∃ k : Nat, k ≤ c ∧ i = .int .i64 (k : Int) ∧ (∀ y : Int, 0 ≤ y → y < (k : Int) → S y = true → y ≤ col) ∧ wr = w) (fun i _ => c - (intOf i).toNat)
  case atStart => exact ⟨0, Nat.zero_le _, rfl, fun y h0 h1 => by simp at h1; omega, rfl⟩
  case round =>
    obtain ⟨k, hk, rfl, hno, rfl⟩ := hrel
    have Hno := Lib.hid hno
    clear hno
    by_cases hlt : k < c
    · have q1 : (k : Int) < (c : Int) := by omega
      have d1 := HC.out k hlt
      have hstep : ¬ (col < (k : Int) ∧ S (k : Int) = true) → ∀ y : Int, 0 ≤ y → y < ((k + 1 : Nat) : Int) → S y = true → y ≤ col := fun hn y h0 h1 h2 => by
        by_cases e : y = (k : Int)
        · subst e; exact Int.not_lt.1 fun h3 => hn ⟨h3, h2⟩
        · exact Hno.out y h0 (by push_cast at h1; omega) h2
      have Hs := Lib.hid hstep
      clear hstep
      by_cases hx : col < (k : Int)
      · cases hs : S (k : Int) with
        | true =>
          have Hr := Lib.hid (HF.out k hlt hs hx Hno.out)
          rw [hs] at d1
          clear hs Hs
          go_wp2_with fail
          go_ret
          exact ⟨by rw [Hr.out]; rfl, rfl⟩
        | false =>
          have Hr := Lib.hid (Hs.out (fun h => by rw [hs] at h; cases h.2))
          rw [hs] at d1
          clear hs Hs
          go_wp2_with fail
          go_roundw
          case rel => exact ⟨k + 1, by omega, by go_num, Hr.out, trivial⟩
          case measure => simp [intOf]; omega
      · have Hr := Lib.hid (Hs.out (fun h => hx h.1))
        clear Hs
        go_wp2_with fail
        go_roundw
        case rel => exact ⟨k + 1, by omega, by go_num, Hr.out, trivial⟩
        case measure => simp [intOf]; omega
    · have q1 : ¬ (k : Int) < (c : Int) := by omega
      have hkc : k = c := by omega
      have Hn := Lib.hid (HN.out (by rw [← hkc]; exact Hno.out))
      clear hkc
      go_wp2_with fail
      go_ret
      exact ⟨by rw [Hn.out]; rfl, rfl⟩
set_option maxHeartbeats 400000 in
theorem rprev_any (w : World) (q g c : Nat) (S : Int → Bool) (h : RT w q g c S) (h1 : 1 ≤ c) (h2 : c ≤ 255) (col : Int) :
    Calls Try.prog 32 #[.pointer (some ⟨q, 0, none⟩), .int .i64 col] w fun e w' => e = .returned (.int .i64 (prevIn (rise c S) col)) ∧ w' = w := by
  have k0 := h.cq
  have HC := Lib.hid (fun (i : Nat) (hi : i < c) => h.cg hi)
  have HP := Lib.hid (fun (k : Nat) => prev_rise k S col)
  clear h
  go_enter Try.func32, Try.ntmps32
  go_wp2_with fail
  go_loopw [5, 6] (fun a i wr => ∃ k : Nat, k ≤ c ∧ i = .int .i64 (k : Int) ∧ a = .int .i64 (prevIn (rise k S) col) ∧ wr = w) (fun _ i _ => c - (intOf i).toNat)
  case atStart => exact ⟨0, Nat.zero_le _, rfl, rfl, rfl⟩
  case round =>
    obtain ⟨k, hk, rfl, rfl, rfl⟩ := hrel
    by_cases hlt : k < c
    · have q1 : (k : Int) < (c : Int) := by omega
      have d1 := HC.out k hlt
      have hp := HP.out k
      obtain ⟨z, hz⟩ : ∃ z, prevIn (rise k S) col = z := ⟨_, rfl⟩
      rw [hz] at hp ⊢
      clear hz
      by_cases hx : (k : Int) < col
      · cases hs : S (k : Int) with
        | true =>
          rw [if_pos ⟨hx, hs⟩] at hp
          have Hp := Lib.hid hp
          rw [hs] at d1
          clear hs hp
          go_wp2_with fail
          go_roundw
          case rel => exact ⟨k + 1, by omega, by go_num, by rw [Hp.out], trivial⟩
          case measure => simp [intOf]; omega
        | false =>
          rw [if_neg (fun h => by rw [hs] at h; cases h.2)] at hp
          have Hp := Lib.hid hp
          rw [hs] at d1
          clear hs hp
          go_wp2_with fail
          go_roundw
          case rel => exact ⟨k + 1, by omega, by go_num, by rw [Hp.out], trivial⟩
          case measure => simp [intOf]; omega
      · rw [if_neg (fun h => hx h.1)] at hp
        have Hp := Lib.hid hp
        clear hp
        go_wp2_with fail
        go_roundw
        case rel => exact ⟨k + 1, by omega, by go_num, by rw [Hp.out], trivial⟩
        case measure => simp [intOf]; omega
    · have q1 : ¬ (k : Int) < (c : Int) := by omega
      have hkc : k = c := by omega
      subst hkc
      go_wp2_with fail
      go_ret
      exact ⟨rfl, rfl⟩
end Go.Proofs.Ytpjodppcedkneaa
