/- The contracts of the reference's There, number, Byte, seek's closure. -/
import Derived.Test.YtooikmialpfdkaaF2
import Derived.Deep.RegionHeld3
namespace Go.Proofs.Ytooikmialpfdkaa
open Go.RowKit
set_option linter.unusedVariables false

/-- A glyph's byte. -/
def byteOf (g : Int) : Int := if 32 ≤ g ∧ g ≤ 126 then g else 63
theorem byte_any (g : Int) (w : World) (h0 : -2147483648 ≤ g) (h1 : g ≤ 2147483647) : Fn w 13 #[.int .i32 g] (.int .u8 (byteOf g)) := by
  unfold Fn
  by_cases a : 32 ≤ g
  · by_cases b : g ≤ 126
    · rw [show byteOf g = g by simp [byteOf, a, b]]
      go_enter Try.func13, Try.ntmps13
      go_wp2
      go_ret
      exact ⟨ret_int (by omega), Below.refl _ _⟩
    · rw [show byteOf g = 63 by simp [byteOf, a, b]]
      go_enter Try.func13, Try.ntmps13
      go_wp2
      go_ret
      exact ⟨rfl, Below.refl _ _⟩
  · rw [show byteOf g = 63 by simp [byteOf, a]]
    go_enter Try.func13, Try.ntmps13
    go_wp2
    go_ret
    exact ⟨rfl, Below.refl _ _⟩
set_option maxHeartbeats 1000000 in
theorem rthere_0 (G : Grid) (r c : Int) (w : World) (h : G.In w.heap.size w) (hok : G.Ok) (h0 : ¬ (0 : Int) ≤ r) : Fn w 10 #[G.v, .agg #[.int .i64 r, .int .i64 c]] (.bool false) := by
  have hbig := h.big
  have hn : 0 < G.n := hok.1
  unfold Fn
  obtain ⟨b, off, ea, hb, hc⟩ := h.rows hn
  have c0 := hc 0 hn
  simp only [Nat.add_zero] at c0
  have l0 := h.lens 0 hn
  have q0 : (0 : Int) < (G.n : Int) := by omega
  have HI := Lib.hid h
  have HR : ∀ m, Calls Try.prog 17 #[.slice (some ⟨b, off, none⟩) G.n G.cap] ((w.alloc (.cells #[.int .i64 r, .int .i64 c] 24)).drewN m) fun e w' => e = .returned (.bool true) ∧ ∃ m', w' = ((w.alloc (.cells #[.int .i64 r, .int .i64 c] 24)).drewN m).drewN m' := fun m => by
    have := right_q G _ (h.later (bel_drewN (bel_alloc (Below.refl _ _) (.cells #[.int .i64 r, .int .i64 c] 24)) m) (bel_drewN (bel_alloc (Below.refl _ _) _) m).size)
    rw [okB_yes hok] at this
    unfold Grid.v at this
    rw [ea] at this
    exact this
  have HR' := Lib.hid HR
  clear HR hc h hok
  have d0 : decide ((0 : Int) ≤ r) = false := by simpa using h0
  unfold Grid.v
  rw [ea]
  clear ea
  go_enter Try.func10, Try.ntmps10
  go_wp2_with fail
  go_quiet ((go_at_call 17; exact Calls.quiet_of (HR'.out _)))
  go_wp2
  go_ret
  exact ⟨rfl, bel_drewN (bel_alloc (Below.refl _ _) _) _⟩
set_option maxHeartbeats 1000000 in
theorem rthere_1 (G : Grid) (r c : Int) (w : World) (h : G.In w.heap.size w) (hok : G.Ok) (h0 : (0 : Int) ≤ r) (h1 : ¬ r < (G.n : Int)) : Fn w 10 #[G.v, .agg #[.int .i64 r, .int .i64 c]] (.bool false) := by
  have hbig := h.big
  have hn : 0 < G.n := hok.1
  unfold Fn
  obtain ⟨b, off, ea, hb, hc⟩ := h.rows hn
  have c0 := hc 0 hn
  simp only [Nat.add_zero] at c0
  have l0 := h.lens 0 hn
  have q0 : (0 : Int) < (G.n : Int) := by omega
  have HI := Lib.hid h
  have HR : ∀ m, Calls Try.prog 17 #[.slice (some ⟨b, off, none⟩) G.n G.cap] ((w.alloc (.cells #[.int .i64 r, .int .i64 c] 24)).drewN m) fun e w' => e = .returned (.bool true) ∧ ∃ m', w' = ((w.alloc (.cells #[.int .i64 r, .int .i64 c] 24)).drewN m).drewN m' := fun m => by
    have := right_q G _ (h.later (bel_drewN (bel_alloc (Below.refl _ _) (.cells #[.int .i64 r, .int .i64 c] 24)) m) (bel_drewN (bel_alloc (Below.refl _ _) _) m).size)
    rw [okB_yes hok] at this
    unfold Grid.v at this
    rw [ea] at this
    exact this
  have HR' := Lib.hid HR
  clear HR hc h hok
  have d0 : decide ((0 : Int) ≤ r) = true := by simpa using h0
  have d1 : decide (r < (G.n : Int)) = false := by simpa using h1
  unfold Grid.v
  rw [ea]
  clear ea
  go_enter Try.func10, Try.ntmps10
  go_wp2_with fail
  go_quiet ((go_at_call 17; exact Calls.quiet_of (HR'.out _)))
  go_wp2
  go_ret
  exact ⟨rfl, bel_drewN (bel_alloc (Below.refl _ _) _) _⟩
set_option maxHeartbeats 1000000 in
theorem rthere_2 (G : Grid) (r c : Int) (w : World) (h : G.In w.heap.size w) (hok : G.Ok) (h0 : (0 : Int) ≤ r) (h1 : r < (G.n : Int)) (h2 : ¬ (0 : Int) ≤ c) : Fn w 10 #[G.v, .agg #[.int .i64 r, .int .i64 c]] (.bool false) := by
  have hbig := h.big
  have hn : 0 < G.n := hok.1
  unfold Fn
  obtain ⟨b, off, ea, hb, hc⟩ := h.rows hn
  have c0 := hc 0 hn
  simp only [Nat.add_zero] at c0
  have l0 := h.lens 0 hn
  have q0 : (0 : Int) < (G.n : Int) := by omega
  have HI := Lib.hid h
  have HR : ∀ m, Calls Try.prog 17 #[.slice (some ⟨b, off, none⟩) G.n G.cap] ((w.alloc (.cells #[.int .i64 r, .int .i64 c] 24)).drewN m) fun e w' => e = .returned (.bool true) ∧ ∃ m', w' = ((w.alloc (.cells #[.int .i64 r, .int .i64 c] 24)).drewN m).drewN m' := fun m => by
    have := right_q G _ (h.later (bel_drewN (bel_alloc (Below.refl _ _) (.cells #[.int .i64 r, .int .i64 c] 24)) m) (bel_drewN (bel_alloc (Below.refl _ _) _) m).size)
    rw [okB_yes hok] at this
    unfold Grid.v at this
    rw [ea] at this
    exact this
  have HR' := Lib.hid HR
  clear HR hc h hok
  have d0 : decide ((0 : Int) ≤ r) = true := by simpa using h0
  have d1 : decide (r < (G.n : Int)) = true := by simpa using h1
  have d2 : decide ((0 : Int) ≤ c) = false := by simpa using h2
  unfold Grid.v
  rw [ea]
  clear ea
  go_enter Try.func10, Try.ntmps10
  go_wp2_with fail
  go_quiet ((go_at_call 17; exact Calls.quiet_of (HR'.out _)))
  go_wp2
  go_ret
  exact ⟨rfl, bel_drewN (bel_alloc (Below.refl _ _) _) _⟩
set_option maxHeartbeats 1000000 in
theorem rthere_3 (G : Grid) (r c : Int) (w : World) (h : G.In w.heap.size w) (hok : G.Ok) (h0 : (0 : Int) ≤ r) (h1 : r < (G.n : Int)) (h2 : (0 : Int) ≤ c) (h3 : ¬ c < (G.len 0 : Int)) : Fn w 10 #[G.v, .agg #[.int .i64 r, .int .i64 c]] (.bool false) := by
  have hbig := h.big
  have hn : 0 < G.n := hok.1
  unfold Fn
  obtain ⟨b, off, ea, hb, hc⟩ := h.rows hn
  have c0 := hc 0 hn
  simp only [Nat.add_zero] at c0
  have l0 := h.lens 0 hn
  have q0 : (0 : Int) < (G.n : Int) := by omega
  have HI := Lib.hid h
  have HR : ∀ m, Calls Try.prog 17 #[.slice (some ⟨b, off, none⟩) G.n G.cap] ((w.alloc (.cells #[.int .i64 r, .int .i64 c] 24)).drewN m) fun e w' => e = .returned (.bool true) ∧ ∃ m', w' = ((w.alloc (.cells #[.int .i64 r, .int .i64 c] 24)).drewN m).drewN m' := fun m => by
    have := right_q G _ (h.later (bel_drewN (bel_alloc (Below.refl _ _) (.cells #[.int .i64 r, .int .i64 c] 24)) m) (bel_drewN (bel_alloc (Below.refl _ _) _) m).size)
    rw [okB_yes hok] at this
    unfold Grid.v at this
    rw [ea] at this
    exact this
  have HR' := Lib.hid HR
  clear HR hc h hok
  have d0 : decide ((0 : Int) ≤ r) = true := by simpa using h0
  have d1 : decide (r < (G.n : Int)) = true := by simpa using h1
  have d2 : decide ((0 : Int) ≤ c) = true := by simpa using h2
  have d3 : decide (c < (G.len 0 : Int)) = false := by simpa using h3
  unfold Grid.v
  rw [ea]
  clear ea
  go_enter Try.func10, Try.ntmps10
  go_wp2_with fail
  go_quiet ((go_at_call 17; exact Calls.quiet_of (HR'.out _)))
  go_wp2
  go_ret
  exact ⟨rfl, bel_drewN (bel_alloc (Below.refl _ _) _) _⟩
set_option maxHeartbeats 1000000 in
theorem rthere_4 (G : Grid) (r c : Int) (w : World) (h : G.In w.heap.size w) (hok : G.Ok) (h0 : (0 : Int) ≤ r) (h1 : r < (G.n : Int)) (h2 : (0 : Int) ≤ c) (h3 : c < (G.len 0 : Int)) : Fn w 10 #[G.v, .agg #[.int .i64 r, .int .i64 c]] (.bool true) := by
  have hbig := h.big
  have hn : 0 < G.n := hok.1
  unfold Fn
  obtain ⟨b, off, ea, hb, hc⟩ := h.rows hn
  have c0 := hc 0 hn
  simp only [Nat.add_zero] at c0
  have l0 := h.lens 0 hn
  have q0 : (0 : Int) < (G.n : Int) := by omega
  have HI := Lib.hid h
  have HR : ∀ m, Calls Try.prog 17 #[.slice (some ⟨b, off, none⟩) G.n G.cap] ((w.alloc (.cells #[.int .i64 r, .int .i64 c] 24)).drewN m) fun e w' => e = .returned (.bool true) ∧ ∃ m', w' = ((w.alloc (.cells #[.int .i64 r, .int .i64 c] 24)).drewN m).drewN m' := fun m => by
    have := right_q G _ (h.later (bel_drewN (bel_alloc (Below.refl _ _) (.cells #[.int .i64 r, .int .i64 c] 24)) m) (bel_drewN (bel_alloc (Below.refl _ _) _) m).size)
    rw [okB_yes hok] at this
    unfold Grid.v at this
    rw [ea] at this
    exact this
  have HR' := Lib.hid HR
  clear HR hc h hok
  have d0 : decide ((0 : Int) ≤ r) = true := by simpa using h0
  have d1 : decide (r < (G.n : Int)) = true := by simpa using h1
  have d2 : decide ((0 : Int) ≤ c) = true := by simpa using h2
  have d3 : decide (c < (G.len 0 : Int)) = true := by simpa using h3
  unfold Grid.v
  rw [ea]
  clear ea
  go_enter Try.func10, Try.ntmps10
  go_wp2_with fail
  go_quiet ((go_at_call 17; exact Calls.quiet_of (HR'.out _)))
  go_wp2
  go_ret
  exact ⟨rfl, bel_drewN (bel_alloc (Below.refl _ _) _) _⟩
theorem rthere_no (G : Grid) (r c : Int) (w : World) (h : G.In w.heap.size w) (hok : ¬ G.Ok) : Fn w 10 #[G.v, .agg #[.int .i64 r, .int .i64 c]] (.bool false) := by
  unfold Fn
  have HR : ∀ m, Calls Try.prog 17 #[G.v] ((w.alloc (.cells #[.int .i64 r, .int .i64 c] 24)).drewN m) fun e w' => e = .returned (.bool false) ∧ ∃ m', w' = ((w.alloc (.cells #[.int .i64 r, .int .i64 c] 24)).drewN m).drewN m' := fun m => by
    have := right_q G _ (h.later (bel_drewN (bel_alloc (Below.refl _ _) (.cells #[.int .i64 r, .int .i64 c] 24)) m) (bel_drewN (bel_alloc (Below.refl _ _) _) m).size)
    rw [not_okB hok] at this
    exact this
  unfold Grid.v at *
  have HR' := Lib.hid HR
  clear HR h hok
  go_enter Try.func10, Try.ntmps10
  go_wp2_with fail
  go_quiet ((go_at_call 17; exact Calls.quiet_of (HR'.out _)))
  go_wp2
  go_ret
  exact ⟨rfl, bel_drewN (bel_alloc (Below.refl _ _) _) _⟩
theorem rthere_any (G : Grid) (r c : Int) (w : World) (h : G.In w.heap.size w) : Fn w 10 #[G.v, .agg #[.int .i64 r, .int .i64 c]] (.bool (G.okB && G.thereB r c)) := by
  by_cases hok : G.Ok
  · rw [okB_yes hok, Bool.true_and]
    unfold Grid.thereB Grid.thereP
    by_cases h0 : (0 : Int) ≤ r
    · by_cases h1 : r < (G.n : Int)
      · by_cases h2 : (0 : Int) ≤ c
        · by_cases h3 : c < (G.len 0 : Int)
          · simpa [h0, h1, h2, h3] using rthere_4 G r c w h hok h0 h1 h2 h3
          · simpa [h0, h1, h2, h3] using rthere_3 G r c w h hok h0 h1 h2 h3
        · simpa [h0, h1, h2] using rthere_2 G r c w h hok h0 h1 h2
      · simpa [h0, h1] using rthere_1 G r c w h hok h0 h1
    · simpa [h0] using rthere_0 G r c w h hok h0
  · rw [not_okB hok, Bool.false_and]
    exact rthere_no G r c w h hok

/-- A place's number; another one, if it is not there. -/
def Grid.num (G : Grid) (r c o : Int) : Int := if G.thereB r c then r * (G.len 0 : Int) + c else o
theorem number_yes (G : Grid) (r c : Nat) (o : Int) (w : World) (h : G.In w.heap.size w) (hok : G.Ok) (ht : G.thereP r c) : Fn w 27 #[G.v, .agg #[.int .i64 r, .int .i64 c], .int .i64 o] (.int .i64 (r * (G.len 0 : Int) + c)) := by
  have hn : 0 < G.n := hok.1
  obtain ⟨t0, t1, t2, t3⟩ := ht
  have hn' := hok.2.1
  have hm' := (hok.2.2 0 hn).2.1
  have b0 : 0 ≤ (r : Int) * (G.len 0 : Int) := Int.mul_nonneg (by omega) (by omega)
  have b1 : (r : Int) * (G.len 0 : Int) ≤ 255 * 255 := Int.mul_le_mul (by omega) (by omega) (by omega) (by omega)
  have HT : ∀ W, Below w.heap.size w W → Fn W 26 #[G.v, .agg #[.int .i64 r, .int .i64 c]] (.bool true) := fun W hW => by
    have := there_any G r c W (h.later hW hW.size) hn
    rwa [thereB_iff.2 ⟨t0, t1, t2, t3⟩] at this
  unfold Fn at *
  obtain ⟨b, off, ea, hb, hc⟩ := h.rows hn
  have c0 := hc 0 hn
  simp only [Nat.add_zero] at c0
  have l0 := h.lens 0 hn
  have q0 : (0 : Int) < (G.n : Int) := by omega
  unfold Grid.v at *
  rw [ea] at HT ⊢
  have HT' := Lib.hid HT
  clear HT hc h hok ea
  go_enter Try.func27, Try.ntmps27
  go_wp2_with (go_at_call 26; refine (HT'.out _ (bel_alloc (Below.refl _ _) _)).mono ?_; rintro e w1 ⟨rfl, hb1⟩)
  have k0 := hb1.cell (p := ⟨w.heap.size, 0, none⟩) (by simp)
  have k1 := hb1.cell (p := ⟨w.heap.size, 1, none⟩) (by simp)
  have k2 := hb1.cell (p := ⟨b, off, none⟩) (by simp; omega)
  rw [World.cell?_alloc_past _ _ _ hb, c0] at k2
  simp [go_sem] at k0 k1
  go_quiet (fail)
  go_wp2
  go_ret
  exact ⟨rfl, by repeat (first | exact Below.refl _ _ | refine bel_drewN ?_ _ | refine bel_alloc ?_ _ | refine bel_call ?_ hb1)⟩
theorem number_no (G : Grid) (r c : Int) (o : Int) (w : World) (h : G.In w.heap.size w) (hn : 0 < G.n) (ht : G.thereB r c = false) : Fn w 27 #[G.v, .agg #[.int .i64 r, .int .i64 c], .int .i64 o] (.int .i64 o) := by
  have HT : ∀ W, Below w.heap.size w W → Fn W 26 #[G.v, .agg #[.int .i64 r, .int .i64 c]] (.bool false) := fun W hW => by
    have := there_any G r c W (h.later hW hW.size) hn
    rwa [ht] at this
  unfold Fn at *
  unfold Grid.v at *
  have HT' := Lib.hid HT
  clear HT h ht
  go_enter Try.func27, Try.ntmps27
  go_wp2_with (go_at_call 26; refine (HT'.out _ (bel_alloc (Below.refl _ _) _)).mono ?_; rintro e w1 ⟨rfl, hb1⟩)
  go_ret
  exact ⟨rfl, by repeat (first | exact Below.refl _ _ | refine bel_alloc ?_ _ | refine bel_call ?_ hb1)⟩
theorem number_any (G : Grid) (r c o : Int) (w : World) (h : G.In w.heap.size w) (hok : G.Ok) : Fn w 27 #[G.v, .agg #[.int .i64 r, .int .i64 c], .int .i64 o] (.int .i64 (G.num r c o)) := by
  by_cases ht : G.thereB r c = true
  · rw [show G.num r c o = r * (G.len 0 : Int) + c by simp [Grid.num, ht]]
    have hp := thereB_iff.1 ht
    obtain ⟨r', rfl⟩ := Int.eq_ofNat_of_zero_le hp.1
    obtain ⟨c', rfl⟩ := Int.eq_ofNat_of_zero_le hp.2.2.1
    exact number_yes G r' c' o w h hok hp
  · rw [show G.num r c o = o by simp [Grid.num, ht]]
    exact number_no G r c o w h hok.1 (by simpa using ht)
/-- seek's closure: is a place open? -/
theorem isopen_any (G : Grid) (r c : Nat) (Bx : Nat) (w : World) (h : G.In w.heap.size w) (hok : G.Ok) (ht : G.thereP r c) (hx : w.cell? ⟨Bx, 0, none⟩ = some G.v) (hBx : Bx < w.heap.size) :
    Fn w 38 #[.agg #[.int .i64 r, .int .i64 c], .pointer (some ⟨Bx, 0, none⟩)] (.bool (!G.gd r c)) := by
  have hn : 0 < G.n := hok.1
  obtain ⟨t0, t1, t2, t3⟩ := ht
  have lr : G.len r = G.len 0 := (hok.2.2 r (by omega)).2.2
  unfold Fn
  obtain ⟨b, off, ea, hb, hc⟩ := h.rows hn
  have cr := hc r (by omega)
  obtain ⟨rb, ro, er, hrb, hcc⟩ := h.cells r (by omega) (by omega)
  have cc := (hcc c (by omega)).2.2.1
  have q0 : (r : Int) < (G.n : Int) := by omega
  have q1 : (c : Int) < (G.len 0 : Int) := by omega
  unfold Grid.v at hx
  rw [ea] at hx
  rw [er, lr] at cr
  clear hc hcc h hok ea er lr
  go_enter Try.func38, Try.ntmps38
  go_wp2_with fail
  go_quiet (fail)
  go_wp2
  go_ret
  exact ⟨rfl, by repeat (first | exact Below.refl _ _ | refine bel_drewN ?_ _ | refine bel_alloc ?_ _)⟩
end Go.Proofs.Ytooikmialpfdkaa
