/- The contracts of places, seek, Next. -/
import Derived.Test.YtooikmialpfdkaaF7
import Derived.Deep.RegionHeld3
namespace Go.Proofs.Ytooikmialpfdkaa
open Go.RowKit
set_option linter.unusedVariables false

theorem places_any (w : World) (v : Value) (s st : Int) (G : Grid) (hG : v = G.v) :
    Calls Try.prog 37 #[v, .int .i64 s, .int .i64 st] w fun e w' => e = .returned (.func (.func 39) #[] #[.pointer (some ⟨w.heap.size, 0, none⟩), .pointer (some ⟨w.heap.size + 1, 0, none⟩), .pointer (some ⟨w.heap.size + 1 + 1, 0, none⟩)]) ∧
      w' = ((w.alloc (.cells #[v] 22)).alloc (.cells #[.int .i64 s] 3)).alloc (.cells #[.int .i64 st] 3) := by
  subst hG
  unfold Grid.v
  go_enter Try.func37, Try.ntmps37
  go_wp2
  go_ret
  exact ⟨rfl, rfl⟩

/-- Two cells of a block, stored one behind the other. -/
theorem res2 {W : World} {b : Nat} {u0 u1 : Value} (v0 v1 : Value) (e0 : W.cell? ⟨b, 0, none⟩ = some u0) (e1 : W.cell? ⟨b, 1, none⟩ = some u1) :
    ((W.setCell ⟨b, 0, none⟩ v0).setCell ⟨b, 1, none⟩ v1).cell? ⟨b, 0, none⟩ = some v0 ∧ ((W.setCell ⟨b, 0, none⟩ v0).setCell ⟨b, 1, none⟩ v1).cell? ⟨b, 1, none⟩ = some v1 := by
  have n1 : (⟨b, 0, none⟩ : Addr) ≠ ⟨b, 1, none⟩ := by simp
  have x0 : (W.setCell ⟨b, 0, none⟩ v0).cell? ⟨b, 0, none⟩ = some v0 := World.cell?_setCell_same' _ _ _ (by rw [e0]; rfl)
  have x1 : (W.setCell ⟨b, 0, none⟩ v0).cell? ⟨b, 1, none⟩ = some u1 := (World.cell?_setCell_other _ _ _ _ n1).trans e1
  exact ⟨(World.cell?_setCell_other _ _ _ _ n1.symm).trans x0, World.cell?_setCell_same' _ _ _ (by rw [x1]; rfl)⟩
theorem foundPos_form (G : Grid) (o : Option Int) : ∃ x y f, foundPos G o = .tuple #[.agg #[.int .i64 x, .int .i64 y], .bool f] := by
  cases o with
  | none => exact ⟨_, _, _, rfl⟩
  | some p => exact ⟨_, _, _, rfl⟩
set_option maxHeartbeats 1000000 in
theorem seek_any (G : Grid) (hok : G.Ok) (A : Nat) (hA : G.n * G.len 0 = A) (st : Int) (hst : st = 1 ∨ st = -1) (r c o : Int) (h0 : 0 ≤ G.num r c o) (h1 : G.num r c o < A) (w : World) (h : G.In w.heap.size w) :
    Fn w 29 #[G.v, .agg #[.int .i64 r, .int .i64 c], .int .i64 st, .int .i64 o] (foundPos G ((orbit A st (G.num r c o) A).find? (openN G))) := by
  have HN : ∀ W, Below w.heap.size w W → Fn W 27 #[G.v, .agg #[.int .i64 r, .int .i64 c], .int .i64 o] (.int .i64 (G.num r c o)) := fun W hW => number_any G r c o W (h.later hW hW.size) hok
  have HP : ∀ W, Calls Try.prog 37 #[G.v, .int .i64 (G.num r c o), .int .i64 st] W _ := fun W => places_any W G.v (G.num r c o) st G rfl
  have HF : ∀ W, Below w.heap.size w W → w.heap.size < W.heap.size → W.cell? ⟨w.heap.size, 0, none⟩ = some G.v → Calls Try.prog 36 #[.func (.func 39) #[] #[.pointer (some ⟨W.heap.size, 0, none⟩), .pointer (some ⟨W.heap.size + 1, 0, none⟩), .pointer (some ⟨W.heap.size + 1 + 1, 0, none⟩)], .func (.func 38) #[] #[.pointer (some ⟨w.heap.size, 0, none⟩)]]
      (((W.alloc (.cells #[G.v] 22)).alloc (.cells #[.int .i64 (G.num r c o)] 3)).alloc (.cells #[.int .i64 st] 3)) fun e w' => e = .returned (foundPos G ((orbit A st (G.num r c o) A).find? (openN G))) ∧ Below W.heap.size W w' := fun W hW hlt hcell => by
    have b3 : Below W.heap.size W (((W.alloc (.cells #[G.v] 22)).alloc (.cells #[.int .i64 (G.num r c o)] 3)).alloc (.cells #[.int .i64 st] 3)) := bel_alloc (bel_alloc (bel_alloc (Below.refl _ _) _) _) _
    have x1 := Boxed.new (W.alloc (.cells #[G.v] 22)) 3 (.int .i64 (G.num r c o))
    rw [World.size_alloc] at x1
    refine (first_pos G hok A hA st (G.num r c o) hst h0 h1 _ W.heap.size W.heap.size (W.heap.size + 1) (W.heap.size + 1 + 1) w.heap.size ?_ ?_ ?_ (x1.alloc _) (h.later (hW.trans (b3.mono hW.size)) hW.size)
      (by simp; omega) (by simp) (by simp; omega) (by omega) (by omega) (by omega) (by omega)).mono fun e w' ⟨he, hb⟩ => ⟨he, b3.trans hb⟩
    · simp [go_sem]
    · simp [go_sem]
    · exact (b3.cell (p := ⟨w.heap.size, 0, none⟩) hlt).trans hcell
  obtain ⟨x, y, f, hf⟩ := foundPos_form G ((orbit A st (G.num r c o) A).find? (openN G))
  rw [hf]
  simp only [hf] at HF
  have HN' := Lib.hid HN
  have HP' := Lib.hid HP
  have HF' := Lib.hid HF
  clear HN HP HF h hok hA hst h0 h1 hf
  unfold Fn at *
  unfold Grid.v at *
  generalize G.num r c o = s at *
  go_enter Try.func29, Try.ntmps29
  go_wp2_with fail
  obtain ⟨w0, hw0⟩ : ∃ w0, ((w.alloc (.cells #[.slice G.a G.n G.cap] 22)).alloc (.cells #[.int .i64 r, .int .i64 c] 24)).alloc (.cells #[.int .i64 0, .int .i64 0] 24) = w0 := ⟨_, rfl⟩
  have B0 : Below w.heap.size w w0 := by rw [← hw0]; exact bel_alloc (bel_alloc (bel_alloc (Below.refl _ _) _) _) _
  have hs0 : w.heap.size + 1 + 1 < w0.heap.size := by rw [← hw0]; simp
  have hs1 : w.heap.size < w0.heap.size := by omega
  have k0 : w0.cell? ⟨w.heap.size, 0, none⟩ = some (.slice G.a G.n G.cap) := by rw [← hw0]; simp [go_sem]
  have k1 : w0.cell? ⟨w.heap.size + 1, 0, none⟩ = some (.int .i64 r) := by rw [← hw0]; simp [go_sem]
  have k2 : w0.cell? ⟨w.heap.size + 1, 1, none⟩ = some (.int .i64 c) := by rw [← hw0]; simp [go_sem]
  have k3 : w0.cell? ⟨w.heap.size + 1 + 1, 0, none⟩ = some (.int .i64 0) := by rw [← hw0]; simp [go_sem]
  have k4 : w0.cell? ⟨w.heap.size + 1 + 1, 1, none⟩ = some (.int .i64 0) := by rw [← hw0]; simp [go_sem]
  have k5 : w0.frozen? ⟨w.heap.size + 1 + 1, 0, none⟩ = false := by rw [← hw0]; simp [go_sem]
  have k6 : w0.frozen? ⟨w.heap.size + 1 + 1, 1, none⟩ = false := by rw [← hw0]; simp [go_sem]
  rw [hw0]
  clear hw0
  have KB : ∀ W : World, Below (w.heap.size + 1 + 1) w0 W → (W.cell? ⟨w.heap.size, 0, none⟩ = some (.slice G.a G.n G.cap) ∧ W.cell? ⟨w.heap.size + 1, 0, none⟩ = some (.int .i64 r) ∧ W.cell? ⟨w.heap.size + 1, 1, none⟩ = some (.int .i64 c)) ∧ Below (w.heap.size + 1 + 1) w0 W := fun W hW =>
    ⟨⟨(hW.cell (p := ⟨w.heap.size, 0, none⟩) (by simp; omega)).trans k0, (hW.cell (p := ⟨w.heap.size + 1, 0, none⟩) (by simp)).trans k1, (hW.cell (p := ⟨w.heap.size + 1, 1, none⟩) (by simp)).trans k2⟩, hW⟩
  have hle : w.heap.size + 1 + 1 ≤ w0.heap.size := by omega
  have KB' := Lib.hid KB
  clear KB k0 k1 k2
  go_region_held3 (fun W => (W.cell? ⟨w.heap.size, 0, none⟩ = some (.slice G.a G.n G.cap) ∧ W.cell? ⟨w.heap.size + 1, 0, none⟩ = some (.int .i64 r) ∧ W.cell? ⟨w.heap.size + 1, 1, none⟩ = some (.int .i64 c)) ∧ Below (w.heap.size + 1 + 1) w0 W)
    (first | exact KB'.out _ (Below.refl _ _).drew | exact KB'.out _ ((((b03.mono hle).setCell (p := ⟨w.heap.size + 1 + 1, 0, none⟩) (Nat.le_refl _) _).setCell (p := ⟨w.heap.size + 1 + 1, 1, none⟩) (Nat.le_refl _) _)) | exact KB'.out _ (b03.mono hle) | exact KB'.out _ ((b01.mono hle).trans ((bel_alloc (bel_alloc (bel_alloc (Below.refl _ _) _) _) _).mono (Nat.le_trans hle b01.size))) | exact KB'.out _ (b01.mono hle))
    (first
    | (go_at_call 27; refine (HN'.out _ B0.drew).mono ?_; rintro e w1 ⟨rfl, hb1⟩; have b01 := bel_call (Below.refl _ w0).drew hb1; have BW := bel_call B0.drew hb1; have hz1 : w.heap.size < w1.heap.size := (Nat.lt_of_lt_of_le hs1 hb1.size); have kc := (KB'.out _ (b01.mono hle)).1.1)
    | (go_at_call 37; refine (HP'.out _).mono ?_; rintro e w2 ⟨rfl, rfl⟩)
    | (go_at_call 36; refine (HF'.out _ BW hz1 kc).mono ?_; rintro e w3 ⟨rfl, hb3⟩; have b03 : Below w0.heap.size w0 w3 := bel_call b01 hb3; have q3 := (b03.cell (p := ⟨w.heap.size + 1 + 1, 0, none⟩) hs0).trans k3; have q4 := (b03.cell (p := ⟨w.heap.size + 1 + 1, 1, none⟩) hs0).trans k4; have q5 := (b03.frozen (p := ⟨w.heap.size + 1 + 1, 0, none⟩) hs0).trans k5; have q6 := (b03.frozen (p := ⟨w.heap.size + 1 + 1, 1, none⟩) hs0).trans k6))
  all_goals
    clear KB' HN' HP' HF'
    obtain ⟨z0, z1⟩ := res2 (W := w3) (b := w.heap.size + 1 + 1) (.int .i64 x) (.int .i64 y) q3 q4
    go_wp2
    refine bodyPost_ret (v := .tuple #[.agg #[.int .i64 x, .int .i64 y], .bool f]) (by simp [results, Try.results29, go_sem, z0, z1]) rfl ⟨rfl, ?_⟩
    exact ((B0.trans (b03.mono (by omega))).setCell (p := ⟨w.heap.size + 1 + 1, 0, none⟩) (by simp; omega) _).setCell (p := ⟨w.heap.size + 1 + 1, 1, none⟩) (by simp; omega) _
theorem num_bd (G : Grid) (hok : G.Ok) (A : Nat) (hA : G.n * G.len 0 = A) (r c o : Int) (h0 : 0 ≤ o) (h1 : o < A) : 0 ≤ G.num r c o ∧ G.num r c o < A := by
  unfold Grid.num
  split
  · rename_i h
    obtain ⟨a, b, c', d⟩ := thereB_iff.1 h
    have hm := (hok.2.2 0 hok.1).1
    refine ⟨Int.add_nonneg (Int.mul_nonneg a (by omega)) c', ?_⟩
    have h2 : (r + 1) * (G.len 0 : Int) ≤ (G.n : Int) * (G.len 0 : Int) := Int.mul_le_mul_of_nonneg_right (by omega) (by omega)
    rw [Int.add_mul, ← Int.natCast_mul, hA] at h2
    omega
  · exact ⟨h0, h1⟩
/-- What Next (st 1) and Back (st -1) answer. -/
noncomputable def nextOf (G : Grid) (st o r c : Int) : Option Int := if G.okB then (orbit (G.n * G.len 0 : Nat) st (G.num r c o) (G.n * G.len 0)).find? (openN G) else none
theorem next_any (G : Grid) (r c : Int) (w : World) (h : G.In w.heap.size w) : Fn w 18 #[G.v, .agg #[.int .i64 r, .int .i64 c]] (foundPos G (nextOf G 1 0 r c)) := by
  have HC := fun W (hW : Below w.heap.size w W) => check_any G W (h.later hW hW.size)
  by_cases hok : G.Ok
  · have hA1 : 1 ≤ G.n * G.len 0 := Nat.mul_pos hok.1 (hok.2.2 0 hok.1).1
    have hb := num_bd G hok _ rfl r c 0 (by omega) (by omega)
    have HS := fun W (hW : Below w.heap.size w W) => seek_any G hok _ rfl 1 (.inl rfl) r c 0 hb.1 hb.2 W (h.later hW hW.size)
    have e : nextOf G 1 0 r c = (orbit (G.n * G.len 0 : Nat) 1 (G.num r c 0) (G.n * G.len 0)).find? (openN G) := by simp [nextOf, okB_yes hok]
    rw [← e] at HS
    obtain ⟨x, y, f, hf⟩ := foundPos_form G (nextOf G 1 0 r c)
    rw [hf]
    simp only [hf, okB_yes hok] at HS HC
    unfold Fn at *
    have HS' := Lib.hid HS
    have HC' := Lib.hid HC
    clear HS HC h hb hA1 e hf hok
    unfold Grid.v at *
    go_enter Try.func18, Try.ntmps18
    go_wp2_with fail
    refine (HC'.out _ (bel_alloc (bel_alloc (Below.refl _ _) _) _)).mono ?_
    rintro e w1 ⟨rfl, hb1⟩
    have k0 := hb1.cell (p := ⟨w.heap.size, 0, none⟩) (by simp; omega)
    have k1 := hb1.cell (p := ⟨w.heap.size, 1, none⟩) (by simp; omega)
    have k2 := hb1.cell (p := ⟨w.heap.size + 1, 0, none⟩) (by simp)
    have k3 := hb1.cell (p := ⟨w.heap.size + 1, 1, none⟩) (by simp)
    have k4 := hb1.frozen (p := ⟨w.heap.size + 1, 0, none⟩) (by simp)
    have k5 := hb1.frozen (p := ⟨w.heap.size + 1, 1, none⟩) (by simp)
    simp [go_sem] at k0 k1 k2 k3 k4 k5
    have hz : w.heap.size + 1 < w1.heap.size := by have := hb1.size; simp at this; omega
    have BW : Below w.heap.size w w1 := bel_call (bel_alloc (bel_alloc (Below.refl _ _) _) _) hb1
    have e0 : errOf true = 0 := rfl
    go_wp2_with fail
    refine (HS'.out _ BW).mono ?_
    rintro e w2 ⟨rfl, hb2⟩
    have q2 := (hb2.cell (p := ⟨w.heap.size + 1, 0, none⟩) hz).trans k2
    have q3 := (hb2.cell (p := ⟨w.heap.size + 1, 1, none⟩) hz).trans k3
    have q4 := (hb2.frozen (p := ⟨w.heap.size + 1, 0, none⟩) hz).trans k4
    have q5 := (hb2.frozen (p := ⟨w.heap.size + 1, 1, none⟩) hz).trans k5
    obtain ⟨z0, z1⟩ := res2 (W := w2) (b := w.heap.size + 1) (.int .i64 x) (.int .i64 y) q2 q3
    go_wp2
    refine bodyPost_ret (v := .tuple #[.agg #[.int .i64 x, .int .i64 y], .bool f]) (by simp [results, Try.results18, go_sem, z0, z1]) rfl ⟨rfl, ?_⟩
    exact ((bel_call BW hb2).setCell (p := ⟨w.heap.size + 1, 0, none⟩) (by simp) _).setCell (p := ⟨w.heap.size + 1, 1, none⟩) (by simp) _
  · rw [show nextOf G 1 0 r c = none by simp [nextOf, not_okB hok]]
    show Fn w 18 _ (.tuple #[.agg #[.int .i64 0, .int .i64 0], .bool false])
    simp only [not_okB hok] at HC
    unfold Fn at *
    have HC' := Lib.hid HC
    clear HC h hok
    unfold Grid.v at *
    go_enter Try.func18, Try.ntmps18
    go_wp2_with fail
    refine (HC'.out _ (bel_alloc (bel_alloc (Below.refl _ _) _) _)).mono ?_
    rintro e w1 ⟨rfl, hb1⟩
    have k2 := hb1.cell (p := ⟨w.heap.size + 1, 0, none⟩) (by simp)
    have k3 := hb1.cell (p := ⟨w.heap.size + 1, 1, none⟩) (by simp)
    have k4 := hb1.frozen (p := ⟨w.heap.size + 1, 0, none⟩) (by simp)
    have k5 := hb1.frozen (p := ⟨w.heap.size + 1, 1, none⟩) (by simp)
    simp [go_sem] at k2 k3 k4 k5
    have BW : Below w.heap.size w w1 := bel_call (bel_alloc (bel_alloc (Below.refl _ _) _) _) hb1
    have e0 : errOf false = 10 := rfl
    obtain ⟨z0, z1⟩ := res2 (W := w1) (b := w.heap.size + 1) (.int .i64 0) (.int .i64 0) k2 k3
    go_wp2
    refine bodyPost_ret (v := .tuple #[.agg #[.int .i64 0, .int .i64 0], .bool false]) (by simp [results, Try.results18, go_sem, z0, z1]) rfl ⟨rfl, ?_⟩
    exact (BW.setCell (p := ⟨w.heap.size + 1, 0, none⟩) (by simp) _).setCell (p := ⟨w.heap.size + 1, 1, none⟩) (by simp) _
end Go.Proofs.Ytooikmialpfdkaa
