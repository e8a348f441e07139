/- TopSends: for every input the law returns true, and the input reads as it did. No condition but that the listed variables start as the program's text lays them (the card ties them). -/
import Derived.Test.YtpjooboohelffaaGreatDoorM20
import Derived.Test.YtpjooboohelffaaGreatDoorM18
import Derived.Test.YtpjooboohelffaaGreatDoorM26
import Derived.Test.YtpjooboohelffaaGreatDoorM15
import Derived.Test.YtpjooboohelffaaGreatDoorM24
import Derived.Test.YtpjooboohelffaaGreatDoorM10
import Derived.Test.YtpjooboohelffaaGreatDoorTie
import Derived.Test.YtpjooboohelffaaGreatDoorCards
import Derived.SevenTiedAt
/- Top, plain: what is counted of what is sent. -/
namespace Go.Proofs.YtpjooboohelffaaGreatDoor
open Go.RowKit F16
set_option linter.unusedVariables false
set_option linter.unusedSimpArgs false
theorem nums_get {L : List Int} (h : Bytes L) (k : Nat) (hk : k < L.length) (hk' : k < (strOfNums L).size) : (((strOfNums L)[k]'hk').toNat : Int) = L[k] := by
 have e : (strOfNums L)[k]'hk' = UInt8.ofNat (L[k]).toNat := by
  have h1 : (strOfNums L).data.toList[k]? = some (UInt8.ofNat (L[k]).toNat) := by rw [strOfNums_data, List.getElem?_map, List.getElem?_eq_getElem hk]; rfl
  have h2 : (strOfNums L).data.toList[k]? = some ((strOfNums L)[k]'hk') := by rw [Array.getElem?_toList]; exact Array.getElem?_eq_getElem hk'
  exact Option.some.inj (h2.symm.trans h1)
 have := h _ (List.getElem_mem hk)
 rw [e, UInt8.toNat_ofNat']
 omega
theorem countP_take_succ (p : Int → Bool) (L : List Int) (k : Nat) (hk : k < L.length) : (L.take (k + 1)).countP p = (L.take k).countP p + if p L[k] then 1 else 0 := by
 rw [List.take_succ_eq_append_getElem hk, List.countP_append, List.countP_cons, List.countP_nil]
 simp
/-- What is counted of what is sent. -/
theorem sent_counts (G : Grid) (i j : Nat) (hm : 1 ≤ G.len 0) : (sendOut G 0 0 i j ++ [13]).countP shownB = openR G i j (i + 1) ∧ (sendOut G 0 0 i j ++ [13]).countP (fun x => decide (x = 31)) = i ∧ Bytes (sendOut G 0 0 i j ++ [13]) := by
 obtain ⟨h1, h2⟩ := sendRows_n G i j hm (i + 1) (Nat.le_refl _)
 have e : sendOut G 0 0 i j = sendRows G 0 0 i j (i + 1) := rfl
 refine ⟨?_, ?_, fun x hx => ?_⟩
 ·rw [e, List.countP_append, h1]; rfl
 ·rw [e, List.countP_append, h2]; simp
 ·rcases List.mem_append.1 hx with hx | hx
  ·exact sendRows_bytes _ _ _ _ _ _ x hx
  ·simp at hx; omega
theorem openC_at (gd : Nat → Bool) (m c : Nat) (h : c < m) : openC gd (min (c + 1) m) = openC gd (min c m) + if gd c then 0 else 1 := by
 rw [Nat.min_eq_left (show c + 1 ≤ m by omega), Nat.min_eq_left (show c ≤ m by omega)]
 rfl
theorem openC_past (gd : Nat → Bool) (m c : Nat) (h : m ≤ c) : openC gd (min (c + 1) m) = openC gd (min c m) := by
 rw [Nat.min_eq_right (show m ≤ c + 1 by omega), Nat.min_eq_right (show m ≤ c by omega)]
theorem openC_le (gd : Nat → Bool) (k : Nat) : openC gd k ≤ k := by
 induction k with
 | zero => exact Nat.le_refl _
 | succ k ih => unfold openC; split <;> omega
theorem openR_le (G : Grid) (tr tc m : Nat) (h1 : G.len 0 ≤ m) (h2 : tc < m) (k : Nat) : openR G tr tc k ≤ m * k := by
 induction k with
 | zero => exact Nat.le_refl _
 | succ k ih =>
  unfold openR
  have h3 := openC_le (G.gd k) (upTo (G.len 0) tr tc k)
  have h4 : upTo (G.len 0) tr tc k ≤ m := by unfold upTo; split <;> omega
  rw [Nat.mul_succ]
  omega
theorem openR_eq {G G' : Grid} (hl : G.len 0 = G'.len 0) (hd : ∀ i j, G.gd i j = G'.gd i j) (tr tc k : Nat) : openR G tr tc k = openR G' tr tc k := by
 have e : G.gd = G'.gd := by funext i j; exact hd i j
 induction k with
 | zero => rfl
 | succ k ih => simp only [openR, ih, hl, e]
end Go.Proofs.YtpjooboohelffaaGreatDoor
/- The walk of the field's Open. -/
namespace Go.Proofs.YtpjooboohelffaaGreatDoor.F16
open Go.RowKit
set_option linter.unusedVariables false
set_option linter.unusedSimpArgs false
set_option maxRecDepth 100000 in
set_option maxHeartbeats 4000000 in
theorem open_yes (G : Grid) (r c : Nat) (w : World) (h : G.In w.heap.size w) (hok : G.Ok) (ht : G.thereP r c) : Fn w 20 #[G.v, posV r c] (.bool (!G.gd r c)) := by
 have hn : 0 < G.n := hok.1
 obtain ⟨t0, t1, t2, t3⟩ := ht
 have lr : G.len r = G.len 0 := (hok.2.2 r (by omega)).2.2
 have HC : ∀ W, Below w.heap.size w W → Fn W 37 #[G.v] (.int .i64 0) := fun W hW => by
  have := check_any G W (h.later hW hW.size)
  rwa [okB_yes hok] at this
 have HT : ∀ W, Below w.heap.size w W → Fn W 38 #[G.v, posV r c] (.bool true) := fun W hW => by
  have := there_any G r c W (h.later hW hW.size) hok.1
  rwa [thereB_iff.2 ⟨t0, t1, t2, t3⟩] at this
 unfold Fn posV at *
 obtain ⟨b, off, ea, hb, hc⟩ := h.rows hn
 obtain ⟨rb, ro, er, hrb, hcc⟩ := h.cells r (by omega) (by omega)
 have cr := hc r (by omega)
 have cd := (hcc c (by omega)).2.2.1
 rw [er, lr] at cr
 unfold Grid.v at *
 rw [ea] at HC HT ⊢
 have HC' := Lib.hid HC
 have HT' := Lib.hid HT
 clear HT HC h hc hcc er ea hok lr
 go_enter Tryz.func20, Tryz.ntmps20
 go_wp2_with fail
 have KB : ∀ W : World, Below (w.heap.size + 1) (w.alloc (.cells #[.int .i64 r, .int .i64 c] 36)) W → (W.cell? ⟨w.heap.size, 0, none⟩ = some (.int .i64 r) ∧ W.cell? ⟨w.heap.size, 1, none⟩ = some (.int .i64 c) ∧ W.cell? ⟨b, off + r, none⟩ = some (.slice (some ⟨rb, ro, none⟩) (G.len 0) (G.rc r)) ∧ W.cell? ⟨rb, ro + c * 4 + 2, none⟩ = some (.bool (G.gd r c))) ∧ Below (w.heap.size + 1) (w.alloc (.cells #[.int .i64 r, .int .i64 c] 36)) W := fun W hW =>
  ⟨⟨(hW.cell (p := ⟨w.heap.size, 0, none⟩) (by simp)).trans (by simp [go_sem]), (hW.cell (p := ⟨w.heap.size, 1, none⟩) (by simp)).trans (by simp [go_sem]), (hW.cell (p := ⟨b, off + r, none⟩) (by simp; omega)).trans ((World.cell?_alloc_lt _ _ _ hb).trans cr), (hW.cell (p := ⟨rb, ro + c * 4 + 2, none⟩) (by simp; omega)).trans ((World.cell?_alloc_lt _ _ _ hrb).trans cd)⟩, hW⟩
 have hBW : Below w.heap.size w (w.alloc (.cells #[.int .i64 r, .int .i64 c] 36)) := bel_alloc (Below.refl _ _) _
 clear cr cd
 refine wp_region_held_drew (S := fun W => (W.cell? ⟨w.heap.size, 0, none⟩ = some (.int .i64 r) ∧ W.cell? ⟨w.heap.size, 1, none⟩ = some (.int .i64 c) ∧ W.cell? ⟨b, off + r, none⟩ = some (.slice (some ⟨rb, ro, none⟩) (G.len 0) (G.rc r)) ∧ W.cell? ⟨rb, ro + c * 4 + 2, none⟩ = some (.bool (G.gd r c))) ∧ Below (w.heap.size + 1) (w.alloc (.cells #[.int .i64 r, .int .i64 c] 36)) W) (by kernel_rfl) (KB _ (Below.refl _ _).drew) (fun hHeld => ?_)
 refine sY 0 5 ?_
 refine sO 1 fun K hK => ?_
 go_simp
 refine (HC'.out _ (hBW.trans (hHeld.2.mono (by omega)))).mono ?_
 rintro e w2 ⟨rfl, hb2⟩
 (try go_wp2_with fail)
 refine hK.out _ _ ?_ (fun hHeld => ?_)
 ·exact KB _ (hHeld.2.trans (hb2.mono (by have := hHeld.2.size; rw [World.size_alloc] at this; omega)))
 clear hK K
 try simp only [Act.put, List.setIfInBounds_toArray, List.set_cons_zero, List.set_cons_succ]
 refine sY 2 7 ?_
 refine sY 3 8 ?_
 refine sY 4 9 ?_
 refine sY 5 10 ?_
 refine sO 6 fun K hK => ?_
 go_simp
 refine (HT'.out _ (hBW.trans (hHeld.2.mono (by omega)))).mono ?_
 rintro e w2 ⟨rfl, hb2⟩
 (try go_wp2_with fail)
 refine hK.out _ _ ?_ (fun hHeld => ?_)
 ·exact KB _ (hHeld.2.trans (hb2.mono (by have := hHeld.2.size; rw [World.size_alloc] at this; omega)))
 clear hK K
 try simp only [Act.put, List.setIfInBounds_toArray, List.set_cons_zero, List.set_cons_succ]
 refine sY 7 12 ?_
 refine sY 8 13 ?_
 refine sY 9 14 ?_
 refine sY 10 15 ?_
 refine sY 11 16 ?_
 refine sY 12 17 ?_
 refine sY 13 18 ?_
 refine sY 14 19 ?_
 refine sY 15 20 ?_
 refine sY 16 21 ?_
 refine sY 17 22 ?_
 refine sY 18 23 ?_
 refine sY 19 24 ?_
 refine sY 20 25 ?_
 refine sY 21 4 ?_
 refine wpAnyH_done (by kernel_rfl) ?_ _
 have B2 := hBW.trans (hHeld.2.mono (by omega))
 go_wp2_with fail
 go_ret
 exact ⟨rfl, B2⟩
set_option maxRecDepth 100000 in
set_option maxHeartbeats 4000000 in
theorem open_off (G : Grid) (r c : Int) (w : World) (h : G.In w.heap.size w) (hok : G.Ok) (ht : G.thereB r c = false) : Fn w 20 #[G.v, posV r c] (.bool false) := by
 have HC : ∀ W, Below w.heap.size w W → Fn W 37 #[G.v] (.int .i64 0) := fun W hW => by
  have := check_any G W (h.later hW hW.size)
  rwa [okB_yes hok] at this
 have HT : ∀ W, Below w.heap.size w W → Fn W 38 #[G.v, posV r c] (.bool false) := fun W hW => by
  have := there_any G r c W (h.later hW hW.size) hok.1
  rwa [ht] at this
 unfold Fn posV at *
 unfold Grid.v at *
 have HC' := Lib.hid HC
 have HT' := Lib.hid HT
 clear HT HC h ht hok
 go_enter Tryz.func20, Tryz.ntmps20
 go_wp2_with fail
 have KB : ∀ W : World, Below (w.heap.size + 1) (w.alloc (.cells #[.int .i64 r, .int .i64 c] 36)) W → (W.cell? ⟨w.heap.size, 0, none⟩ = some (.int .i64 r) ∧ W.cell? ⟨w.heap.size, 1, none⟩ = some (.int .i64 c)) ∧ Below (w.heap.size + 1) (w.alloc (.cells #[.int .i64 r, .int .i64 c] 36)) W := fun W hW =>
  ⟨⟨(hW.cell (p := ⟨w.heap.size, 0, none⟩) (by simp)).trans (by simp [go_sem]), (hW.cell (p := ⟨w.heap.size, 1, none⟩) (by simp)).trans (by simp [go_sem])⟩, hW⟩
 have hBW : Below w.heap.size w (w.alloc (.cells #[.int .i64 r, .int .i64 c] 36)) := bel_alloc (Below.refl _ _) _
 refine wp_region_held_drew (S := fun W => (W.cell? ⟨w.heap.size, 0, none⟩ = some (.int .i64 r) ∧ W.cell? ⟨w.heap.size, 1, none⟩ = some (.int .i64 c)) ∧ Below (w.heap.size + 1) (w.alloc (.cells #[.int .i64 r, .int .i64 c] 36)) W) (by kernel_rfl) (KB _ (Below.refl _ _).drew) (fun hHeld => ?_)
 refine sY 0 5 ?_
 refine sO 1 fun K hK => ?_
 go_simp
 refine (HC'.out _ (hBW.trans (hHeld.2.mono (by omega)))).mono ?_
 rintro e w2 ⟨rfl, hb2⟩
 (try go_wp2_with fail)
 refine hK.out _ _ ?_ (fun hHeld => ?_)
 ·exact KB _ (hHeld.2.trans (hb2.mono (by have := hHeld.2.size; rw [World.size_alloc] at this; omega)))
 clear hK K
 try simp only [Act.put, List.setIfInBounds_toArray, List.set_cons_zero, List.set_cons_succ]
 refine sY 2 7 ?_
 refine sY 3 8 ?_
 refine sY 4 9 ?_
 refine sY 5 10 ?_
 refine sO 6 fun K hK => ?_
 go_simp
 refine (HT'.out _ (hBW.trans (hHeld.2.mono (by omega)))).mono ?_
 rintro e w2 ⟨rfl, hb2⟩
 (try go_wp2_with fail)
 refine hK.out _ _ ?_ (fun hHeld => ?_)
 ·exact KB _ (hHeld.2.trans (hb2.mono (by have := hHeld.2.size; rw [World.size_alloc] at this; omega)))
 clear hK K
 try simp only [Act.put, List.setIfInBounds_toArray, List.set_cons_zero, List.set_cons_succ]
 refine sY 7 12 ?_
 refine sY 8 13 ?_
 refine sU 9 14 ?_
 refine sU 10 15 ?_
 refine sU 11 16 ?_
 refine sU 12 17 ?_
 refine sU 13 18 ?_
 refine sU 14 19 ?_
 refine sU 15 20 ?_
 refine sU 16 21 ?_
 refine sU 17 22 ?_
 refine sU 18 23 ?_
 refine sU 19 24 ?_
 refine sY 20 25 ?_
 refine sY 21 4 ?_
 refine wpAnyH_done (by kernel_rfl) ?_ _
 have B2 := hBW.trans (hHeld.2.mono (by omega))
 go_wp2_with fail
 go_ret
 exact ⟨rfl, B2⟩
set_option maxRecDepth 100000 in
set_option maxHeartbeats 4000000 in
theorem open_not (G : Grid) (r c : Int) (w : World) (h : G.In w.heap.size w) (hok : ¬ G.Ok) : Fn w 20 #[G.v, posV r c] (.bool false) := by
 have HC : ∀ W, Below w.heap.size w W → Fn W 37 #[G.v] (.int .i64 10) := fun W hW => by
  have := check_any G W (h.later hW hW.size)
  rwa [not_okB hok] at this
 have HT : True := trivial
 unfold Fn posV at *
 unfold Grid.v at *
 have HC' := Lib.hid HC
 have HT' := Lib.hid HT
 clear HT HC h hok
 go_enter Tryz.func20, Tryz.ntmps20
 go_wp2_with fail
 have KB : ∀ W : World, Below (w.heap.size + 1) (w.alloc (.cells #[.int .i64 r, .int .i64 c] 36)) W → (W.cell? ⟨w.heap.size, 0, none⟩ = some (.int .i64 r) ∧ W.cell? ⟨w.heap.size, 1, none⟩ = some (.int .i64 c)) ∧ Below (w.heap.size + 1) (w.alloc (.cells #[.int .i64 r, .int .i64 c] 36)) W := fun W hW =>
  ⟨⟨(hW.cell (p := ⟨w.heap.size, 0, none⟩) (by simp)).trans (by simp [go_sem]), (hW.cell (p := ⟨w.heap.size, 1, none⟩) (by simp)).trans (by simp [go_sem])⟩, hW⟩
 have hBW : Below w.heap.size w (w.alloc (.cells #[.int .i64 r, .int .i64 c] 36)) := bel_alloc (Below.refl _ _) _
 refine wp_region_held_drew (S := fun W => (W.cell? ⟨w.heap.size, 0, none⟩ = some (.int .i64 r) ∧ W.cell? ⟨w.heap.size, 1, none⟩ = some (.int .i64 c)) ∧ Below (w.heap.size + 1) (w.alloc (.cells #[.int .i64 r, .int .i64 c] 36)) W) (by kernel_rfl) (KB _ (Below.refl _ _).drew) (fun hHeld => ?_)
 refine sY 0 5 ?_
 refine sO 1 fun K hK => ?_
 go_simp
 refine (HC'.out _ (hBW.trans (hHeld.2.mono (by omega)))).mono ?_
 rintro e w2 ⟨rfl, hb2⟩
 (try go_wp2_with fail)
 refine hK.out _ _ ?_ (fun hHeld => ?_)
 ·exact KB _ (hHeld.2.trans (hb2.mono (by have := hHeld.2.size; rw [World.size_alloc] at this; omega)))
 clear hK K
 try simp only [Act.put, List.setIfInBounds_toArray, List.set_cons_zero, List.set_cons_succ]
 refine sY 2 7 ?_
 refine sY 3 8 ?_
 refine sU 4 9 ?_
 refine sU 5 10 ?_
 refine sU 6 11 ?_
 refine sY 7 12 ?_
 refine sY 8 13 ?_
 refine sU 9 14 ?_
 refine sU 10 15 ?_
 refine sU 11 16 ?_
 refine sU 12 17 ?_
 refine sU 13 18 ?_
 refine sU 14 19 ?_
 refine sU 15 20 ?_
 refine sU 16 21 ?_
 refine sU 17 22 ?_
 refine sU 18 23 ?_
 refine sU 19 24 ?_
 refine sY 20 25 ?_
 refine sY 21 4 ?_
 refine wpAnyH_done (by kernel_rfl) ?_ _
 have B2 := hBW.trans (hHeld.2.mono (by omega))
 go_wp2_with fail
 go_ret
 exact ⟨rfl, B2⟩
end Go.Proofs.YtpjooboohelffaaGreatDoor.F16
/- Top: TopSends, walked. -/
namespace Go.Proofs.YtpjooboohelffaaGreatDoor
open Go.RowKit Go.Shelf T05 F16
set_option linter.unusedVariables false
set_option linter.unusedSimpArgs false
set_option maxRecDepth 100000
theorem sends_no (W : World) (hg : Glob W) (R C : Int) (text : ByteArray) (h : ¬ (1 ≤ R ∧ R ≤ 6 ∧ 1 ≤ C ∧ C ≤ 12)) :
  Calls Tryz.prog 4 #[pr R C, .string text] W fun e w' => e = .returned (.bool true) ∧ Below W.heap.size W w' := by
 have HF := Lib.hid (fun w => few_no w R C h)
 have HA := Lib.hid (fun w (hb : Below W.heap.size W w) => awake_any w (hg.later hb))
 clear h hg
 go_enter Tryz.func4, Tryz.ntmps4
 go_wp2_with fail
 refine (HF.out _).mono ?_
 rintro e w1 ⟨rfl, b1⟩
 have B1 := Lib.hid (bel_call (bel_alloc (Below.refl W.heap.size W) _) b1)
 clear b1
 go_wp2_with fail
 refine (HA.out _ B1.out).mono ?_
 rintro e w2 ⟨rfl, b2⟩
 have B2 := Lib.hid (bel_call B1.out b2)
 clear b2
 go_wp2_with fail
 go_ret
 exact ⟨rfl, B2.out⟩
theorem sends_long (W : World) (hg : Glob W) (R C : Int) (text : ByteArray) (h1 : 1 ≤ R) (h2 : R ≤ 6) (h3 : 1 ≤ C) (h4 : C ≤ 12) (hl : 200 < text.size) :
  Calls Tryz.prog 4 #[pr R C, .string text] W fun e w' => e = .returned (.bool true) ∧ Below W.heap.size W w' := by
 have HF := Lib.hid (fun w => few_ok w R C h1 h2 h3 h4)
 have HA := Lib.hid (fun w (hb : Below W.heap.size W w) => awake_any w (hg.later hb))
 have q1 : (200 : Int) < (text.size : Int) := by omega
 clear h1 h2 h3 h4 hg hl
 go_enter Tryz.func4, Tryz.ntmps4
 go_wp2_with fail
 refine (HF.out _).mono ?_
 rintro e w1 ⟨rfl, b1⟩
 have B1 := Lib.hid (bel_call (bel_alloc (Below.refl W.heap.size W) _) b1)
 clear b1
 go_wp2_with fail
 refine (HA.out _ B1.out).mono ?_
 rintro e w2 ⟨rfl, b2⟩
 have B2 := Lib.hid (bel_call B1.out b2)
 clear b2
 go_wp2_with fail
 go_ret
 exact ⟨rfl, B2.out⟩
/-- What is left behind Free. -/
theorem free_rests {L : Lay} {cell : Nat → Nat → Cl} {a b r c : Int} {i : Bool} {t : Tm} (h1 : i = true → (cell a.toNat b.toNat).d = false) (h2 : i = false → a = r ∧ b = c ∧ ∀ p q, p < L.R → q < L.C → (cell p q).d = true) : Rests L cell a b t := by
 cases i with
 | true => exact .inr (.inl (h1 rfl))
 | false => exact .inr (.inr (h2 rfl).2.2)
set_option maxHeartbeats 16000000 in
theorem sends_walk (W : World) (hg : Glob W) (R C : Nat) (text : ByteArray) (h1 : 1 ≤ R) (h2 : R ≤ 6) (h3 : 1 ≤ C) (h4 : C ≤ 12) (hl : text.size ≤ 200) :
  Calls Tryz.prog 4 #[pr R C, .string text] W fun e w' => e = .returned (.bool true) ∧ Below W.heap.size W w' := by
 have HF := Lib.hid (fun w => few_ok w R C (by omega) (by omega) (by omega) (by omega))
 have HA := Lib.hid (fun w (hb : Below W.heap.size W w) => awake_any w (hg.later hb))
 have HM := Lib.hid (fun w (hb : Below W.heap.size W w) => made_any w (hg.later hb) R C ⟨by omega, by omega, by omega, by omega⟩)
 have HFd := Lib.hid (fun (w w3 : World) L tm qb lb rs (hK : KB (fun k => k < w.heap.size) w3) (h : Wy (fun k => k < w.heap.size) L tm qb lb w3 rs (fun _ _ => blankC) 0 0 (fun _ => false) tm0 0 [] false) (hR : L.R = R) (hC : L.C = C) => y_feed_any w3 hK ⟨_, _, _, _, _, _, _, _, h, fun _ _ _ _ => wcell_blank, WAttr.zero, (show (⟨#[]⟩ : ByteArray).size ≤ 64 from by decide)⟩ (by omega) (by omega) text (by omega))
 have q1 : ¬ (200 : Int) < (text.size : Int) := by omega
 have qR : R ≤ 6 := h2
 have qC : C ≤ 12 := h4
 clear hg h2 h4 hl
 go_enter Tryz.func4, Tryz.ntmps4
 go_wp2_with fail
 refine gen_calls ?_
 intro u hu0
 have u0 : u.cell? ⟨W.heap.size, 0, none⟩ = some (.int .i64 (R : Int)) := by rw [hu0]; simp [go_sem]
 have u1 : u.cell? ⟨W.heap.size, 1, none⟩ = some (.int .i64 (C : Int)) := by rw [hu0]; simp [go_sem]
 have Bu := Lib.hid (show Below W.heap.size W u from by rw [hu0]; exact bel_alloc (Below.refl _ _) _)
 clear hu0
 refine (HF.out _).mono ?_
 rintro e w1 ⟨rfl, b1⟩
 have k0 := cellB b1 u0
 have k1 := cellB b1 u1
 have B1 := Lib.hid (bel_call Bu.out b1)
 clear b1 u0 u1 Bu
 go_wp2_with fail
 refine (HM.out _ B1.out).mono ?_
 rintro e w2 ⟨L, rs, qb, lb, rfl, hM⟩
 have HMM := Lib.hid hM
 have HOn := Lib.hid (on_made hM (Below.refl _ _))
 clear hM
 go_wp2_with fail
 refine HOn.out.mono ?_
 rintro e w3 ⟨rfl, hwy, b3⟩
 have hK3 : KB (fun k => k < w1.heap.size) w3 := fun k hk => by have := b3.size; have := HMM.out.bel.size; (try simp only at hk); omega
 have HFe := Lib.hid (HFd.out _ _ _ _ _ _ _ hK3 hwy HMM.out.hR HMM.out.hC)
 have B3 := Lib.hid (bel_call HMM.out.bel b3)
 have HK3 := Lib.hid hK3
 clear hwy b3 hK3 HOn
 go_wp2_with fail
 refine HFe.out.mono ?_
 rintro e w4 ⟨rfl, ⟨rs4, cell, r, c, S4, t4, Q4, ov4, h4, hall, -, -⟩, hk4⟩
 have hK4 : KB (fun k => k < w1.heap.size) w4 := HK3.out.later hk4
 have HDr := Lib.hid (y_drop w4 hK4 h4)
 have B4 := Lib.hid (B3.out.trans (Kept.below hk4))
 have HK4 := Lib.hid hK4
 have HAll := Lib.hid hall
 have eR := HMM.out.hR
 have eC := HMM.out.hC
 clear h4 hall hk4 HFe B3 HK3 hK4 HMM
 go_wp2_with fail
 refine HDr.out.mono ?_
 rintro e w5 ⟨rfl, h5, hk5⟩
 have hK5 := HK4.out.later hk5
 have b5 := B4.out.trans (Kept.below hk5)
 have m0 := cellB b5 k0
 have m1 := cellB b5 k1
 have HMv := Lib.hid (fun a b => s_move w5 (h5.kb hK5) h5.scr a b)
 have H5 := Lib.hid h5
 have B5 := Lib.hid b5
 have HK5 := Lib.hid hK5
 clear HDr h5 hk5 b5 hK5 B4 HK4
 go_wp2_with fail
 refine (HMv.out _ _).mono ?_
 rintro e w6 ⟨rfl, h6, hk6⟩
 obtain ⟨h6, hk6⟩ := H5.out.step h6 hk6
 have hK6 := HK5.out.later hk6
 have HFr := Lib.hid (s_free w6 (h6.kb hK6) h6.scr true)
 have H6 := Lib.hid h6
 have B6 := Lib.hid (B5.out.trans (Kept.below hk6))
 have HK6 := Lib.hid hK6
 clear HMv H5 h6 hk6 hK6 B5 HK5 m0 m1
 go_wp2_with fail
 refine HFr.out.mono ?_
 rintro e w7 ⟨i7, rfl, ⟨a7, b7, s7, f1, f2⟩, hk7⟩
 obtain ⟨h7, hk7⟩ := H6.out.step s7 hk7
 obtain ⟨i, j, rfl, rfl, hi, hj⟩ := inR_nat h7.scr.rc
 have HRe := Lib.hid (fun t : Tm => free_rests (t := t) f1 f2)
 have HCu := Lib.hid (s_cursor w7 h7.scr)
 have H7 := Lib.hid h7
 have B7 := Lib.hid (B6.out.trans (Kept.below hk7))
 have HK7 := Lib.hid (HK6.out.later hk7)
 clear HFr s7 f1 f2 H6 h7 hk7 B6 HK6
 go_wp2_with fail
 refine HCu.out.mono ?_
 rintro e w8 ⟨rfl, b8⟩
 have H8 := Lib.hid (H7.out.later b8)
 have B8 := Lib.hid (bel_call B7.out b8)
 have HK8 := Lib.hid (HK7.out.more b8.size)
 clear HCu H7 b8 B7 HK7
 go_wp2_with fail
 refine gen_calls ?_
 intro w9 hw9
 have c0 : w9.cell? ⟨w8.heap.size, 0, none⟩ = some (.int .i64 (i : Int)) := by rw [hw9]; simp [go_sem]
 have c1 : w9.cell? ⟨w8.heap.size, 1, none⟩ = some (.int .i64 (j : Int)) := by rw [hw9]; simp [go_sem]
 have b9 : Below w8.heap.size w8 w9 := by rw [hw9]; exact bel_alloc (Below.refl _ _) _
 clear hw9
 have h9 := H8.out.loc b9
 have hK9 := HK8.out.loc b9
 have HDn := Lib.hid (q_drain w9 qb lb _ _ _ h9.q)
 have HC9 := Lib.hid (And.intro c0 c1)
 have H9 := Lib.hid h9
 have HK9 := Lib.hid hK9
 have B9 := Lib.hid (bel_call B8.out b9)
 clear c0 c1 b9 h9 hK9 B8 HK8 H8
 refine HDn.out.mono ?_
 rintro e w10 ⟨rfl, q10, hk10⟩
 obtain ⟨h10, hk10⟩ := H9.out.queue HK9.out (hk10.less fun k hk => ⟨hk.1, hk.2.1⟩) q10
 have HCl := Lib.hid (q_clear w10 qb lb _ _ _ h10.q)
 have H10 := Lib.hid h10
 have Hk10 := Lib.hid hk10
 clear q10 h10 hk10 HDn H9
 go_wp2_with fail
 refine HCl.out.mono ?_
 rintro e w11 ⟨rfl, q11, hk11⟩
 obtain ⟨h11, hk11⟩ := H10.out.queue (HK9.out.later Hk10.out) (hk11.less fun k hk => ⟨hk.1, hk.2.1⟩) q11
 have HRw := Lib.hid (s_rows w11 h11.scr)
 have H11 := Lib.hid h11
 have hk911 := Hk10.out.trans hk11
 have Hk911 := Lib.hid hk911
 have HK11 := Lib.hid (HK9.out.later hk911)
 clear q11 h11 hk11 hk911 HCl H10 Hk10
 go_wp2_with fail
 refine HRw.out.mono ?_
 rintro e w12 ⟨v, rfl, hrw, b12⟩
 have h12 := H11.out.loc b12
 have hK12 := HK11.out.loc b12
 have HSd := Lib.hid (y_feed_send w12 hK12 i j h12 HAll.out rfl (HRe.out _) (by omega) (by omega))
 have H12 := Lib.hid h12
 have HK12 := Lib.hid hK12
 have HRW := Lib.hid hrw
 have B12 := Lib.hid b12
 have HvS := Lib.hid (show ∃ ad n m, v = .slice ad n m from by obtain ⟨ob, rfl, -⟩ := hrw; exact ⟨_, _, _, rfl⟩)
 clear HRw h12 hK12 hrw b12 H11
 go_wp2_with fail
 refine HSd.out.mono ?_
 rintro e w13 ⟨rfl, ⟨rs13, cell13, r13, c13, S13, t13, Q13, ov13, h13, G, v', hG, hQ⟩, hk13⟩
 have HDr2 := Lib.hid (q_drain w13 qb lb _ Q13 ov13 h13.q)
 have HG0 := Lib.hid hG
 have HQ := Lib.hid (show Q13 = sendOut G 0 0 i j ++ [13] from hQ)
 have Hk13 := Lib.hid hk13
 have HK13 := Lib.hid (HK12.out.later hk13)
 clear HSd h13 hG hQ hk13
 go_wp2_with fail
 refine HDr2.out.mono ?_
 rintro e w14 ⟨rfl, -, hk14⟩
 have hk14' := Hk13.out.trans (hk14.less fun k hk => ⟨HK13.out k hk, fun e => H12.out.k2 (e ▸ hk)⟩)
 have z1 : 1 ≤ L.C := by omega
 have hrw14 := HRW.out.far z1 (Nat.le_refl _) (fun k a b => hk14'.block k (.inr ⟨a, b⟩))
 obtain ⟨G1, hG1, hin⟩ := grid_of hrw14 (by omega) (by omega) z1 (by omega) HAll.out
 have hc := HC9.out
 have lb9 : Loc (fun k => k < w1.heap.size) w8 w9 w8.heap.size := .inr ⟨Nat.le_refl _, blt hc.1⟩
 have d0 : w14.cell? ⟨w8.heap.size, 0, none⟩ = some (.int .i64 (i : Int)) := hk14'.cell (.inl lb9) (cellB B12.out (Hk911.out.cell lb9 hc.1))
 have d1 : w14.cell? ⟨w8.heap.size, 1, none⟩ = some (.int .i64 (j : Int)) := hk14'.cell (.inl lb9) (cellB B12.out (Hk911.out.cell lb9 hc.2))
 have b14 : Below w1.heap.size w1 w14 := (bel_call (B9.out.trans (Kept.below (Hk911.out.less fun k hk => .inl hk))) B12.out).trans (Kept.below (hk14'.less fun k hk => .inl (.inl hk)))
 have m1 := cellB b14 k1
 have HCs := Lib.hid (fun wr (hb : Below w14.heap.size w14 wr) => (show wr.cell? ⟨w8.heap.size, 0, none⟩ = some (.int .i64 (i : Int)) ∧ wr.cell? ⟨w8.heap.size, 1, none⟩ = some (.int .i64 (j : Int)) ∧ wr.cell? ⟨W.heap.size, 1, none⟩ = some (.int .i64 (C : Int)) from ⟨cellB hb d0, cellB hb d1, cellB hb m1⟩))
 have B14 := Lib.hid (bel_call B1.out b14)
 have HG0 := HG0.out
 have sc := sent_counts G i j (by rw [HG0.len 0 (by omega)]; omega)
 rw [← HQ.out] at sc
 have e1 : openR G i j (i + 1) = openR G1 i j (i + 1) := openR_eq (by rw [HG0.len 0 (by omega), hG1.len 0 (by omega)]) (fun a b => by rw [HG0.gd, hG1.gd]) _ _ _
 have hQl : Q13.length ≤ 200 := by
  rw [HQ.out]
  have := sendRows_le G 0 0 i j 12 (by rw [HG0.len 0 (by omega)]; omega) (by omega) (i + 1)
  have e : sendOut G 0 0 i j = sendRows G 0 0 i j (i + 1) := rfl
  rw [e, List.length_append, List.length_singleton]
  have : (2 * 12 + 1) * (i + 1) ≤ (2 * 12 + 1) * 6 := Nat.mul_le_mul_left _ (by omega)
  omega
 obtain ⟨N, hN⟩ : ∃ N, Q13.length = N + 1 := ⟨(sendOut G 0 0 i j).length, by rw [HQ.out]; simp⟩
 have hlast : ∀ h, Q13[N]'h = 13 := by
  have : (sendOut G 0 0 i j).length = N := by rw [HQ.out] at hN; simpa using hN
  intro h
  simp only [HQ.out]
  rw [List.getElem_append_right (by omega)]
  simp
 have HSC := Lib.hid (show Q13.countP shownB = openR G1 i j (i + 1) ∧ Q13.countP (fun x => decide (x = 31)) = i from ⟨sc.1.trans e1, sc.2.1⟩)
 have hgs := strOfNums_size Q13
 have HGb := Lib.hid (fun k (hk : k < Q13.length) (hk' : k < (strOfNums Q13).size) => nums_get sc.2.2 k hk hk')
 have HLast := Lib.hid hlast
 have HG1 := Lib.hid hG1
 have HIn := Lib.hid hin
 have hRb := openR_le G1 i j 12 (by rw [hG1.len 0 (by omega)]; omega) (by omega)
 clear HDr2 HG0 HQ Hk13 HK13 hk14 hk14' hrw14 hin hc lb9 d0 d1 b14 m1 sc e1 hlast H12 HK12 HRW B12 HC9 HK9 B9 HK11 Hk911 HRe k0 hG1
 generalize hgg : strOfNums Q13 = g at hgs HGb ⊢
 have HHg := Lib.hid hgg
 clear hgg
 go_wp2_with fail
 go_loopw [14, 15, 16] (fun s14 s15 s16 wr => ∃ k : Nat, k ≤ g.size ∧ s14 = .int .i64 (((Q13.take k).countP shownB : Nat) : Int) ∧ s15 = .int .i64 (((Q13.take k).countP (fun x => decide (x = 31)) : Nat) : Int) ∧ s16 = .int .i64 (k : Int) ∧ w14 = wr) (fun _ _ s _ => g.size - (intOf s).toNat)
 case atStart => exact ⟨0, Nat.zero_le _, rfl, rfl, rfl, rfl⟩
 case round =>
  obtain ⟨k, hk, rfl, rfl, rfl, rfl⟩ := hrel
  have hn1 : (Q13.take k).countP shownB ≤ 200 := Nat.le_trans List.countP_le_length (by rw [List.length_take]; omega)
  have hn2 : (Q13.take k).countP (fun x => decide (x = 31)) ≤ 200 := Nat.le_trans List.countP_le_length (by rw [List.length_take]; omega)
  by_cases hlt : k < g.size
  ·have q2 : (k : Int) < (g.size : Int) := by omega
   have hkQ : k < Q13.length := by omega
   have hx := HGb.out k hkQ hlt
   have p1 := countP_take_succ shownB Q13 k hkQ
   have p2 := countP_take_succ (fun x => decide (x = 31)) Q13 k hkQ
   generalize Q13[k] = x at hx p1 p2
   generalize (Q13.take k).countP shownB = n at p1 hn1 ⊢
   generalize (Q13.take k).countP (fun x => decide (x = 31)) = m at p2 hn2 ⊢
   generalize hp1 : (Q13.take (k + 1)).countP shownB = n' at p1
   generalize hp2 : (Q13.take (k + 1)).countP (fun x => decide (x = 31)) = m' at p2
   have Hp := Lib.hid (And.intro hp1 hp2)
   clear hp1 hp2
   by_cases a1 : x = 31
   ·subst a1
    replace p1 : n' = n := p1
    replace p2 : m' = m + 1 := p2
    go_wp2_with fail
    go_roundw
    case rel => exact ⟨k + 1, by omega, by rw [Hp.out.1, p1], by rw [Hp.out.2, p2]; go_num, by go_num, trivial⟩
    case measure => simp [intOf]; omega
   ·replace p2 : m' = m := by simpa [a1] using p2
    by_cases a2 : x = 28
    ·subst a2
     replace p1 : n' = n := p1
     go_wp2_with fail
     go_roundw
     case rel => exact ⟨k + 1, by omega, by rw [Hp.out.1, p1], by rw [Hp.out.2, p2], by go_num, trivial⟩
     case measure => simp [intOf]; omega
    ·by_cases a3 : x = 13
     ·subst a3
      replace p1 : n' = n := p1
      go_wp2_with fail
      go_roundw
      case rel => exact ⟨k + 1, by omega, by rw [Hp.out.1, p1], by rw [Hp.out.2, p2], by go_num, trivial⟩
      case measure => simp [intOf]; omega
     ·replace p1 : n' = n + 1 := by simpa [shownB, a1, a2, a3] using p1
      have c1 : (x == 31) = false := by simpa using a1
      have c2 : (x != 31) = true := by simpa using a1
      have c3 : (x != 28) = true := by simpa using a2
      have c4 : (x != 13) = true := by simpa using a3
      go_wp2_with fail
      go_roundw
      case rel => exact ⟨k + 1, by omega, by rw [Hp.out.1, p1]; go_num, by rw [Hp.out.2, p2], by go_num, trivial⟩
      case measure => simp [intOf]; omega
  ·obtain rfl : k = g.size := by omega
   have t1 : (Q13.take g.size).countP shownB = openR G1 i j (i + 1) := by rw [hgs, List.take_length]; exact HSC.out.1
   have t2 : (Q13.take g.size).countP (fun x => decide (x = 31)) = i := by rw [hgs, List.take_length]; exact HSC.out.2
   rw [t1, t2]
   have HgN := Lib.hid (show g.size = N + 1 from by omega)
   have HQN := Lib.hid (And.intro hN hQl)
   clear t1 t2 hn1 hn2 hgs hN hQl hk
   go_wp2_with fail
   go_loopw [17, 18] (fun s17 s18 wr => ∃ r : Nat, r ≤ i + 1 ∧ s17 = .int .i64 ((openR G1 i j r : Nat) : Int) ∧ s18 = .int .i64 (r : Int) ∧ Hid (Below w14.heap.size w14 wr)) (fun _ s _ => i + 1 - (intOf s).toNat)
   case atStart => exact ⟨0, Nat.zero_le _, rfl, rfl, Lib.hid (Below.refl _ _)⟩
   case round =>
    obtain ⟨r, hr, rfl, rfl, HB⟩ := hrel
    obtain ⟨d0, d1, m1⟩ := HCs.out _ HB.out
    by_cases hri : r ≤ i
    ·have q3 : (r : Int) ≤ (i : Int) := by omega
     go_wp2_with fail
     go_loopw [17, 19] (fun s17 s19 wx => ∃ c : Nat, c ≤ C ∧ s17 = .int .i64 ((openR G1 i j r + openC (G1.gd r) (min c (upTo C i j r)) : Nat) : Int) ∧ s19 = .int .i64 (c : Int) ∧ Hid (Below w14.heap.size w14 wx)) (fun _ s _ => C - (intOf s).toNat)
     case atStart => exact ⟨0, Nat.zero_le _, by simp [openC], rfl, HB⟩
     case round =>
      clear HB d0 d1 m1
      obtain ⟨c, hc, rfl, rfl, HB⟩ := hrel
      obtain ⟨d0, d1, m1⟩ := HCs.out _ HB.out
      have hb1 : openR G1 i j r + openC (G1.gd r) (min c (upTo C i j r)) ≤ 200 := by
       have g1 := hRb r
       have g2 := openC_le (G1.gd r) (min c (upTo C i j r))
       have g3 : 12 * r ≤ 12 * 6 := Nat.mul_le_mul_left _ (by omega)
       have g4 := Nat.min_le_left c (upTo C i j r)
       omega
      by_cases hct : c < C
      ·have q4 : (c : Int) < (C : Int) := by omega
       by_cases hcu : c < upTo C i j r
       ·have p1 : openR G1 i j r + openC (G1.gd r) (min (c + 1) (upTo C i j r)) = openR G1 i j r + openC (G1.gd r) (min c (upTo C i j r)) + if G1.gd r c then 0 else 1 := by rw [openC_at _ _ _ hcu, Nat.add_assoc]
        have HOp := Lib.hid (fun wx (hb : Below w14.heap.size w14 wx) => (show Fn wx 20 #[v, .agg #[.int .i64 (r : Int), .int .i64 (c : Int)]] (.bool (!G1.gd r c)) from by
         have e := HG1.out.len 0 (by omega)
         have e2 := HG1.out.n
         have := open_yes G1 r c wx (HIn.out.later hb hb.size) HG1.out.ok ⟨by omega, by omega, by omega, by omega⟩
         rw [HG1.out.v] at this
         exact this))
        generalize openR G1 i j r + openC (G1.gd r) (min c (upTo C i j r)) = n at p1 hb1 ⊢
        generalize hp1 : openR G1 i j r + openC (G1.gd r) (min (c + 1) (upTo C i j r)) = n' at p1
        have Hp := Lib.hid hp1
        clear hp1
        by_cases hri2 : r < i
        ·have q5 : (r : Int) < (i : Int) := by omega
         go_wp2_with fail
         refine (HOp.out _ HB.out).mono ?_
         rintro e wz ⟨rfl, bz⟩
         have HBz := Lib.hid (bel_call HB.out bz)
         clear bz HB d0 d1 m1
         cases hgd : G1.gd r c with
         | true =>
          replace p1 : n' = n := by simpa [hgd] using p1
          go_wp2_with fail
          go_roundw
          case rel => exact ⟨c + 1, by omega, by rw [Hp.out, p1], by go_num, HBz⟩
          case measure => simp [intOf]; omega
         | false =>
          replace p1 : n' = n + 1 := by simp only [hgd] at p1; simp at p1; omega
          go_wp2_with fail
          go_roundw
          case rel => exact ⟨c + 1, by omega, by rw [Hp.out, p1]; go_num, by go_num, HBz⟩
          case measure => simp [intOf]; omega
        ·have q5 : ¬ (r : Int) < (i : Int) := by omega
         have q6 : (c : Int) ≤ (j : Int) := by unfold upTo at hcu; split at hcu <;> omega
         go_wp2_with fail
         refine (HOp.out _ HB.out).mono ?_
         rintro e wz ⟨rfl, bz⟩
         have HBz := Lib.hid (bel_call HB.out bz)
         clear bz HB d0 d1 m1
         cases hgd : G1.gd r c with
         | true =>
          replace p1 : n' = n := by simpa [hgd] using p1
          go_wp2_with fail
          go_roundw
          case rel => exact ⟨c + 1, by omega, by rw [Hp.out, p1], by go_num, HBz⟩
          case measure => simp [intOf]; omega
         | false =>
          replace p1 : n' = n + 1 := by simp only [hgd] at p1; simp at p1; omega
          go_wp2_with fail
          go_roundw
          case rel => exact ⟨c + 1, by omega, by rw [Hp.out, p1]; go_num, by go_num, HBz⟩
          case measure => simp [intOf]; omega
       ·have p1 := openC_past (G1.gd r) _ c (Nat.le_of_not_lt hcu)
        have q5 : ¬ (r : Int) < (i : Int) := by unfold upTo at hcu; split at hcu <;> omega
        have q6 : ¬ (c : Int) ≤ (j : Int) := by unfold upTo at hcu; split at hcu <;> omega
        go_wp2_with fail
        go_roundw
        case rel => exact ⟨c + 1, by omega, by rw [p1], by go_num, HB⟩
        case measure => simp [intOf]; omega
      ·obtain rfl : C = c := by omega
       have hup : upTo C i j r ≤ C := by unfold upTo; split <;> omega
       go_wp2_with fail
       go_roundw
       case rel => exact ⟨r + 1, by omega, by rw [openR, HG1.out.len 0 (by omega), eC, Nat.min_eq_right hup], by go_num, HB⟩
       case measure => simp [intOf]; omega
    ·obtain rfl : r = i + 1 := by omega
     have hgN := HgN.out
     have hNg : N < g.size := by omega
     have hx13 : ((g[N]'hNg).toNat : Int) = 13 := by rw [HGb.out N (by have := HQN.out.1; omega) hNg]; exact HLast.out _
     have HBe := Lib.hid (bel_call B14.out HB.out)
     have q7 : ¬ ((N : Int) + 1 = 0) := by omega
     have q8 : ((N : Int) + 1 == 0) = false := by simpa using q7
     have hN2 : N ≤ 200 := by have := HQN.out; omega
     have hwN : wrap64 (N : Int) = N := by unfold wrap64; omega
     go_wp2_with fail
     refine (HA.out _ HBe.out).mono ?_
     rintro e wz ⟨rfl, bz⟩
     have HBz := Lib.hid (bel_call HBe.out bz)
     clear bz
     go_wp2_with fail
     go_ret
     exact ⟨rfl, HBz.out⟩
end Go.Proofs.YtpjooboohelffaaGreatDoor
/- TopSends: for every input the law returns true, and the input reads as it did. No condition but that the listed variables start as the program's text lays them (the card ties them). -/
namespace Go.Proofs.YtpjooboohelffaaGreatDoor.topSends
open Go.ChangeShapes Go.WideShapes Go.ChangeAt Go.WideMaps Go.WideElems Go.RowKit
set_option linter.unusedVariables false
theorem any (W : World) (hg : Glob W) (R C : Int) (text : ByteArray) : Calls Tryz.prog 4 #[pr R C, .string text] W fun e w' => e = .returned (.bool true) ∧ Below W.heap.size W w' := by
 by_cases h : 1 ≤ R ∧ R ≤ 6 ∧ 1 ≤ C ∧ C ≤ 12
 ·obtain ⟨h1, h2, h3, h4⟩ := h
  by_cases hl : 200 < text.size
  ·exact sends_long W hg R C text h1 h2 h3 h4 hl
  ·obtain ⟨r, rfl⟩ := Int.eq_ofNat_of_zero_le (show 0 ≤ R by omega)
   obtain ⟨c, rfl⟩ := Int.eq_ofNat_of_zero_le (show 0 ≤ C by omega)
   exact sends_walk W hg r c text (by omega) (by omega) (by omega) (by omega) (by omega)
 ·exact sends_no W hg R C text h
set_option maxRecDepth 100000 in
theorem lifted (os : Os) (started : os.Started) (H : Type) (enc : TypeId × Value → H) :
  ReturnsInHanded {} Tryz.checked os 4 .any (fun w args => (Rows.topSendsSpec.pre enc Tryz.prog Tryz.f4 [] false w args ∧ laidMetH Tryz.prog laid9 w) ∧ sizedMet enc Tryz.prog Tryz.f4 (OpenSpec.ofChange Rows.topSendsSpec) false w args)
   (Rows.topSendsSpec.post enc Tryz.prog Tryz.f4 false true false false) := by
 refine returnsBoth (C := Tryz.checked) (X := fun w _ => laidMetH Tryz.prog laid9 w) (fun _ _ _ hh h => h.of_heap hh) own started (by kernel_rfl) Tryz.func4
  (ChangeSpec.witness_shaped (enc := enc) (C := Tryz.checked) (os := os) (X := fun w _ => laidMetH Tryz.prog laid9 w) false (wit0 os) #[.agg #[.int .i64 0, .int .i64 0], .string ⟨#[]⟩] 8 rfl (World.shaped_of_RefB (by kernel_rfl) (by kernel_rfl)) (by kernel_rfl) (by kernel_rfl) (by kernel_rfl) (door_met os _)) ?_
 intro W base args ds gs before hval0 hW hsh hL0
 have hval : ∀ (j : Nat) t v, Tryz.f4.params[j]? = some t → args[j]? = some v → Value.okWide Tryz.prog W .any base t v := hval0
 have hW' := hW
 obtain ⟨p, q, hA0, hV, rfl, hfz, hnd⟩ := hW
 have hA : DataW.TrodAll enc Tryz.prog W 0 (fun _ => true) true Tryz.f4.params.toList args.toList ds p := hA0
 rw [Tryz.params4] at hA hval
 obtain ⟨v0, vs0, d0, ds0, p0, q0, hargs, rfl, rfl, h0, r0⟩ := trodAll_cons hA
 obtain ⟨v1, vs1, d1, ds1, p1, q1, rfl, rfl, rfl, h1, r1⟩ := trodAll_cons r0
 obtain ⟨rfl, rfl, rfl⟩ := trodAll_nil r1
 obtain rfl : args = #[v0, v1] := by cases args; simp_all
 obtain ⟨rfl, rfl⟩ := trodVars_none hV
 have lt0 : ∀ x ∈ p0, x.block < W.heap.size := by obtain ⟨m, hm⟩ := h0; exact DataW.trod_lt m _ _ _ hm
 have lt1 : ∀ x ∈ p1, x.block < W.heap.size := by obtain ⟨m, hm⟩ := h1; exact DataW.trod_lt m _ _ _ hm
 obtain ⟨R, C, rfl⟩ := read_size (hval 0 23 v0 rfl rfl) h0
 obtain ⟨s, rfl⟩ := okWide_string Tryz.underlying9 (hval 1 9 v1 rfl rfl)
 have hg := glob_of_laid hsh hL0
 clear hA0 hval0 hL0
 refine (any W hg R C s).mono fun e W' ⟨he, bel⟩ => ?_
 subst he
 exact ⟨_, rfl, _, _, _, [], _, [], hW', trodAll_mk1 (shut_bool Tryz.underlying4 _), (trodAll_cons_mk (Below.trod laidOut (by kernel_rfl) (of_decide_eq_true (by kernel_rfl)) h0 bel lt0) (trodAll_cons_mk (Below.trod laidOut (by kernel_rfl) (of_decide_eq_true (by kernel_rfl)) h1 bel lt1) trodAll_mk0)), rfl, bel.frame _, fun h => by cases h⟩

theorem over : Rows.TopSendsSaid :=
 OpenClaim.holds_of_wide 4 Tryz.f4 rfl rfl rfl rfl rfl rfl rfl ⟨rfl, rfl, rfl, rfl, rfl⟩ rfl rfl rfl rfl rfl (by kernel_rfl) Tryz.func4 (by kernel_rfl)
  (of_decide_eq_true (by kernel_rfl)) (by unfold Func.isWrapper; first | (rw [if_pos (by decide +kernel)]; kernel_rfl) | (rw [if_neg (by decide +kernel)]; exact ⟨rfl, rfl⟩))
  (fun os started H enc _ => lifted os started H enc)

/-- The statement: the tied card. -/
theorem proved : Rows.TopSendsCardSaid :=
 Claim7.holds_tied_plain_at .later [] [.data, .data, .data, .data, .sentinel, .sentinel, .data, .data, .pinned] true (true, "35e581b5746ab5589bf96fea05ada15ec45e04ab7650470557ce8412a100e57d") true
  over (fun _ h => by cases h) (by kernel_rfl) (fun _ h => by cases h) topSends_row_tie rfl ⟨rfl, rfl⟩ (by kernel_rfl) rfl
  (fun f fn hf hfn => by
   obtain rfl : f = 4 := Option.some.inj ((show Tryz.prog.funcNamed "vizard/vizardtop.TopSends" = some 4 by kernel_rfl).symm.trans hf) |>.symm
   obtain rfl : fn = Tryz.f4 := (Option.some.inj (Tryz.func4.symm.trans hfn)).symm
   exact ⟨by kernel_rfl, fun j t ht => by
    rw [Tryz.params4] at ht
    have hm : t ∈ [23, 9] := by simpa using Array.mem_of_getElem? ht
    have hall : ([23, 9].all fun u => !Tryz.prog.wantsStandIn u) = true := by kernel_rfl
    exact (show Tryz.prog.wantsStandIn t = false by simpa using List.all_eq_true.1 hall t hm)⟩)
  (by kernel_rfl)
#print axioms proved
end Go.Proofs.YtpjooboohelffaaGreatDoor.topSends
