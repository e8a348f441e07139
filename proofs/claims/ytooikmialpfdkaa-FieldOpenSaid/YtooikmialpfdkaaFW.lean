/- FieldWhole: the law's walk. -/
import Derived.Test.YtooikmialpfdkaaFM
import Derived.Test.YtooikmialpfdkaaFJ
import Derived.Test.YtooikmialpfdkaaFK
namespace Go.Proofs.Ytooikmialpfdkaa
open Go.RowKit
set_option linter.unusedVariables false
set_option linter.unusedSimpArgs false
set_option maxRecDepth 100000
set_option maxHeartbeats 4000000
theorem whole_few (G : Grid) (r c : Int) (W : World) (h : G.In W.heap.size W) (hf : ¬ G.Few) : Fn W 6 #[G.v, posV r c] (.bool true) := by
  have HF : ∀ w, Below W.heap.size W w → Fn w 9 #[G.v] (.bool false) := fun w hw => by
    have := few_any G w (h.later hw hw.size)
    rwa [not_fewB hf] at this
  have HA : ∀ w, Fn w 11 #[] (.bool true) := awake_any
  unfold Fn posV at *
  unfold Grid.v at *
  have HF' := Lib.hid HF
  have HA' := Lib.hid HA
  clear HF HA h hf
  go_enter Try.func6, Try.ntmps6
  go_wp2_with fail
  refine (HF'.out _ (by repeat (first | exact Below.refl _ _ | refine bel_alloc ?_ _))).mono ?_
  rintro e w1 ⟨rfl, hb1⟩
  go_wp2_with fail
  refine (HA'.out _).mono ?_
  rintro e w2 ⟨rfl, hb2⟩
  go_wp2
  go_ret
  exact ⟨rfl, by repeat (first | exact Below.refl _ _ | refine bel_alloc ?_ _ | refine bel_call ?_ hb2 | refine bel_call ?_ hb1)⟩
theorem whole_not (G : Grid) (r c : Int) (W : World) (h : G.In W.heap.size W) (hf : G.Few) (hok : ¬ G.Ok) : Fn W 6 #[G.v, posV r c] (.bool true) := by
  have HF : ∀ w, Below W.heap.size W w → Fn w 9 #[G.v] (.bool true) := fun w hw => by
    have := few_any G w (h.later hw hw.size)
    rwa [fewB_yes hf] at this
  have HR : ∀ w, Below W.heap.size W w → Fn w 17 #[G.v] (.bool false) := fun w hw => by
    have := right_any G w (h.later hw hw.size)
    rwa [not_okB hok] at this
  have HA : ∀ w, Fn w 11 #[] (.bool true) := awake_any
  unfold Fn posV at *
  unfold Grid.v at *
  have HF' := Lib.hid HF
  have HR' := Lib.hid HR
  have HA' := Lib.hid HA
  clear HF HR HA h hf hok
  go_enter Try.func6, Try.ntmps6
  go_wp2_with fail
  refine (HF'.out _ (by repeat (first | exact Below.refl _ _ | refine bel_alloc ?_ _))).mono ?_
  rintro e w1 ⟨rfl, hb1⟩
  have B1 := bel_call (bel_alloc (Below.refl _ _) _) hb1
  go_wp2_with fail
  refine (HR'.out _ B1).mono ?_
  rintro e w2 ⟨rfl, hb2⟩
  have B2 := bel_call B1 hb2
  go_wp2_with fail
  refine (HA'.out _).mono ?_
  rintro e w3 ⟨rfl, hb3⟩
  go_wp2
  go_ret
  exact ⟨rfl, bel_call B2 hb3⟩
/-- What the walk needs of Next's and Back's answer. -/
def Finds (G : Grid) (f : Nat) (r c : Int) (W : World) : Prop :=
  (0 < oa G G.n → ∃ r' c' : Nat, r' < G.n ∧ c' < G.len 0 ∧ G.gd r' c' = false ∧ ∀ w, Below W.heap.size W w → Fn w f #[G.v, posV r c] (.tuple #[posV r' c', .bool true])) ∧
  (oa G G.n = 0 → ∀ w, Below W.heap.size W w → Fn w f #[G.v, posV r c] (.tuple #[posV 0 0, .bool false]))
theorem finds_of (G : Grid) (hok : G.Ok) (f : Nat) (st o r c : Int) (W : World) (hst : st = 1 ∨ st = -1) (h0 : 0 ≤ o) (h1 : o < (G.n * G.len 0 : Nat)) (hc : ∀ w, Below W.heap.size W w → Fn w f #[G.v, posV r c] (foundPos G (nextOf G st o r c))) : Finds G f r c W := by
  obtain ⟨a, b⟩ := next_found G hok st o r c hst h0 h1
  constructor
  · intro hp
    obtain ⟨x, r', c', e, e1, e2, e3, e4, e5⟩ := a hp
    refine ⟨r', c', e3, e4, e5, fun w hw => ?_⟩
    have := hc w hw
    rw [e] at this
    simp only [foundPos, e1, e2] at this
    exact this
  · intro hz w hw
    have := hc w hw
    rw [b hz] at this
    exact this
theorem take_succ_snoc {L : List Fd} {k : Nat} (h : k < L.length) : L.take (k + 1) = L.take k ++ [L[k]] := by
  rw [List.take_add_one, List.getElem?_eq_getElem h]; rfl
theorem lat_le (L : List Fd) : (lat L).1 ≤ L.length := by
  suffices h : ∀ (L : List Fd) (s : Nat × Option Nat), (L.foldl lstep s).1 ≤ s.1 + L.length by have := h L (0, none); simpa [lat] using this
  intro L
  induction L with
  | nil => intro s; simp
  | cons x l ih =>
    intro s
    have := ih (lstep s x)
    have h2 : (lstep s x).1 ≤ s.1 + 1 := by unfold lstep; dsimp only; split <;> omega
    simp only [List.foldl_cons, List.length_cons]
    omega
theorem lat_last {L : List Fd} {k : Nat} (h : k < L.length) : (lat (L.take (k + 1))).2 = some (L[k]).1 := by
  rw [take_succ_snoc h, lat_snoc]; rfl
theorem lat_one (L : List Fd) : (lat (L.take 1)).1 = 0 := by
  cases L <;> simp [lat, lstep]
theorem lat_next {L : List Fd} {k : Nat} (h1 : 1 ≤ k) (h : k < L.length) : (lat (L.take (k + 1))).1 = (lat (L.take k)).1 + (if (L[k - 1]'(by omega)).1 = (L[k]).1 then 1 else 0) := by
  rw [take_succ_snoc h, lat_snoc]
  have h2 := lat_last (L := L) (k := k - 1) (by omega)
  rw [show k - 1 + 1 = k by omega] at h2
  unfold lstep
  dsimp only
  rw [h2]
  simp
theorem cov_next {L : List Fd} {r c k : Nat} (h : k < L.length) : (L.take (k + 1)).countP (covF r c) = (L.take k).countP (covF r c) + (if covF r c L[k] = true then 1 else 0) := by
  rw [take_succ_snoc h, List.countP_append]; simp
set_option maxHeartbeats 16000000 in
theorem whole_main (G : Grid) (r c : Int) (W : World) (h : G.In W.heap.size W) (hf : G.Few) (hok : G.Ok) : Fn W 6 #[G.v, posV r c] (.bool true) := by
  have HF : ∀ w, Below W.heap.size W w → Fn w 9 #[G.v] (.bool true) := fun w hw => by
    have := few_any G w (h.later hw hw.size)
    rwa [fewB_yes hf] at this
  have HR : ∀ w, Below W.heap.size W w → Fn w 17 #[G.v] (.bool true) := fun w hw => by
    have := right_any G w (h.later hw hw.size)
    rwa [okB_yes hok] at this
  have HA : ∀ w, Fn w 11 #[] (.bool true) := awake_any
  have hl2 := few_len hf
  have H1 : ∀ w, Below W.heap.size W w → Calls Try.prog 14 #[G.v] w fun e w' => ∃ v, e = .returned (.tuple #[v, .bool true]) ∧ OwnF 39 w' w.heap.size v (fieldsOf G) ∧ Below w.heap.size w w' := fun w hw => fields_law G w (h.later hw hw.size) (by omega)
  have H2 : ∀ (r' c' : Nat) w, Below W.heap.size W w → r' < G.n → c' < G.len 0 → Fn w 20 #[G.v, posV r' c'] (.bool (!G.gd r' c')) := fun r' c' w hw h1 h2 => open_yes G r' c' w (h.later hw hw.size) hok ⟨by omega, by omega, by omega, by omega⟩
  obtain ⟨n1, n2, hgood⟩ := id hok
  obtain ⟨m1, m2, _⟩ := hgood 0 n1
  have nf : G.n ≤ 30 := hf.1
  have mf : G.len 0 ≤ 40 := hf.2 0 n1
  have hA1 : 1 ≤ G.n * G.len 0 := Nat.mul_pos n1 m1
  have h0 : G.thereP 0 0 := ⟨by omega, by omega, by omega, by omega⟩
  have hl : G.thereP (G.n - 1 : Nat) (G.len 0 - 1 : Nat) := ⟨by omega, by omega, by omega, by omega⟩
  have hN := finds_of G hok 18 1 0 r c W (.inl rfl) (by omega) (by omega) (fun w hw => next_any G r c w (h.later hw hw.size))
  have hBk := finds_of G hok 19 (-1) ((G.n * G.len 0 : Nat) - 1) r c W (.inr rfl) (by omega) (by omega) (fun w hw => back_any G r c w (h.later hw hw.size))
  have hle : ¬ G.num ((G.n - 1 : Nat) : Int) ((G.len 0 - 1 : Nat) : Int) 0 < G.num ((0 : Nat) : Int) ((0 : Nat) : Int) 0 := by
    have := (num_bd G hok _ rfl ((G.n - 1 : Nat) : Int) ((G.len 0 - 1 : Nat) : Int) 0 (by omega) (by omega)).1
    have e : G.num ((0 : Nat) : Int) ((0 : Nat) : Int) 0 = 0 := by unfold Grid.num; split <;> simp
    omega
  have H3 : ∀ w, Below W.heap.size W w → Fn w 12 #[G.v, .agg #[.int .i64 0, .int .i64 0], .agg #[.int .i64 ((G.n : Int) - 1), .int .i64 ((G.len 0 : Int) - 1)], .func (.func 13) #[] #[]] (.tuple #[.string (strOfNums (sendOut G 0 0 (G.n - 1) (G.len 0 - 1))), .int .i64 0]) := fun w hw => by
    have := send_ok G 0 0 (G.n - 1) (G.len 0 - 1) w (h.later hw hw.size) hok h0 hl hle
    rwa [show ((G.n - 1 : Nat) : Int) = (G.n : Int) - 1 by omega, show ((G.len 0 - 1 : Nat) : Int) = (G.len 0 : Int) - 1 by omega] at this
  have hsz : (strOfNums (sendOut G 0 0 (G.n - 1) (G.len 0 - 1))).size = oa G G.n + la G G.n + (G.n - 1) := by
    rw [show (strOfNums (sendOut G 0 0 (G.n - 1) (G.len 0 - 1))).size = (sendOut G 0 0 (G.n - 1) (G.len 0 - 1)).length by simp [strOfNums, ByteArray.size], sendOut_count G hok]
  have hoa := oa_le G G.n
  have hoa2 : G.n * G.len 0 ≤ 30 * 40 := Nat.mul_le_mul nf mf
  have hfo : fieldsOf G = allF G G.n := by simp [fieldsOf, okB_yes hok]
  have hlat := (lat_all G G.n).1
  have hcov := fun r' c' (h : c' < G.len 0) => cov_all G r' c' G.n h
  rw [← hfo] at hlat hcov
  have hlle := lat_le (fieldsOf G)
  unfold Fn posV at *
  unfold Finds Fn posV at hN hBk
  unfold Grid.v at *
  generalize fieldsOf G = L at *
  obtain ⟨b, off, ea, hb, hc⟩ := h.rows n1
  have hln : ∀ i, i < G.n → G.len i = G.len 0 := fun i hi => (hgood i hi).2.2
  have hcell : ∀ w, Below W.heap.size W w → ∀ i, i < G.n → ∃ rb ro, w.cell? ⟨b, off + i, none⟩ = some (.slice (some ⟨rb, ro, none⟩) (G.len 0) (G.rc i)) ∧ ∀ j, j < G.len 0 → w.cell? ⟨rb, ro + j * 4 + 2, none⟩ = some (.bool (G.gd i j)) := fun w hw i hi => by
    obtain ⟨rb, ro, er, hrb, hcc⟩ := h.cells i hi (by rw [hln i hi]; omega)
    have e := hc i hi
    rw [er, hln i hi] at e
    refine ⟨rb, ro, (hw.cell (p := ⟨b, off + i, none⟩) hb).trans e, fun j hj => (hw.cell (p := ⟨rb, ro + j * 4 + 2, none⟩) hrb).trans (hcc j (by rw [hln i hi]; exact hj)).2.2.1⟩
  rw [ea] at HF HR H1 H2 H3 hN hBk ⊢
  have HF' := Lib.hid HF
  have HR' := Lib.hid HR
  have HA' := Lib.hid HA
  have H1' := Lib.hid H1
  have H2' := Lib.hid H2
  have H3' := Lib.hid H3
  have HN' := Lib.hid hN
  have HB' := Lib.hid hBk
  have HC' := Lib.hid hcell
  have Hcov := Lib.hid hcov
  have Hlat := Lib.hid hlat
  have Hsz := Lib.hid hsz
  have Hlle := Lib.hid hlle
  have Hoa := Lib.hid hoa
  have Hoa2 := Lib.hid hoa2
  clear HF HR HA H1 H2 H3 hN hBk hcell hcov hlat hsz hlle h hf hok ea hc hgood hfo hle h0 hl hA1 hln hoa hoa2 hb
  go_enter Try.func6, Try.ntmps6
  go_wp2_with fail
  refine (HF'.out _ (bel_alloc (Below.refl _ _) _)).mono ?_
  rintro e w1 ⟨rfl, hb1⟩
  have B1 : Below W.heap.size W w1 := bel_call (bel_alloc (Below.refl _ _) _) hb1
  have k0 := hb1.cell (p := ⟨W.heap.size, 0, none⟩) (by simp)
  have k1 := hb1.cell (p := ⟨W.heap.size, 1, none⟩) (by simp)
  simp [go_sem] at k0 k1
  have hz1 : W.heap.size < w1.heap.size := by have := hb1.size; simp at this; omega
  have KB := Lib.hid (show ∀ w, Below w1.heap.size w1 w → w.cell? ⟨W.heap.size, 0, none⟩ = some (.int .i64 r) ∧ w.cell? ⟨W.heap.size, 1, none⟩ = some (.int .i64 c) from fun w hw =>
    ⟨(hw.cell (p := ⟨W.heap.size, 0, none⟩) hz1).trans k0, (hw.cell (p := ⟨W.heap.size, 1, none⟩) hz1).trans k1⟩)
  clear k0 k1 hb1 hz1
  go_wp2_with fail
  refine (HR'.out _ B1).mono ?_
  rintro e w2 ⟨rfl, hb2⟩
  have B2 := bel_call B1 hb2
  go_wp2_with fail
  refine (H1'.out _ B2).mono ?_
  rintro e w3 ⟨v1, rfl, ho1, hb3⟩
  obtain ⟨a1, c1, rfl, hr1⟩ := ho1.view
  have B3 := Lib.hid (bel_call B2 hb3)
  have b3 := Lib.hid (bel_call hb2 hb3)
  have HR1 := Lib.hid hr1
  clear hb2 hb3 ho1 hr1 B1 B2
  obtain ⟨n, hn⟩ : ∃ n, L.length = n := ⟨_, rfl⟩
  rw [hn] at hl2 ⊢
  have HN1 := Lib.hid hn
  clear hn
  go_wp2_with fail
  go_loopw [7, 8] (fun o i wr => ∃ r' : Nat, r' ≤ G.n ∧ i = .int .i64 (r' : Int) ∧ o = .int .i64 (oa G r' : Int) ∧ Below w3.heap.size w3 wr) (fun _ i _ => G.n - (intOf i).toNat)
  case atStart => exact ⟨0, Nat.zero_le _, rfl, rfl, Below.refl _ _⟩
  case round =>
    obtain ⟨r', hr', rfl, rfl, hbr⟩ := hrel
    by_cases hlt : r' < G.n
    · have q0 : (r' : Int) < (G.n : Int) := by omega
      obtain ⟨rb, ro, cr, cc⟩ := HC'.out _ (B3.out.trans (hbr.mono B3.out.size)) r' hlt
      have Hbr := Lib.hid hbr
      have HoaN := Lib.hid (show oa G (r' + 1) = oa G r' + oc (G.gd r') (G.len 0) from rfl)
      have hoar : oa G r' ≤ 1200 := by
        have h1 := oa_le G r'
        have h2 : r' * G.len 0 ≤ 30 * 40 := Nat.mul_le_mul (by omega) mf
        omega
      have Hoar := Lib.hid hoar
      clear hbr cc cr hoar
      go_wp2_with fail
      go_loopw [7, 9] (fun o i wx => ∃ c' : Nat, c' ≤ G.len 0 ∧ i = .int .i64 (c' : Int) ∧ o = .int .i64 ((oa G r' + oc (G.gd r') c' : Nat) : Int) ∧ Below w3.heap.size w3 wx) (fun _ i _ => G.len 0 - (intOf i).toNat)
      case atStart => exact ⟨0, Nat.zero_le _, rfl, rfl, Hbr.out⟩
      case round =>
        obtain ⟨c', hc', rfl, rfl, hbx⟩ := hrel
        obtain ⟨rb, ro, cr, cc⟩ := HC'.out _ (B3.out.trans (hbx.mono B3.out.size)) r' hlt
        by_cases hlt2 : c' < G.len 0
        · have q1 : (c' : Int) < (G.len 0 : Int) := by omega
          have Hbx := Lib.hid hbx
          have Hcr := Lib.hid cr
          have Hcd := Lib.hid (cc c' hlt2)
          have hocb : oc (G.gd r') c' ≤ 40 := by have := oc_le (G.gd r') c'; omega
          have Hocb := Lib.hid hocb
          clear hbx cc hocb
          go_wp2_with fail
          clear cr
          go_loopw [10, 11] (fun o i wy => ∃ k : Nat, k ≤ n ∧ i = .int .i64 (k : Int) ∧ o = .int .i64 (((L.take k).countP (covF r' c') : Nat) : Int) ∧ wy = wr) (fun _ i _ => n - (intOf i).toNat)
          case atStart => exact ⟨0, Nat.zero_le _, rfl, rfl, rfl⟩
          case round =>
            obtain ⟨k, hk, rfl, rfl, rfl⟩ := hrel
            by_cases hlt3 : k < n
            · have q2 : (k : Int) < (n : Int) := by omega
              obtain ⟨g1, rfl, _, hg1, hc1⟩ := HR1.out (by rw [HN1.out]; omega)
              obtain ⟨d0, d1, d2⟩ := hc1 k (by rw [HN1.out]; omega)
              have d0' := (Hbx.out.cell (p := ⟨g1, k * 3, none⟩) hg1).trans d0
              have d1' := (Hbx.out.cell (p := ⟨g1, k * 3 + 1, none⟩) hg1).trans d1
              have d2' := (Hbx.out.cell (p := ⟨g1, k * 3 + 2, none⟩) hg1).trans d2
              have hkL : k < L.length := by rw [HN1.out]; omega
              have hs := cov_next (L := L) (r := r') (c := c') hkL
              have hsl : (L.take k).countP (covF r' c') ≤ 1200 := Nat.le_trans List.countP_le_length (by rw [List.length_take]; omega)
              clear d0 d1 d2 hc1
              unfold covF at hs
              generalize ((L[k]'hkL).1) = x0 at *
              generalize ((L[k]'hkL).2.1) = x1 at *
              generalize ((L[k]'hkL).2.2) = x2 at *
              change _ = List.countP (covF r' c') _ + _ at hs
              change List.countP (covF r' c') _ = _ at hs
              generalize hct : (L.take k).countP (covF r' c') = s at *
              by_cases e0 : x0 = r'
              · have f0 : decide ((x0 : Int) = (r' : Int)) = true := by simp; omega
                have f0' : ((x0 : Int) == (r' : Int)) = true := by simp; omega
                by_cases e1 : x1 ≤ c'
                · have f1 : (x1 : Int) ≤ (c' : Int) := by omega
                  by_cases e2 : c' ≤ x2
                  · have f2 : (c' : Int) ≤ (x2 : Int) := by omega
                    rw [if_pos (by simp [e0, e1, e2])] at hs
                    have Hs := Lib.hid hs
                    clear hs hct e0
                    go_wp2_with fail
                    go_roundw
                    case rel => exact ⟨k + 1, by omega, by go_num, by rw [Hs.out]; go_num, trivial⟩
                    case measure => simp [intOf]; omega
                  · have f2 : ¬ (c' : Int) ≤ (x2 : Int) := by omega
                    rw [if_neg (by simp [e0, e1, e2])] at hs
                    have Hs := Lib.hid hs
                    clear hs hct e0
                    go_wp2_with fail
                    go_roundw
                    case rel => exact ⟨k + 1, by omega, by go_num, by rw [Hs.out, Nat.add_zero], trivial⟩
                    case measure => simp [intOf]; omega
                · have f1 : ¬ (x1 : Int) ≤ (c' : Int) := by omega
                  rw [if_neg (by simp [e0, e1])] at hs
                  have Hs := Lib.hid hs
                  clear hs hct e0
                  go_wp2_with fail
                  go_roundw
                  case rel => exact ⟨k + 1, by omega, by go_num, by rw [Hs.out, Nat.add_zero], trivial⟩
                  case measure => simp [intOf]; omega
              · have f0 : decide ((x0 : Int) = (r' : Int)) = false := by simp; omega
                have f0' : ((x0 : Int) == (r' : Int)) = false := by simp; omega
                have f0'' : ¬ (x0 : Int) = (r' : Int) := by omega
                rw [if_neg (by simp [e0])] at hs
                have Hs := Lib.hid hs
                clear hs hct
                go_wp2_with fail
                go_roundw
                case rel => exact ⟨k + 1, by omega, by go_num, by rw [Hs.out, Nat.add_zero], trivial⟩
                case measure => simp [intOf]; omega
            · have q2 : ¬ (k : Int) < (n : Int) := by omega
              have hkn : k = L.length := by rw [HN1.out]; omega
              subst hkn
              rw [List.take_length, Hcov.out r' c' hlt2]
              have cr := Hcr.out
              have cd := Hcd.out
              have H2c := H2'.out r' c'
              have Hocn := Lib.hid (show oc (G.gd r') (c' + 1) = oc (G.gd r') c' + (if G.gd r' c' then 0 else 1) from rfl)
              cases hg : G.gd r' c' with
              | true =>
                rw [hg] at cd H2c Hocn
                have H2d := Lib.hid (fun w hw => H2c w hw hlt hlt2)
                clear H2c
                simp only [hlt, true_and, Bool.true_eq_false, if_false, Bool.not_true, if_true] at H2d Hocn ⊢
                go_wp2_with fail
                refine (H2d.out _ (B3.out.trans (Hbx.out.mono B3.out.size))).mono ?_
                rintro e w4 ⟨rfl, hb4⟩
                have b4 := Hbx.out.trans (hb4.mono Hbx.out.size)
                have h1 := Hoar.out
                have h2 := Hocb.out
                clear cr cd
                go_wp2_with fail
                go_roundw
                case rel => exact ⟨c' + 1, by omega, by go_num, by rw [Hocn.out]; go_num, b4⟩
                case measure => simp [intOf]; omega
              | false =>
                rw [hg] at cd H2c Hocn
                have H2d := Lib.hid (fun w hw => H2c w hw hlt hlt2)
                clear H2c
                simp only [hlt, true_and, if_true, Bool.not_false, Bool.false_eq_true, if_false] at H2d Hocn ⊢
                go_wp2_with fail
                refine (H2d.out _ (B3.out.trans (Hbx.out.mono B3.out.size))).mono ?_
                rintro e w4 ⟨rfl, hb4⟩
                have b4 := Hbx.out.trans (hb4.mono Hbx.out.size)
                have h1 := Hoar.out
                have h2 := Hocb.out
                clear cr cd
                go_wp2_with fail
                go_roundw
                case rel => exact ⟨c' + 1, by omega, by go_num, by rw [Hocn.out]; go_num, b4⟩
                case measure => simp [intOf]; omega
        · have q1 : ¬ (c' : Int) < (G.len 0 : Int) := by omega
          obtain rfl : c' = G.len 0 := by omega
          have Hbx := Lib.hid hbx
          clear hbx cc
          go_wp2_with fail
          go_roundw
          case rel => exact ⟨r' + 1, by omega, by go_num, by rw [HoaN.out], Hbx.out⟩
          case measure => simp [intOf]; omega
    · have q0 : ¬ (r' : Int) < (G.n : Int) := by omega
      obtain rfl : r' = G.n := by omega
      have Hbr := Lib.hid hbr
      clear hbr
      go_wp2_with fail
      go_loopw [12, 13] (fun o i wx => ∃ j : Nat, 1 ≤ j ∧ (j ≤ n ∨ j = 1) ∧ i = .int .i64 (j : Int) ∧ o = .int .i64 ((lat (L.take j)).1 : Int) ∧ Below w3.heap.size w3 wx) (fun _ i _ => n - (intOf i).toNat)
      case atStart => exact ⟨1, Nat.le_refl _, .inr rfl, rfl, by rw [lat_one]; rfl, Hbr.out⟩
      case round =>
        obtain ⟨j, hj1, hj, rfl, rfl, hbx⟩ := hrel
        by_cases hlt3 : j < n
        · have q2 : (j : Int) < (n : Int) := by omega
          have q3 : (1 : Int) ≤ (j : Int) := by omega
          obtain ⟨g1, rfl, _, hg1, hc1⟩ := HR1.out (by rw [HN1.out]; omega)
          have d0 := (hbx.cell (p := ⟨g1, j * 3, none⟩) hg1).trans (hc1 j (by rw [HN1.out]; omega)).1
          have d1 := (hbx.cell (p := ⟨g1, (j - 1) * 3, none⟩) hg1).trans (hc1 (j - 1) (by rw [HN1.out]; omega)).1
          have hjL : j < L.length := by rw [HN1.out]; omega
          have hs := lat_next (L := L) hj1 hjL
          have hsl : (lat (L.take j)).1 ≤ 1200 := Nat.le_trans (lat_le _) (by rw [List.length_take]; omega)
          have Hbx := Lib.hid hbx
          clear hc1 hbx
          generalize (L[j]'hjL).1 = x0 at *
          generalize (L[j - 1]'(by omega)).1 = x1 at *
          generalize hct : (lat (L.take j)).1 = s at *
          by_cases e0 : x1 = x0
          · have f0 : decide ((x0 : Int) = (x1 : Int)) = true := by simp; omega
            have f0' : ((x0 : Int) == (x1 : Int)) = true := by simp; omega
            rw [if_pos e0] at hs
            have Hs := Lib.hid hs
            clear hs hct e0
            go_wp2_with fail
            go_quiet (fail)
            go_wp2_with fail
            go_roundw
            case rel => exact ⟨j + 1, by omega, .inl (by omega), by go_num, by rw [Hs.out]; go_num, bel_drewN Hbx.out _⟩
            case measure => simp [intOf]; omega
          · have f0 : decide ((x0 : Int) = (x1 : Int)) = false := by simp; omega
            have f0' : ((x0 : Int) == (x1 : Int)) = false := by simp; omega
            rw [if_neg e0] at hs
            have Hs := Lib.hid hs
            clear hs hct
            go_wp2_with fail
            go_quiet (fail)
            go_wp2_with fail
            go_roundw
            case rel => exact ⟨j + 1, by omega, .inl (by omega), by go_num, by rw [Hs.out, Nat.add_zero], bel_drewN Hbx.out _⟩
            case measure => simp [intOf]; omega
        · have q2 : ¬ (j : Int) < (n : Int) := by omega
          have htk : L.take j = L := by rw [List.take_of_length_le]; rw [HN1.out]; omega
          rw [htk, Hlat.out]
          have hA := Hoa.out
          have hA2 := Hoa2.out
          have hlb : la G G.n ≤ 1200 := by rw [← Hlat.out]; exact Nat.le_trans Hlle.out (by rw [HN1.out]; omega)
          have hS := Hsz.out
          have Hbx := Lib.hid hbx
          have HNN := HN'.out
          have HBB := HB'.out
          have H33 := H3'.out
          obtain ⟨rb, ro, cr, _⟩ := HC'.out _ (B3.out.trans (hbx.mono B3.out.size)) 0 n1
          rw [Nat.add_zero] at cr
          clear hbx htk hj hj1 q2
          generalize strOfNums (sendOut G 0 0 (G.n - 1) (G.len 0 - 1)) = S at *
          have hAb : oa G G.n ≤ 1200 := by omega
          clear hA hA2
          generalize hAe : oa G G.n = A at *
          generalize la G G.n = Bl at *
          have n0 : 0 < G.n := n1
          have p1 : IntKind.i64.wrap ((G.n : Int) - 1) = (G.n : Int) - 1 := IntWalk.i64_in _ (by omega)
          have p2 : IntKind.i64.wrap ((G.len 0 : Int) - 1) = (G.len 0 : Int) - 1 := IntWalk.i64_in _ (by omega)
          have p3 : IntKind.i64.wrap ((A : Int) + (Bl : Int)) = (A : Int) + (Bl : Int) := IntWalk.i64_in _ (by omega)
          have p4 : IntKind.i64.wrap ((A : Int) + (Bl : Int) + (G.n : Int)) = (A : Int) + (Bl : Int) + (G.n : Int) := IntWalk.i64_in _ (by omega)
          have p5 : IntKind.i64.wrap ((A : Int) + (Bl : Int) + (G.n : Int) - 1) = (A : Int) + (Bl : Int) + (G.n : Int) - 1 := IntWalk.i64_in _ (by omega)
          have p6 : (S.size : Int) = (A : Int) + (Bl : Int) + (G.n : Int) - 1 := by omega
          have p7 : decide ((S.size : Int) = (A : Int) + (Bl : Int) + (G.n : Int) - 1) = true := by simp; omega
          have p8 : ((S.size : Int) == (A : Int) + (Bl : Int) + (G.n : Int) - 1) = true := by simp; omega
          obtain ⟨k0, k1⟩ := KB.out _ (b3.out.trans (Hbx.out.mono b3.out.size))
          have HS3 := Lib.hid H33
          have HNh := Lib.hid HNN
          have HBh := Lib.hid HBB
          have P6 := Lib.hid p6
          clear H33 HNN HBB hS p6
          have B5 := B3.out.trans (Hbx.out.mono B3.out.size)
          have b5 := b3.out.trans (Hbx.out.mono b3.out.size)
          go_wp2_with fail
          refine (HS3.out _ B5).mono ?_
          rintro e w6 ⟨rfl, hb6⟩
          have B6 := bel_call B5 hb6
          have b6 := b5.trans (hb6.mono b5.size)
          clear k0 k1 cr hb6
          obtain ⟨k0, k1⟩ := KB.out _ b6
          by_cases hz : 0 < A
          · obtain ⟨r1, c1', i1, i2, i3, HNc⟩ := HNh.out.1 hz
            obtain ⟨r2, c2', i4, i5, i6, HBc⟩ := HBh.out.1 hz
            have H2a := Lib.hid (fun w hw => H2'.out r1 c1' w hw i1 i2)
            have H2b := Lib.hid (fun w hw => H2'.out r2 c2' w hw i4 i5)
            rw [i3] at H2a
            rw [i6] at H2b
            simp only [Bool.not_false] at H2a H2b
            have HNd := Lib.hid HNc
            have HBd := Lib.hid HBc
            have hz1 : (0 : Int) < (A : Int) := by omega
            clear HNc HBc i1 i2 i3 i4 i5 i6
            go_wp2_with fail
            refine (HNd.out _ B6).mono ?_
            rintro e w7 ⟨rfl, hb7⟩
            have B7 := bel_call B6 hb7
            have b7 := b6.trans (hb7.mono b6.size)
            clear k0 k1 hb7
            obtain ⟨k0, k1⟩ := KB.out _ (b7.alloc b7.size (.cells #[.int .i64 (r1 : Int), .int .i64 (c1' : Int)] 24))
            go_wp2_with fail
            refine (HBd.out _ (bel_alloc B7 _)).mono ?_
            rintro e w8 ⟨rfl, hb8⟩
            have B8 := bel_call (bel_alloc B7 _) hb8
            have x0 := hb8.cell (p := ⟨w7.heap.size, 0, none⟩) (by simp)
            have x1 := hb8.cell (p := ⟨w7.heap.size, 1, none⟩) (by simp)
            simp [go_sem] at x0 x1
            have hw7 : w7.heap.size < w8.heap.size := by have := hb8.size; simp at this; omega
            clear k0 k1 hb8
            have x0' := (World.cell?_alloc_lt w8 (.cells #[.int .i64 (r2 : Int), .int .i64 (c2' : Int)] 24) ⟨w7.heap.size, 0, none⟩ hw7).trans x0
            have x1' := (World.cell?_alloc_lt w8 (.cells #[.int .i64 (r2 : Int), .int .i64 (c2' : Int)] 24) ⟨w7.heap.size, 1, none⟩ hw7).trans x1
            clear x0 x1 hw7
            go_wp2_with fail
            refine (H2a.out _ (bel_alloc B8 _)).mono ?_
            rintro e w9 ⟨rfl, hb9⟩
            have B9 := bel_call (bel_alloc B8 _) hb9
            have y0 := hb9.cell (p := ⟨w8.heap.size, 0, none⟩) (by simp)
            have y1 := hb9.cell (p := ⟨w8.heap.size, 1, none⟩) (by simp)
            simp [go_sem] at y0 y1
            clear x0' x1' hb9
            go_wp2_with fail
            refine (H2b.out _ B9).mono ?_
            rintro e w10 ⟨rfl, hb10⟩
            have B10 := bel_call B9 hb10
            clear y0 y1 hb10
            go_wp2_with fail
            refine (HA'.out _).mono ?_
            rintro e w11 ⟨rfl, hb11⟩
            go_wp2_with fail
            go_ret
            exact ⟨rfl, bel_call B10 hb11⟩
          · obtain rfl : A = 0 := by omega
            have HNd := Lib.hid (HNh.out.2 rfl)
            have HBd := Lib.hid (HBh.out.2 rfl)
            have p9 := P6.out
            clear HNh HBh p3 p4 p5 p7 p8
            have p3 : IntKind.i64.wrap (Bl : Int) = (Bl : Int) := IntWalk.i64_in _ (by omega)
            have p4 : IntKind.i64.wrap ((Bl : Int) + (G.n : Int)) = (Bl : Int) + (G.n : Int) := IntWalk.i64_in _ (by omega)
            have p5 : IntKind.i64.wrap ((Bl : Int) + (G.n : Int) - 1) = (Bl : Int) + (G.n : Int) - 1 := IntWalk.i64_in _ (by omega)
            have p7 : decide ((S.size : Int) = (Bl : Int) + (G.n : Int) - 1) = true := by simp; omega
            have p8 : ((S.size : Int) == (Bl : Int) + (G.n : Int) - 1) = true := by simp; omega
            clear p9
            go_wp2_with fail
            refine (HNd.out _ B6).mono ?_
            rintro e w7 ⟨rfl, hb7⟩
            have B7 := bel_call B6 hb7
            have b7 := b6.trans (hb7.mono b6.size)
            clear k0 k1 hb7
            obtain ⟨k0, k1⟩ := KB.out _ (b7.alloc b7.size (.cells #[.int .i64 0, .int .i64 0] 24))
            go_wp2_with fail
            refine (HBd.out _ (bel_alloc B7 _)).mono ?_
            rintro e w8 ⟨rfl, hb8⟩
            have B8 := bel_call (bel_alloc B7 _) hb8
            clear k0 k1 hb8
            go_wp2_with fail
            refine (HA'.out _).mono ?_
            rintro e w9 ⟨rfl, hb9⟩
            go_wp2_with fail
            go_ret
            exact ⟨rfl, bel_call (bel_alloc B8 _) hb9⟩
theorem whole_walk (G : Grid) (r c : Int) (W : World) (h : G.In W.heap.size W) : Fn W 6 #[G.v, posV r c] (.bool true) := by
  by_cases hf : G.Few
  · by_cases hok : G.Ok
    · exact whole_main G r c W h hf hok
    · exact whole_not G r c W h hf hok
  · exact whole_few G r c W h hf
end Go.Proofs.Ytooikmialpfdkaa
