/- The walk of the document's All. -/
import Derived.Test.YtooikmialpfdkaaL2
import Derived.Test.YtooikmialpfdkaaF5
namespace Go.Proofs.Ytooikmialpfdkaa
open Go.RowKit
set_option linter.unusedVariables false
/-- The last field's end is set. -/
theorem OwnF.setLast {e : TypeId} {w : World} {base : Nat} {g cap n : Nat} {A : List Fd} {r a b b' : Nat} (h : OwnF e w base (.slice (some ⟨g, 0, none⟩) n cap) (A ++ [(r, a, b)])) :
    OwnF e (w.setCell ⟨g, A.length * 3 + 2, none⟩ (.int .i64 (b' : Int))) base (.slice (some ⟨g, 0, none⟩) n cap) (A ++ [(r, a, b')]) := by
  obtain ⟨h1, h2⟩ := h
  refine ⟨by rw [fcells_len], ?_⟩
  rcases h2 with ⟨h2, _⟩ | ⟨g', cap', cur, hv, hg, hh, hc, hm, hsz, ht⟩
  · cases h2
  · injection hv with e1 e2 e3
    injection e1 with e1
    injection e1 with e1
    subst e1 e3
    refine .inr ⟨g, cap, cur.setIfInBounds (A.length * 3 + 2) (.int .i64 (b' : Int)), by simp [e2], hg, ?_, by simpa using hc, hm, by simpa using hsz, ?_⟩
    · have hl := (Array.getElem?_eq_some_iff.1 hh).1
      have hl2 := (Array.getElem?_eq_some_iff.1 hh).2
      simp [World.setCell, Array.getElem_modify, hl, hl2]
    · have hL : (A ++ [(r, a, b)]).length * 3 = A.length * 3 + 3 := by simp; omega
      have hL' : (A ++ [(r, a, b')]).length * 3 = A.length * 3 + 3 := by simp; omega
      rw [hL] at ht
      rw [hL', Array.toList_setIfInBounds, List.take_set, ht]
      have hf := fcells_len A
      simp only [List.flatMap_append, List.flatMap_cons, List.flatMap_nil, List.append_nil, fcells]
      rw [List.set_append_right _ _ (by omega)]
      rw [hf, show A.length * 3 + 2 - A.length * 3 = 2 by omega]
      rfl
set_option maxRecDepth 100000 in
set_option maxHeartbeats 8000000 in
theorem all_ref (G : Grid) (w : World) (h : G.In w.heap.size w) : Calls Try.prog 15 #[G.v] w fun e w' => ∃ v, e = .returned v ∧ OwnF 40 w' w.heap.size v (fieldsOf G) ∧ Below w.heap.size w w' := by
  have HR : ∀ W, Below w.heap.size w W → Fn W 17 #[G.v] (.bool G.okB) := fun W hW => right_any G W (h.later hW hW.size)
  by_cases hok : G.Ok
  · rw [okB_yes hok] at HR
    have hn : 0 < G.n := hok.1
    unfold Fn at *
    obtain ⟨b, off, ea, hb, hc⟩ := h.rows hn
    unfold Grid.v at *
    rw [ea] at HR ⊢
    have hfo : fieldsOf G = allF G G.n := by simp [fieldsOf, okB_yes hok]
    rw [hfo]
    clear hfo
    have HR' := Lib.hid HR
    have H := Lib.hid h
    have Hok := Lib.hid hok
    have Hc := Lib.hid hc
    clear HR h hc ea hok
    go_enter Try.func15, Try.ntmps15
    go_wp2_with fail
    refine (HR'.out _ (Below.refl _ _)).mono ?_
    rintro e w1 ⟨rfl, B1⟩
    clear HR'
    have hz1 := B1.size
    go_wp2_with fail
    go_loopw [3, 4, 5] (fun o r _ wr => ∃ r' : Nat, r' ≤ G.n ∧ r = .int .i64 (r' : Int) ∧ OwnF 40 wr w.heap.size o (allF G r') ∧ Below w.heap.size w wr) (fun _ r _ _ => G.n - (intOf r).toNat)
    case atStart => exact ⟨0, by omega, rfl, OwnF.nil _ _ _, B1⟩
    case round =>
      obtain ⟨r', hr1, rfl, hown, hbr⟩ := hrel
      have Hown := Lib.hid hown
      have Hbr := Lib.hid hbr
      clear hown hbr
      by_cases hlt : r' < G.n
      · obtain ⟨n1, n2, hg⟩ := Hok.out
        obtain ⟨m1, m2, m3⟩ := hg r' hlt
        have hL := Lib.hid (allF_len G r')
        have hm0 := Lib.hid m2
        have hm1 := Lib.hid n2
        have crw := Hc.out r' hlt
        obtain ⟨rb, ro, er, hrb, hcc⟩ := H.out.cells r' hlt (by omega)
        rw [er] at crw
        rw [m3] at crw hcc m1 m2
        have Crw := Lib.hid crw
        have Hcc := Lib.hid hcc
        have q0 : (r' : Int) < (G.n : Int) := by omega
        have hl0 : (allF G r').length ≤ 70000 := by
          have h1 := allF_len G r'
          have h2 : r' * G.len 0 ≤ 255 * 255 := Nat.mul_le_mul (by omega) m2
          omega
        have Hl0 := Lib.hid hl0
        clear crw hcc er hg n1 n2 hl0
        have hsr := Hbr.out.size
        go_wp2_with fail
        go_loopw [3, 5] (fun o c wx => ∃ c' : Nat, c' ≤ G.len 0 ∧ c = .int .i64 (c' : Int) ∧ OwnF 40 wx w.heap.size o (allF G r' ++ inRow r' (rowF (G.gd r') c')) ∧ Below w.heap.size w wx) (fun _ c _ => G.len 0 - (intOf c).toNat)
        case atStart => exact ⟨0, by omega, rfl, by simpa [rowF, fstart, fdone, inRow] using Hown.out, Hbr.out⟩
        case round =>
          obtain ⟨c', hc1, rfl, hown, hbx⟩ := hrel
          have BX := Lib.hid hbx
          have Hox := Lib.hid hown
          have crx := (hbx.cell (p := ⟨b, off + r', none⟩) hb).trans Crw.out
          have hsz := hbx.size
          have hLr := rowF_len (G.gd r') c'
          have hl0 := Hl0.out
          clear hown hbx
          by_cases hlt2 : c' < G.len 0
          · have q1 : (c' : Int) < (G.len 0 : Int) := by omega
            have cd := (BX.out.cell (p := ⟨rb, ro + c' * 4 + 2, none⟩) hrb).trans (Hcc.out c' hlt2).2.2.1
            by_cases g : G.gd r' c' = true
            · rw [g] at cd
              have Hs := Lib.hid (rowF_guard g)
              clear g
              go_wp2_with fail
              go_roundw
              case rel => exact ⟨c' + 1, by omega, by go_num, by rw [Hs.out]; exact Hox.out, BX.out⟩
              case measure => simp [intOf]; omega
            · have gf : G.gd r' c' = false := by simpa using g
              rw [gf] at cd
              have Gf := Lib.hid gf
              clear g gf
              by_cases hc0 : c' = 0
              · have q2 : ((c' : Int) == 0) = true := by simp; omega
                have Hs := Lib.hid (rowF_new Gf.out (.inl hc0))
                clear hc0
                go_wp2_with (at_builtin; refine wp_app40 rfl (.tmp 46) (.tmp 51) rfl w.heap.size _ _ _ (r', c', c') _ rfl rfl (by simp) (Hox.out) (by omega) (by simp [inRow_len]; omega) ?_; intro v1 W1 own1 bel1)
                go_roundw
                case rel => exact ⟨c' + 1, by omega, by go_num, by rw [Hs.out]; simpa [inRow] using own1, BX.out.trans bel1⟩
                case measure => simp [intOf]; omega
              · have q2 : ((c' : Int) == 0) = false := by simp; omega
                have q3 : (1 : Int) ≤ (c' : Int) := by omega
                have cd1 := (BX.out.cell (p := ⟨rb, ro + (c' - 1) * 4 + 2, none⟩) hrb).trans (Hcc.out (c' - 1) (by omega)).2.2.1
                by_cases g2 : G.gd r' (c' - 1) = true
                · rw [g2] at cd1
                  have Hs := Lib.hid (rowF_new Gf.out (.inr g2))
                  clear g2 hc0
                  go_wp2_with (at_builtin; refine wp_app40 rfl (.tmp 46) (.tmp 51) rfl w.heap.size _ _ _ (r', c', c') _ rfl rfl (by simp) (Hox.out) (by omega) (by simp [inRow_len]; omega) ?_; intro v1 W1 own1 bel1)
                  go_roundw
                  case rel => exact ⟨c' + 1, by omega, by go_num, by rw [Hs.out]; simpa [inRow] using own1, BX.out.trans bel1⟩
                  case measure => simp [intOf]; omega
                · have g2f : G.gd r' (c' - 1) = false := by simpa using g2
                  rw [g2f] at cd1
                  obtain ⟨s1, s2⟩ := rowF_more Gf.out hc0 g2f
                  have hoo := Hox.out
                  rw [s1] at hoo
                  have el : allF G r' ++ inRow r' (fdone (G.gd r') c' ++ [(fstart (G.gd r') c', c' - 1)]) = (allF G r' ++ inRow r' (fdone (G.gd r') c')) ++ [(r', fstart (G.gd r') c', c' - 1)] := by simp [inRow]
                  rw [el] at hoo
                  have hle := fdone_len (G.gd r') c'
                  have hAl : (allF G r' ++ inRow r' (fdone (G.gd r') c')).length ≤ 71000 := by simp [inRow_len]; omega
                  have S2 := Lib.hid s2
                  generalize hA : allF G r' ++ inRow r' (fdone (G.gd r') c') = A at *
                  have HA := Lib.hid hA
                  clear s1 s2 el hA g2 g2f
                  obtain ⟨g, cap, hv, hg1, hg2, hrd⟩ := hoo.read (by simp)
                  have hfz : wr.frozen? ⟨g, A.length * 3 + 2, none⟩ = false := by
                    obtain ⟨_, hoo2⟩ := hoo
                    rcases hoo2 with ⟨h0, _⟩ | ⟨g', cap', cur, hv', hg', hh, _⟩
                    · rw [hv] at h0; cases h0
                    · rw [hv] at hv'
                      injection hv' with e1 e2 e3
                      injection e1 with e1
                      injection e1 with e1
                      subst e1
                      simp [World.frozen?, hh]
                  have hk2 := (hrd A.length (by simp)).2.2
                  have ht := OwnF.setLast (b' := c') (hv ▸ hoo)
                  clear hrd
                  subst hv
                  simp only [List.length_append, List.length_cons, List.length_nil, Nat.zero_add] at ht
                  have Ht := Lib.hid ht
                  clear ht hoo
                  simp only [List.length_append, List.length_cons, List.length_nil, Nat.zero_add]
                  go_wp2_with fail
                  have e9 : allF G r' ++ inRow r' (fdone (G.gd r') c' ++ [(fstart (G.gd r') c', c')]) = A ++ [(r', fstart (G.gd r') c', c')] := by rw [← HA.out]; simp [inRow]
                  go_roundw
                  case rel => exact ⟨c' + 1, by omega, by go_num, by rw [S2.out, e9]; exact Ht.out, BX.out.setCell (p := ⟨g, A.length * 3 + 2, none⟩) hg1 _⟩
                  case measure => simp [intOf]; omega
          · have n2x := hm1.out
            have he : c' = G.len 0 := by omega
            have Hs := Lib.hid he
            have q4 : ¬ (c' : Int) < (G.len 0 : Int) := by omega
            clear he
            go_wp2_with fail
            go_roundw
            case rel => exact ⟨r' + 1, by omega, by go_num, by rw [Hs.out] at Hox; exact Hox.out, BX.out⟩
            case measure => simp [intOf]; omega
      · have he : r' = G.n := by omega
        have Hs := Lib.hid he
        have q4 : ¬ (r' : Int) < (G.n : Int) := by omega
        clear he
        go_wp2_with fail
        go_ret
        exact ⟨_, rfl, by rw [Hs.out] at Hown; exact Hown.out, Hbr.out⟩
  · rw [not_okB hok] at HR
    have hfo : fieldsOf G = [] := by simp [fieldsOf, not_okB hok]
    rw [hfo]
    clear hfo hok
    unfold Fn at *
    unfold Grid.v at *
    have HR' := Lib.hid HR
    clear HR h
    go_enter Try.func15, Try.ntmps15
    go_wp2_with fail
    refine (HR'.out _ (Below.refl _ _)).mono ?_
    rintro e w1 ⟨rfl, B1⟩
    clear HR'
    go_wp2_with fail
    go_ret
    exact ⟨_, rfl, OwnF.nil _ _ _, B1⟩
end Go.Proofs.Ytooikmialpfdkaa
