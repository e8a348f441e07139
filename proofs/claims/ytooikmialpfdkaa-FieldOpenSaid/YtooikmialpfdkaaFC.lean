/- The walk of fields, a row's fields handed to yield; and of the iterator that All gives. -/
import Derived.Test.YtooikmialpfdkaaL2
import Derived.Test.YtooikmialpfdkaaF6
namespace Go.Proofs.Ytooikmialpfdkaa
open Go.RowKit Go.Shelf
set_option linter.unusedVariables false
attribute [local go_sem] Oper.semAt_some

def encF (x : Fd) : Array Value := #[.agg #[.int .i64 (x.1 : Int), .int .i64 (x.2.1 : Int), .int .i64 (x.2.2 : Int)]]
theorem roundIn_any {n m : Nat} {P : Program} {l : Nat} {f : FuncId} {tmps : Array Value} {assign body : Code} {w : World} {R : Ending → World → Prop}
    (h : RoundIn Fence.wide n P l f tmps assign body w R) : RoundIn Fence.wide m P l f tmps assign body w R :=
  ⟨h.1, fun c cs _ => h.2 c cs (room_wide _)⟩
theorem keepsB {B : Nat} {W W' : World} (h : Below W.heap.size W W') : KeepsFrom B W W' :=
  ⟨h.size, fun k o _ hk _ => (h.block k (Array.getElem?_eq_some_iff.1 hk).1).trans hk⟩
theorem rowF_end {gd : Nat → Bool} {n : Nat} (h : ¬ fstart gd n < n) : rowF gd n = fdone gd n := by simp [rowF, h]
theorem rowF_pre (gd : Nat → Bool) {k n : Nat} (h : k ≤ n) : ∃ t, rowF gd n = fdone gd k ++ t := by
  obtain ⟨t, ht⟩ := fdone_pre gd h
  unfold rowF
  split
  · exact ⟨t ++ [(fstart gd n, n - 1)], by rw [ht, List.append_assoc]⟩
  · exact ⟨t, ht⟩

set_option maxHeartbeats 8000000 in
theorem fields_in (G : Grid) (hok : G.Ok) (r : Nat) (hr : r < G.n) (l n : Nat) (hn1 : 1 ≤ n) (J Jx : List Fd → World → Prop) (hJd : ∀ s X, J s X → J s X.drew) (hJG : ∀ s X, J s X → ∃ B', G.In B' X)
    (N : Nat) (hY : ∀ pre x X, J pre X → pre.length < N → YieldAt Fence.wide (n - 1) Try.prog l (encF x) X fun e X' => (e = .returned (.bool true) ∧ J (pre ++ [x]) X') ∨ (e = .returned (.bool false) ∧ Jx (pre ++ [x]) X'))
    (p0 : List Fd) (hp0 : ∀ q, (∃ t, rowF (G.gd r) (G.len 0) = q ++ t) → p0.length + q.length ≤ N) (W : World) (hJ : J p0 W) :
    CallsIn Fence.wide n Try.prog 35 #[.slice (G.ra r) (G.len r) (G.rc r), .int .i64 (r : Int), .func (.yield l) #[] #[]] W fun e W' =>
      (e = .returned (.bool true) ∧ J (p0 ++ inRow r (rowF (G.gd r) (G.len 0))) W') ∨ (e = .returned (.bool false) ∧ ∃ q, (∃ t, rowF (G.gd r) (G.len 0) = q ++ t) ∧ Jx (p0 ++ inRow r q) W') := by
  obtain ⟨m1, m2, m3⟩ := hok.2.2 r hr
  have n255 : r < 255 := by have := hok.2.1; omega
  rw [m3] at m1 m2
  obtain ⟨B', hg⟩ := hJG _ _ hJ
  obtain ⟨rb, ro, er, hrb, hcc⟩ := hg.cells r hr (by omega)
  rw [er, m3]
  have HJ := Lib.hid hJ
  have HJd := Lib.hid hJd
  have HJG := Lib.hid hJG
  have HY := Lib.hid hY
  have M3 := Lib.hid m3
  have HP := Lib.hid hp0
  clear hp0
  have ER := Lib.hid er
  clear hJ hJd hJG hY m3 hg hcc er
  refine callsIn_of_wp Try.func35 rfl trivial ?_ rfl
  simp only [Try.ntmps35, List.size_toArray, List.length_cons, List.length_nil, Nat.reduceAdd, Nat.reduceSub, Array.replicate_succ, Array.replicate_zero, List.push_toArray, List.append_toArray, List.nil_append, List.cons_append]
  gi_wp2_with fail
  gi_loopw [7, 8] (fun f c wr => (∃ k : Nat, k ≤ G.len 0 ∧ c = .int .i64 (k : Int) ∧ f = .int .i64 (fstart (G.gd r) k : Int) ∧ J (p0 ++ inRow r (fdone (G.gd r) k)) wr) ∨ (c = .int .i64 ((G.len 0 : Int) + 1) ∧ J (p0 ++ inRow r (rowF (G.gd r) (G.len 0))) wr)) (fun _ c _ => (G.len 0 + 1) - (intOf c).toNat)
  case atStart => exact .inl ⟨0, Nat.zero_le _, rfl, rfl, by simpa [fdone, inRow] using HJ.out⟩
  case round =>
    rcases hrel with ⟨k, hk, rfl, rfl, hJ⟩ | ⟨rfl, hJ⟩
    · obtain ⟨B'', hg⟩ := HJG.out _ _ hJ
      obtain ⟨rb', ro', er, hrb', hcc⟩ := hg.cells r hr (by rw [M3.out]; omega)
      rw [ER.out] at er
      injection er with er
      injection er with e1 e2
      subst e1 e2
      rw [M3.out] at hcc
      have Hcc := Lib.hid hcc
      have HJk := Lib.hid hJ
      have hfs := fstart_le (G.gd r) k
      have hfl := fdone_len (G.gd r) k
      have q1 : (k : Int) ≤ (G.len 0 : Int) := by omega
      clear hJ hg hcc
      by_cases hlt : k < G.len 0
      · have q2 : (k : Int) < (G.len 0 : Int) := by omega
        have cd := (Hcc.out k hlt).2.2.1
        by_cases g : G.gd r k = true
        · rw [g] at cd
          have Gd := Lib.hid g
          clear g
          by_cases hf : fstart (G.gd r) k < k
          · have q3 : (fstart (G.gd r) k : Int) < (k : Int) := by omega
            obtain ⟨fn, tmps, assign, body, hy, hR⟩ := HY.out _ (r, fstart (G.gd r) k, k - 1) wr HJk.out (by have h9 := HP.out _ (rowF_pre _ (show k + 1 ≤ G.len 0 by omega)); rw [fdone_succ, if_pos ⟨Gd.out, hf⟩] at h9; simp at h9; simp [inRow_len]; omega)
            have e1 : ((k - 1 : Nat) : Int) = (k : Int) - 1 := by omega
            simp only [encF, e1] at hy
            have hR' := (roundIn_any (m := n - 1) hR).mono (R' := fun e X' => ∃ r : Bool, e = .returned (.bool r) ∧ Hid ((r = true ∧ J _ X') ∨ (r = false ∧ Jx _ X'))) (fun e X' h => by
              rcases h with ⟨rfl, a⟩ | ⟨rfl, a⟩
              · exact ⟨true, rfl, .inl ⟨rfl, a⟩⟩
              · exact ⟨false, rfl, .inr ⟨rfl, a⟩⟩)
            clear hR
            have q4 : (1 : Int) ≤ (k : Int) := by omega
            have Hq := Lib.hid (show p0 ++ inRow r (fdone (G.gd r) (k + 1)) = p0 ++ inRow r (fdone (G.gd r) k) ++ [(r, fstart (G.gd r) k, k - 1)] by rw [fdone_succ, if_pos ⟨Gd.out, hf⟩]; simp [inRow])
            gi_wp2_with (refine hR'.mono ?_; rintro e W' ⟨y, rfl, hpost⟩; cases y)
            all_goals rcases hpost with ⟨hy', hJ'⟩ | ⟨hy', hJx'⟩
            all_goals first | cases hy' | skip
            · go_ret
              exact .inr ⟨rfl, _, rowF_pre _ (show k + 1 ≤ G.len 0 by omega), by rw [Hq.out]; exact hJx'⟩
            · go_roundw
              case rel => exact .inl ⟨k + 1, by omega, by go_num, by rw [fstart_succ, Gd.out]; go_num, by rw [Hq.out]; exact hJ'⟩
              case measure => simp [intOf]; omega
          · have q3 : ¬ (fstart (G.gd r) k : Int) < (k : Int) := by omega
            gi_wp2_with fail
            refine ⟨fun _ e => (by cases e), ?_⟩
            rename_i hKK _ _ _ _ _
            refine hKK _ _ ?_
            gi_wp2_with fail
            go_roundw
            case rel => exact .inl ⟨k + 1, by omega, by go_num, by rw [fstart_succ, Gd.out]; go_num, by rw [fdone_succ, if_neg (fun e => hf e.2)]; exact HJk.out⟩
            case measure => simp [intOf]; omega
        · have gf : G.gd r k = false := by simpa using g
          rw [gf] at cd
          have Gf := Lib.hid gf
          clear g gf
          gi_wp2_with fail
          go_roundw
          case rel => exact .inl ⟨k + 1, by omega, by go_num, by rw [fstart_succ, Gf.out]; rfl, by rw [fdone_succ, if_neg (by rw [Gf.out]; simp)]; exact HJk.out⟩
          case measure => simp [intOf]; omega
      · have ek : k = G.len 0 := by omega
        have Ek := Lib.hid ek
        have q2 : ¬ (k : Int) < (G.len 0 : Int) := by omega
        clear ek
        by_cases hf : fstart (G.gd r) k < k
        · have q3 : (fstart (G.gd r) k : Int) < (k : Int) := by omega
          obtain ⟨fn, tmps, assign, body, hy, hR⟩ := HY.out _ (r, fstart (G.gd r) k, k - 1) wr HJk.out (by have h9 := HP.out (rowF (G.gd r) (G.len 0)) ⟨[], by simp⟩; rw [← Ek.out] at h9; simp only [rowF] at h9; rw [if_pos hf] at h9; simp at h9; simp [inRow_len]; omega)
          have e1 : ((k - 1 : Nat) : Int) = (k : Int) - 1 := by omega
          simp only [encF, e1] at hy
          have hR' := (roundIn_any (m := n - 1) hR).mono (R' := fun e X' => ∃ r : Bool, e = .returned (.bool r) ∧ Hid ((r = true ∧ J _ X') ∨ (r = false ∧ Jx _ X'))) (fun e X' h => by
            rcases h with ⟨rfl, a⟩ | ⟨rfl, a⟩
            · exact ⟨true, rfl, .inl ⟨rfl, a⟩⟩
            · exact ⟨false, rfl, .inr ⟨rfl, a⟩⟩)
          clear hR
          have q4 : (1 : Int) ≤ (k : Int) := by omega
          have Hq := Lib.hid (show p0 ++ inRow r (rowF (G.gd r) (G.len 0)) = p0 ++ inRow r (fdone (G.gd r) k) ++ [(r, fstart (G.gd r) k, k - 1)] by rw [← Ek.out]; simp only [rowF]; rw [if_pos hf]; simp [inRow])
          gi_wp2_with (refine hR'.mono ?_; rintro e W' ⟨y, rfl, hpost⟩; cases y)
          all_goals rcases hpost with ⟨hy', hJ'⟩ | ⟨hy', hJx'⟩
          all_goals first | cases hy' | skip
          · go_ret
            exact .inr ⟨rfl, rowF (G.gd r) (G.len 0), ⟨[], by simp⟩, by rw [Hq.out]; exact hJx'⟩
          · go_roundw
            case rel => exact .inr ⟨by rw [← Ek.out], by rw [Hq.out]; exact hJ'⟩
            case measure => simp [intOf]; omega
        · have q3 : ¬ (fstart (G.gd r) k : Int) < (k : Int) := by omega
          gi_wp2_with fail
          refine ⟨fun _ e => (by cases e), ?_⟩
          rename_i hKK _ _ _ _ _
          refine hKK _ _ ?_
          gi_wp2_with fail
          go_roundw
          case rel => exact .inr ⟨by rw [← Ek.out], by rw [← Ek.out, rowF_end hf]; exact HJk.out⟩
          case measure => simp [intOf]; omega
    · have HJ' := Lib.hid hJ
      clear hJ
      have q5 : ¬ (G.len 0 : Int) + 1 ≤ (G.len 0 : Int) := by omega
      gi_wp2_with fail
      go_ret
      exact .inl ⟨rfl, HJ'.out⟩
theorem allF_row {G : Grid} {k n : Nat} (hk : k < n) {q : List (Nat × Nat)} (hq : ∃ t, rowF (G.gd k) (G.len 0) = q ++ t) : ∃ t, allF G n = (allF G k ++ inRow k q) ++ t := by
  obtain ⟨t, ht⟩ := hq
  obtain ⟨u, hu⟩ := allF_pre G (show k + 1 ≤ n by omega)
  exact ⟨inRow k t ++ u, by rw [hu, allF, ht]; simp [inRow]⟩
set_option maxHeartbeats 8000000 in
theorem all_iter (G : Grid) (n : Nat) (hn1 : 1 ≤ n) (Bx B : Nat) (I : List Fd → World → Prop) (Kp : World → World → Prop)
    (hIc : ∀ pre W, I pre W → W.cell? ⟨Bx, 0, none⟩ = some G.v ∧ G.In W.heap.size W) (hId : ∀ pre W, I pre W → I pre W.drew) (hIb : ∀ pre W W', I pre W → Below W.heap.size W W' → I pre W') (W0 : World) :
    Iterates Try.prog n (n - 1) 34 #[.pointer (some ⟨Bx, 0, none⟩)] encF (fun ys => ys = fieldsOf G) (fun pre => ∃ t, fieldsOf G = pre ++ t) (fun _ => True) (fieldsOf G).length B I Kp W0 := by
  intro l J Jx hJ0 hJk hJI hY
  have hJb : ∀ s X X', J s X → Below X.heap.size X X' → J s X' := fun s X X' h hb => hJk _ _ _ h (hIb _ _ _ (hJI _ _ h) hb) (keepsB hb)
  have hJd : ∀ s X, J s X → J s X.drew := fun s X h => hJk _ _ _ h (hId _ _ (hJI _ _ h)) ((KeepsOthers.drew X).from _)
  have hJG : ∀ s X, J s X → G.In X.heap.size X := fun s X h => (hIc _ _ (hJI _ _ h)).2
  have hJx : ∀ s X, J s X → X.cell? ⟨Bx, 0, none⟩ = some G.v := fun s X h => (hIc _ _ (hJI _ _ h)).1
  have hY' : ∀ pre x X, J pre X → pre.length < (fieldsOf G).length → YieldAt Fence.wide (n - 1) Try.prog l (encF x) X fun e X' => (e = .returned (.bool true) ∧ J (pre ++ [x]) X') ∨ (e = .returned (.bool false) ∧ Jx (pre ++ [x]) X') := by
    intro pre x X h hl
    obtain ⟨fn, tmps, assign, body, hy, hR⟩ := hY pre x X h hl trivial
    exact ⟨fn, tmps, assign, body, hy, hR.mono fun e X' h => by
      rcases h with ⟨a, b, _⟩ | h
      · exact .inl ⟨a, b⟩
      · exact .inr h⟩
  clear hY hJI hJk hIc hId hIb
  have cx := hJx _ _ hJ0
  have HG := hJG _ _ hJ0
  have HC := check_any G _ HG
  unfold Fn at HC
  unfold Grid.v at *
  have HJ := Lib.hid hJ0
  have HJb := Lib.hid hJb
  have HJd := Lib.hid hJd
  have HJG := Lib.hid hJG
  have HJx := Lib.hid hJx
  have HY := Lib.hid hY'
  clear hJ0 hJb hJd hJG hJx hY'
  refine callsIn_of_wp Try.func34 rfl trivial ?_ rfl
  simp only [Try.ntmps34, List.size_toArray, List.length_cons, List.length_nil, Nat.reduceAdd, Nat.reduceSub, Array.replicate_succ, Array.replicate_zero, List.push_toArray, List.append_toArray, List.nil_append, List.cons_append]
  by_cases hok : G.Ok
  · rw [okB_yes hok, show errOf true = 0 from rfl] at HC
    have HF := Lib.hid (show fieldsOf G = allF G G.n by simp [fieldsOf, okB_yes hok])
    have Hok := Lib.hid hok
    obtain ⟨b, off, ea, hb, hc⟩ := HG.rows hok.1
    rw [ea] at cx HC HJx
    clear hok
    have HC' := Lib.hid HC
    clear HC
    clear hc HG
    gi_wp2_with (refine ⟨trivial, ?_⟩; gi_at_call 24; refine (callsIn_wide.2 HC'.out).mono ?_; rintro e w1 ⟨rfl, hb1⟩; have k1 := HJb.out _ _ _ HJ.out hb1; have K1 := Lib.hid k1; have cx1 := HJx.out _ _ k1; clear k1 hb1)
    gi_loopw [3, 4, 10] (fun _ _ i wr => ∃ k : Nat, k ≤ G.n ∧ i = .int .i64 (k : Int) ∧ J (allF G k) wr) (fun _ _ i _ => G.n - (intOf i).toNat)
    case atStart => exact ⟨0, by omega, rfl, K1.out⟩
    case round =>
      obtain ⟨k, hk, rfl, hJ⟩ := hrel
      have HJk := Lib.hid hJ
      have Gw := HJG.out _ _ hJ
      obtain ⟨b', off', ea', hb', hc'⟩ := Gw.rows Hok.out.1
      rw [ea] at ea'
      injection ea' with ea'
      injection ea' with e1 e2
      subst e1 e2
      have n255 := Hok.out.2.1
      clear hJ Gw
      by_cases hlt : k < G.n
      · have q1 : (k : Int) < (G.n : Int) := by omega
        have cr := hc' k hlt
        have hp := allF_len G k
        have hm := (Hok.out.2.2 0 (by omega)).2.1
        have hp1 : k * G.len 0 ≤ 255 * 255 := Nat.mul_le_mul (by omega) hm
        have HF1 := Lib.hid (fields_in G Hok.out k hlt l n hn1 J Jx HJd.out (fun s X h => ⟨_, HJG.out s X h⟩) _ HY.out (allF G k) (fun q hq => by rw [HF.out]; obtain ⟨t, ht⟩ := allF_row hlt hq; rw [ht]; simp [inRow_len]) wr HJk.out)
        clear hc'
        have EA := Lib.hid ea
        have HF2 := (callsIn_wide (n := n - 1)).2 ((callsIn_wide.1 HF1.out).mono (R' := fun e X' => ∃ y : Bool, e = .returned (.bool y) ∧ Hid ((y = true ∧ J _ X') ∨ (y = false ∧ ∃ q, (∃ t, rowF (G.gd k) (G.len 0) = q ++ t) ∧ Jx (allF G k ++ inRow k q) X'))) (fun e X' h => by
          rcases h with ⟨rfl, a⟩ | ⟨rfl, q, hq, a⟩
          · exact ⟨true, rfl, .inl ⟨rfl, a⟩⟩
          · exact ⟨false, rfl, .inr ⟨rfl, q, hq, a⟩⟩))
        clear HF1
        gi_wp2_with (refine ⟨trivial, ?_⟩; gi_at_call 35; refine HF2.mono ?_; rintro e w2 ⟨y, rfl, hpost⟩; cases y)
        all_goals rcases hpost with ⟨hy', hJ'⟩ | ⟨hy', q, hq, hJx'⟩
        all_goals first | cases hy' | skip
        · refine bodyPost_ret (results_none rfl _ _ _) rfl ?_
          exact ⟨⟨_, rfl⟩, .inr ⟨_, by rw [HF.out]; exact allF_row hlt hq, hJx'⟩⟩
        · go_roundw
          case rel => exact ⟨k + 1, by omega, by go_num, hJ'⟩
          case measure => simp [intOf]; omega
      · have hk' : k = G.n := by omega
        have q1 : ¬ (k : Int) < (G.n : Int) := by omega
        have Hk := Lib.hid hk'
        clear hk'
        gi_wp2_with fail
        go_end0
        exact ⟨⟨_, rfl⟩, .inl (by rw [HF.out, ← Hk.out]; exact HJk.out)⟩
  · rw [not_okB hok] at HC
    have HF := Lib.hid (show fieldsOf G = [] by simp [fieldsOf, not_okB hok])
    clear hok
    have HC' := Lib.hid HC
    clear HC HG
    gi_wp2_with (refine ⟨trivial, ?_⟩; gi_at_call 24; refine (callsIn_wide.2 HC'.out).mono ?_; rintro e w1 ⟨rfl, hb1⟩)
    refine bodyPost_ret (results_none rfl _ _ _) rfl ?_
    exact ⟨⟨_, rfl⟩, .inl ⟨_, HF.out.symm, HJb.out _ _ _ HJ.out hb1⟩⟩
end Go.Proofs.Ytooikmialpfdkaa
