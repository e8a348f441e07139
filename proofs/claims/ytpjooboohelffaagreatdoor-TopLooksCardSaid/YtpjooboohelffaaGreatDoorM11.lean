/- TopLooks and TopSends, helper 12 of 27. It holds: wyse: one: the cases joined; all rows of a grid, copied (Rows). Each theorem states its own conditions. -/
import Derived.Test.YtpjooboohelffaaGreatDoorM10
import Derived.Test.YtpjooboohelffaaGreatDoorM03
import Derived.Deep.CutBlock
import Derived.Test.YtpjooboohelffaaGreatDoorM01
import Derived.Laws.EntriesVeiled
/- Top: wyse: one: the cases joined. -/
namespace Go.Proofs.YtpjooboohelffaaGreatDoor
open Go.RowKit
set_option linter.unusedVariables false
set_option linter.unusedSimpArgs false
set_option maxRecDepth 100000
theorem inBlock_ne {n k : Nat} {Q : Exit → Act → World → Prop} {a : Act} {w : World} (hn : n ≠ k) (h : Q (.exit n) a w) : Exit.inBlock k Q (.exit n) a w := by
 show if n = k then Q .normal a w else Q (.exit n) a w
 rw [if_neg hn]; exact h
theorem inBlock_eq {k : Nat} {Q : Exit → Act → World → Prop} {a : Act} {w : World} (h : Q .normal a w) : Exit.inBlock k Q (.exit k) a w := by
 show if k = k then Q .normal a w else Q (.exit k) a w
 rw [if_pos rfl]; exact h
theorem then_exit {n : Nat} {K : Act → World → Prop} {Q : Exit → Act → World → Prop} {a : Act} {w : World} (h : Q (.exit n) a w) : Exit.then K Q (.exit n) a w := h
theorem then_norm {K : Act → World → Prop} {Q : Exit → Act → World → Prop} {a : Act} {w : World} (h : K a w) : Exit.then K Q .normal a w := h
theorem inBlock_ret {k : Nat} {Q : Exit → Act → World → Prop} {a : Act} {w : World} (h : Q .ret a w) : Exit.inBlock k Q .ret a w := h
theorem then_ret {K : Act → World → Prop} {Q : Exit → Act → World → Prop} {a : Act} {w : World} (h : Q .ret a w) : Exit.then K Q .ret a w := h
theorem inBlock_norm {k : Nat} {Q : Exit → Act → World → Prop} {a : Act} {w : World} (h : Q .normal a w) : Exit.inBlock k Q .normal a w := h
theorem wp_setret {d id : Nat} {ty : TypeId} {p : String} {e : Array Edge} {v : Value} {Q : Exit → Act → World → Prop} {a : Act} {w : World} (h : Q .ret (a.put (some d) v) w) :
  Code.wp Tryz.prog (.seq (.region id #[⟨some d, .assign (.const v), ty, p, e, none⟩] false) .ret) Q a w := by
 refine wp_seq (wp_region_lit (wpList_plain rfl fun K hK => ?_))
 have g : Oper.wp Tryz.prog ⟨some d, .assign (.const v), ty, p, e, none⟩ a w K (Exit.then (Code.ret.wp Tryz.prog Q) Q) = K (a.put (some d) v) w := by
  have r : Sem.run Tryz.prog (execOp a.eval ⟨some d, .assign (.const v), ty, p, e, none⟩) w = .ok (.value v) w := rfl
  unfold Oper.wp
  rw [r]; rfl
 rw [g]
 exact hK _ _ (wp_ret h)
set_option maxHeartbeats 4000000 in
theorem one_join (w : World) (sb tm : Nat) (r c : Int) (p : Bool) (HC0 : Fn w 16 #[.pointer (some ⟨sb, 0, none⟩)] (.tuple #[pr r c, .bool false])) (k0 : w.cell? ⟨tm, 0, none⟩ = some (.pointer (some ⟨sb, 0, none⟩))) (k3 : w.cell? ⟨tm, 3, none⟩ = some (.bool p)) (b : Nat) (hb : b < 256) (G : World → Prop) (H0 : tab90 b = 0 → ∀ w1, Below w.heap.size w w1 → G w1)
  (H : ∀ n, tab90 b = n → n ≠ 0 → ∀ w1 g pb, Below w.heap.size w w1 → w.heap.size ≤ pb → w1.cell? ⟨pb, 0, none⟩ = some (.int .i64 r) → w1.cell? ⟨pb, 1, none⟩ = some (.int .i64 c) → g 0 = .pointer (some ⟨tm, 0, none⟩) → g 1 = .int .u8 b → g 5 = .pointer (some ⟨pb, 0, none⟩) → g 7 = .bool p →
   Code.wp Tryz.prog (cs90 n) (OneR G (fun a w2 => n = 1 ∧ Code.wp Tryz.prog (cs90 2) (OneR G NoN) a w2)) (fr176 g) w1) :
  Calls Tryz.prog 90 #[.pointer (some ⟨tm, 0, none⟩), .int .u8 b] w fun e w' => (∃ z, e = .returned (.bool z)) ∧ G w' := by
 have HC := Lib.hid HC0
 have HH := Lib.hid H
 have HH0 := Lib.hid H0
 have Hb := Lib.hid hb
 clear HC0 H H0 hb
 go_enter Tryz.func90, Tryz.ntmps90
 go_wp2_with fail
 refine HC.out.mono ?_
 rintro e w1 ⟨rfl, c1⟩
 have k0' := cellB c1 k0
 have k3' := cellB c1 k3
 have hsz1 := c1.size
 have hlt1 := blt k0'
 have C1 := Lib.hid c1
 clear c1 k0 k3
 go_upto_block 0 with (fail)
 refine gen_wp ?_
 intro u hu0
 have FB : Below w.heap.size w u := by rw [hu0]; (repeat first | exact C1.out | refine bel_alloc ?_ _ | refine bel_set ?_ (by simp <;> omega) _)
 have hc0 : u.cell? ⟨w1.heap.size, 0, none⟩ = some (.int .i64 r) := by rw [hu0]; simp [go_sem]
 have hc1 : u.cell? ⟨w1.heap.size, 1, none⟩ = some (.int .i64 c) := by rw [hu0]; simp [go_sem]
 clear hu0
 obtain ⟨gs, he⟩ := tab90_ev b Hb.out
 refine wp_block ?_
 refine wp_seq (wp_block ?_)
 refine wp_seq (wp_block ?_)
 refine wp_seq (wp_block ?_)
 refine wp_seq (wp_block ?_)
 refine wp_seq (wp_block ?_)
 refine wp_seq (wp_block ?_)
 refine wp_seq (wp_block ?_)
 refine wp_seq (wp_block ?_)
 refine wp_seq (wp_block ?_)
 refine wp_seq (wp_block ?_)
 refine wp_seq (wp_block ?_)
 refine wp_seq (wp_block ?_)
 refine wp_seq (wp_block ?_)
 refine wp_seq (wp_block ?_)
 refine wp_seq (wp_block ?_)
 refine wp_seq (wp_block ?_)
 refine evc_sound (s := 22) (lo := 23) (hi := 60) (b := (b : Int)) (by decide) _ (fun _ => none) _ _ (some (tab90 b)) gs he rfl (show 60 < 176 from by decide) (fun j v hh => by cases hh) (fun a' m hx => ?_)
 have hn : a'.tmps.size = 176 := m.n
 have hd : a'.defers = [] := m.d
 have s0 := m.s 0 (by decide)
 have s1 := m.s 1 (by decide)
 have s5 := m.s 5 (by decide)
 have s7 := m.s 7 (by decide)
 have hw := fun n hn0 hn1 => HH.out n hn0 hn1 u (fun j => a'.tmps.getD j undef) w1.heap.size FB hsz1 hc0 hc1 s0 s1 s5 s7
 have hfr := frame176 a' hn hd
 rw [← hfr] at hw
 have hg0 := fun h => HH0.out h u FB
 have hle := tab90_le b
 clear hx HH HH0 he gs hc0 hc1 FB k0' k3' s0 s1 s5 s7 m hfr HC
 generalize tab90 b = n at hw hle hg0 ⊢
 rcases (by omega : n = 0 ∨ n = 1 ∨ n = 2 ∨ n = 3 ∨ n = 4 ∨ n = 5 ∨ n = 6 ∨ n = 7 ∨ n = 8 ∨ n = 9 ∨ n = 10 ∨ n = 11 ∨ n = 12 ∨ n = 13 ∨ n = 14 ∨ n = 15 ∨ n = 16) with rfl | rfl | rfl | rfl | rfl | rfl | rfl | rfl | rfl | rfl | rfl | rfl | rfl | rfl | rfl | rfl | rfl
 ·refine inBlock_ne (by decide) (then_exit ?_)
  refine inBlock_ne (by decide) (then_exit ?_)
  refine inBlock_ne (by decide) (then_exit ?_)
  refine inBlock_ne (by decide) (then_exit ?_)
  refine inBlock_ne (by decide) (then_exit ?_)
  refine inBlock_ne (by decide) (then_exit ?_)
  refine inBlock_ne (by decide) (then_exit ?_)
  refine inBlock_ne (by decide) (then_exit ?_)
  refine inBlock_ne (by decide) (then_exit ?_)
  refine inBlock_ne (by decide) (then_exit ?_)
  refine inBlock_ne (by decide) (then_exit ?_)
  refine inBlock_ne (by decide) (then_exit ?_)
  refine inBlock_ne (by decide) (then_exit ?_)
  refine inBlock_ne (by decide) (then_exit ?_)
  refine inBlock_ne (by decide) (then_exit ?_)
  refine inBlock_ne (by decide) (then_exit ?_)
  refine inBlock_eq (then_norm ?_)
  go_step
  refine wp_setret (bodyPost_ret (results_tmp rfl _ _ _) hd ?_)
  rw [put_getD, if_pos ⟨rfl, by omega⟩]
  exact ⟨⟨_, rfl⟩, hg0 rfl⟩
 ·refine inBlock_eq (then_norm ?_)
  refine (wp_mono (hw 1 rfl (by decide)) (fun e a w2 hr => ?_))
  cases e with
  | exit k =>
   obtain ⟨rfl, e1, e2, hG⟩ := hr
   refine inBlock_ne (by decide) (then_exit ?_)
   refine inBlock_ne (by decide) (then_exit ?_)
   refine inBlock_ne (by decide) (then_exit ?_)
   refine inBlock_ne (by decide) (then_exit ?_)
   refine inBlock_ne (by decide) (then_exit ?_)
   refine inBlock_ne (by decide) (then_exit ?_)
   refine inBlock_ne (by decide) (then_exit ?_)
   refine inBlock_ne (by decide) (then_exit ?_)
   refine inBlock_ne (by decide) (then_exit ?_)
   refine inBlock_ne (by decide) (then_exit ?_)
   refine inBlock_ne (by decide) (then_exit ?_)
   refine inBlock_ne (by decide) (then_exit ?_)
   refine inBlock_ne (by decide) (then_exit ?_)
   refine inBlock_ne (by decide) (then_exit ?_)
   refine inBlock_ne (by decide) (then_exit ?_)
   refine inBlock_eq (then_norm ?_)
   go_step
   refine wp_setret (bodyPost_ret (results_tmp rfl _ _ _) e2 ?_)
   rw [put_getD, if_pos ⟨rfl, by omega⟩]
   exact ⟨⟨_, rfl⟩, hG⟩
  | ret =>
   obtain ⟨e1, e2, hG⟩ := hr
   refine inBlock_ret (then_ret ?_)
   refine inBlock_ret (then_ret ?_)
   refine inBlock_ret (then_ret ?_)
   refine inBlock_ret (then_ret ?_)
   refine inBlock_ret (then_ret ?_)
   refine inBlock_ret (then_ret ?_)
   refine inBlock_ret (then_ret ?_)
   refine inBlock_ret (then_ret ?_)
   refine inBlock_ret (then_ret ?_)
   refine inBlock_ret (then_ret ?_)
   refine inBlock_ret (then_ret ?_)
   refine inBlock_ret (then_ret ?_)
   refine inBlock_ret (then_ret ?_)
   refine inBlock_ret (then_ret ?_)
   refine inBlock_ret (then_ret ?_)
   refine inBlock_ret (then_ret (bodyPost_ret (results_tmp rfl _ _ _) e1 ?_))
   rw [e2]
   exact ⟨⟨_, rfl⟩, hG⟩
  | normal => 
   refine inBlock_norm (then_norm ?_)
   refine (wp_mono (hr.2) (fun e a w2 hr => ?_))
   cases e with
   | exit k =>
    obtain ⟨rfl, e1, e2, hG⟩ := hr
    refine inBlock_ne (by decide) (then_exit ?_)
    refine inBlock_ne (by decide) (then_exit ?_)
    refine inBlock_ne (by decide) (then_exit ?_)
    refine inBlock_ne (by decide) (then_exit ?_)
    refine inBlock_ne (by decide) (then_exit ?_)
    refine inBlock_ne (by decide) (then_exit ?_)
    refine inBlock_ne (by decide) (then_exit ?_)
    refine inBlock_ne (by decide) (then_exit ?_)
    refine inBlock_ne (by decide) (then_exit ?_)
    refine inBlock_ne (by decide) (then_exit ?_)
    refine inBlock_ne (by decide) (then_exit ?_)
    refine inBlock_ne (by decide) (then_exit ?_)
    refine inBlock_ne (by decide) (then_exit ?_)
    refine inBlock_ne (by decide) (then_exit ?_)
    refine inBlock_eq (then_norm ?_)
    go_step
    refine wp_setret (bodyPost_ret (results_tmp rfl _ _ _) e2 ?_)
    rw [put_getD, if_pos ⟨rfl, by omega⟩]
    exact ⟨⟨_, rfl⟩, hG⟩
   | ret =>
    obtain ⟨e1, e2, hG⟩ := hr
    refine inBlock_ret (then_ret ?_)
    refine inBlock_ret (then_ret ?_)
    refine inBlock_ret (then_ret ?_)
    refine inBlock_ret (then_ret ?_)
    refine inBlock_ret (then_ret ?_)
    refine inBlock_ret (then_ret ?_)
    refine inBlock_ret (then_ret ?_)
    refine inBlock_ret (then_ret ?_)
    refine inBlock_ret (then_ret ?_)
    refine inBlock_ret (then_ret ?_)
    refine inBlock_ret (then_ret ?_)
    refine inBlock_ret (then_ret ?_)
    refine inBlock_ret (then_ret ?_)
    refine inBlock_ret (then_ret ?_)
    refine inBlock_ret (then_ret (bodyPost_ret (results_tmp rfl _ _ _) e1 ?_))
    rw [e2]
    exact ⟨⟨_, rfl⟩, hG⟩
   | normal => exact absurd hr (by intro h; exact h)
   | _ => exact hr.elim
  | _ => exact hr.elim
 ·refine inBlock_ne (by decide) (then_exit ?_)
  refine inBlock_eq (then_norm ?_)
  refine (wp_mono (hw 2 rfl (by decide)) (fun e a w2 hr => ?_))
  cases e with
  | exit k =>
   obtain ⟨rfl, e1, e2, hG⟩ := hr
   refine inBlock_ne (by decide) (then_exit ?_)
   refine inBlock_ne (by decide) (then_exit ?_)
   refine inBlock_ne (by decide) (then_exit ?_)
   refine inBlock_ne (by decide) (then_exit ?_)
   refine inBlock_ne (by decide) (then_exit ?_)
   refine inBlock_ne (by decide) (then_exit ?_)
   refine inBlock_ne (by decide) (then_exit ?_)
   refine inBlock_ne (by decide) (then_exit ?_)
   refine inBlock_ne (by decide) (then_exit ?_)
   refine inBlock_ne (by decide) (then_exit ?_)
   refine inBlock_ne (by decide) (then_exit ?_)
   refine inBlock_ne (by decide) (then_exit ?_)
   refine inBlock_ne (by decide) (then_exit ?_)
   refine inBlock_ne (by decide) (then_exit ?_)
   refine inBlock_eq (then_norm ?_)
   go_step
   refine wp_setret (bodyPost_ret (results_tmp rfl _ _ _) e2 ?_)
   rw [put_getD, if_pos ⟨rfl, by omega⟩]
   exact ⟨⟨_, rfl⟩, hG⟩
  | ret =>
   obtain ⟨e1, e2, hG⟩ := hr
   refine inBlock_ret (then_ret ?_)
   refine inBlock_ret (then_ret ?_)
   refine inBlock_ret (then_ret ?_)
   refine inBlock_ret (then_ret ?_)
   refine inBlock_ret (then_ret ?_)
   refine inBlock_ret (then_ret ?_)
   refine inBlock_ret (then_ret ?_)
   refine inBlock_ret (then_ret ?_)
   refine inBlock_ret (then_ret ?_)
   refine inBlock_ret (then_ret ?_)
   refine inBlock_ret (then_ret ?_)
   refine inBlock_ret (then_ret ?_)
   refine inBlock_ret (then_ret ?_)
   refine inBlock_ret (then_ret ?_)
   refine inBlock_ret (then_ret (bodyPost_ret (results_tmp rfl _ _ _) e1 ?_))
   rw [e2]
   exact ⟨⟨_, rfl⟩, hG⟩
  | normal => exact absurd hr.1 (by decide)
  | _ => exact hr.elim
 ·refine inBlock_ne (by decide) (then_exit ?_)
  refine inBlock_ne (by decide) (then_exit ?_)
  refine inBlock_eq (then_norm ?_)
  refine (wp_mono (hw 3 rfl (by decide)) (fun e a w2 hr => ?_))
  cases e with
  | exit k =>
   obtain ⟨rfl, e1, e2, hG⟩ := hr
   refine inBlock_ne (by decide) (then_exit ?_)
   refine inBlock_ne (by decide) (then_exit ?_)
   refine inBlock_ne (by decide) (then_exit ?_)
   refine inBlock_ne (by decide) (then_exit ?_)
   refine inBlock_ne (by decide) (then_exit ?_)
   refine inBlock_ne (by decide) (then_exit ?_)
   refine inBlock_ne (by decide) (then_exit ?_)
   refine inBlock_ne (by decide) (then_exit ?_)
   refine inBlock_ne (by decide) (then_exit ?_)
   refine inBlock_ne (by decide) (then_exit ?_)
   refine inBlock_ne (by decide) (then_exit ?_)
   refine inBlock_ne (by decide) (then_exit ?_)
   refine inBlock_ne (by decide) (then_exit ?_)
   refine inBlock_eq (then_norm ?_)
   go_step
   refine wp_setret (bodyPost_ret (results_tmp rfl _ _ _) e2 ?_)
   rw [put_getD, if_pos ⟨rfl, by omega⟩]
   exact ⟨⟨_, rfl⟩, hG⟩
  | ret =>
   obtain ⟨e1, e2, hG⟩ := hr
   refine inBlock_ret (then_ret ?_)
   refine inBlock_ret (then_ret ?_)
   refine inBlock_ret (then_ret ?_)
   refine inBlock_ret (then_ret ?_)
   refine inBlock_ret (then_ret ?_)
   refine inBlock_ret (then_ret ?_)
   refine inBlock_ret (then_ret ?_)
   refine inBlock_ret (then_ret ?_)
   refine inBlock_ret (then_ret ?_)
   refine inBlock_ret (then_ret ?_)
   refine inBlock_ret (then_ret ?_)
   refine inBlock_ret (then_ret ?_)
   refine inBlock_ret (then_ret ?_)
   refine inBlock_ret (then_ret (bodyPost_ret (results_tmp rfl _ _ _) e1 ?_))
   rw [e2]
   exact ⟨⟨_, rfl⟩, hG⟩
  | normal => exact absurd hr.1 (by decide)
  | _ => exact hr.elim
 ·refine inBlock_ne (by decide) (then_exit ?_)
  refine inBlock_ne (by decide) (then_exit ?_)
  refine inBlock_ne (by decide) (then_exit ?_)
  refine inBlock_eq (then_norm ?_)
  refine (wp_mono (hw 4 rfl (by decide)) (fun e a w2 hr => ?_))
  cases e with
  | exit k =>
   obtain ⟨rfl, e1, e2, hG⟩ := hr
   refine inBlock_ne (by decide) (then_exit ?_)
   refine inBlock_ne (by decide) (then_exit ?_)
   refine inBlock_ne (by decide) (then_exit ?_)
   refine inBlock_ne (by decide) (then_exit ?_)
   refine inBlock_ne (by decide) (then_exit ?_)
   refine inBlock_ne (by decide) (then_exit ?_)
   refine inBlock_ne (by decide) (then_exit ?_)
   refine inBlock_ne (by decide) (then_exit ?_)
   refine inBlock_ne (by decide) (then_exit ?_)
   refine inBlock_ne (by decide) (then_exit ?_)
   refine inBlock_ne (by decide) (then_exit ?_)
   refine inBlock_ne (by decide) (then_exit ?_)
   refine inBlock_eq (then_norm ?_)
   go_step
   refine wp_setret (bodyPost_ret (results_tmp rfl _ _ _) e2 ?_)
   rw [put_getD, if_pos ⟨rfl, by omega⟩]
   exact ⟨⟨_, rfl⟩, hG⟩
  | ret =>
   obtain ⟨e1, e2, hG⟩ := hr
   refine inBlock_ret (then_ret ?_)
   refine inBlock_ret (then_ret ?_)
   refine inBlock_ret (then_ret ?_)
   refine inBlock_ret (then_ret ?_)
   refine inBlock_ret (then_ret ?_)
   refine inBlock_ret (then_ret ?_)
   refine inBlock_ret (then_ret ?_)
   refine inBlock_ret (then_ret ?_)
   refine inBlock_ret (then_ret ?_)
   refine inBlock_ret (then_ret ?_)
   refine inBlock_ret (then_ret ?_)
   refine inBlock_ret (then_ret ?_)
   refine inBlock_ret (then_ret (bodyPost_ret (results_tmp rfl _ _ _) e1 ?_))
   rw [e2]
   exact ⟨⟨_, rfl⟩, hG⟩
  | normal => exact absurd hr.1 (by decide)
  | _ => exact hr.elim
 ·refine inBlock_ne (by decide) (then_exit ?_)
  refine inBlock_ne (by decide) (then_exit ?_)
  refine inBlock_ne (by decide) (then_exit ?_)
  refine inBlock_ne (by decide) (then_exit ?_)
  refine inBlock_eq (then_norm ?_)
  refine (wp_mono (hw 5 rfl (by decide)) (fun e a w2 hr => ?_))
  cases e with
  | exit k =>
   obtain ⟨rfl, e1, e2, hG⟩ := hr
   refine inBlock_ne (by decide) (then_exit ?_)
   refine inBlock_ne (by decide) (then_exit ?_)
   refine inBlock_ne (by decide) (then_exit ?_)
   refine inBlock_ne (by decide) (then_exit ?_)
   refine inBlock_ne (by decide) (then_exit ?_)
   refine inBlock_ne (by decide) (then_exit ?_)
   refine inBlock_ne (by decide) (then_exit ?_)
   refine inBlock_ne (by decide) (then_exit ?_)
   refine inBlock_ne (by decide) (then_exit ?_)
   refine inBlock_ne (by decide) (then_exit ?_)
   refine inBlock_ne (by decide) (then_exit ?_)
   refine inBlock_eq (then_norm ?_)
   go_step
   refine wp_setret (bodyPost_ret (results_tmp rfl _ _ _) e2 ?_)
   rw [put_getD, if_pos ⟨rfl, by omega⟩]
   exact ⟨⟨_, rfl⟩, hG⟩
  | ret =>
   obtain ⟨e1, e2, hG⟩ := hr
   refine inBlock_ret (then_ret ?_)
   refine inBlock_ret (then_ret ?_)
   refine inBlock_ret (then_ret ?_)
   refine inBlock_ret (then_ret ?_)
   refine inBlock_ret (then_ret ?_)
   refine inBlock_ret (then_ret ?_)
   refine inBlock_ret (then_ret ?_)
   refine inBlock_ret (then_ret ?_)
   refine inBlock_ret (then_ret ?_)
   refine inBlock_ret (then_ret ?_)
   refine inBlock_ret (then_ret ?_)
   refine inBlock_ret (then_ret (bodyPost_ret (results_tmp rfl _ _ _) e1 ?_))
   rw [e2]
   exact ⟨⟨_, rfl⟩, hG⟩
  | normal => exact absurd hr.1 (by decide)
  | _ => exact hr.elim
 ·refine inBlock_ne (by decide) (then_exit ?_)
  refine inBlock_ne (by decide) (then_exit ?_)
  refine inBlock_ne (by decide) (then_exit ?_)
  refine inBlock_ne (by decide) (then_exit ?_)
  refine inBlock_ne (by decide) (then_exit ?_)
  refine inBlock_eq (then_norm ?_)
  refine (wp_mono (hw 6 rfl (by decide)) (fun e a w2 hr => ?_))
  cases e with
  | exit k =>
   obtain ⟨rfl, e1, e2, hG⟩ := hr
   refine inBlock_ne (by decide) (then_exit ?_)
   refine inBlock_ne (by decide) (then_exit ?_)
   refine inBlock_ne (by decide) (then_exit ?_)
   refine inBlock_ne (by decide) (then_exit ?_)
   refine inBlock_ne (by decide) (then_exit ?_)
   refine inBlock_ne (by decide) (then_exit ?_)
   refine inBlock_ne (by decide) (then_exit ?_)
   refine inBlock_ne (by decide) (then_exit ?_)
   refine inBlock_ne (by decide) (then_exit ?_)
   refine inBlock_ne (by decide) (then_exit ?_)
   refine inBlock_eq (then_norm ?_)
   go_step
   refine wp_setret (bodyPost_ret (results_tmp rfl _ _ _) e2 ?_)
   rw [put_getD, if_pos ⟨rfl, by omega⟩]
   exact ⟨⟨_, rfl⟩, hG⟩
  | ret =>
   obtain ⟨e1, e2, hG⟩ := hr
   refine inBlock_ret (then_ret ?_)
   refine inBlock_ret (then_ret ?_)
   refine inBlock_ret (then_ret ?_)
   refine inBlock_ret (then_ret ?_)
   refine inBlock_ret (then_ret ?_)
   refine inBlock_ret (then_ret ?_)
   refine inBlock_ret (then_ret ?_)
   refine inBlock_ret (then_ret ?_)
   refine inBlock_ret (then_ret ?_)
   refine inBlock_ret (then_ret ?_)
   refine inBlock_ret (then_ret (bodyPost_ret (results_tmp rfl _ _ _) e1 ?_))
   rw [e2]
   exact ⟨⟨_, rfl⟩, hG⟩
  | normal => exact absurd hr.1 (by decide)
  | _ => exact hr.elim
 ·refine inBlock_ne (by decide) (then_exit ?_)
  refine inBlock_ne (by decide) (then_exit ?_)
  refine inBlock_ne (by decide) (then_exit ?_)
  refine inBlock_ne (by decide) (then_exit ?_)
  refine inBlock_ne (by decide) (then_exit ?_)
  refine inBlock_ne (by decide) (then_exit ?_)
  refine inBlock_eq (then_norm ?_)
  refine (wp_mono (hw 7 rfl (by decide)) (fun e a w2 hr => ?_))
  cases e with
  | exit k =>
   obtain ⟨rfl, e1, e2, hG⟩ := hr
   refine inBlock_ne (by decide) (then_exit ?_)
   refine inBlock_ne (by decide) (then_exit ?_)
   refine inBlock_ne (by decide) (then_exit ?_)
   refine inBlock_ne (by decide) (then_exit ?_)
   refine inBlock_ne (by decide) (then_exit ?_)
   refine inBlock_ne (by decide) (then_exit ?_)
   refine inBlock_ne (by decide) (then_exit ?_)
   refine inBlock_ne (by decide) (then_exit ?_)
   refine inBlock_ne (by decide) (then_exit ?_)
   refine inBlock_eq (then_norm ?_)
   go_step
   refine wp_setret (bodyPost_ret (results_tmp rfl _ _ _) e2 ?_)
   rw [put_getD, if_pos ⟨rfl, by omega⟩]
   exact ⟨⟨_, rfl⟩, hG⟩
  | ret =>
   obtain ⟨e1, e2, hG⟩ := hr
   refine inBlock_ret (then_ret ?_)
   refine inBlock_ret (then_ret ?_)
   refine inBlock_ret (then_ret ?_)
   refine inBlock_ret (then_ret ?_)
   refine inBlock_ret (then_ret ?_)
   refine inBlock_ret (then_ret ?_)
   refine inBlock_ret (then_ret ?_)
   refine inBlock_ret (then_ret ?_)
   refine inBlock_ret (then_ret ?_)
   refine inBlock_ret (then_ret (bodyPost_ret (results_tmp rfl _ _ _) e1 ?_))
   rw [e2]
   exact ⟨⟨_, rfl⟩, hG⟩
  | normal => exact absurd hr.1 (by decide)
  | _ => exact hr.elim
 ·refine inBlock_ne (by decide) (then_exit ?_)
  refine inBlock_ne (by decide) (then_exit ?_)
  refine inBlock_ne (by decide) (then_exit ?_)
  refine inBlock_ne (by decide) (then_exit ?_)
  refine inBlock_ne (by decide) (then_exit ?_)
  refine inBlock_ne (by decide) (then_exit ?_)
  refine inBlock_ne (by decide) (then_exit ?_)
  refine inBlock_eq (then_norm ?_)
  refine (wp_mono (hw 8 rfl (by decide)) (fun e a w2 hr => ?_))
  cases e with
  | exit k =>
   obtain ⟨rfl, e1, e2, hG⟩ := hr
   refine inBlock_ne (by decide) (then_exit ?_)
   refine inBlock_ne (by decide) (then_exit ?_)
   refine inBlock_ne (by decide) (then_exit ?_)
   refine inBlock_ne (by decide) (then_exit ?_)
   refine inBlock_ne (by decide) (then_exit ?_)
   refine inBlock_ne (by decide) (then_exit ?_)
   refine inBlock_ne (by decide) (then_exit ?_)
   refine inBlock_ne (by decide) (then_exit ?_)
   refine inBlock_eq (then_norm ?_)
   go_step
   refine wp_setret (bodyPost_ret (results_tmp rfl _ _ _) e2 ?_)
   rw [put_getD, if_pos ⟨rfl, by omega⟩]
   exact ⟨⟨_, rfl⟩, hG⟩
  | ret =>
   obtain ⟨e1, e2, hG⟩ := hr
   refine inBlock_ret (then_ret ?_)
   refine inBlock_ret (then_ret ?_)
   refine inBlock_ret (then_ret ?_)
   refine inBlock_ret (then_ret ?_)
   refine inBlock_ret (then_ret ?_)
   refine inBlock_ret (then_ret ?_)
   refine inBlock_ret (then_ret ?_)
   refine inBlock_ret (then_ret ?_)
   refine inBlock_ret (then_ret (bodyPost_ret (results_tmp rfl _ _ _) e1 ?_))
   rw [e2]
   exact ⟨⟨_, rfl⟩, hG⟩
  | normal => exact absurd hr.1 (by decide)
  | _ => exact hr.elim
 ·refine inBlock_ne (by decide) (then_exit ?_)
  refine inBlock_ne (by decide) (then_exit ?_)
  refine inBlock_ne (by decide) (then_exit ?_)
  refine inBlock_ne (by decide) (then_exit ?_)
  refine inBlock_ne (by decide) (then_exit ?_)
  refine inBlock_ne (by decide) (then_exit ?_)
  refine inBlock_ne (by decide) (then_exit ?_)
  refine inBlock_ne (by decide) (then_exit ?_)
  refine inBlock_eq (then_norm ?_)
  refine (wp_mono (hw 9 rfl (by decide)) (fun e a w2 hr => ?_))
  cases e with
  | exit k =>
   obtain ⟨rfl, e1, e2, hG⟩ := hr
   refine inBlock_ne (by decide) (then_exit ?_)
   refine inBlock_ne (by decide) (then_exit ?_)
   refine inBlock_ne (by decide) (then_exit ?_)
   refine inBlock_ne (by decide) (then_exit ?_)
   refine inBlock_ne (by decide) (then_exit ?_)
   refine inBlock_ne (by decide) (then_exit ?_)
   refine inBlock_ne (by decide) (then_exit ?_)
   refine inBlock_eq (then_norm ?_)
   go_step
   refine wp_setret (bodyPost_ret (results_tmp rfl _ _ _) e2 ?_)
   rw [put_getD, if_pos ⟨rfl, by omega⟩]
   exact ⟨⟨_, rfl⟩, hG⟩
  | ret =>
   obtain ⟨e1, e2, hG⟩ := hr
   refine inBlock_ret (then_ret ?_)
   refine inBlock_ret (then_ret ?_)
   refine inBlock_ret (then_ret ?_)
   refine inBlock_ret (then_ret ?_)
   refine inBlock_ret (then_ret ?_)
   refine inBlock_ret (then_ret ?_)
   refine inBlock_ret (then_ret ?_)
   refine inBlock_ret (then_ret (bodyPost_ret (results_tmp rfl _ _ _) e1 ?_))
   rw [e2]
   exact ⟨⟨_, rfl⟩, hG⟩
  | normal => exact absurd hr.1 (by decide)
  | _ => exact hr.elim
 ·refine inBlock_ne (by decide) (then_exit ?_)
  refine inBlock_ne (by decide) (then_exit ?_)
  refine inBlock_ne (by decide) (then_exit ?_)
  refine inBlock_ne (by decide) (then_exit ?_)
  refine inBlock_ne (by decide) (then_exit ?_)
  refine inBlock_ne (by decide) (then_exit ?_)
  refine inBlock_ne (by decide) (then_exit ?_)
  refine inBlock_ne (by decide) (then_exit ?_)
  refine inBlock_ne (by decide) (then_exit ?_)
  refine inBlock_eq (then_norm ?_)
  refine (wp_mono (hw 10 rfl (by decide)) (fun e a w2 hr => ?_))
  cases e with
  | exit k =>
   obtain ⟨rfl, e1, e2, hG⟩ := hr
   refine inBlock_ne (by decide) (then_exit ?_)
   refine inBlock_ne (by decide) (then_exit ?_)
   refine inBlock_ne (by decide) (then_exit ?_)
   refine inBlock_ne (by decide) (then_exit ?_)
   refine inBlock_ne (by decide) (then_exit ?_)
   refine inBlock_ne (by decide) (then_exit ?_)
   refine inBlock_eq (then_norm ?_)
   go_step
   refine wp_setret (bodyPost_ret (results_tmp rfl _ _ _) e2 ?_)
   rw [put_getD, if_pos ⟨rfl, by omega⟩]
   exact ⟨⟨_, rfl⟩, hG⟩
  | ret =>
   obtain ⟨e1, e2, hG⟩ := hr
   refine inBlock_ret (then_ret ?_)
   refine inBlock_ret (then_ret ?_)
   refine inBlock_ret (then_ret ?_)
   refine inBlock_ret (then_ret ?_)
   refine inBlock_ret (then_ret ?_)
   refine inBlock_ret (then_ret ?_)
   refine inBlock_ret (then_ret (bodyPost_ret (results_tmp rfl _ _ _) e1 ?_))
   rw [e2]
   exact ⟨⟨_, rfl⟩, hG⟩
  | normal => exact absurd hr.1 (by decide)
  | _ => exact hr.elim
 ·refine inBlock_ne (by decide) (then_exit ?_)
  refine inBlock_ne (by decide) (then_exit ?_)
  refine inBlock_ne (by decide) (then_exit ?_)
  refine inBlock_ne (by decide) (then_exit ?_)
  refine inBlock_ne (by decide) (then_exit ?_)
  refine inBlock_ne (by decide) (then_exit ?_)
  refine inBlock_ne (by decide) (then_exit ?_)
  refine inBlock_ne (by decide) (then_exit ?_)
  refine inBlock_ne (by decide) (then_exit ?_)
  refine inBlock_ne (by decide) (then_exit ?_)
  refine inBlock_eq (then_norm ?_)
  refine (wp_mono (hw 11 rfl (by decide)) (fun e a w2 hr => ?_))
  cases e with
  | exit k =>
   obtain ⟨rfl, e1, e2, hG⟩ := hr
   refine inBlock_ne (by decide) (then_exit ?_)
   refine inBlock_ne (by decide) (then_exit ?_)
   refine inBlock_ne (by decide) (then_exit ?_)
   refine inBlock_ne (by decide) (then_exit ?_)
   refine inBlock_ne (by decide) (then_exit ?_)
   refine inBlock_eq (then_norm ?_)
   go_step
   refine wp_setret (bodyPost_ret (results_tmp rfl _ _ _) e2 ?_)
   rw [put_getD, if_pos ⟨rfl, by omega⟩]
   exact ⟨⟨_, rfl⟩, hG⟩
  | ret =>
   obtain ⟨e1, e2, hG⟩ := hr
   refine inBlock_ret (then_ret ?_)
   refine inBlock_ret (then_ret ?_)
   refine inBlock_ret (then_ret ?_)
   refine inBlock_ret (then_ret ?_)
   refine inBlock_ret (then_ret ?_)
   refine inBlock_ret (then_ret (bodyPost_ret (results_tmp rfl _ _ _) e1 ?_))
   rw [e2]
   exact ⟨⟨_, rfl⟩, hG⟩
  | normal => exact absurd hr.1 (by decide)
  | _ => exact hr.elim
 ·refine inBlock_ne (by decide) (then_exit ?_)
  refine inBlock_ne (by decide) (then_exit ?_)
  refine inBlock_ne (by decide) (then_exit ?_)
  refine inBlock_ne (by decide) (then_exit ?_)
  refine inBlock_ne (by decide) (then_exit ?_)
  refine inBlock_ne (by decide) (then_exit ?_)
  refine inBlock_ne (by decide) (then_exit ?_)
  refine inBlock_ne (by decide) (then_exit ?_)
  refine inBlock_ne (by decide) (then_exit ?_)
  refine inBlock_ne (by decide) (then_exit ?_)
  refine inBlock_ne (by decide) (then_exit ?_)
  refine inBlock_eq (then_norm ?_)
  refine (wp_mono (hw 12 rfl (by decide)) (fun e a w2 hr => ?_))
  cases e with
  | exit k =>
   obtain ⟨rfl, e1, e2, hG⟩ := hr
   refine inBlock_ne (by decide) (then_exit ?_)
   refine inBlock_ne (by decide) (then_exit ?_)
   refine inBlock_ne (by decide) (then_exit ?_)
   refine inBlock_ne (by decide) (then_exit ?_)
   refine inBlock_eq (then_norm ?_)
   go_step
   refine wp_setret (bodyPost_ret (results_tmp rfl _ _ _) e2 ?_)
   rw [put_getD, if_pos ⟨rfl, by omega⟩]
   exact ⟨⟨_, rfl⟩, hG⟩
  | ret =>
   obtain ⟨e1, e2, hG⟩ := hr
   refine inBlock_ret (then_ret ?_)
   refine inBlock_ret (then_ret ?_)
   refine inBlock_ret (then_ret ?_)
   refine inBlock_ret (then_ret ?_)
   refine inBlock_ret (then_ret (bodyPost_ret (results_tmp rfl _ _ _) e1 ?_))
   rw [e2]
   exact ⟨⟨_, rfl⟩, hG⟩
  | normal => exact absurd hr.1 (by decide)
  | _ => exact hr.elim
 ·refine inBlock_ne (by decide) (then_exit ?_)
  refine inBlock_ne (by decide) (then_exit ?_)
  refine inBlock_ne (by decide) (then_exit ?_)
  refine inBlock_ne (by decide) (then_exit ?_)
  refine inBlock_ne (by decide) (then_exit ?_)
  refine inBlock_ne (by decide) (then_exit ?_)
  refine inBlock_ne (by decide) (then_exit ?_)
  refine inBlock_ne (by decide) (then_exit ?_)
  refine inBlock_ne (by decide) (then_exit ?_)
  refine inBlock_ne (by decide) (then_exit ?_)
  refine inBlock_ne (by decide) (then_exit ?_)
  refine inBlock_ne (by decide) (then_exit ?_)
  refine inBlock_eq (then_norm ?_)
  refine (wp_mono (hw 13 rfl (by decide)) (fun e a w2 hr => ?_))
  cases e with
  | exit k =>
   obtain ⟨rfl, e1, e2, hG⟩ := hr
   refine inBlock_ne (by decide) (then_exit ?_)
   refine inBlock_ne (by decide) (then_exit ?_)
   refine inBlock_ne (by decide) (then_exit ?_)
   refine inBlock_eq (then_norm ?_)
   go_step
   refine wp_setret (bodyPost_ret (results_tmp rfl _ _ _) e2 ?_)
   rw [put_getD, if_pos ⟨rfl, by omega⟩]
   exact ⟨⟨_, rfl⟩, hG⟩
  | ret =>
   obtain ⟨e1, e2, hG⟩ := hr
   refine inBlock_ret (then_ret ?_)
   refine inBlock_ret (then_ret ?_)
   refine inBlock_ret (then_ret ?_)
   refine inBlock_ret (then_ret (bodyPost_ret (results_tmp rfl _ _ _) e1 ?_))
   rw [e2]
   exact ⟨⟨_, rfl⟩, hG⟩
  | normal => exact absurd hr.1 (by decide)
  | _ => exact hr.elim
 ·refine inBlock_ne (by decide) (then_exit ?_)
  refine inBlock_ne (by decide) (then_exit ?_)
  refine inBlock_ne (by decide) (then_exit ?_)
  refine inBlock_ne (by decide) (then_exit ?_)
  refine inBlock_ne (by decide) (then_exit ?_)
  refine inBlock_ne (by decide) (then_exit ?_)
  refine inBlock_ne (by decide) (then_exit ?_)
  refine inBlock_ne (by decide) (then_exit ?_)
  refine inBlock_ne (by decide) (then_exit ?_)
  refine inBlock_ne (by decide) (then_exit ?_)
  refine inBlock_ne (by decide) (then_exit ?_)
  refine inBlock_ne (by decide) (then_exit ?_)
  refine inBlock_ne (by decide) (then_exit ?_)
  refine inBlock_eq (then_norm ?_)
  refine (wp_mono (hw 14 rfl (by decide)) (fun e a w2 hr => ?_))
  cases e with
  | exit k =>
   obtain ⟨rfl, e1, e2, hG⟩ := hr
   refine inBlock_ne (by decide) (then_exit ?_)
   refine inBlock_ne (by decide) (then_exit ?_)
   refine inBlock_eq (then_norm ?_)
   go_step
   refine wp_setret (bodyPost_ret (results_tmp rfl _ _ _) e2 ?_)
   rw [put_getD, if_pos ⟨rfl, by omega⟩]
   exact ⟨⟨_, rfl⟩, hG⟩
  | ret =>
   obtain ⟨e1, e2, hG⟩ := hr
   refine inBlock_ret (then_ret ?_)
   refine inBlock_ret (then_ret ?_)
   refine inBlock_ret (then_ret (bodyPost_ret (results_tmp rfl _ _ _) e1 ?_))
   rw [e2]
   exact ⟨⟨_, rfl⟩, hG⟩
  | normal => exact absurd hr.1 (by decide)
  | _ => exact hr.elim
 ·refine inBlock_ne (by decide) (then_exit ?_)
  refine inBlock_ne (by decide) (then_exit ?_)
  refine inBlock_ne (by decide) (then_exit ?_)
  refine inBlock_ne (by decide) (then_exit ?_)
  refine inBlock_ne (by decide) (then_exit ?_)
  refine inBlock_ne (by decide) (then_exit ?_)
  refine inBlock_ne (by decide) (then_exit ?_)
  refine inBlock_ne (by decide) (then_exit ?_)
  refine inBlock_ne (by decide) (then_exit ?_)
  refine inBlock_ne (by decide) (then_exit ?_)
  refine inBlock_ne (by decide) (then_exit ?_)
  refine inBlock_ne (by decide) (then_exit ?_)
  refine inBlock_ne (by decide) (then_exit ?_)
  refine inBlock_ne (by decide) (then_exit ?_)
  refine inBlock_eq (then_norm ?_)
  refine (wp_mono (hw 15 rfl (by decide)) (fun e a w2 hr => ?_))
  cases e with
  | exit k =>
   obtain ⟨rfl, e1, e2, hG⟩ := hr
   refine inBlock_ne (by decide) (then_exit ?_)
   refine inBlock_eq (then_norm ?_)
   go_step
   refine wp_setret (bodyPost_ret (results_tmp rfl _ _ _) e2 ?_)
   rw [put_getD, if_pos ⟨rfl, by omega⟩]
   exact ⟨⟨_, rfl⟩, hG⟩
  | ret =>
   obtain ⟨e1, e2, hG⟩ := hr
   refine inBlock_ret (then_ret ?_)
   refine inBlock_ret (then_ret (bodyPost_ret (results_tmp rfl _ _ _) e1 ?_))
   rw [e2]
   exact ⟨⟨_, rfl⟩, hG⟩
  | normal => exact absurd hr.1 (by decide)
  | _ => exact hr.elim
 ·refine inBlock_ne (by decide) (then_exit ?_)
  refine inBlock_ne (by decide) (then_exit ?_)
  refine inBlock_ne (by decide) (then_exit ?_)
  refine inBlock_ne (by decide) (then_exit ?_)
  refine inBlock_ne (by decide) (then_exit ?_)
  refine inBlock_ne (by decide) (then_exit ?_)
  refine inBlock_ne (by decide) (then_exit ?_)
  refine inBlock_ne (by decide) (then_exit ?_)
  refine inBlock_ne (by decide) (then_exit ?_)
  refine inBlock_ne (by decide) (then_exit ?_)
  refine inBlock_ne (by decide) (then_exit ?_)
  refine inBlock_ne (by decide) (then_exit ?_)
  refine inBlock_ne (by decide) (then_exit ?_)
  refine inBlock_ne (by decide) (then_exit ?_)
  refine inBlock_ne (by decide) (then_exit ?_)
  refine inBlock_eq (then_norm ?_)
  refine (wp_mono (hw 16 rfl (by decide)) (fun e a w2 hr => ?_))
  cases e with
  | exit k =>
   obtain ⟨rfl, e1, e2, hG⟩ := hr
   refine inBlock_eq (then_norm ?_)
   go_step
   refine wp_setret (bodyPost_ret (results_tmp rfl _ _ _) e2 ?_)
   rw [put_getD, if_pos ⟨rfl, by omega⟩]
   exact ⟨⟨_, rfl⟩, hG⟩
  | ret =>
   obtain ⟨e1, e2, hG⟩ := hr
   refine inBlock_ret (then_ret (bodyPost_ret (results_tmp rfl _ _ _) e1 ?_))
   rw [e2]
   exact ⟨⟨_, rfl⟩, hG⟩
  | normal => exact absurd hr.1 (by decide)
  | _ => exact hr.elim
end Go.Proofs.YtpjooboohelffaaGreatDoor
/- Top: all rows of a grid, copied (Rows). -/
namespace Go.Proofs.YtpjooboohelffaaGreatDoor
open Go.RowKit Go.Shelf
set_option linter.unusedVariables false
set_option linter.unusedSimpArgs false
set_option maxRecDepth 100000
attribute [local go_sem] Oper.semAt_some
/-- A finished row. -/
def RowD (W : World) (lo hi ob i C : Nat) (c : Nat → Cl) : Prop := ∃ b cap, W.cell? ⟨ob, i, none⟩ = some (.slice (some ⟨b, 0, none⟩) C cap) ∧ (lo ≤ b ∧ C ≤ cap) ∧ b < hi ∧ CellsAt W b C c
/-- Rows that are being copied: k are done, m cells of the next one. -/
structure Bld (W : World) (lo ob R C : Nat) (cell : Nat → Nat → Cl) (k m : Nat) : Prop where
 obk : ∃ cs, W.heap[ob]? = some (.cells cs 44 (0, 0)) ∧ cs.size = R
 olo : ob < lo
 done : ∃ hi, lo ≤ hi ∧ hi ≤ W.heap.size ∧ (∀ i, i < k → RowD W lo hi ob i C (cell i)) ∧ (k < R → ∃ v, W.cell? ⟨ob, k, none⟩ = some v ∧ OwnC W hi v (rowL (cell k) m))
 rest : ∀ i, k < i → i < R → W.cell? ⟨ob, i, none⟩ = some (.slice none 0 0)
theorem no_cells_cell {W : World} {b o : Nat} {v : Value} (h : W.cell? ⟨b, o, none⟩ = some v) : ∃ ob : Obj, W.heap[b]? = some ob ∧ ob.isCells = true := by
 have hlt := World.block_lt_of_cell? W ⟨b, o, none⟩ h
 refine ⟨_, Array.getElem?_eq_getElem hlt, ?_⟩
 generalize hob : W.heap[b] = ob
 have hb : W.heap[b]? = some ob := by rw [Array.getElem?_eq_getElem hlt, hob]
 cases ob <;> first | rfl | (simp [World.cell?, hb] at h)
/-- What stands behind a turn of blocks that are none of these. -/
theorem Bld.to {W W' : World} {lo ob R C : Nat} {cell : Nat → Nat → Cl} {k m : Nat} (h : Bld W lo ob R C cell k m) (hs : W.heap.size ≤ W'.heap.size)
  (hb : ∀ (b : Nat) (o : Obj), W.heap[b]? = some o → o.isCells = true → W'.heap[b]? = some o) : Bld W' lo ob R C cell k m := by
 have hc : ∀ {b o : Nat} {v : Value}, W.cell? ⟨b, o, none⟩ = some v → W'.cell? ⟨b, o, none⟩ = some v := fun hv => by
  obtain ⟨x, hx, hx2⟩ := no_cells_cell hv
  exact (World.cell?_of_block (a := ⟨_, _, none⟩) ((hb _ _ hx hx2).trans hx.symm)).trans hv
 obtain ⟨⟨cs, h1, h2⟩, h3, ⟨hi, h4, h5, h6, h7⟩, h8⟩ := h
 refine ⟨⟨cs, hb _ _ h1 rfl, h2⟩, h3, ⟨hi, h4, by omega, fun i hik => ?_, fun hk => ?_⟩, fun i hi1 hi2 => hc (h8 i hi1 hi2)⟩
 ·obtain ⟨b, cap, a1, a2, a3, a4⟩ := h6 i hik
  exact ⟨b, cap, hc a1, a2, a3, fun j hj => ⟨hc (a4 j hj).1, hc (a4 j hj).2.1, hc (a4 j hj).2.2.1, hc (a4 j hj).2.2.2⟩⟩
 ·obtain ⟨v, a1, a2, a3⟩ := h7 hk
  refine ⟨v, hc a1, a2, ?_⟩
  rcases a3 with a3 | ⟨g, cap, cur, hv, hg, hh, r⟩
  ·exact .inl a3
  ·exact .inr ⟨g, cap, cur, hv, hg, hb _ _ hh rfl, r⟩
theorem Bld.later {W W' : World} {lo ob R C : Nat} {cell : Nat → Nat → Cl} {k m : Nat} (h : Bld W lo ob R C cell k m) (hb : Below W.heap.size W W') : Bld W' lo ob R C cell k m :=
 h.to hb.size (fun b o ho _ => (hb.block b (Array.getElem?_eq_some_iff.1 ho).1).trans ho)
theorem Bld.kept {W W' : World} {lo ob R C : Nat} {cell : Nat → Nat → Cl} {k m : Nat} (h : Bld W lo ob R C cell k m) {row : Option Nat} (hg : W.grownBy W' row) (hr : ∀ r, row = some r → ∃ o : Obj, W.heap[r]? = some o ∧ o.isCells = false) : Bld W' lo ob R C cell k m :=
 h.to hg.size (fun b o ho hc => (hg.block b (Array.getElem?_eq_some_iff.1 ho).1 (fun e => by
  obtain ⟨o', h1, h2⟩ := hr b e.symm
  rw [ho] at h1; cases h1; rw [hc] at h2; cases h2)).trans ho)
theorem RowD.later {W W' : World} {lo hi ob i C : Nat} {c : Nat → Cl} (h : RowD W lo hi ob i C c) (hb : Below W.heap.size W W') : RowD W' lo hi ob i C c := by
 obtain ⟨b, cap, a1, a2, a3, a4⟩ := h
 exact ⟨b, cap, cellB hb a1, a2, a3, fun j hj => ⟨cellB hb (a4 j hj).1, cellB hb (a4 j hj).2.1, cellB hb (a4 j hj).2.2.1, cellB hb (a4 j hj).2.2.2⟩⟩
/-- A cell more. -/
theorem Bld.more {W W1 : World} {lo ob R C : Nat} {cell : Nat → Nat → Cl} {k m : Nat} (h : Bld W lo ob R C cell k m) (hk : k < R) (hm : m < C) {v v1 : Value} {hi : Nat} (h4 : lo ≤ hi) (h5 : hi ≤ W.heap.size) (h6 : ∀ i, i < k → RowD W lo hi ob i C (cell i)) (a2 : OwnC W hi v (rowL (cell k) m))
  (o1 : OwnC W1 hi v1 (rowL (cell k) (m + 1))) (hg : W.grownBy W1 v.ownBlock) :
  (m + 1 < C → Bld (W1.setCell ⟨ob, k, none⟩ v1) lo ob R C cell k (m + 1)) ∧ (m + 1 = C → Bld (W1.setCell ⟨ob, k, none⟩ v1) lo ob R C cell (k + 1) 0) := by
 obtain ⟨⟨cs, h1, h2⟩, h3, _, h8⟩ := h
 have hne : ∀ b, b < hi → some b ≠ v.ownBlock := fun b hb e => by
  rcases a2.2 with ⟨rfl, _⟩ | ⟨g, cap, cur, rfl, hg, _⟩
  ·cases e
  ·simp [Value.ownBlock] at e; omega
 have hobW : W1.heap[ob]? = W.heap[ob]? := hg.block ob (by omega) (hne ob (by omega))
 have hblk : Blk W1 ob R := ⟨cs, 44, hobW.trans h1, h2⟩
 obtain ⟨u, hu, _⟩ := hblk.get k hk
 have hnew : (W1.setCell ⟨ob, k, none⟩ v1).cell? ⟨ob, k, none⟩ = some v1 := World.cell?_setCell_same' _ _ _ (by rw [hu]; rfl)
 have hold : ∀ i, i ≠ k → (W1.setCell ⟨ob, k, none⟩ v1).cell? ⟨ob, i, none⟩ = W.cell? ⟨ob, i, none⟩ := fun i hi =>
  (World.cell?_setCell_other _ _ _ _ (by simp <;> omega)).trans (World.cell?_of_block (a := ⟨ob, i, none⟩) hobW)
 have hblo : ∀ b, b ≠ ob → (W1.setCell ⟨ob, k, none⟩ v1).heap[b]? = W1.heap[b]? := fun b hb => Below.heap_setCell _ _ _ _ hb
 have hob2 : ∃ cs, (W1.setCell ⟨ob, k, none⟩ v1).heap[ob]? = some (.cells cs 44 (0, 0)) ∧ cs.size = R :=
  ⟨_, heap_setCell_same W1 ob k cs 44 v1 (hobW.trans h1), by simp [h2]⟩
 have hsz : (W1.setCell ⟨ob, k, none⟩ v1).heap.size = W1.heap.size := by simp [World.setCell]
 have hs1 := hg.size
 have hdone : ∀ i, i < k → RowD (W1.setCell ⟨ob, k, none⟩ v1) lo hi ob i C (cell i) := fun i hik => by
  obtain ⟨b, cap, b1, b2, b3, b4⟩ := h6 i hik
  refine ⟨b, cap, (hold i (by omega)).trans b1, b2, b3, b4.to ?_⟩
  rw [hblo b (by omega)]
  exact hg.block b (by omega) (hne b b3)
 have hown2 : OwnC (W1.setCell ⟨ob, k, none⟩ v1) hi v1 (rowL (cell k) (m + 1)) := by
  obtain ⟨c1, c2⟩ := o1
  refine ⟨c1, ?_⟩
  rcases c2 with c2 | ⟨g, cap, cur, hv, hg', hh, r⟩
  ·exact .inl c2
  ·exact .inr ⟨g, cap, cur, hv, hg', (hblo g (by omega)).trans hh, r⟩
 constructor
 ·intro hm1
  exact ⟨hob2, h3, ⟨hi, h4, by omega, hdone, fun _ => ⟨v1, hnew, hown2⟩⟩, fun i i1 i2 => (hold i (by omega)).trans (h8 i i1 i2)⟩
 ·intro hm1
  refine ⟨hob2, h3, ⟨W1.heap.size, by omega, by omega, fun i hik => ?_, fun hk1 => ⟨_, (hold (k + 1) (by omega)).trans (h8 (k + 1) (by omega) hk1), OwnC.nil _ _⟩⟩, fun i i1 i2 => (hold i (by omega)).trans (h8 i (by omega) i2)⟩
  by_cases hik2 : i < k
  ·obtain ⟨b, cap, b1, b2, b3, b4⟩ := hdone i hik2
   exact ⟨b, cap, b1, b2, by omega, b4⟩
  ·obtain rfl : i = k := by omega
   rw [hm1] at hown2
   obtain ⟨g, cap, rfl, b1, b2, b3⟩ := hown2.cellsF (by omega)
   have hcap : C ≤ cap := by
    rcases hown2.2 with ⟨h, _⟩ | ⟨g', cap', cur, hv, _, _, hle, _⟩
    ·cases h
    ·injection hv with e1 e2 e3
     rw [rowL_len] at hle; omega
   exact ⟨g, cap, hnew, ⟨by omega, hcap⟩, by omega, b3⟩
end Go.Proofs.YtpjooboohelffaaGreatDoor
