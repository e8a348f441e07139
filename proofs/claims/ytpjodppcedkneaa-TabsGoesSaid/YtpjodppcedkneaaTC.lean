/- tabs: maps.DeleteFunc at this map (its elements are struct{}: the shelf's contract asks for no aggregate). -/
import Derived.Test.YtpjodppcedkneaaTB
namespace Go.Proofs.Ytpjodppcedkneaa
open Go.RowKit Go.Maps Go.Sort Go.Shelf
set_option linter.unusedVariables false
set_option linter.unusedSimpArgs false
set_option maxRecDepth 100000
theorem gone_any (W : World) (Bx : Nat) (c x : Int) (hx : W.cell? ⟨Bx, 0, none⟩ = some (.int .i64 c)) :
    Calls Try.prog 37 #[.int .i64 x, .agg #[], .pointer (some ⟨Bx, 0, none⟩)] W fun e w' => e = .returned (.bool (decide (c ≤ x))) ∧ W.grownBy w' none := by
  have hx2 := cellB (bel_alloc (Below.refl _ W) (.cells #[] 57)) hx
  by_cases h2 : c ≤ x
  · rw [show decide (c ≤ x) = true by simp [h2]]
    go_enter Try.func37, Try.ntmps37
    go_wp2_with fail
    go_ret
    exact ⟨rfl, grown_of_below (bel_alloc (Below.refl _ _) _)⟩
  · rw [show decide (c ≤ x) = false by simp [h2] <;> omega]
    go_enter Try.func37, Try.ntmps37
    go_wp2_with fail
    go_ret
    exact ⟨rfl, grown_of_below (bel_alloc (Below.refl _ _) _)⟩
def pdOf (c : Int) : Lit → Set3 → Bool := fun kl _ => match kl with | .int _ x => decide (c ≤ x) | _ => false
set_option maxHeartbeats 1000000 in
theorem delete_any (b n : Nat) (D : Set3) (w : World) (Bx : Nat) (c : Int) (hx : w.cell? ⟨Bx, 0, none⟩ = some (.int .i64 c)) (hown : OwnS w b n D) :
    Calls Try.prog 36 #[.map (some b), .func (.func 37) #[] #[.pointer (some ⟨Bx, 0, none⟩)]] w fun e w' => e = .returned (.tuple #[]) ∧ OwnS w' b n (Lib.deleteFuncD (pdOf c) D) ∧ w.grownBy w' (some b) := by
  obtain ⟨es0, rfl, hap, hkeys⟩ := hown.entries (int_keyed Try.underlying3)
  have hne : Bx ≠ b := by
    rintro rfl
    obtain ⟨es, clock, hb, _⟩ := hown
    simp [World.cell?, hb] at hx
  have HX := Lib.hid (fun W (hg : w.grownBy W (some b)) => grown_cell hg hne hx)
  have HN := Lib.hid (int_keyed Try.underlying3)
  have Hap := Lib.hid hap
  have Hkeys := Lib.hid hkeys
  clear hap hkeys hx hne
  go_enter Try.func36, Try.ntmps36
  go_wp2_with (first
    | (at_range; refine wpList_range_own _ rfl _ 53 rfl 3 57 (int_keyed Try.underlying3) Try.underlying53 unitElem b n _ rfl hown ?_; intro w0 hrg0 hg0 hs0)
    | go_in)
  go_frame
  go_loopw [8] (fun _ wr => ∃ (left : Lit → Bool) (cnt : Nat), wr.ranges Try.prog 3 (unitElem (H := Unit)) b w.heap.size n (Fk (pdOf c) es0 left) left cnt ∧ w.grownBy wr (some b))
    (fun _ wr => wr.rangeLeft b w.heap.size)
  case atStart => exact ⟨_, _, by rw [Fk_start Hkeys.out]; exact hrg0, hg0.but _⟩
  case round =>
    obtain ⟨left, cnt, hrg, hgw⟩ := hrel
    go_wp2_with (first
      | (at_next; refine wpList_next_ranges _ rfl _ rfl 3 (int_keyed Try.underlying3) unitElem (fun (x : Int) => .int .i64 x) (fun (_ : Unit) => .agg #[]) (fun key kl hk => by obtain ⟨x, e, _⟩ := Maps.keyOf_i64 Try.underlying3 hk; exact ⟨x, e⟩) (fun v y hy => ⟨(), (unitElem_inv hy).1⟩) b w.heap.size n _ _ _ rfl hrg ?_ ?_)
      | go_in)
    · intro _ hl0
      go_wp2_with fail
      go_end0
      exact ⟨rfl, by rw [← Fk_end hl0]; exact hrg.owns, hgw⟩
    · intro x u kl y w1 cnt1 hkey hlx hv hat hrg1 hlt hg1 hs1 hen
      have hgw1 := hgw.andThen hg1 (fun j hj => by cases hj; exact Or.inl (Nat.le_refl _))
      obtain ⟨x', ex, rfl, hwx⟩ := Maps.keyOf_i64 Try.underlying3 hkey
      cases ex
      have HC := Lib.hid (fun W hg => gone_any W Bx c x (HX.out W hg))
      have hbl := hrg1.owns.lt
      have hrl := hrg1.lt
      have gA : w1.grownBy (w1.alloc (.cells #[] 57)) none := grown_of_below (bel_alloc (Below.refl _ _) _)
      have HA := Lib.hid gA
      have HgA := Lib.hid (hgw1.andThen gA (fun j hj => by cases hj))
      clear gA
      go_wp2_with fail
      refine (HC.out _ HgA.out).mono ?_
      rintro e w2 ⟨rfl, hg2⟩
      have hrg2 := (hrg1.kept HA.out (by simp) (by simp)).kept hg2 (by simp) (by simp)
      have HB := Lib.hid (HgA.out.andThen hg2 (fun j hj => by cases hj))
      by_cases hcx : c ≤ x
      · rw [show decide (c ≤ x) = true by simp [hcx]]
        have hp : pdOf c (.int .i64 x) kl = true := by simp [pdOf, hcx]
        have HP := Lib.hid hp
        have Hg2 := Lib.hid hg2
        clear hp
        go_wp2_with (first
          | (at_delete; refine wpList_delete_ranges _ rfl _ _ 53 3 rfl 57 (int_keyed Try.underlying3) Try.underlying53 unitElem b w.heap.size n _ _ _ rfl hrg2 _ _ rfl hkey ?_; intro w3 cnt3 hrg3 hle hturn; go_frame)
          | go_in)
        rw [strike_twice] at hrg3
        go_roundw
        case rel => exact ⟨_, cnt3, by rw [← Fk_struck Hap.out (HN.out.key hkey) hlx HP.out hat]; exact hrg3, HB.out.andThen hturn.grown (fun j hj => by cases hj; exact Or.inr rfl)⟩
        case measure => rw [hrg3.left_eq, hrg.left_eq]; omega
      · rw [show decide (c ≤ x) = false by simp [hcx] <;> omega]
        have hp : pdOf c (.int .i64 x) kl = false := by simp [pdOf, hcx] <;> omega
        have HP := Lib.hid hp
        clear hp
        go_wp2_with fail
        go_roundw
        case rel => exact ⟨_, cnt1, by rw [← Fk_stays Hap.out (HN.out.key hkey) hlx HP.out hat]; exact hrg2, HB.out⟩
        case measure => rw [hrg2.left_eq, hrg.left_eq]; exact hlt
end Go.Proofs.Ytpjodppcedkneaa
