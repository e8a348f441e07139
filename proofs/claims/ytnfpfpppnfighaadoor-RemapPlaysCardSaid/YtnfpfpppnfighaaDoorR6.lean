/- remap: items: the walk. -/
import Derived.Test.YtnfpfpppnfighaaDoorR5
namespace Go.Proofs.YtnfpfpppnfighaaDoor
open Go.Shelf Go.RowKit
set_option linter.unusedVariables false
set_option linter.unusedSimpArgs false
set_option maxRecDepth 100000
def szOf : Value → Nat
  | .string s => s.size
  | _ => 0
theorem szOf_st (l : List UInt8) : szOf (.string (st l)) = l.length := st_size l
/-- What is held behind the call, ahead of the append, and behind it. -/
theorem items_pre {w wr : World} {lb : Nat} (hlb : w.heap.size = lb) {w2 : World} (hb2 : Below wr.heap.size wr w2) (v : Value) (done : List Itm) (h1 : wr.heap[lb]? = some (.cells #[v] 97 (0, 0))) (h2 : OwnT wr w.heap.size v done) (h3 : Below w.heap.size w wr) :
    ((∀ o1, (w2.alloc o1).cell? ⟨lb, 0, none⟩ = some v) ∧ (∀ o1 o2, ((w2.alloc o1).alloc o2).cell? ⟨lb, 0, none⟩ = some v) ∧ (∀ o1, (w2.alloc o1).frozen? ⟨lb, 0, none⟩ = false) ∧ (∀ o1 o2, ((w2.alloc o1).alloc o2).frozen? ⟨lb, 0, none⟩ = false)) ∧
    OwnT w2 w.heap.size v done ∧ (∀ o, w.heap.size ≤ (w2.alloc o).heap.size) ∧
    (∀ {o : Obj} (w6 : World), (∀ k, k < (w2.alloc o).heap.size → v.ownBlock ≠ some k → w6.heap[k]? = (w2.alloc o).heap[k]?) → w6.cell? ⟨lb, 0, none⟩ = some v ∧ w6.frozen? ⟨lb, 0, none⟩ = false) ∧
    (∀ {o : Obj} {x : Itm} (w6 : World) ad cap, OwnT w6 w.heap.size (.slice ad (done.length + 1) cap) (done ++ [x]) → Below w.heap.size (w2.alloc o) w6 → (∀ k, k < (w2.alloc o).heap.size → v.ownBlock ≠ some k → w6.heap[k]? = (w2.alloc o).heap[k]?) →
      (w6.setCell ⟨lb, 0, none⟩ (.slice ad (done.length + 1) cap)).heap[lb]? = some (.cells #[.slice ad (done.length + 1) cap] 97 (0, 0)) ∧ OwnT (w6.setCell ⟨lb, 0, none⟩ (.slice ad (done.length + 1) cap)) w.heap.size (.slice ad (done.length + 1) cap) (done ++ [x]) ∧
      Below w.heap.size w (w6.setCell ⟨lb, 0, none⟩ (.slice ad (done.length + 1) cap))) := by
  have hl : lb < wr.heap.size := (Array.getElem?_eq_some_iff.1 h1).1
  have hl2 : lb < w2.heap.size := Nat.lt_of_lt_of_le hl hb2.size
  have e1 : w2.heap[lb]? = some (.cells #[v] 97 (0, 0)) := (hb2.block lb hl).trans h1
  have hown2 := h2.call hb2
  have hne : v.ownBlock ≠ some lb := fun e => by
    obtain ⟨_, cs, hc⟩ := hown2.own e
    rw [e1] at hc
    simp at hc
  have ea : ∀ o1, (w2.alloc o1).heap[lb]? = some (.cells #[v] 97 (0, 0)) := fun o1 => ((bel_alloc (Below.refl _ _) o1).block lb hl2).trans e1
  have eb : ∀ o1 o2, ((w2.alloc o1).alloc o2).heap[lb]? = some (.cells #[v] 97 (0, 0)) := fun o1 o2 => ((bel_alloc (bel_alloc (Below.refl _ _) o1) o2).block lb hl2).trans e1
  have hsz := h3.size
  have hsz2 := hb2.size
  refine ⟨⟨fun o1 => by simp [World.cell?, ea], fun o1 o2 => by simp [World.cell?, eb], fun o1 => Lib.frozen_of_heap (ea o1) 0, fun o1 o2 => Lib.frozen_of_heap (eb o1 o2) 0⟩, hown2, fun o => by simp; omega, fun {o} w6 hf => ?_, fun {o x} w6 ad cap ho hb hf => ?_⟩
  · have e6 := (hf lb (by simp; omega) hne).trans (ea o)
    exact ⟨by simp [World.cell?, e6], Lib.frozen_of_heap e6 0⟩
  · have e6 := (hf lb (by simp; omega) hne).trans (ea o)
    have hs := heap_setCell_same w6 lb 0 _ _ (.slice ad (done.length + 1) cap) e6
    refine ⟨by rw [hs]; rfl, ho.blocks fun k hk => ?_, ?_⟩
    · refine heap_setCell_other _ _ _ _ (fun e => ?_)
      obtain ⟨_, cs, hc⟩ := ho.own hk
      rw [show k = lb from e, e6] at hc
      simp at hc
    · have hw2 : Below w.heap.size w (w2.alloc o) := bel_alloc (bel_call h3 hb2) o
      exact (hw2.trans hb).setCell (p := ⟨lb, 0, none⟩) (by rw [hlb]; exact Nat.le_refl _) _
theorem list_of {W : World} {lb base : Nat} {v : Value} {L : List Itm} (h1 : W.heap[lb]? = some (.cells #[v] 97 (0, 0))) (h2 : OwnT W base v L) : ListAt W lb L W.heap.size := by
  obtain ⟨ad, cap, rfl, hc, hx⟩ := h2.form
  refine ⟨(Array.getElem?_eq_some_iff.1 h1).1, Nat.le_refl _, ad, cap, h1, hc, fun h0 => ?_⟩
  obtain ⟨g, cs, ha, _, hg, hcc⟩ := hx h0
  exact ⟨g, 0, cs, ha, (Array.getElem?_eq_some_iff.1 hg).1, hg, fun i hi => by simpa using hcc i hi⟩
theorem more_map (done : List Itm) (x : Itm) (o : Option (List Itm)) : (o.map (x :: ·)).map (done ++ ·) = o.map ((done ++ [x]) ++ ·) := by
  cases o with
  | none => rfl
  | some r => simp
theorem itemP_nil : itemP [] = none := rfl
theorem numP_nil : numP [] = none := by unfold numP; rw [if_neg]; simp [digs]
set_option maxHeartbeats 4000000 in
theorem items_any (w : World) (l : List UInt8) (hl : l.length ≤ 100000) :
    Calls Tryd.prog 27 #[.string (st l)] w fun e w' => (items l = none ∧ e = .returned (.tuple #[.pointer none, .bool false]) ∧ Below w.heap.size w w') ∨
      ∃ xs lb, items l = some xs ∧ e = .returned (.tuple #[.pointer (some ⟨lb, 0, none⟩), .bool true]) ∧ ListAt w' lb xs w'.heap.size ∧ w.heap.size ≤ lb ∧ Below w.heap.size w w' := by
  have HQ := Lib.hid (fun b r (h : (b :: r : List UInt8).length ≤ 100000) W => quoted_any W b r (by simp at h; omega))
  have HN := Lib.hid (fun (t : List UInt8) (h : t.length ≤ 100000) W => number_any W t h)
  obtain ⟨I, hI⟩ : ∃ I, items l = I := ⟨_, rfl⟩
  have HI := Lib.hid hI
  rw [hI]
  clear hI
  go_enter Tryd.func27, Tryd.ntmps27
  go_wp2_with fail
  go_loopw [0] (fun s wr => ∃ (done : List Itm) (t : List UInt8) (v : Value), s = .string (st t) ∧ I = (items t).map (done ++ ·) ∧ done.length + t.length ≤ l.length ∧
      wr.heap[w.heap.size]? = some (.cells #[v] 97 (0, 0)) ∧ OwnT wr w.heap.size v done ∧ Below w.heap.size w wr) (fun s _ => szOf s)
  case atStart => exact ⟨[], l, _, rfl, by rw [HI.out]; simp, by simp, (MapKept.heap_alloc w _).1, OwnT.nil _ _, bel_alloc (Below.refl _ _) _⟩
  case round =>
    obtain ⟨done, t, v, rfl, hI, hlen, hlb, hown, hbel⟩ := hrel
    have HIt := Lib.hid hI
    have Hlb := Lib.hid hlb
    have Hown := Lib.hid hown
    have Hbel := Lib.hid hbel
    have Hlen := Lib.hid hlen
    have HLn := Lib.hid (show done.length ≤ 1000000 by omega)
    clear hI hlb hown hbel hlen
    have hways : t = [] ∨ (∃ b r, t = b :: r ∧ (b = 34 ∨ b = 39)) ∨ (∃ b r, t = b :: r ∧ ¬ (b = 34 ∨ b = 39)) := by
      cases t with
      | nil => exact .inl rfl
      | cons b r =>
        by_cases hb : b = 34 ∨ b = 39
        · exact .inr (.inl ⟨b, r, rfl, hb⟩)
        · exact .inr (.inr ⟨b, r, rfl, hb⟩)
    rcases hways with rfl | ⟨b, r, rfl, hb⟩ | ⟨b, r, rfl, hb⟩
    · have HR := Lib.hid (fun W => HN.out [] (by simp) W)
      have HIN := Lib.hid (items_none itemP_nil)
      rw [numP_nil, st_nil] at HR
      change Hid (∀ W, Calls Tryd.prog 42 _ W fun e w' => e = .returned (.tuple #[.agg #[.bool false, .int .i64 0, .string ⟨#[]⟩], .string ⟨#[]⟩, .bool false]) ∧ Below W.heap.size W w') at HR
      rw [st_nil]
      go_wp2_with fail
      refine (HR.out _).mono ?_
      rintro e w2 ⟨rfl, hb2⟩
      have Hb2 := Lib.hid (bel_call Hbel.out hb2)
      clear hb2
      go_wp2_with fail
      go_ret2
      exact .inl ⟨by rw [HIt.out, HIN.out]; rfl, by simp, bel_alloc Hb2.out _⟩
    · have HR := Lib.hid (fun W => HQ.out b r (by have := Hlen.out; simp at this ⊢; omega) W)
      have eq : quoP b r = itemP (b :: r) := by simp only [itemP]; rw [if_pos hb]
      rw [eq] at HR
      clear eq
      obtain ⟨s, hs⟩ : ∃ s, st (b :: r) = s := ⟨_, rfl⟩
      have HSs := Lib.hid hs
      obtain ⟨n, hn⟩ : ∃ n, r.length + 1 = n := ⟨_, rfl⟩
      have zs : s.size = n := by rw [← hs, st_size, ← hn]; rfl
      have ps : 0 < s.size := by omega
      have HXs : (s[0]'ps).toNat = b.toNat := by subst hs; rw [st_get]; rfl
      have nes : ¬ s.toList = [] := fun e => by rw [toList_nil_iff_emptyBytes] at e; rw [e] at ps; exact absurd ps (by decide)
      have nbs : s.toList.isEmpty = false := by rw [List.isEmpty_eq_false_iff]; exact nes
      have pos : (1 : Int) ≤ (n : Int) := by omega
      have pns : 0 < n := by omega
      have pps : 1 ≤ n := by omega
      have exs : s.extract 1 n = st r := by rw [← hs, st_extract, ← hn]; simp
      rw [hs]
      have HLs := Lib.hid hn
      clear hs hn
      rw [HSs.out] at HR
      rcases hb with rfl | rfl
      all_goals (
        have HPre := Lib.hid (fun w2 (hb2 : Below wr.heap.size wr w2) => items_pre rfl hb2 v done Hlb.out Hown.out Hbel.out)
        cases hp : itemP (_ :: r) with
        | none =>
          have HIN := Lib.hid (items_none hp)
          rw [hp] at HR
          change Hid (∀ W, Calls Tryd.prog 43 _ W fun e w' => e = .returned (.tuple #[.agg #[.bool false, .int .i64 0, .string ⟨#[]⟩], .string ⟨#[]⟩, .bool false]) ∧ Below W.heap.size W w') at HR
          clear hp
          go_wp2_with fail
          refine (HR.out _).mono ?_
          rintro e w2 ⟨rfl, hb2⟩
          have Hb2 := Lib.hid (bel_call Hbel.out hb2)
          clear hb2
          go_wp2_with fail
          go_ret2
          exact .inl ⟨by rw [HIt.out, HIN.out]; rfl, by simp, bel_alloc Hb2.out _⟩
        | some pr =>
          obtain ⟨x, t'⟩ := pr
          rw [hp] at HR
          change Hid (∀ W, Calls Tryd.prog 43 _ W fun e w' => e = .returned (.tuple #[.agg #[.bool x.num, .int .i64 x.n, .string (st x.text)], .string (st t'), .bool true]) ∧ Below W.heap.size W w') at HR
          have HP := Lib.hid hp
          have HLt := Lib.hid (itemP_len hp).1
          clear hp
          go_wp2_with fail
          refine (HR.out _).mono ?_
          rintro e w2 ⟨rfl, hb2⟩
          have HC := Lib.hid (HPre.out w2 hb2)
          have Hb2 := Lib.hid (bel_call Hbel.out hb2)
          clear hb2
          go_wp2_with fail
          obtain ⟨d0, d1, f0, f1⟩ := HC.out.1
          go_region_law (refine step_appT rfl (.tmp 36) (.tmp 38) rfl w.heap.size v done (w2.alloc (.cells #[.bool x.num, .int .i64 x.n, .string (st x.text)] 66)) x _ rfl rfl (by simp) (HC.out.2.1.alloc _) (HC.out.2.2.1 _) HLn.out ?_; intro ad cap w6 hown6 hbel6 hfr6; obtain ⟨c6, f6⟩ := HC.out.2.2.2.1 w6 hfr6; have HK6 := Lib.hid (HC.out.2.2.2.2 w6 ad cap hown6 hbel6 hfr6); clear hown6 hbel6 hfr6)
          all_goals (
            clear d0 d1 f0 f1
            cases t' with
            | nil =>
              have HL := Lib.hid (items_last HP.out)
              rw [st_nil]
              go_wp2_with fail
              go_ret2
              exact .inr ⟨done ++ [x], _, by rw [HIt.out, HL.out]; rfl, by simp, list_of (L := done ++ [x]) HK6.out.1 HK6.out.2.1, Nat.le_refl _, HK6.out.2.2⟩
            | cons b2 r2 =>
              obtain ⟨s2, hs2⟩ : ∃ s2, st (b2 :: r2) = s2 := ⟨_, rfl⟩
              have HSs2 := Lib.hid hs2
              obtain ⟨n2, hn2⟩ : ∃ n2, r2.length + 1 = n2 := ⟨_, rfl⟩
              have zs2 : s2.size = n2 := by rw [← hs2, st_size, ← hn2]; rfl
              have ps2 : 0 < s2.size := by omega
              have HXs2 : (s2[0]'ps2).toNat = b2.toNat := by subst hs2; rw [st_get]; rfl
              have nes2 : ¬ s2.toList = [] := fun e => by rw [toList_nil_iff_emptyBytes] at e; rw [e] at ps2; exact absurd ps2 (by decide)
              have nbs2 : s2.toList.isEmpty = false := by rw [List.isEmpty_eq_false_iff]; exact nes2
              have pos2 : (1 : Int) ≤ (n2 : Int) := by omega
              have pns2 : 0 < n2 := by omega
              have pps2 : 1 ≤ n2 := by omega
              have exs2 : s2.extract 1 n2 = st r2 := by rw [← hs2, st_extract, ← hn2]; simp
              rw [hs2]
              have HLs2 := Lib.hid hn2
              clear hs2 hn2
              by_cases h59 : b2 = 59
              · subst h59
                have HM := Lib.hid (items_more HP.out)
                go_wp2_with fail
                go_roundw
                case rel => exact ⟨done ++ [x], r2, _, rfl, by rw [HIt.out, HM.out]; exact more_map done x _, by (have h1 := HLt.out; have h2 := Hlen.out; simp at h1 h2 ⊢; omega), HK6.out.1, HK6.out.2.1, HK6.out.2.2⟩
                case measure => (have h1 := HLt.out; simp only [szOf, st_size]; have h3 := HLs.out; have h4 := HSs.out; simp at h1; omega)
              · have HM := Lib.hid (items_bad HP.out h59)
                have g1 : ¬ b2.toNat = 59 := fun e => h59 (UInt8.toNat_inj.1 e)
                have g2 : ((b2.toNat : Int) == 59) = false := by simp; omega
                have g3 : ¬ (b2.toNat : Int) = 59 := by omega
                clear h59
                go_wp2_with fail
                go_ret2
                exact .inl ⟨by rw [HIt.out, HM.out]; rfl, by simp, HK6.out.2.2⟩))
    · have HR := Lib.hid (fun W => HN.out (b :: r) (by have := Hlen.out; simp at this ⊢; omega) W)
      have eq : numP (b :: r) = itemP (b :: r) := by simp only [itemP]; rw [if_neg hb]
      rw [eq] at HR
      clear eq
      obtain ⟨s, hs⟩ : ∃ s, st (b :: r) = s := ⟨_, rfl⟩
      have HSs := Lib.hid hs
      obtain ⟨n, hn⟩ : ∃ n, r.length + 1 = n := ⟨_, rfl⟩
      have zs : s.size = n := by rw [← hs, st_size, ← hn]; rfl
      have ps : 0 < s.size := by omega
      have HXs : (s[0]'ps).toNat = b.toNat := by subst hs; rw [st_get]; rfl
      have nes : ¬ s.toList = [] := fun e => by rw [toList_nil_iff_emptyBytes] at e; rw [e] at ps; exact absurd ps (by decide)
      have nbs : s.toList.isEmpty = false := by rw [List.isEmpty_eq_false_iff]; exact nes
      have pos : (1 : Int) ≤ (n : Int) := by omega
      have pns : 0 < n := by omega
      have pps : 1 ≤ n := by omega
      have exs : s.extract 1 n = st r := by rw [← hs, st_extract, ← hn]; simp
      rw [hs]
      have HLs := Lib.hid hn
      clear hs hn
      rw [HSs.out] at HR
      have c1 : ¬ b.toNat = 34 := fun e => hb (.inl (UInt8.toNat_inj.1 e))
      have c2 : ¬ b.toNat = 39 := fun e => hb (.inr (UInt8.toNat_inj.1 e))
      have c3 : ((b.toNat : Int) == 34) = false := by simp; omega
      have c4 : ((b.toNat : Int) == 39) = false := by simp; omega
      have c5 : ¬ (b.toNat : Int) = 34 := by omega
      have c6 : ¬ (b.toNat : Int) = 39 := by omega
      clear hb
      have HPre := Lib.hid (fun w2 (hb2 : Below wr.heap.size wr w2) => items_pre rfl hb2 v done Hlb.out Hown.out Hbel.out)
      cases hp : itemP (b :: r) with
      | none =>
        have HIN := Lib.hid (items_none hp)
        rw [hp] at HR
        change Hid (∀ W, Calls Tryd.prog 42 _ W fun e w' => e = .returned (.tuple #[.agg #[.bool false, .int .i64 0, .string ⟨#[]⟩], .string ⟨#[]⟩, .bool false]) ∧ Below W.heap.size W w') at HR
        clear hp
        go_wp2_with fail
        refine (HR.out _).mono ?_
        rintro e w2 ⟨rfl, hb2⟩
        have Hb2 := Lib.hid (bel_call Hbel.out hb2)
        clear hb2
        go_wp2_with fail
        go_ret2
        exact .inl ⟨by rw [HIt.out, HIN.out]; rfl, by simp, bel_alloc Hb2.out _⟩
      | some pr =>
        obtain ⟨x, t'⟩ := pr
        rw [hp] at HR
        change Hid (∀ W, Calls Tryd.prog 42 _ W fun e w' => e = .returned (.tuple #[.agg #[.bool x.num, .int .i64 x.n, .string (st x.text)], .string (st t'), .bool true]) ∧ Below W.heap.size W w') at HR
        have HP := Lib.hid hp
        have HLt := Lib.hid (itemP_len hp).1
        clear hp
        go_wp2_with fail
        refine (HR.out _).mono ?_
        rintro e w2 ⟨rfl, hb2⟩
        have HC := Lib.hid (HPre.out w2 hb2)
        have Hb2 := Lib.hid (bel_call Hbel.out hb2)
        clear hb2
        go_wp2_with fail
        obtain ⟨d0, d1, f0, f1⟩ := HC.out.1
        go_region_law (refine step_appT rfl (.tmp 36) (.tmp 38) rfl w.heap.size v done (w2.alloc (.cells #[.bool x.num, .int .i64 x.n, .string (st x.text)] 66)) x _ rfl rfl (by simp) (HC.out.2.1.alloc _) (HC.out.2.2.1 _) HLn.out ?_; intro ad cap w6 hown6 hbel6 hfr6; obtain ⟨c6, f6⟩ := HC.out.2.2.2.1 w6 hfr6; have HK6 := Lib.hid (HC.out.2.2.2.2 w6 ad cap hown6 hbel6 hfr6); clear hown6 hbel6 hfr6)
        all_goals (
          clear d0 d1 f0 f1
          cases t' with
          | nil =>
            have HL := Lib.hid (items_last HP.out)
            rw [st_nil]
            go_wp2_with fail
            go_ret2
            exact .inr ⟨done ++ [x], _, by rw [HIt.out, HL.out]; rfl, by simp, list_of (L := done ++ [x]) HK6.out.1 HK6.out.2.1, Nat.le_refl _, HK6.out.2.2⟩
          | cons b2 r2 =>
            obtain ⟨s2, hs2⟩ : ∃ s2, st (b2 :: r2) = s2 := ⟨_, rfl⟩
            have HSs2 := Lib.hid hs2
            obtain ⟨n2, hn2⟩ : ∃ n2, r2.length + 1 = n2 := ⟨_, rfl⟩
            have zs2 : s2.size = n2 := by rw [← hs2, st_size, ← hn2]; rfl
            have ps2 : 0 < s2.size := by omega
            have HXs2 : (s2[0]'ps2).toNat = b2.toNat := by subst hs2; rw [st_get]; rfl
            have nes2 : ¬ s2.toList = [] := fun e => by rw [toList_nil_iff_emptyBytes] at e; rw [e] at ps2; exact absurd ps2 (by decide)
            have nbs2 : s2.toList.isEmpty = false := by rw [List.isEmpty_eq_false_iff]; exact nes2
            have pos2 : (1 : Int) ≤ (n2 : Int) := by omega
            have pns2 : 0 < n2 := by omega
            have pps2 : 1 ≤ n2 := by omega
            have exs2 : s2.extract 1 n2 = st r2 := by rw [← hs2, st_extract, ← hn2]; simp
            rw [hs2]
            have HLs2 := Lib.hid hn2
            clear hs2 hn2
            by_cases h59 : b2 = 59
            · subst h59
              have HM := Lib.hid (items_more HP.out)
              go_wp2_with fail
              go_roundw
              case rel => exact ⟨done ++ [x], r2, _, rfl, by rw [HIt.out, HM.out]; exact more_map done x _, by (have h1 := HLt.out; have h2 := Hlen.out; simp at h1 h2 ⊢; omega), HK6.out.1, HK6.out.2.1, HK6.out.2.2⟩
              case measure => (have h1 := HLt.out; simp only [szOf, st_size]; have h3 := HLs.out; have h4 := HSs.out; simp at h1; omega)
            · have HM := Lib.hid (items_bad HP.out h59)
              have g1 : ¬ b2.toNat = 59 := fun e => h59 (UInt8.toNat_inj.1 e)
              have g2 : ((b2.toNat : Int) == 59) = false := by simp; omega
              have g3 : ¬ (b2.toNat : Int) = 59 := by omega
              clear h59
              go_wp2_with fail
              go_ret2
              exact .inl ⟨by rw [HIt.out, HM.out]; rfl, by simp, HK6.out.2.2⟩)
end Go.Proofs.YtnfpfpppnfighaaDoor
