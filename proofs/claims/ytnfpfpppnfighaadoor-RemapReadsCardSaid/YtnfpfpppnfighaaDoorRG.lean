/- The document's Parse: three slices of the call's own. -/
import Derived.Test.YtnfpfpppnfighaaDoorR7
import Derived.Test.YtnfpfpppnfighaaDoorRE
namespace Go.Proofs.YtnfpfpppnfighaaDoor
open Go.Shelf Go.RowKit
set_option linter.unusedVariables false
set_option linter.unusedSimpArgs false
set_option maxRecDepth 100000
/-- A slice of one-cell things of the call's own. -/
def OwnR (w : World) (base : Nat) (e : TypeId) (v : Value) (xs : List Value) : Prop := w.ownsRow base e 1 v xs.length xs
theorem OwnR.nil (w : World) (base : Nat) (e : TypeId) : OwnR w base e (.slice none 0 0) [] := World.ownsRow_nil _ _ _ _
theorem OwnR.blocks {w w' : World} {base : Nat} {e : TypeId} {v : Value} {xs : List Value} (h : OwnR w base e v xs) (hb : ∀ k, v.ownBlock = some k → w'.heap[k]? = w.heap[k]?) : OwnR w' base e v xs := by
  obtain ⟨h1, h2⟩ := h
  refine ⟨h1, ?_⟩
  rcases h2 with h2 | ⟨g, cap, cur, hv, hg, hh, r⟩
  · exact .inl h2
  · exact .inr ⟨g, cap, cur, hv, hg, (hb g (by rw [hv]; rfl)).trans hh, r⟩
theorem OwnR.own {w : World} {base : Nat} {e : TypeId} {v : Value} {xs : List Value} (h : OwnR w base e v xs) {k : Nat} (hk : v.ownBlock = some k) : base ≤ k ∧ k < w.heap.size ∧ ∃ cs, w.heap[k]? = some (.cells cs e (0, 0)) := by
  rcases h.2 with ⟨rfl, _⟩ | ⟨g, cap, cur, rfl, hg, hgb, _⟩
  · simp [Value.ownBlock] at hk
  · simp [Value.ownBlock] at hk
    subst hk
    exact ⟨hg, (Array.getElem?_eq_some_iff.1 hgb).1, _, hgb⟩
theorem OwnR.call {w w' : World} {base : Nat} {e : TypeId} {v : Value} {xs : List Value} (h : OwnR w base e v xs) (hb : Below w.heap.size w w') : OwnR w' base e v xs :=
  h.blocks fun k hk => hb.block k (h.own hk).2.1
theorem OwnR.form {w : World} {base : Nat} {e : TypeId} {v : Value} {xs : List Value} (h : OwnR w base e v xs) (h0 : 0 < xs.length) :
    ∃ g cap, v = .slice (some ⟨g, 0, none⟩) xs.length cap ∧ (∀ i u, xs[i]? = some u → w.cell? ⟨g, i, none⟩ = some u) := by
  obtain ⟨g, cap, hv, hb, hlt⟩ := World.ownsRow.form h h0
  refine ⟨g, cap, hv, fun i u hu => ?_⟩
  have := World.ownsRow.cells h (g := g) (by rw [hv]; rfl) i u hu
  cases i with
  | zero => simpa [Addr.add] using this
  | succ i => simpa [Addr.add] using this
/-- One thing more. -/
theorem wp_appR {ops : Array Oper} {rest : List Oper} {o : Oper} {a : Act} {Q : Exit → Act → World → Prop} (hgd : o.guard = none) (s x : Operand) (t e : TypeId) (z : Value) (bytes : Nat)
    (ht : Tryd.prog.underlying t = some (.slice e)) (hinfo : (Tryd.prog.info? e).map (fun i => (i.zero, i.size, i.bytes)) = some (some z, 1, bytes)) (hz : z.cells.size = 1) (hby : bytes ≤ 100)
    (ho : o.op = .call { callee := .builtin .append, args := #[s, x], argTypes := #[t, t] }) (base : Nat) (v : Value) (xs : List Value) (W : World) (y : Value) (B : Nat) (hy : y.oneCell' = true)
    (hs : a.eval s = v) (hx : a.eval x = .slice (some ⟨B, 0, none⟩) 1 1) (hB : W.heap.size = B) (hown : OwnR W base e v xs) (hbase : base ≤ W.heap.size) (hn : xs.length ≤ 1000000)
    (h : ∀ v' w', OwnR w' base e v' (xs ++ [y]) → Below base W w' → (∀ k, k < W.heap.size → v.ownBlock ≠ some k → w'.heap[k]? = W.heap[k]?) → W.heap.size ≤ w'.heap.size → wpList Tryd.prog ops Q rest (a.put o.dst v') w') :
    wpList Tryd.prog ops Q (o :: rest) a (W.alloc (.cells #[y] e)) := by
  obtain ⟨i0, hi, hz0, hz1, hz2⟩ := info_parts hinfo
  subst hB
  refine wpList_append_own _ hgd s x t ho base e i0 z 1 bytes ht hi hz0 hz1 hz2 hz (by decide) v xs.length _ hs (World.ownsRow.alloc hown _) ⟨W.heap.size, 0, none⟩ 1 1 [y] hx rfl ?_ (by simpa using hy) (by unfold maxLen; omega) ?_ (by show base ≤ (W.alloc _).heap.size; simp; omega) ?_
  · intro j u hj
    have : j = 0 := by
      have := (List.getElem?_eq_some_iff.1 hj).1
      simpa using this
    subst this
    simp at hj
    subst hj
    simp [go_sem, Addr.add]
  · exact Nat.le_trans (Nat.mul_le_mul (show xs.length + 1 ≤ 1000001 by omega) hby) (by decide)
  · intro v' w' h1 h2 _
    have b1 : Below base W (W.alloc (.cells #[y] e)) := (Below.refl _ _).alloc hbase _
    have b2 := b1.grown h2 (by show base ≤ (W.alloc _).heap.size; simp; omega) (fun k hk => (World.ownsRow.lt hown k hk).1)
    exact h v' w' (by unfold OwnR; simpa using h1) b2 (fun k hk hne => (h2.block k (by show k < (W.alloc _).heap.size; simp; omega) (fun e => hne e.symm)).trans (Below.heap_alloc _ _ _ hk)) b2.size
/-- The three slices, and the result's block. -/
structure PL (W : World) (lb : Nat) (v1 : Value) (x1 : List Value) (v2 : Value) (x2 : List Value) (v3 : Value) (x3 : List Value) : Prop where
  o1 : OwnR W lb 4 v1 x1
  o2 : OwnR W lb 3 v2 x2
  o3 : OwnR W lb 9 v3 x3
  res : W.heap[lb]? = some (.cells #[.bool false, .int .i64 0, .string ⟨#[]⟩] 29 (0, 0))
theorem PL.call {W W' : World} {lb : Nat} {v1 v2 v3 : Value} {x1 x2 x3 : List Value} (h : PL W lb v1 x1 v2 x2 v3 x3) (hb : Below W.heap.size W W') : PL W' lb v1 x1 v2 x2 v3 x3 :=
  ⟨h.o1.call hb, h.o2.call hb, h.o3.call hb, (hb.block lb (lt_of_heap h.res)).trans h.res⟩
theorem PL.lt {W : World} {lb : Nat} {v1 v2 v3 : Value} {x1 x2 x3 : List Value} (h : PL W lb v1 x1 v2 x2 v3 x3) : lb ≤ W.heap.size := Nat.le_of_lt (lt_of_heap h.res)
/-- Blocks of unlike types are not one. -/
theorem ne_kind {W W' : World} {v : Value} {e e' : TypeId} {k base : Nat} {xs : List Value} {cs : Array Value} {f : Nat × Nat} (h : OwnR W base e v xs) (hk : W.heap[k]? = some (.cells cs e' f)) (hne : e ≠ e')
    (hfr : ∀ k, k < W.heap.size → v.ownBlock ≠ some k → W'.heap[k]? = W.heap[k]?) : W'.heap[k]? = W.heap[k]? := by
  refine hfr k (lt_of_heap hk) (fun e1 => ?_)
  obtain ⟨_, _, cs2, h2⟩ := h.own e1
  rw [hk] at h2
  simp at h2
  exact hne h2.2.1.symm
theorem PL.a1 {W W' : World} {lb : Nat} {v1 v2 v3 v' : Value} {x1 x2 x3 y : List Value} (h : PL W lb v1 x1 v2 x2 v3 x3) (hn : OwnR W' lb 4 v' y) (hfr : ∀ k, k < W.heap.size → v1.ownBlock ≠ some k → W'.heap[k]? = W.heap[k]?) : PL W' lb v' y v2 x2 v3 x3 :=
  ⟨hn, h.o2.blocks fun k hk => by obtain ⟨_, _, cs, hc⟩ := h.o2.own hk; exact ne_kind h.o1 hc (by decide) hfr, h.o3.blocks fun k hk => by obtain ⟨_, _, cs, hc⟩ := h.o3.own hk; exact ne_kind h.o1 hc (by decide) hfr,
    (ne_kind h.o1 h.res (by decide) hfr).trans h.res⟩
theorem PL.a2 {W W' : World} {lb : Nat} {v1 v2 v3 v' : Value} {x1 x2 x3 y : List Value} (h : PL W lb v1 x1 v2 x2 v3 x3) (hn : OwnR W' lb 3 v' y) (hfr : ∀ k, k < W.heap.size → v2.ownBlock ≠ some k → W'.heap[k]? = W.heap[k]?) : PL W' lb v1 x1 v' y v3 x3 :=
  ⟨h.o1.blocks fun k hk => by obtain ⟨_, _, cs, hc⟩ := h.o1.own hk; exact ne_kind h.o2 hc (by decide) hfr, hn, h.o3.blocks fun k hk => by obtain ⟨_, _, cs, hc⟩ := h.o3.own hk; exact ne_kind h.o2 hc (by decide) hfr,
    (ne_kind h.o2 h.res (by decide) hfr).trans h.res⟩
theorem PL.a3 {W W' : World} {lb : Nat} {v1 v2 v3 v' : Value} {x1 x2 x3 y : List Value} (h : PL W lb v1 x1 v2 x2 v3 x3) (hn : OwnR W' lb 9 v' y) (hfr : ∀ k, k < W.heap.size → v3.ownBlock ≠ some k → W'.heap[k]? = W.heap[k]?) : PL W' lb v1 x1 v2 x2 v' y :=
  ⟨h.o1.blocks fun k hk => by obtain ⟨_, _, cs, hc⟩ := h.o1.own hk; exact ne_kind h.o3 hc (by decide) hfr, h.o2.blocks fun k hk => by obtain ⟨_, _, cs, hc⟩ := h.o2.own hk; exact ne_kind h.o3 hc (by decide) hfr, hn,
    (ne_kind h.o3 h.res (by decide) hfr).trans h.res⟩
theorem info4 : (Tryd.prog.info? 4).map (fun i => (i.zero, i.size, i.bytes)) = some (some (.bool false), 1, 1) := by kernel_rfl
theorem info3 : (Tryd.prog.info? 3).map (fun i => (i.zero, i.size, i.bytes)) = some (some (.int .i64 0), 1, 8) := by kernel_rfl
theorem info9 : (Tryd.prog.info? 9).map (fun i => (i.zero, i.size, i.bytes)) = some (some (.string ⟨#[]⟩), 1, 16) := by kernel_rfl
def bits (L : List Itm) : List Value := L.map fun x => .bool x.num
def nums (L : List Itm) : List Value := L.map fun x => .int .i64 x.n
def txts (L : List Itm) : List Value := L.map fun x => .string (st x.text)
theorem bits_snoc (L : List Itm) (x : Itm) : bits L ++ [.bool x.num] = bits (L ++ [x]) := by simp [bits]
theorem nums_snoc (L : List Itm) (x : Itm) : nums L ++ [.int .i64 x.n] = nums (L ++ [x]) := by simp [nums]
theorem txts_snoc (L : List Itm) (x : Itm) : txts L ++ [.string (st x.text)] = txts (L ++ [x]) := by simp [txts]
theorem PL.form {W : World} {lb : Nat} {v1 v2 v3 : Value} {L : List Itm} (h : PL W lb v1 (bits L) v2 (nums L) v3 (txts L)) (h0 : 0 < L.length) :
    ∃ g1 c1 g2 c2 g3 c3, v1 = .slice (some ⟨g1, 0, none⟩) L.length c1 ∧ v2 = .slice (some ⟨g2, 0, none⟩) L.length c2 ∧ v3 = .slice (some ⟨g3, 0, none⟩) L.length c3 ∧
      ∀ i (hi : i < L.length), W.cell? ⟨g1, i, none⟩ = some (.bool L[i].num) ∧ W.cell? ⟨g2, i, none⟩ = some (.int .i64 L[i].n) ∧ W.cell? ⟨g3, i, none⟩ = some (.string (st L[i].text)) := by
  obtain ⟨g1, c1, e1, k1⟩ := h.o1.form (by simpa [bits] using h0)
  obtain ⟨g2, c2, e2, k2⟩ := h.o2.form (by simpa [nums] using h0)
  obtain ⟨g3, c3, e3, k3⟩ := h.o3.form (by simpa [txts] using h0)
  refine ⟨g1, c1, g2, c2, g3, c3, by simpa [bits] using e1, by simpa [nums] using e2, by simpa [txts] using e3, fun i hi => ⟨k1 i _ ?_, k2 i _ ?_, k3 i _ ?_⟩⟩
  · simp [bits, hi]
  · simp [nums, hi]
  · simp [txts, hi]
/-- What the document's Parse hands back. -/
def rparseV : Except Int (Bool × Nat × List UInt8) → Value
  | .error k => .tuple #[.agg #[.bool false, .int .i64 0, .string ⟨#[]⟩], .int .i64 k]
  | .ok (e, n, t) => .tuple #[.agg #[.bool e, .int .i64 n, .string (st t)], .int .i64 0]
theorem drop_len {t t' : List UInt8} {m : Nat} (h : t' = t.drop m) : t' = t.drop (t.length - t'.length) := by
  rcases Nat.lt_or_ge t.length m with hm | hm
  · have : t' = [] := by rw [h]; exact List.drop_eq_nil_of_le (by omega)
    rw [this]; simp
  · have : t'.length = t.length - m := by rw [h, List.length_drop]
    rw [this, show t.length - (t.length - m) = m by omega]; exact h
theorem itemP_drop {t t' : List UInt8} {x : Itm} (h : itemP t = some (x, t')) : t' = t.drop (t.length - t'.length) := by
  cases t with
  | nil => cases h
  | cons b r =>
    simp only [itemP] at h
    by_cases hq : b = 34 ∨ b = 39
    · rw [if_pos hq] at h
      unfold quoP at h
      split at h
      · cases h
      · simp only [Option.some.injEq, Prod.mk.injEq] at h
        exact drop_len (m := (Lib.indexByte r b).toNat + 2) (by rw [← h.2]; rfl)
    · rw [if_neg hq] at h
      unfold numP at h
      split at h
      · simp only [Option.some.injEq, Prod.mk.injEq] at h
        exact drop_len (m := digs (b :: r)) h.2.symm
      · cases h
theorem bel_set3B {B : Nat} {w W : World} {b : Nat} (h : Below B w W) (hb : B ≤ b) (v0 v1 v2 : Value) : Below B w (((W.setCell ⟨b, 0, none⟩ v0).setCell ⟨b, 1, none⟩ v1).setCell ⟨b, 2, none⟩ v2) :=
  ((h.setCell (p := ⟨b, 0, none⟩) hb v0).setCell (p := ⟨b, 1, none⟩) hb v1).setCell (p := ⟨b, 2, none⟩) hb v2
/-- While the texts are put together. -/
structure PE (w W : World) (lb db g3 : Nat) (D : List Itm) (E : Bool) (NN : Nat) (acc : List UInt8) : Prop where
  res : W.heap[lb]? = some (.cells #[.bool false, .int .i64 0, .string ⟨#[]⟩] 29 (0, 0))
  doc : W.heap[db]? = some (.cells #[.bool E, .int .i64 NN, .string (st acc)] 29 (0, 0))
  txt : ∀ i (hi : i < D.length), W.cell? ⟨g3, i, none⟩ = some (.string (st D[i].text))
  ne : g3 ≠ db
  bel : Below lb w W
  lo : lb < db
theorem PE.cells {w W : World} {lb db g3 : Nat} {D : List Itm} {E : Bool} {NN : Nat} {acc : List UInt8} (h : PE w W lb db g3 D E NN acc) :
    (W.cell? ⟨db, 0, none⟩ = some (.bool E) ∧ W.cell? ⟨db, 1, none⟩ = some (.int .i64 NN) ∧ W.cell? ⟨db, 2, none⟩ = some (.string (st acc))) ∧ (W.frozen? ⟨db, 0, none⟩ = false ∧ W.frozen? ⟨db, 1, none⟩ = false ∧ W.frozen? ⟨db, 2, none⟩ = false) ∧
    (W.cell? ⟨lb, 0, none⟩ = some (.bool false) ∧ W.cell? ⟨lb, 1, none⟩ = some (.int .i64 0) ∧ W.cell? ⟨lb, 2, none⟩ = some (.string ⟨#[]⟩)) ∧ (W.frozen? ⟨lb, 0, none⟩ = false ∧ W.frozen? ⟨lb, 1, none⟩ = false ∧ W.frozen? ⟨lb, 2, none⟩ = false) :=
  ⟨⟨by simp [World.cell?, h.doc], by simp [World.cell?, h.doc], by simp [World.cell?, h.doc]⟩, ⟨Lib.frozen_of_heap h.doc 0, Lib.frozen_of_heap h.doc 1, Lib.frozen_of_heap h.doc 2⟩,
    ⟨by simp [World.cell?, h.res], by simp [World.cell?, h.res], by simp [World.cell?, h.res]⟩, Lib.frozen_of_heap h.res 0, Lib.frozen_of_heap h.res 1, Lib.frozen_of_heap h.res 2⟩
theorem PE.put {w W : World} {lb db g3 : Nat} {D : List Itm} {E : Bool} {NN : Nat} {acc : List UInt8} (h : PE w W lb db g3 D E NN acc) (acc' : List UInt8) : PE w (W.setCell ⟨db, 2, none⟩ (.string (st acc'))) lb db g3 D E NN acc' := by
  have s1 := heap_setCell_same W db 2 _ _ (.string (st acc')) h.doc
  have hl := h.lo
  exact ⟨(heap_setCell_other _ _ _ _ (show lb ≠ db by omega)).trans h.res, by rw [s1]; rfl, fun i hi => (World.cell?_setCell_other _ _ _ _ (by simp; intro e; exact absurd e.symm h.ne)).trans (h.txt i hi), h.ne, h.bel.setCell (p := ⟨db, 2, none⟩) (by show lb ≤ db; omega) _, h.lo⟩
theorem PE.drew {w W : World} {lb db g3 : Nat} {D : List Itm} {E : Bool} {NN : Nat} {acc : List UInt8} (h : PE w W lb db g3 D E NN acc) : PE w W.drew lb db g3 D E NN acc := ⟨h.res, h.doc, h.txt, h.ne, bel_drewN h.bel 1, h.lo⟩
/-- The document as it is laid. -/
theorem PE.start {w W : World} {lb : Nat} {v1 v2 : Value} {g3 c3 : Nat} {D : List Itm} (h : PL W lb v1 (bits D) v2 (nums D) (.slice (some ⟨g3, 0, none⟩) D.length c3) (txts D)) (h0 : 0 < D.length) (hb : Below lb w W) (NN : Nat) :
    PE w (W.alloc (.cells #[.bool false, .int .i64 NN, .string ⟨#[]⟩] 29)) lb W.heap.size g3 D false NN [] := by
  have hg := h.o3.own (k := g3) rfl
  obtain ⟨g', c', e', k'⟩ := h.o3.form (by simpa [txts] using h0)
  simp at e'
  obtain ⟨rfl, _, _⟩ := e'
  have ba := bel_alloc (Below.refl W.heap.size W) (.cells #[.bool false, .int .i64 NN, .string ⟨#[]⟩] 29)
  refine ⟨(ba.block lb (lt_of_heap h.res)).trans h.res, (MapKept.heap_alloc W _).1, fun i hi => cellB ba (k' i _ (by simp [txts, hi])), by omega, hb.trans (ba.mono h.lt), lt_of_heap h.res⟩
theorem PE.more {w W : World} {lb db g3 : Nat} {D : List Itm} {E : Bool} {NN : Nat} {acc : List UInt8} (h : PE w W lb db g3 D E NN acc) (E' : Bool) (N' : Nat) (acc' : List UInt8) :
    PE w (((W.setCell ⟨db, 0, none⟩ (.bool E')).setCell ⟨db, 1, none⟩ (.int .i64 N')).setCell ⟨db, 2, none⟩ (.string (st acc'))) lb db g3 D E' N' acc' := by
  have s1 := heap_setCell_same W db 0 _ _ (.bool E') h.doc
  have s2 := heap_setCell_same _ db 1 _ _ (.int .i64 (N' : Int)) s1
  have s3 := heap_setCell_same _ db 2 _ _ (.string (st acc')) s2
  have hl := h.lo
  have o : ∀ (W : World) i v, (W.setCell ⟨db, i, none⟩ v).heap[lb]? = W.heap[lb]? := fun W i v => heap_setCell_other _ _ _ _ (show lb ≠ db by omega)
  have oc : ∀ (W : World) i v j, (W.setCell ⟨db, i, none⟩ v).cell? ⟨g3, j, none⟩ = W.cell? ⟨g3, j, none⟩ := fun W i v j => World.cell?_setCell_other _ _ _ _ (by simp; intro e; exact absurd e.symm h.ne)
  exact ⟨by rw [o, o, o]; exact h.res, by rw [s3]; rfl, fun i hi => by rw [oc, oc, oc]; exact h.txt i hi, h.ne, bel_set3B h.bel (by omega) _ _ _, h.lo⟩
/-- The texts from F on, up to k. -/
def accF (D : List Itm) (F k : Nat) : List UInt8 := (((D.take k).drop F).map (·.text)).flatten
theorem accF_start (D : List Itm) (F : Nat) : accF D F F = [] := by
  unfold accF
  rw [List.drop_eq_nil_of_le (by rw [List.length_take]; omega)]; rfl
theorem accF_step (D : List Itm) (F k : Nat) (h1 : F ≤ k) (h2 : k < D.length) : accF D F (k + 1) = accF D F k ++ D[k].text := by
  unfold accF
  rw [List.take_succ_eq_append_getElem h2, List.drop_append_of_le_length (by rw [List.length_take]; omega)]
  simp
theorem accF_end (D : List Itm) (F : Nat) : accF D F D.length = ((D.drop F).map (·.text)).flatten := by unfold accF; rw [List.take_length]
theorem flat_drop_le (D : List Itm) : ∀ (F : Nat), ((D.drop F).map (·.text)).flatten.length ≤ (D.map (·.text)).flatten.length := by
  induction D with
  | nil => intro F; simp
  | cons x r ih =>
    intro F
    cases F with
    | zero => simp
    | succ F =>
      have := ih F
      simp only [List.drop_succ_cons, List.map_cons, List.flatten_cons, List.length_append]
      omega
theorem flat_take_le (D : List Itm) : ∀ (k : Nat), ((D.take k).map (·.text)).flatten.length ≤ (D.map (·.text)).flatten.length := by
  induction D with
  | nil => intro k; simp
  | cons x r ih =>
    intro k
    cases k with
    | zero => simp
    | succ k =>
      have := ih k
      simp only [List.take_succ_cons, List.map_cons, List.flatten_cons, List.length_append]
      omega
theorem accF_len (D : List Itm) (F k : Nat) (h : ((D.map (·.text)).flatten).length ≤ 100000) : (accF D F k).length ≤ 100000 := by
  unfold accF
  have h1 := flat_drop_le (D.take k) F
  have h2 := flat_take_le D k
  omega
end Go.Proofs.YtnfpfpppnfighaaDoor
