/- FieldParts answers true, in every case. -/
import Derived.Test.YtooikmialpfdkaaFr
import Derived.Test.YtooikmialpfdkaaP1
import Derived.Test.YtooikmialpfdkaaP2
namespace Go.Proofs.Ytooikmialpfdkaa
theorem parts_walk (G : Grid) (r c : Int) (hr : I64 r) (hc : I64 c) (W : World) (h : G.In W.heap.size W) :
    Fn W 3 #[G.v, .agg #[.int .i64 r, .int .i64 c]] (.bool true) := by
  by_cases hf : G.Few
  · by_cases hp : (G.okB && G.thereB r c) = true
    · have hp' := hp
      rw [Bool.and_eq_true] at hp'
      obtain ⟨ho, ht⟩ := hp'
      have ht' := thereB_iff.1 ht
      have hok : G.Ok := by
        by_cases ho' : G.Ok
        · exact ho'
        · rw [not_okB ho'] at ho; cases ho
      have hc1 : c + 1 ≤ 9223372036854775807 := by
        obtain ⟨_, _, k1, k2⟩ := ht'
        have := hf.2 0 (by have := hok.1; omega)
        omega
      by_cases hq : (G.okB && G.thereB r (c + 1)) = true
      · rw [Bool.and_eq_true] at hq
        have hq' := thereB_iff.1 hq.2
        obtain ⟨r', rfl⟩ := Int.eq_ofNat_of_zero_le ht'.1
        obtain ⟨c', rfl⟩ := Int.eq_ofNat_of_zero_le ht'.2.2.1
        exact parts_last G r' c' W h hf hok ht' hq'
      · exact parts_second G r c hc.1 hc1 W h hf hp (by simpa using hq)
    · exact parts_first G r c W h hf (by simpa using hp)
  · exact parts_few G r c W h hf
end Go.Proofs.Ytooikmialpfdkaa
