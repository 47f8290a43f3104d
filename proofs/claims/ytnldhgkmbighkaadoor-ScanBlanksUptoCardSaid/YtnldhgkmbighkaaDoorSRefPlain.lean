/- Plain laws on the reference of chapter 17. -/
import Derived.Test.YtnldhgkmbighkaaDoorSRef1
namespace Go.Proofs.YtnldhgkmbighkaaDoor
open Go Go.RowKit

theorem toL (t : ByteArray) : t.toList = t.data.toList := by
  have := Lib.toList_data t
  exact this
theorem startsS_iff (s : ByteArray) (i : Nat) (t : ByteArray) : startsS s i t = true ↔ i + t.size ≤ s.size ∧ ∀ j, j < t.size → bAt s (i + j) = bAt t j := by
  unfold startsS
  by_cases h : i + t.size ≤ s.size
  · rw [decide_eq_true h, Bool.true_and, beq_iff_eq, toL, toL]
    constructor
    · intro he
      have he2 : s.extract i (i + t.size) = t := by
        cases hx : s.extract i (i + t.size); cases t
        rw [hx] at he
        congr 1
        exact Array.toList_inj.1 he
      refine ⟨h, fun j hj => ?_⟩
      have h1 : bAt (s.extract i (i + t.size)) j = bAt t j := by rw [he2]
      rw [← h1]
      unfold bAt
      have hz : (s.extract i (i + t.size)).size = t.size := by rw [he2]
      rw [dif_pos (by omega), dif_pos (by omega)]
      congr 1
      rw [ByteArray.getElem_extract]
    · rintro ⟨_, he⟩
      apply List.ext_getElem
      · simp; omega
      · intro j h1 h2
        have hj : j < t.size := by simpa using h2
        have := he j hj
        unfold bAt at this
        rw [dif_pos (by omega), dif_pos hj] at this
        have h3 := UInt8.toNat_inj.1 this
        have hz : j < (s.extract i (i + t.size)).size := by rw [ByteArray.size_extract]; omega
        have h4 : (s.extract i (i + t.size))[j]'hz = s[i + j]'(by omega) := ByteArray.getElem_extract ..
        show (s.extract i (i + t.size))[j]'hz = t[j]'hj
        rw [h4, h3]
  · rw [decide_eq_false h, Bool.false_and]
    constructor
    · intro h; cases h
    · intro h2; exact absurd h2.1 h

end Go.Proofs.YtnldhgkmbighkaaDoor
