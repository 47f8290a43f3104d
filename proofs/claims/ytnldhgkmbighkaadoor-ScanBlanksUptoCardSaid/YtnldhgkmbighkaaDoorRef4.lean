/- The reference's UTF-8: it breaks where the program's breaks. -/
import Derived.Test.YtnldhgkmbighkaaDoorRef3
namespace Go.Proofs.YtnldhgkmbighkaaDoor
open Go Go.RowKit

theorem get_bAt (t : ByteArray) (j : Nat) : (t.get! j).toNat = bAt t j := by
  obtain ⟨d⟩ := t
  unfold bAt
  show (d[j]!).toNat = _
  by_cases h : j < d.size
  · rw [getElem!_pos d j h, dif_pos (show j < (⟨d⟩ : ByteArray).size from h)]
    rfl
  · rw [getElem!_neg d j h, dif_neg (show ¬ j < (⟨d⟩ : ByteArray).size from h)]
    rfl
theorem bAt_extract (s : ByteArray) (a j : Nat) : bAt (s.extract a s.size) j = bAt s (a + j) := by
  unfold bAt
  have e : (s.extract a s.size).size = s.size - a := by rw [ByteArray.size_extract]; omega
  by_cases h : a + j < s.size
  · rw [dif_pos (by omega), dif_pos h]
    rw [ByteArray.getElem_extract]
  · rw [dif_neg (by omega), dif_neg h]
theorem refAt_eq {s : ByteArray} {a : Nat} (h : a < s.size) : refAt s a = nextS (s.extract a s.size) := by
  have e : (s.extract a s.size).size = s.size - a := by rw [ByteArray.size_extract]; omega
  unfold refAt nextS
  rw [refF_eq (fun j => bAt s (a + j)) _ (by omega) (bAt_lt _ _) (bAt_lt _ _) (bAt_lt _ _) (bAt_lt _ _)]
  have d : Lib.decodeGo (s.extract a s.size) = Lib.decodeN (s.size - a) (bAt s (a + 0)) (bAt s (a + 1)) (bAt s (a + 2)) (bAt s (a + 3)) := by
    show (if (s.extract a s.size).size = 0 then _ else Utf8.decode (s.extract a s.size) 0) = _
    rw [if_neg (by omega), Lib.decode_at, get_bAt, get_bAt, get_bAt, get_bAt, bAt_extract, bAt_extract, bAt_extract, bAt_extract, e]
    rfl
  rw [d]
theorem refDec_brk (s : ByteArray) : ∀ (k a : Nat), a ≤ s.size → s.size < a + k → (refDec s k a).2 = brkAt s a
  | 0, a, h1, h2 => by omega
  | k + 1, a, h1, h2 => by
    rw [brkAt_eq, refDec]
    by_cases h : a < s.size
    · rw [if_pos h, if_pos h]
      have e := refAt_eq h
      have hb := refF_bd (fun j => bAt s (a + j)) (s.size - a)
      have hw : widthAt s a = (refAt s a).2 := by unfold widthAt; rw [e]
      rw [hw]
      by_cases h0 : (refAt s a).2 = 0
      · rw [if_pos h0, if_pos h0]
      · rw [if_neg h0, if_neg h0]
        exact refDec_brk s k _ (by have : (refAt s a).2 ≤ s.size - a := hb.1; omega) (by omega)
    · rw [if_neg h, if_neg h]
theorem Breaks_calls (s : ByteArray) (w : World) (hs : s.size ≤ 35184372088830) :
    Calls Tryd.prog 33 #[.string s] w fun e w' => e = .returned (.int .i64 (brkAt s 0)) ∧ Below w.heap.size w w' := by
  have D := fun w => decode_calls s w hs
  rw [refDec_brk s _ 0 (Nat.zero_le _) (by omega)] at D
  replace D := Lib.hid D
  generalize brkAt s 0 = r at *
  go_enter Tryd.func33, Tryd.ntmps33
  (go_wp2_with fail; repeat (any_goals (go_quiet (fail); go_wp2_with fail)))
  refine (D.out _).mono ?_
  rintro e w1 ⟨v, rfl, ho, hb⟩
  clear ho
  (go_wp2_with fail; repeat (any_goals (go_quiet (fail); go_wp2_with fail)))
  go_ret
  exact ⟨rfl, (by repeat (first | assumption | exact Below.refl _ _ | apply Below.drew | apply below_drewN | apply balloc | (refine Below.setCell ?_ (by first | omega | (simp <;> omega)) _)))⟩
theorem brkAt_le (s : ByteArray) : brkAt s 0 ≤ s.size := by
  rw [← refDec_brk s (s.size + 1) 0 (Nat.zero_le _) (by omega)]
  have : ∀ k a, a ≤ s.size → (refDec s k a).2 ≤ s.size := by
    intro k
    induction k with
    | zero => intro a h; exact h
    | succ k ih =>
      intro a h
      rw [refDec]
      have hb := refF_bd (fun j => bAt s (a + j)) (s.size - a)
      have : (refAt s a).2 ≤ s.size - a := hb.1
      repeat' split
      · exact h
      · exact ih _ (by omega)
      · exact h
  exact this _ _ (Nat.zero_le _)
theorem Utf8_calls (s : ByteArray) (w : World) (hs : s.size ≤ 35184372088830) :
    Calls Tryd.prog 14 #[.string s] w fun e w' => e = .returned (.bool (decide (utfE s = 0))) ∧ Below w.heap.size w w' := by
  have D := fun w => Breaks_calls s w hs
  have hle := brkAt_le s
  replace D := Lib.hid D
  unfold utfE
  generalize brkAt s 0 = r at *
  go_enter Tryd.func14, Tryd.ntmps14
  (go_wp2_with fail; repeat (any_goals (go_quiet (fail); go_wp2_with fail)))
  refine (D.out _).mono ?_
  rintro e w1 ⟨rfl, hb⟩
  (go_wp2_with fail; repeat (any_goals (go_quiet (fail); go_wp2_with fail)))
  all_goals
    go_ret
    refine ⟨ret_bool ?_, (by repeat (first | assumption | exact Below.refl _ _ | apply Below.drew | apply below_drewN | apply balloc | (refine Below.setCell ?_ (by first | omega | (simp <;> omega)) _)))⟩
    rw [Bool.eq_iff_iff]
    simp <;> omega

end Go.Proofs.YtnldhgkmbighkaaDoor
