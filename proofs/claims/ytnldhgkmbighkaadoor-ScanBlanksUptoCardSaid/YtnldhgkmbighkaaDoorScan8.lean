/- Package scan: next, whole. -/
import Derived.Test.YtnldhgkmbighkaaDoorScan7
import Derived.Test.YtnldhgkmbighkaaDoorScanPlain2
namespace Go.Proofs.YtnldhgkmbighkaaDoor
open Go Go.RowKit

theorem tok_calls {A : Nat → Addr} {B : Nat} (s : ByteArray) (p b : Nat) (w : World) (hE : Env A B SJ w) (hs : s.size ≤ 35184372088830) (hsc : ScB s (p : Int) b w) (hp : p < s.size) (hv : brkAt s p = s.size) :
    Calls Tryd.prog 56 #[.pointer (some ⟨b, 0, none⟩)] w fun e w' => NextR A (oneAt s p) w e w' ∧ Below w.heap.size w w' := by
  have out : ∀ {O : Nat × Nat × Tk} {t : Tk} {i : Nat}, O = (0, i, t) → Calls Tryd.prog 56 #[.pointer (some ⟨b, 0, none⟩)] w (fun e w' => e = .returned (.tuple #[tkV t, .nilIface]) ∧ Below w.heap.size w w') →
      Calls Tryd.prog 56 #[.pointer (some ⟨b, 0, none⟩)] w (fun e w' => NextR A O w e w' ∧ Below w.heap.size w w') := by
    intro O t i h hc
    refine hc.mono ?_
    rintro e w1 ⟨he, hb⟩
    exact ⟨(nextR_ok h).2 he, hb⟩
  have bad : ∀ {O : Nat × Nat × Tk} {t : Tk} {i k : Nat}, O = (k + 1, i, t) → Calls Tryd.prog 56 #[.pointer (some ⟨b, 0, none⟩)] w (fun e w' => NextBad A (k + 1) i w e w' ∧ Below w.heap.size w w') →
      Calls Tryd.prog 56 #[.pointer (some ⟨b, 0, none⟩)] w (fun e w' => NextR A O w e w' ∧ Below w.heap.size w w') := by
    intro O t i k h hc
    refine hc.mono ?_
    rintro e w1 ⟨he, hb⟩
    exact ⟨(nextR_bad h).2 he, hb⟩
  have hone : oneAt s p = oneAt s p := rfl
  conv at hone => rhs; unfold oneAt
  simp only at hone
  by_cases h1 : signK (bAt s p) ≠ 0
  · rw [if_pos h1] at hone
    exact out hone (next_sign s p b w hs hsc hp h1)
  rw [if_neg h1] at hone
  by_cases h2 : bAt s p = 110
  · rw [if_pos h2] at hone
    by_cases hq : bAt s (p + 1) = 117 ∧ bAt s (p + 2) = 108 ∧ bAt s (p + 3) = 108
    · rw [if_pos hq] at hone
      exact out hone (next_null s p b w hs hsc hp h2 ((pre_null s p h2).2 hq))
    · rw [if_neg hq] at hone
      exact bad hone (next_null_bad s p b w hE hs hsc hp h2 (by rw [Bool.eq_false_iff]; exact fun h => hq ((pre_null s p h2).1 h)))
  rw [if_neg h2] at hone
  by_cases h3 : bAt s p = 116
  · rw [if_pos h3] at hone
    by_cases hq : bAt s (p + 1) = 114 ∧ bAt s (p + 2) = 117 ∧ bAt s (p + 3) = 101
    · rw [if_pos hq] at hone
      exact out hone (next_true s p b w hs hsc hp h3 ((pre_true s p h3).2 hq))
    · rw [if_neg hq] at hone
      exact bad hone (next_true_bad s p b w hE hs hsc hp h3 (by rw [Bool.eq_false_iff]; exact fun h => hq ((pre_true s p h3).1 h)))
  rw [if_neg h3] at hone
  by_cases h4 : bAt s p = 102
  · rw [if_pos h4] at hone
    by_cases hq : bAt s (p + 1) = 97 ∧ bAt s (p + 2) = 108 ∧ bAt s (p + 3) = 115 ∧ bAt s (p + 4) = 101
    · rw [if_pos hq] at hone
      exact out hone (next_false s p b w hs hsc hp h4 ((pre_false s p h4).2 hq))
    · rw [if_neg hq] at hone
      exact bad hone (next_false_bad s p b w hE hs hsc hp h4 (by rw [Bool.eq_false_iff]; exact fun h => hq ((pre_false s p h4).1 h)))
  rw [if_neg h4] at hone
  have hk : signK (bAt s p) = 0 := by omega
  have num : Calls Tryd.prog 56 #[.pointer (some ⟨b, 0, none⟩)] w (fun e w' => (if (numAt s p).1 = true then e = .returned (.tuple #[tkV ⟨4, p, (numAt s p).2, noS⟩, .nilIface]) else NextBad A 2 (numAt s p).2 w e w') ∧ Below w.heap.size w w') →
      (oneAt s p = if (numAt s p).1 = true then (0, 0, ⟨4, p, (numAt s p).2, noS⟩) else (2, (numAt s p).2, ⟨0, 0, 0, noS⟩)) → Calls Tryd.prog 56 #[.pointer (some ⟨b, 0, none⟩)] w fun e w' => NextR A (oneAt s p) w e w' ∧ Below w.heap.size w w' := by
    intro hc ho
    by_cases hn : (numAt s p).1 = true
    · rw [if_pos hn] at ho
      refine out ho (hc.mono ?_)
      rintro e w1 ⟨he, hb⟩
      rw [if_pos hn] at he
      exact ⟨he, hb⟩
    · rw [if_neg hn] at ho
      refine bad ho (hc.mono ?_)
      rintro e w1 ⟨he, hb⟩
      rw [if_neg hn] at he
      exact ⟨he, hb⟩
  by_cases h5 : bAt s p = 45
  · rw [if_pos (Or.inl h5)] at hone
    exact num (next_num_minus s p b w hE hs hsc hp hk ⟨h2, h3, h4⟩ h5 trivial) hone
  by_cases h6 : isD (bAt s p) = true
  · rw [if_pos (Or.inr h6)] at hone
    exact num (next_num_digit s p b w hE hs hsc hp hk ⟨h2, h3, h4⟩ h5 h6) hone
  rw [if_neg (fun h => h.elim h5 h6)] at hone
  by_cases h7 : bAt s p = 34
  · rw [if_pos h7] at hone
    have hc := next_text (A := A) (B := B) s p b w hE hs hsc hp (brk_ascii hv hp (by omega)) h7
    cases hk1 : (qAt s (p + 1) []).1 with
    | zero =>
      rw [if_pos hk1] at hone
      refine out hone (hc.mono ?_)
      rintro e w1 ⟨he, hb⟩
      rw [if_pos hk1] at he
      exact ⟨he, hb⟩
    | succ k =>
      rw [if_neg (by omega), hk1] at hone
      refine bad hone (hc.mono ?_)
      rintro e w1 ⟨he, hb⟩
      rw [if_neg (by omega), hk1] at he
      exact ⟨he, hb⟩
  · rw [if_neg h7] at hone
    exact bad hone (next_else s p b w hE hs hsc hp hk ⟨h2, h3, h4⟩ h5 (by rw [Bool.eq_false_iff]; exact h6) h7)

end Go.Proofs.YtnldhgkmbighkaaDoor
