/- The reference of chapter 17: its small functions. -/
import Derived.Test.YtnldhgkmbighkaaDoorScan1
import Derived.Test.YtnldhgkmbighkaaDoorScanPlain2
namespace Go.Proofs.YtnldhgkmbighkaaDoor
open Go Go.RowKit

set_option maxHeartbeats 400000 in
theorem rDigit_calls (c : Nat) (w : World) : Calls Tryd.prog 58 #[.int .u8 (c : Int)] w fun e w' => e = .returned (.bool (isD c)) ∧ w' = w := by
  by_cases h1 : 48 ≤ c
  · by_cases h2 : c ≤ 57
    · have e : isD c = true := isD_iff.2 ⟨h1, h2⟩
      rw [e]
      clear e
      go_enter Tryd.func58, Tryd.ntmps58
      (go_wp2_with fail; repeat (any_goals (go_quiet (fail); go_wp2_with fail)))
      go_ret
      exact ⟨by simp <;> omega, rfl⟩
    · have e : isD c = false := by rw [Bool.eq_false_iff]; intro h; exact h2 (isD_iff.1 h).2
      rw [e]
      clear e
      go_enter Tryd.func58, Tryd.ntmps58
      (go_wp2_with fail; repeat (any_goals (go_quiet (fail); go_wp2_with fail)))
      go_ret
      exact ⟨by simp <;> omega, rfl⟩
  · have e : isD c = false := by rw [Bool.eq_false_iff]; intro h; exact h1 (isD_iff.1 h).1
    rw [e]
    clear e
    go_enter Tryd.func58, Tryd.ntmps58
    (go_wp2_with fail; repeat (any_goals (go_quiet (fail); go_wp2_with fail)))
    go_ret
    exact ⟨by simp <;> omega, rfl⟩
set_option maxHeartbeats 1000000 in
theorem rDigits_calls (s : ByteArray) (i : Nat) (w : World) (hs : s.size ≤ 140737488351232) (hi : i ≤ s.size) :
    Calls Tryd.prog 78 #[.string s, .int .i64 (i : Int)] w fun e w' => e = .returned (.int .i64 (digAt s i : Nat)) ∧ w' = w := by
  obtain ⟨r, hr⟩ : ∃ r, digAt s i = r := ⟨_, rfl⟩
  rw [hr]
  replace hr := Lib.hid hr
  go_enter Tryd.func78, Tryd.ntmps78
  (go_wp2_with fail; repeat (any_goals (go_quiet (fail); go_wp2_with fail)))
  go_loop [1] (fun v => ∃ k : Nat, k ≤ s.size ∧ v = .int .i64 (k : Int) ∧ Hid (digAt s k = r)) (fun v => s.size - (intOf v).toNat)
  case atStart => exact ⟨i, hi, rfl, hr⟩
  case round =>
    obtain ⟨k, hk, rfl, hr2⟩ := hrel
    have hx := byte_at s k
    have he := Lib.hid (digAt_eq s k)
    by_cases hlt : k < s.size
    · have D := Lib.hid (fun w => rDigit_calls (bAt s k) w)
      cases hd : isD (bAt s k) with
      | true =>
        rw [hd] at D
        replace hd := Lib.hid hd
        (go_wp2_with fail; repeat (any_goals (go_quiet (fail); go_wp2_with fail)))
        refine (D.out _).mono ?_
        rintro e w1 ⟨rfl, rfl⟩
        (go_wp2_with fail; repeat (any_goals (go_quiet (fail); go_wp2_with fail)))
        go_round
        case rel => exact ⟨k + 1, by omega, by go_num, Lib.hid (by rw [← hr2.out, he.out, if_pos hd.out])⟩
        case measure => simp [intOf]; omega
      | false =>
        rw [hd] at D
        replace hd := Lib.hid hd
        (go_wp2_with fail; repeat (any_goals (go_quiet (fail); go_wp2_with fail)))
        refine (D.out _).mono ?_
        rintro e w1 ⟨rfl, rfl⟩
        (go_wp2_with fail; repeat (any_goals (go_quiet (fail); go_wp2_with fail)))
        go_ret
        exact ⟨ret_int (by rw [← hr2.out, he.out, if_neg (by rw [hd.out]; simp)]), rfl⟩
    · have hd : isD (bAt s k) = false := by rw [bAt_ge s k (by omega)]; rfl
      replace hd := Lib.hid hd
      (go_wp2_with fail; repeat (any_goals (go_quiet (fail); go_wp2_with fail)))
      go_ret
      exact ⟨ret_int (by rw [← hr2.out, he.out, if_neg (by rw [hd.out]; simp)]), rfl⟩


set_option maxHeartbeats 400000 in
theorem rBlank_calls (c : Nat) (w : World) : Calls Tryd.prog 39 #[.int .u8 (c : Int)] w fun e w' => e = .returned (.bool (blankN c)) ∧ w' = w := by
  by_cases h1 : c = 32
  · subst h1
    go_enter Tryd.func39, Tryd.ntmps39
    (go_wp2_with fail; repeat (any_goals (go_quiet (fail); go_wp2_with fail)))
    go_ret
    exact ⟨rfl, rfl⟩
  by_cases h2 : c = 9
  · subst h2
    go_enter Tryd.func39, Tryd.ntmps39
    (go_wp2_with fail; repeat (any_goals (go_quiet (fail); go_wp2_with fail)))
    go_ret
    exact ⟨rfl, rfl⟩
  by_cases h3 : c = 10
  · subst h3
    go_enter Tryd.func39, Tryd.ntmps39
    (go_wp2_with fail; repeat (any_goals (go_quiet (fail); go_wp2_with fail)))
    go_ret
    exact ⟨rfl, rfl⟩
  by_cases h4 : c = 13
  · subst h4
    go_enter Tryd.func39, Tryd.ntmps39
    (go_wp2_with fail; repeat (any_goals (go_quiet (fail); go_wp2_with fail)))
    go_ret
    exact ⟨rfl, rfl⟩
  have e : blankN c = false := by simp [blankN, h1, h2, h3, h4]
  rw [e]
  have c1 : ((c : Int) == 32) = false := by simp; omega
  have c2 : ((c : Int) == 9) = false := by simp; omega
  have c3 : ((c : Int) == 10) = false := by simp; omega
  have c4 : ((c : Int) == 13) = false := by simp; omega
  clear e h1 h2 h3 h4
  go_enter Tryd.func39, Tryd.ntmps39
  (go_wp2_with fail; repeat (any_goals (go_quiet (fail); go_wp2_with fail)))
  go_ret
  exact ⟨by simp, rfl⟩
/-- Whether t stands in s at i. -/
def startsS (s : ByteArray) (i : Nat) (t : ByteArray) : Bool := decide (i + t.size ≤ s.size) && ((s.extract i (i + t.size)).toList == t.toList)
set_option maxHeartbeats 400000 in
theorem starts_calls (s : ByteArray) (i : Nat) (t : ByteArray) (w : World) (hs : s.size ≤ 140737488351232) (ht : t.size ≤ 100) (hi : i ≤ 140737488351300) :
    Calls Tryd.prog 57 #[.string s, .int .i64 (i : Int), .string t] w fun e w' => e = .returned (.bool (startsS s i t)) ∧ w' = w := by
  have hs' : (s.size : Int) ≤ 140737488351232 := by omega
  have ht' : (t.size : Int) ≤ 100 := by omega
  have hi' : (i : Int) ≤ 140737488351300 := by omega
  replace hs := Lib.hid hs
  replace hi := Lib.hid hi
  by_cases h : i + t.size ≤ s.size
  · have h' : (i : Int) + (t.size : Int) ≤ (s.size : Int) := by omega
    unfold startsS
    rw [decide_eq_true h, Bool.true_and]
    replace h := Lib.hid h
    go_enter Tryd.func57, Tryd.ntmps57
    (go_wp2_with fail; repeat (any_goals (go_quiet (fail); go_wp2_with fail)))
    go_ret
    exact ⟨rfl, rfl⟩
  · have h' : ¬ (i : Int) + (t.size : Int) ≤ (s.size : Int) := by omega
    unfold startsS
    rw [decide_eq_false h, Bool.false_and]
    replace h := Lib.hid h
    go_enter Tryd.func57, Tryd.ntmps57
    (go_wp2_with fail; repeat (any_goals (go_quiet (fail); go_wp2_with fail)))
    go_ret
    exact ⟨rfl, rfl⟩

end Go.Proofs.YtnldhgkmbighkaaDoor
