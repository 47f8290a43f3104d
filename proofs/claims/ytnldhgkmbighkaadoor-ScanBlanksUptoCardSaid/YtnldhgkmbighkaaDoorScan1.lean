/- Package scan: the walks of its small functions, and of number. -/
import Derived.Test.YtnldhgkmbighkaaDoorScanPlain
import Derived.Deep.DeepCutAuto
namespace Go.Proofs.YtnldhgkmbighkaaDoor
open Go Go.RowKit

set_option maxHeartbeats 400000 in
theorem digit_calls (c : Nat) (w : World) : Calls Tryd.prog 75 #[.int .u8 (c : Int)] w fun e w' => e = .returned (.bool (isD c)) ∧ w' = w := by
  by_cases h1 : 48 ≤ c
  · by_cases h2 : c ≤ 57
    · have e : isD c = true := isD_iff.2 ⟨h1, h2⟩
      rw [e]
      clear e
      go_enter Tryd.func75, Tryd.ntmps75
      (go_wp2_with fail; repeat (any_goals (go_quiet (fail); go_wp2_with fail)))
      go_ret
      exact ⟨by simp <;> omega, rfl⟩
    · have e : isD c = false := by rw [Bool.eq_false_iff]; intro h; exact h2 (isD_iff.1 h).2
      rw [e]
      clear e
      go_enter Tryd.func75, Tryd.ntmps75
      (go_wp2_with fail; repeat (any_goals (go_quiet (fail); go_wp2_with fail)))
      go_ret
      exact ⟨by simp <;> omega, rfl⟩
  · have e : isD c = false := by rw [Bool.eq_false_iff]; intro h; exact h1 (isD_iff.1 h).1
    rw [e]
    clear e
    go_enter Tryd.func75, Tryd.ntmps75
    (go_wp2_with fail; repeat (any_goals (go_quiet (fail); go_wp2_with fail)))
    go_ret
    exact ⟨by simp <;> omega, rfl⟩
theorem byte_at (s : ByteArray) (i : Nat) : ∀ h, ((s[i]'h).toNat : Int) = (bAt s i : Int) := fun h => by rw [bAt_eq]
set_option maxHeartbeats 1000000 in
theorem digits_calls (s : ByteArray) (i : Nat) (w : World) (hs : s.size ≤ 140737488351232) (hi : i ≤ s.size) :
    Calls Tryd.prog 94 #[.string s, .int .i64 (i : Int)] w fun e w' => e = .returned (.int .i64 (digAt s i : Nat)) ∧ w' = w := by
  obtain ⟨r, hr⟩ : ∃ r, digAt s i = r := ⟨_, rfl⟩
  rw [hr]
  replace hr := Lib.hid hr
  go_enter Tryd.func94, Tryd.ntmps94
  (go_wp2_with fail; repeat (any_goals (go_quiet (fail); go_wp2_with fail)))
  go_loop [1] (fun v => ∃ k : Nat, k ≤ s.size ∧ v = .int .i64 (k : Int) ∧ Hid (digAt s k = r)) (fun v => s.size - (intOf v).toNat)
  case atStart => exact ⟨i, hi, rfl, hr⟩
  case round =>
    obtain ⟨k, hk, rfl, hr2⟩ := hrel
    have hx := byte_at s k
    have he := Lib.hid (digAt_eq s k)
    by_cases hlt : k < s.size
    · have D := Lib.hid (fun w => digit_calls (bAt s k) w)
      cases hd : isD (bAt s k) with
      | true =>
        rw [hd] at D
        replace hd := Lib.hid hd
        (go_wp2_with fail; repeat (any_goals (go_quiet (fail); go_wp2_with fail)))
        refine (D.out _).mono ?_
        rintro e w1 ⟨rfl, rfl⟩
        (go_wp2_with fail; repeat (any_goals (go_quiet (fail); go_wp2_with fail)))
        go_round
        case rel => exact ⟨k + 1, by omega, by go_num, Lib.hid (by rw [← hr2.out, he.out, if_pos hd.out])⟩
        case measure => simp [intOf]; omega
      | false =>
        rw [hd] at D
        replace hd := Lib.hid hd
        (go_wp2_with fail; repeat (any_goals (go_quiet (fail); go_wp2_with fail)))
        refine (D.out _).mono ?_
        rintro e w1 ⟨rfl, rfl⟩
        (go_wp2_with fail; repeat (any_goals (go_quiet (fail); go_wp2_with fail)))
        go_ret
        exact ⟨ret_int (by rw [← hr2.out, he.out, if_neg (by rw [hd.out]; simp)]), rfl⟩
    · have hd : isD (bAt s k) = false := by rw [bAt_ge s k (by omega)]; rfl
      replace hd := Lib.hid hd
      (go_wp2_with fail; repeat (any_goals (go_quiet (fail); go_wp2_with fail)))
      go_ret
      exact ⟨ret_int (by rw [← hr2.out, he.out, if_neg (by rw [hd.out]; simp)]), rfl⟩

/-- A new error with a place: block g. -/
def AtB (p : Int) (v : Value) (g : Nat) (w : World) : Prop := w.heap[g]? = some (.cells #[.int .i64 p, v] 39 (0, 0))
set_option maxHeartbeats 400000 in
theorem fault_calls (p : Int) (T : TypeId) (v : Value) (w : World) : Calls Tryd.prog 54 #[.int .i64 p, .iface T v] w fun e w' =>
    ∃ g, w.heap.size ≤ g ∧ e = .returned (.iface 34 (.pointer (some ⟨g, 0, none⟩))) ∧ AtB p (.iface T v) g w' ∧ Below w.heap.size w w' := by
  go_enter Tryd.func54, Tryd.ntmps54
  (go_wp2_with fail; repeat (any_goals (go_quiet (fail); go_wp2_with fail)))
  go_ret
  exact ⟨w.heap.size, Nat.le_refl _, rfl, heap_alloc_new w _, (by repeat (first | assumption | exact Below.refl _ _ | apply Below.drew | apply below_drewN | apply balloc | (refine Below.setCell ?_ (by first | omega | (simp <;> omega)) _)))⟩

set_option maxHeartbeats 1000000 in
theorem one_calls (c : Nat) (w : World) : Calls Tryd.prog 72 #[.int .u8 (c : Int)] w fun e w' => e = .returned (.int .i64 (signK c : Nat)) ∧ w' = w := by
  go_enter Tryd.func72, Tryd.ntmps72
  (go_wp2_with fail; repeat (any_goals (go_quiet (fail); go_wp2_with fail)))
  all_goals
    go_ret
    refine ⟨ret_int ?_, rfl⟩
    unfold signK
    (repeat' split) <;> simp_all <;> omega
/-- The word that begins with a byte, its kind; 0: none. -/
def wordS (c : Nat) : ByteArray := if c = 110 then ⟨#[110, 117, 108, 108]⟩ else if c = 116 then ⟨#[116, 114, 117, 101]⟩ else if c = 102 then ⟨#[102, 97, 108, 115, 101]⟩ else ⟨#[]⟩
def wordK (c : Nat) : Nat := if c = 110 then 1 else if c = 116 then 2 else if c = 102 then 3 else 0
set_option maxHeartbeats 1000000 in
theorem word_calls (c : Nat) (w : World) : Calls Tryd.prog 73 #[.int .u8 (c : Int)] w fun e w' => e = .returned (.tuple #[.string (wordS c), .int .i64 (wordK c : Nat)]) ∧ w' = w := by
  by_cases h1 : c = 110
  · subst h1
    go_enter Tryd.func73, Tryd.ntmps73
    (go_wp2_with fail; repeat (any_goals (go_quiet (fail); go_wp2_with fail)))
    go_ret2
    exact ⟨rfl, rfl⟩
  have k1 : ((c : Int) == 110) = false := by simp; omega
  by_cases h2 : c = 116
  · subst h2
    clear h1 k1
    go_enter Tryd.func73, Tryd.ntmps73
    (go_wp2_with fail; repeat (any_goals (go_quiet (fail); go_wp2_with fail)))
    go_ret2
    exact ⟨rfl, rfl⟩
  have k2 : ((c : Int) == 116) = false := by simp; omega
  by_cases h3 : c = 102
  · subst h3
    clear h1 k1 h2 k2
    go_enter Tryd.func73, Tryd.ntmps73
    (go_wp2_with fail; repeat (any_goals (go_quiet (fail); go_wp2_with fail)))
    go_ret2
    exact ⟨rfl, rfl⟩
  have k3 : ((c : Int) == 102) = false := by simp; omega
  have e1 : wordS c = ⟨#[]⟩ := by unfold wordS; rw [if_neg h1, if_neg h2, if_neg h3]
  have e2 : wordK c = 0 := by unfold wordK; rw [if_neg h1, if_neg h2, if_neg h3]
  rw [e1, e2]
  clear h1 h2 h3 e1 e2
  go_enter Tryd.func73, Tryd.ntmps73
  (go_wp2_with fail; repeat (any_goals (go_quiet (fail); go_wp2_with fail)))
  go_ret2
  exact ⟨rfl, rfl⟩

end Go.Proofs.YtnldhgkmbighkaaDoor
