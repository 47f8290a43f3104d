/- The document's values: text. -/
import Derived.Test.YtfdhklpabhhjjaaGreatDoorRef4
import Derived.Test.YtfdhklpabhhjjaaGreatDoorValues
namespace Go.Proofs.YtfdhklpabhhjjaaGreatDoor
open Go Go.RowKit

theorem rText_calls (s : ByteArray) (w : World) (hs : s.size ≤ 35184372088830) :
    Calls Tryz.prog 45 #[.string s] w fun e w' => e = .returned (.int .i64 (txE s : Nat)) ∧ Below w.heap.size w w' := by
  have D := fun w => Utf8_calls s w hs
  unfold txE
  by_cases hu : utfE s = 0
  · have hd : decide (utfE s = 0) = true := decide_eq_true hu
    rw [hd] at D
    rw [hu]
    replace D := Lib.hid D
    clear hu hd
    by_cases hz : 1048576 < s.size
    all_goals
      go_enter Tryz.func45, Tryz.ntmps45
      (go_wp2_with fail; repeat (any_goals (go_quiet (fail); go_wp2_with fail)))
      refine (D.out _).mono ?_
      rintro e w1 ⟨rfl, hb⟩
      (go_wp2_with fail; repeat (any_goals (go_quiet (fail); go_wp2_with fail)))
      go_ret
      exact ⟨rfl, (by repeat (first | assumption | exact Below.refl _ _ | apply Below.drew | apply below_drewN | apply balloc | (refine Below.setCell ?_ (by first | omega | (simp <;> omega)) _)))⟩
  · have hd : decide (utfE s = 0) = false := decide_eq_false hu
    rw [hd] at D
    have hu1 : utfE s = 1 := by rcases utfE_01 s with h | h; exact absurd h hu; exact h
    rw [hu1]
    replace D := Lib.hid D
    clear hu hd hu1
    go_enter Tryz.func45, Tryz.ntmps45
    (go_wp2_with fail; repeat (any_goals (go_quiet (fail); go_wp2_with fail)))
    refine (D.out _).mono ?_
    rintro e w1 ⟨rfl, hb⟩
    (go_wp2_with fail; repeat (any_goals (go_quiet (fail); go_wp2_with fail)))
    go_ret
    exact ⟨rfl, (by repeat (first | assumption | exact Below.refl _ _ | apply Below.drew | apply below_drewN | apply balloc | (refine Below.setCell ?_ (by first | omega | (simp <;> omega)) _)))⟩

end Go.Proofs.YtfdhklpabhhjjaaGreatDoor
