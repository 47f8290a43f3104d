/- Compare. -/
import Derived.Test.YtfdhklpabhhjjaaGreatDoorOrdPlain
import Derived.Test.YtfdhklpabhhjjaaGreatDoorEqPl
import Derived.LoopN
namespace Go.Proofs.YtfdhklpabhhjjaaGreatDoor
open Go Go.RowKit

def or3 (x y z : Int) : Int := if x ≠ 0 then x else if y ≠ 0 then y else z
set_option maxHeartbeats 1000000 in
theorem Or_calls (x y z : Int) (g : Nat) (w : World) (hg : w.heap[g]? = some (.cells #[.int .i64 x, .int .i64 y, .int .i64 z] 3 (0, 0))) :
    Calls Tryz.prog 51 #[.slice (some ⟨g, 0, none⟩) 3 3] w fun e w' => e = .returned (.int .i64 (or3 x y z)) ∧ w' = w := by
  have x0 := cellB hg 0 rfl
  have x1 := cellB hg 1 rfl
  have x2 := cellB hg 2 rfl
  clear hg
  unfold or3
  by_cases h1 : x = 0
  · have b1 : (x != 0) = false := by simp [h1]
    rw [if_neg (by simpa using h1)]
    replace h1 := Lib.hid h1
    by_cases h2 : y = 0
    · have b2 : (y != 0) = false := by simp [h2]
      rw [if_neg (by simpa using h2)]
      replace h2 := Lib.hid h2
      go_enter Tryz.func51, Tryz.ntmps51
      (go_wp2_with fail; repeat (any_goals (go_quiet (fail); go_wp2_with fail)))
      refine wp_loop_rounds 4 ?_
      rw [rounds_succ]
      (go_wp2_with fail; repeat (any_goals (go_quiet (fail); go_wp2_with fail)))
      rw [rounds_succ]
      (go_wp2_with fail; repeat (any_goals (go_quiet (fail); go_wp2_with fail)))
      rw [rounds_succ]
      by_cases h3 : z = 0
      · have b3 : (z != 0) = false := by simp [h3]
        subst h3
        (go_wp2_with fail; repeat (any_goals (go_quiet (fail); go_wp2_with fail)))
        rw [rounds_succ]
        (go_wp2_with fail; repeat (any_goals (go_quiet (fail); go_wp2_with fail)))
        go_ret
        exact ⟨rfl, rfl⟩
      · have b3 : (z != 0) = true := by simp [h3]
        replace h3 := Lib.hid h3
        (go_wp2_with fail; repeat (any_goals (go_quiet (fail); go_wp2_with fail)))
        go_ret
        exact ⟨rfl, rfl⟩
    · have b2 : (y != 0) = true := by simp [h2]
      rw [if_pos h2]
      replace h2 := Lib.hid h2
      go_enter Tryz.func51, Tryz.ntmps51
      (go_wp2_with fail; repeat (any_goals (go_quiet (fail); go_wp2_with fail)))
      refine wp_loop_rounds 4 ?_
      rw [rounds_succ]
      (go_wp2_with fail; repeat (any_goals (go_quiet (fail); go_wp2_with fail)))
      rw [rounds_succ]
      (go_wp2_with fail; repeat (any_goals (go_quiet (fail); go_wp2_with fail)))
      go_ret
      exact ⟨rfl, rfl⟩
  · have b1 : (x != 0) = true := by simp [h1]
    rw [if_pos h1]
    replace h1 := Lib.hid h1
    go_enter Tryz.func51, Tryz.ntmps51
    (go_wp2_with fail; repeat (any_goals (go_quiet (fail); go_wp2_with fail)))
    refine wp_loop_rounds 4 ?_
    rw [rounds_succ]
    (go_wp2_with fail; repeat (any_goals (go_quiet (fail); go_wp2_with fail)))
    go_ret
    exact ⟨rfl, rfl⟩
set_option maxHeartbeats 1000000 in
set_option maxRecDepth 100000 in
theorem Compare_calls (k n k' n' : Int) (t t' : ByteArray) (w : World) :
    Calls Tryz.prog 27 #[.agg #[.int .i64 k, .int .i64 n, .string t], .agg #[.int .i64 k', .int .i64 n', .string t']] w fun e w' => e = .returned (.int .i64 (cmpPl ⟨k, n, t⟩ ⟨k', n', t'⟩)) ∧ Below w.heap.size w w' := by
  have C1 := Lib.hid (fun w => Tryz.cmp_Compare_int k k' w)
  have C2 := Lib.hid (fun w => Compare_int64 n n' w)
  have C3 := Lib.hid (fun w => Tryz.strings_Compare t t' w)
  have e : cmpPl ⟨k, n, t⟩ ⟨k', n', t'⟩ = or3 (Lib.compareInt k k') (Lib.compareInt n n') (Lib.compareBytes t.data.toList t'.data.toList) := rfl
  rw [e]
  generalize Lib.compareInt k k' = c1 at *
  generalize Lib.compareInt n n' = c2 at *
  generalize Lib.compareBytes t.data.toList t'.data.toList = c3 at *
  clear e
  obtain ⟨w0, hw0⟩ : ∃ w0, w0 = (w.alloc (.cells #[.int .i64 k, .int .i64 n, .string t] 50 (0, 0))).alloc (.cells #[.int .i64 k', .int .i64 n', .string t'] 50 (0, 0)) := ⟨_, rfl⟩
  have K0 : Two w #[.int .i64 k, .int .i64 n, .string t] #[.int .i64 k', .int .i64 n', .string t'] 50 w0 := by rw [hw0]; exact Two.mk0 (Below.refl _ _)
  obtain ⟨x0, x1, x2, y0, y1, y2⟩ := K0.cells
  have hb0 := K0.bel
  go_enter Tryz.func27, Tryz.ntmps27
  go_wp2_with fail
  rw [← hw0]
  clear hw0
  go_region_held3 (fun w' => w'.cell? ⟨w.heap.size, 0, none⟩ = some (.int .i64 k) ∧ w'.cell? ⟨w.heap.size, 1, none⟩ = some (.int .i64 n) ∧ w'.cell? ⟨w.heap.size, 2, none⟩ = some (.string t) ∧ w'.cell? ⟨w.heap.size + 1, 0, none⟩ = some (.int .i64 k') ∧ w'.cell? ⟨w.heap.size + 1, 1, none⟩ = some (.int .i64 n') ∧ w'.cell? ⟨w.heap.size + 1, 2, none⟩ = some (.string t')) (go_keep) (first | (go_at_call 52; refine (C1.out _).mono ?_; rintro e w8 ⟨rfl, rfl⟩) | (go_at_call 53; refine (C2.out _).mono ?_; rintro e w8 ⟨rfl, rfl⟩) | (go_at_call 54; refine (C3.out _).mono ?_; rintro e w8 ⟨rfl, rfl⟩) | (go_at_call 51; refine (Or_calls c1 c2 c3 w0.heap.size _ (by exact heap_alloc_new w0 _)).mono ?_; rintro e w8 ⟨rfl, rfl⟩))
  all_goals
    go_wp2_with fail
    go_ret
    exact ⟨rfl, (by repeat (first | assumption | exact Below.refl _ _ | apply Below.drew | apply below_drewN | apply balloc | (refine Below.setCell ?_ (by first | omega | (simp <;> omega)) _)))⟩


end Go.Proofs.YtfdhklpabhhjjaaGreatDoor
