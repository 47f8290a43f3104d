/- ValuesTypes: the walk. -/
import Derived.Test.YtfdhklpabhhjjaaDoorValLaw1
namespace Go.Proofs.YtfdhklpabhhjjaaDoor
open Go Go.RowKit

set_option maxHeartbeats 1000000 in
set_option maxRecDepth 100000 in
theorem VT_null {A : Nat → Addr} {B : Nat} (w : World) (hE : EnvN A B w) (hs : (⟨#[]⟩ : ByteArray).size ≤ 140737488351232) (hv : vCheck ⟨0, 0, ⟨#[]⟩⟩ = 0) :
    Calls Tryd.prog 5 #[.agg #[.int .i64 0, .int .i64 0, .string ⟨#[]⟩]] w fun e w' => e = .returned (.bool true) ∧ Below w.heap.size w w' := by
  have F := Lib.hid (fun w hE => fixed_calls (A := A) (B := B) w hE)
  have C : ∀ w, Env A B SV w → Calls Tryd.prog 18 #[.agg #[.int .i64 0, .int .i64 0, .string ⟨#[]⟩]] w fun e w' => e = .returned (.tuple #[.iface 53 (.agg #[]), .nilIface]) ∧ Below w.heap.size w w' := fun w hE => Of_ok (A := A) (B := B) 0 0 ⟨#[]⟩ w hs hE hv
  have C := Lib.hid C
  have hz3 := good_size hv
  clear hv
  go_enter Tryd.func5, Tryd.ntmps5
  (go_wp2_with fail; repeat (any_goals (go_quiet (fail); go_wp2_with fail)))
  refine (F.out _ (hE.next (by repeat (first | assumption | exact Below.refl _ _ | apply Below.drew | apply below_drewN | apply balloc | (refine Below.setCell ?_ (by first | omega | (simp <;> omega)) _))))).mono ?_
  rintro e w1 ⟨rfl, hb⟩
  have hb1 : Below w.heap.size w w1 := bcall (by repeat (first | assumption | exact Below.refl _ _ | apply Below.drew | apply below_drewN | apply balloc | (refine Below.setCell ?_ (by first | omega | (simp <;> omega)) _))) hb
  have hx1 := boxed hb
  have x0 := cellB hx1 0 rfl
  have x1 := cellB hx1 1 rfl
  have x2 := cellB hx1 2 rfl
  have hx1 := Lib.hid hx1
  clear hb
  (go_wp2_with fail; repeat (any_goals (go_quiet (fail); go_wp2_with fail)))
  refine (C.out _ (hE.env.next (by repeat (first | assumption | exact Below.refl _ _ | apply Below.drew | apply below_drewN | apply balloc | (refine Below.setCell ?_ (by first | omega | (simp <;> omega)) _))))).mono ?_
  rintro e w2 ⟨rfl, hb⟩
  have hb2 : Below w.heap.size w w2 := bcall (by repeat (first | assumption | exact Below.refl _ _ | apply Below.drew | apply below_drewN | apply balloc | (refine Below.setCell ?_ (by first | omega | (simp <;> omega)) _))) hb
  have hx2 := box_next hx1.out hb
  have y0 := cellB hx2 0 rfl
  have y1 := cellB hx2 1 rfl
  have y2 := cellB hx2 2 rfl
  have hz := ltB hx2
  clear hb hx2 x0 x1 x2 hx1 hb1
  (go_wp2_with fail; repeat (any_goals (go_quiet (fail); go_wp2_with fail)))
  all_goals
    go_ret
    exact ⟨by simp_all <;> omega, (by repeat (first | assumption | exact Below.refl _ _ | apply Below.drew | apply below_drewN | apply balloc | (refine Below.setCell ?_ (by first | omega | (simp <;> omega)) _)))⟩
set_option maxHeartbeats 1000000 in
set_option maxRecDepth 100000 in
theorem VT_false {A : Nat → Addr} {B : Nat} (w : World) (hE : EnvN A B w) (hs : (⟨#[]⟩ : ByteArray).size ≤ 140737488351232) (hv : vCheck ⟨1, 0, ⟨#[]⟩⟩ = 0) :
    Calls Tryd.prog 5 #[.agg #[.int .i64 1, .int .i64 0, .string ⟨#[]⟩]] w fun e w' => e = .returned (.bool true) ∧ Below w.heap.size w w' := by
  have F := Lib.hid (fun w hE => fixed_calls (A := A) (B := B) w hE)
  have C : ∀ w, Env A B SV w → Calls Tryd.prog 18 #[.agg #[.int .i64 1, .int .i64 0, .string ⟨#[]⟩]] w fun e w' => e = .returned (.tuple #[.iface 54 (.bool false), .nilIface]) ∧ Below w.heap.size w w' := fun w hE => Of_ok (A := A) (B := B) 1 0 ⟨#[]⟩ w hs hE hv
  have C := Lib.hid C
  have hz3 := good_size hv
  clear hv
  go_enter Tryd.func5, Tryd.ntmps5
  (go_wp2_with fail; repeat (any_goals (go_quiet (fail); go_wp2_with fail)))
  refine (F.out _ (hE.next (by repeat (first | assumption | exact Below.refl _ _ | apply Below.drew | apply below_drewN | apply balloc | (refine Below.setCell ?_ (by first | omega | (simp <;> omega)) _))))).mono ?_
  rintro e w1 ⟨rfl, hb⟩
  have hb1 : Below w.heap.size w w1 := bcall (by repeat (first | assumption | exact Below.refl _ _ | apply Below.drew | apply below_drewN | apply balloc | (refine Below.setCell ?_ (by first | omega | (simp <;> omega)) _))) hb
  have hx1 := boxed hb
  have x0 := cellB hx1 0 rfl
  have x1 := cellB hx1 1 rfl
  have x2 := cellB hx1 2 rfl
  have hx1 := Lib.hid hx1
  clear hb
  (go_wp2_with fail; repeat (any_goals (go_quiet (fail); go_wp2_with fail)))
  refine (C.out _ (hE.env.next (by repeat (first | assumption | exact Below.refl _ _ | apply Below.drew | apply below_drewN | apply balloc | (refine Below.setCell ?_ (by first | omega | (simp <;> omega)) _))))).mono ?_
  rintro e w2 ⟨rfl, hb⟩
  have hb2 : Below w.heap.size w w2 := bcall (by repeat (first | assumption | exact Below.refl _ _ | apply Below.drew | apply below_drewN | apply balloc | (refine Below.setCell ?_ (by first | omega | (simp <;> omega)) _))) hb
  have hx2 := box_next hx1.out hb
  have y0 := cellB hx2 0 rfl
  have y1 := cellB hx2 1 rfl
  have y2 := cellB hx2 2 rfl
  have hz := ltB hx2
  clear hb hx2 x0 x1 x2 hx1 hb1
  (go_wp2_with fail; repeat (any_goals (go_quiet (fail); go_wp2_with fail)))
  all_goals
    go_ret
    exact ⟨by simp_all <;> omega, (by repeat (first | assumption | exact Below.refl _ _ | apply Below.drew | apply below_drewN | apply balloc | (refine Below.setCell ?_ (by first | omega | (simp <;> omega)) _)))⟩
set_option maxHeartbeats 1000000 in
set_option maxRecDepth 100000 in
theorem VT_true {A : Nat → Addr} {B : Nat} (w : World) (hE : EnvN A B w) (hs : (⟨#[]⟩ : ByteArray).size ≤ 140737488351232) (hv : vCheck ⟨1, 1, ⟨#[]⟩⟩ = 0) :
    Calls Tryd.prog 5 #[.agg #[.int .i64 1, .int .i64 1, .string ⟨#[]⟩]] w fun e w' => e = .returned (.bool true) ∧ Below w.heap.size w w' := by
  have F := Lib.hid (fun w hE => fixed_calls (A := A) (B := B) w hE)
  have C : ∀ w, Env A B SV w → Calls Tryd.prog 18 #[.agg #[.int .i64 1, .int .i64 1, .string ⟨#[]⟩]] w fun e w' => e = .returned (.tuple #[.iface 54 (.bool true), .nilIface]) ∧ Below w.heap.size w w' := fun w hE => Of_ok (A := A) (B := B) 1 1 ⟨#[]⟩ w hs hE hv
  have C := Lib.hid C
  have hz3 := good_size hv
  clear hv
  go_enter Tryd.func5, Tryd.ntmps5
  (go_wp2_with fail; repeat (any_goals (go_quiet (fail); go_wp2_with fail)))
  refine (F.out _ (hE.next (by repeat (first | assumption | exact Below.refl _ _ | apply Below.drew | apply below_drewN | apply balloc | (refine Below.setCell ?_ (by first | omega | (simp <;> omega)) _))))).mono ?_
  rintro e w1 ⟨rfl, hb⟩
  have hb1 : Below w.heap.size w w1 := bcall (by repeat (first | assumption | exact Below.refl _ _ | apply Below.drew | apply below_drewN | apply balloc | (refine Below.setCell ?_ (by first | omega | (simp <;> omega)) _))) hb
  have hx1 := boxed hb
  have x0 := cellB hx1 0 rfl
  have x1 := cellB hx1 1 rfl
  have x2 := cellB hx1 2 rfl
  have hx1 := Lib.hid hx1
  clear hb
  (go_wp2_with fail; repeat (any_goals (go_quiet (fail); go_wp2_with fail)))
  refine (C.out _ (hE.env.next (by repeat (first | assumption | exact Below.refl _ _ | apply Below.drew | apply below_drewN | apply balloc | (refine Below.setCell ?_ (by first | omega | (simp <;> omega)) _))))).mono ?_
  rintro e w2 ⟨rfl, hb⟩
  have hb2 : Below w.heap.size w w2 := bcall (by repeat (first | assumption | exact Below.refl _ _ | apply Below.drew | apply below_drewN | apply balloc | (refine Below.setCell ?_ (by first | omega | (simp <;> omega)) _))) hb
  have hx2 := box_next hx1.out hb
  have y0 := cellB hx2 0 rfl
  have y1 := cellB hx2 1 rfl
  have y2 := cellB hx2 2 rfl
  have hz := ltB hx2
  clear hb hx2 x0 x1 x2 hx1 hb1
  (go_wp2_with fail; repeat (any_goals (go_quiet (fail); go_wp2_with fail)))
  all_goals
    go_ret
    exact ⟨by simp_all <;> omega, (by repeat (first | assumption | exact Below.refl _ _ | apply Below.drew | apply below_drewN | apply balloc | (refine Below.setCell ?_ (by first | omega | (simp <;> omega)) _)))⟩
set_option maxHeartbeats 1000000 in
set_option maxRecDepth 100000 in
theorem VT_number {A : Nat → Addr} {B : Nat} (n : Int) (w : World) (hE : EnvN A B w) (hs : (⟨#[]⟩ : ByteArray).size ≤ 140737488351232) (hv : vCheck ⟨2, n, ⟨#[]⟩⟩ = 0) :
    Calls Tryd.prog 5 #[.agg #[.int .i64 2, .int .i64 n, .string ⟨#[]⟩]] w fun e w' => e = .returned (.bool true) ∧ Below w.heap.size w w' := by
  have F := Lib.hid (fun w hE => fixed_calls (A := A) (B := B) w hE)
  have C : ∀ w, Env A B SV w → Calls Tryd.prog 18 #[.agg #[.int .i64 2, .int .i64 n, .string ⟨#[]⟩]] w fun e w' => e = .returned (.tuple #[.iface 55 (.int .i64 n), .nilIface]) ∧ Below w.heap.size w w' := fun w hE => Of_ok (A := A) (B := B) 2 n ⟨#[]⟩ w hs hE hv
  have C := Lib.hid C
  have hz3 := good_size hv
  clear hv
  go_enter Tryd.func5, Tryd.ntmps5
  (go_wp2_with fail; repeat (any_goals (go_quiet (fail); go_wp2_with fail)))
  refine (F.out _ (hE.next (by repeat (first | assumption | exact Below.refl _ _ | apply Below.drew | apply below_drewN | apply balloc | (refine Below.setCell ?_ (by first | omega | (simp <;> omega)) _))))).mono ?_
  rintro e w1 ⟨rfl, hb⟩
  have hb1 : Below w.heap.size w w1 := bcall (by repeat (first | assumption | exact Below.refl _ _ | apply Below.drew | apply below_drewN | apply balloc | (refine Below.setCell ?_ (by first | omega | (simp <;> omega)) _))) hb
  have hx1 := boxed hb
  have x0 := cellB hx1 0 rfl
  have x1 := cellB hx1 1 rfl
  have x2 := cellB hx1 2 rfl
  have hx1 := Lib.hid hx1
  clear hb
  (go_wp2_with fail; repeat (any_goals (go_quiet (fail); go_wp2_with fail)))
  refine (C.out _ (hE.env.next (by repeat (first | assumption | exact Below.refl _ _ | apply Below.drew | apply below_drewN | apply balloc | (refine Below.setCell ?_ (by first | omega | (simp <;> omega)) _))))).mono ?_
  rintro e w2 ⟨rfl, hb⟩
  have hb2 : Below w.heap.size w w2 := bcall (by repeat (first | assumption | exact Below.refl _ _ | apply Below.drew | apply below_drewN | apply balloc | (refine Below.setCell ?_ (by first | omega | (simp <;> omega)) _))) hb
  have hx2 := box_next hx1.out hb
  have y0 := cellB hx2 0 rfl
  have y1 := cellB hx2 1 rfl
  have y2 := cellB hx2 2 rfl
  have hz := ltB hx2
  clear hb hx2 x0 x1 x2 hx1 hb1
  (go_wp2_with fail; repeat (any_goals (go_quiet (fail); go_wp2_with fail)))
  all_goals
    go_ret
    exact ⟨by simp_all <;> omega, (by repeat (first | assumption | exact Below.refl _ _ | apply Below.drew | apply below_drewN | apply balloc | (refine Below.setCell ?_ (by first | omega | (simp <;> omega)) _)))⟩
set_option maxHeartbeats 1000000 in
set_option maxRecDepth 100000 in
theorem VT_text {A : Nat → Addr} {B : Nat} (t : ByteArray) (w : World) (hE : EnvN A B w) (hs : (t : ByteArray).size ≤ 140737488351232) (hv : vCheck ⟨3, 0, t⟩ = 0) :
    Calls Tryd.prog 5 #[.agg #[.int .i64 3, .int .i64 0, .string t]] w fun e w' => e = .returned (.bool true) ∧ Below w.heap.size w w' := by
  have F := Lib.hid (fun w hE => fixed_calls (A := A) (B := B) w hE)
  have C : ∀ w, Env A B SV w → Calls Tryd.prog 18 #[.agg #[.int .i64 3, .int .i64 0, .string t]] w fun e w' => e = .returned (.tuple #[.iface 56 (.string t), .nilIface]) ∧ Below w.heap.size w w' := fun w hE => Of_ok (A := A) (B := B) 3 0 t w hs hE hv
  have C := Lib.hid C
  have hz3 := good_size hv
  clear hv
  go_enter Tryd.func5, Tryd.ntmps5
  (go_wp2_with fail; repeat (any_goals (go_quiet (fail); go_wp2_with fail)))
  refine (F.out _ (hE.next (by repeat (first | assumption | exact Below.refl _ _ | apply Below.drew | apply below_drewN | apply balloc | (refine Below.setCell ?_ (by first | omega | (simp <;> omega)) _))))).mono ?_
  rintro e w1 ⟨rfl, hb⟩
  have hb1 : Below w.heap.size w w1 := bcall (by repeat (first | assumption | exact Below.refl _ _ | apply Below.drew | apply below_drewN | apply balloc | (refine Below.setCell ?_ (by first | omega | (simp <;> omega)) _))) hb
  have hx1 := boxed hb
  have x0 := cellB hx1 0 rfl
  have x1 := cellB hx1 1 rfl
  have x2 := cellB hx1 2 rfl
  have hx1 := Lib.hid hx1
  clear hb
  (go_wp2_with fail; repeat (any_goals (go_quiet (fail); go_wp2_with fail)))
  refine (C.out _ (hE.env.next (by repeat (first | assumption | exact Below.refl _ _ | apply Below.drew | apply below_drewN | apply balloc | (refine Below.setCell ?_ (by first | omega | (simp <;> omega)) _))))).mono ?_
  rintro e w2 ⟨rfl, hb⟩
  have hb2 : Below w.heap.size w w2 := bcall (by repeat (first | assumption | exact Below.refl _ _ | apply Below.drew | apply below_drewN | apply balloc | (refine Below.setCell ?_ (by first | omega | (simp <;> omega)) _))) hb
  have hx2 := box_next hx1.out hb
  have y0 := cellB hx2 0 rfl
  have y1 := cellB hx2 1 rfl
  have y2 := cellB hx2 2 rfl
  have hz := ltB hx2
  clear hb hx2 x0 x1 x2 hx1 hb1
  (go_wp2_with fail; repeat (any_goals (go_quiet (fail); go_wp2_with fail)))
  all_goals
    go_ret
    exact ⟨by simp_all <;> omega, (by repeat (first | assumption | exact Below.refl _ _ | apply Below.drew | apply below_drewN | apply balloc | (refine Below.setCell ?_ (by first | omega | (simp <;> omega)) _)))⟩

set_option maxHeartbeats 1000000 in
set_option maxRecDepth 100000 in
theorem VT_bad {A : Nat → Addr} {B : Nat} (k n : Int) (t : ByteArray) (w : World) (hE : EnvN A B w) (hs : t.size ≤ 140737488351232) (hv : vCheck ⟨k, n, t⟩ ≠ 0) :
    Calls Tryd.prog 5 #[.agg #[.int .i64 k, .int .i64 n, .string t]] w fun e w' => e = .returned (.bool true) ∧ Below w.heap.size w w' := by
  have F := Lib.hid (fun w hE => fixed_calls (A := A) (B := B) w hE)
  have C := Lib.hid (fun w hE => Of_bad (A := A) (B := B) k n t w hs hE (by omega))
  generalize A (vCheck ⟨k, n, t⟩) = a at *
  go_enter Tryd.func5, Tryd.ntmps5
  (go_wp2_with fail; repeat (any_goals (go_quiet (fail); go_wp2_with fail)))
  refine (F.out _ (hE.next (by repeat (first | assumption | exact Below.refl _ _ | apply Below.drew | apply below_drewN | apply balloc | (refine Below.setCell ?_ (by first | omega | (simp <;> omega)) _))))).mono ?_
  rintro e w1 ⟨rfl, hb⟩
  have hb1 : Below w.heap.size w w1 := bcall (by repeat (first | assumption | exact Below.refl _ _ | apply Below.drew | apply below_drewN | apply balloc | (refine Below.setCell ?_ (by first | omega | (simp <;> omega)) _))) hb
  have hx1 := boxed hb
  have x0 := cellB hx1 0 rfl
  have x1 := cellB hx1 1 rfl
  have x2 := cellB hx1 2 rfl
  clear hb hx1
  (go_wp2_with fail; repeat (any_goals (go_quiet (fail); go_wp2_with fail)))
  refine (C.out _ (hE.env.next (by repeat (first | assumption | exact Below.refl _ _ | apply Below.drew | apply below_drewN | apply balloc | (refine Below.setCell ?_ (by first | omega | (simp <;> omega)) _))))).mono ?_
  rintro e w2 ⟨rfl, hb⟩
  have hb2 : Below w.heap.size w w2 := bcall (by repeat (first | assumption | exact Below.refl _ _ | apply Below.drew | apply below_drewN | apply balloc | (refine Below.setCell ?_ (by first | omega | (simp <;> omega)) _))) hb
  clear hb
  (go_wp2_with fail; repeat (any_goals (go_quiet (fail); go_wp2_with fail)))
  go_ret
  exact ⟨rfl, (by repeat (first | assumption | exact Below.refl _ _ | apply Below.drew | apply below_drewN | apply balloc | (refine Below.setCell ?_ (by first | omega | (simp <;> omega)) _)))⟩

theorem ValuesTypes_calls {A : Nat → Addr} {B : Nat} (k n : Int) (t : ByteArray) (w : World) (hs : t.size ≤ 140737488351232) (hE : EnvN A B w) :
    Calls Tryd.prog 5 #[.agg #[.int .i64 k, .int .i64 n, .string t]] w fun e w' => e = .returned (.bool true) ∧ Below w.heap.size w w' := by
  by_cases hv : vCheck ⟨k, n, t⟩ = 0
  · rcases good_cases hv with ⟨rfl, rfl, rfl⟩ | ⟨rfl, rfl, rfl⟩ | ⟨rfl, rfl, rfl⟩ | ⟨rfl, rfl⟩ | ⟨rfl, rfl, h⟩
    · exact VT_null w hE hs hv
    · exact VT_false w hE hs hv
    · exact VT_true w hE hs hv
    · exact VT_number n w hE hs hv
    · exact VT_text t w hE hs hv
  · exact VT_bad k n t w hE hs hv

end Go.Proofs.YtfdhklpabhhjjaaDoor
