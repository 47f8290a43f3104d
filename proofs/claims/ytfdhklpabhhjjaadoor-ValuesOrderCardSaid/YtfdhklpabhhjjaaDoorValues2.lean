/- Package values, on: the values of the interface. -/
import Derived.Test.YtfdhklpabhhjjaaDoorValues
namespace Go.Proofs.YtfdhklpabhhjjaaDoor
open Go Go.RowKit

/-- A good plain value as a value of the interface. -/
def valV (p : Pl) : Value :=
  if p.kind = 1 then .iface 54 (.bool (p.num == 1))
  else if p.kind = 2 then .iface 55 (.int .i64 p.num)
  else if p.kind = 3 then .iface 56 (.string p.text)
  else .iface 53 (.agg #[])

set_option maxHeartbeats 1000000 in
theorem value_calls (k n : Int) (t : ByteArray) (w : World) :
    Calls Tryd.prog 38 #[.agg #[.int .i64 k, .int .i64 n, .string t]] w fun e w' => e = .returned (valV ⟨k, n, t⟩) ∧ Below w.heap.size w w' := by
  go_enter Tryd.func38, Tryd.ntmps38
  (go_wp2_with fail; repeat (any_goals (go_quiet (fail); go_wp2_with fail)))
  all_goals
    go_ret
    exact ⟨by simp_all [valV], (by repeat (first | assumption | exact Below.refl _ _ | apply Below.drew | apply below_drewN | apply balloc | (refine Below.setCell ?_ (by first | omega | (simp <;> omega)) _)))⟩

set_option maxHeartbeats 1000000 in
theorem Of_ok {A : Nat → Addr} {B : Nat} (k n : Int) (t : ByteArray) (w : World) (hs : t.size ≤ 140737488351232) (hE : Env A B SV w) (h : vCheck ⟨k, n, t⟩ = 0) :
    Calls Tryd.prog 18 #[.agg #[.int .i64 k, .int .i64 n, .string t]] w fun e w' => e = .returned (.tuple #[valV ⟨k, n, t⟩, .nilIface]) ∧ Below w.heap.size w w' := by
  have H := Lib.hid h
  clear h
  go_enter Tryd.func18, Tryd.ntmps18
  (go_wp2_with fail; repeat (any_goals (go_quiet (fail); go_wp2_with fail)))
  refine (Check_calls _ _ _ _ hs (hE.next (by repeat (first | assumption | exact Below.refl _ _ | apply Below.drew | apply below_drewN | apply balloc | (refine Below.setCell ?_ (by first | omega | (simp <;> omega)) _))))).mono ?_
  rintro e w1 ⟨rfl, hb⟩
  rw [H.out, errV_zero]
  have hb1 : Below w.heap.size w w1 := bcall (by repeat (first | assumption | exact Below.refl _ _ | apply Below.drew | apply below_drewN | apply balloc | (refine Below.setCell ?_ (by first | omega | (simp <;> omega)) _))) hb
  obtain ⟨hc, hf⟩ := bcell hb
  clear hb
  (go_wp2_with fail; repeat (any_goals (go_quiet (fail); go_wp2_with fail)))
  refine (value_calls _ _ _ _).mono ?_
  rintro e w2 ⟨rfl, hb⟩
  have hb2 : Below w.heap.size w w2 := bcall hb1 hb
  clear hb hc hf
  (go_wp2_with fail; repeat (any_goals (go_quiet (fail); go_wp2_with fail)))
  go_ret2
  exact ⟨rfl, hb2⟩

set_option maxHeartbeats 1000000 in
theorem Of_bad {A : Nat → Addr} {B : Nat} (k n : Int) (t : ByteArray) (w : World) (hs : t.size ≤ 140737488351232) (hE : Env A B SV w) (h : 0 < vCheck ⟨k, n, t⟩) :
    Calls Tryd.prog 18 #[.agg #[.int .i64 k, .int .i64 n, .string t]] w fun e w' => e = .returned (.tuple #[.nilIface, .iface 226 (.pointer (some (A (vCheck ⟨k, n, t⟩))))]) ∧ Below w.heap.size w w' := by
  obtain ⟨a, ha⟩ : ∃ a, A (vCheck ⟨k, n, t⟩) = a := ⟨_, rfl⟩
  have C := @Check_calls A B k n t
  simp only [errV_pos A h, ha] at C ⊢
  have HC := Lib.hid C
  clear C h ha
  go_enter Tryd.func18, Tryd.ntmps18
  (go_wp2_with fail; repeat (any_goals (go_quiet (fail); go_wp2_with fail)))
  refine (HC.out _ hs (hE.next (by repeat (first | assumption | exact Below.refl _ _ | apply Below.drew | apply below_drewN | apply balloc | (refine Below.setCell ?_ (by first | omega | (simp <;> omega)) _))))).mono ?_
  rintro e w1 ⟨rfl, hb⟩
  have hb1 : Below w.heap.size w w1 := bcall (by repeat (first | assumption | exact Below.refl _ _ | apply Below.drew | apply below_drewN | apply balloc | (refine Below.setCell ?_ (by first | omega | (simp <;> omega)) _))) hb
  clear hb
  (go_wp2_with fail; repeat (any_goals (go_quiet (fail); go_wp2_with fail)))
  go_ret2
  exact ⟨rfl, hb1⟩

/-- The methods of the values: their kind, and the plain value. -/
theorem kindNull (w : World) : Calls Tryd.prog 178 #[.agg #[]] w fun e w' => e = .returned (.int .i64 0) ∧ Below w.heap.size w w' := by
  go_enter Tryd.func178, Tryd.ntmps178
  (go_wp2_with fail; repeat (any_goals (go_quiet (fail); go_wp2_with fail)))
  go_ret
  exact ⟨rfl, (by repeat (first | assumption | exact Below.refl _ _ | apply Below.drew | apply below_drewN | apply balloc | (refine Below.setCell ?_ (by first | omega | (simp <;> omega)) _)))⟩
theorem kindFlag (b : Bool) (w : World) : Calls Tryd.prog 180 #[.bool b] w fun e w' => e = .returned (.int .i64 1) ∧ Below w.heap.size w w' := by
  go_enter Tryd.func180, Tryd.ntmps180
  (go_wp2_with fail; repeat (any_goals (go_quiet (fail); go_wp2_with fail)))
  go_ret
  exact ⟨rfl, (by repeat (first | assumption | exact Below.refl _ _ | apply Below.drew | apply below_drewN | apply balloc | (refine Below.setCell ?_ (by first | omega | (simp <;> omega)) _)))⟩
theorem kindNumber (n : Int) (w : World) : Calls Tryd.prog 182 #[.int .i64 n] w fun e w' => e = .returned (.int .i64 2) ∧ Below w.heap.size w w' := by
  go_enter Tryd.func182, Tryd.ntmps182
  (go_wp2_with fail; repeat (any_goals (go_quiet (fail); go_wp2_with fail)))
  go_ret
  exact ⟨rfl, (by repeat (first | assumption | exact Below.refl _ _ | apply Below.drew | apply below_drewN | apply balloc | (refine Below.setCell ?_ (by first | omega | (simp <;> omega)) _)))⟩
theorem kindText (t : ByteArray) (w : World) : Calls Tryd.prog 184 #[.string t] w fun e w' => e = .returned (.int .i64 3) ∧ Below w.heap.size w w' := by
  go_enter Tryd.func184, Tryd.ntmps184
  (go_wp2_with fail; repeat (any_goals (go_quiet (fail); go_wp2_with fail)))
  go_ret
  exact ⟨rfl, (by repeat (first | assumption | exact Below.refl _ _ | apply Below.drew | apply below_drewN | apply balloc | (refine Below.setCell ?_ (by first | omega | (simp <;> omega)) _)))⟩
theorem plainNull (w : World) : Calls Tryd.prog 179 #[.agg #[]] w fun e w' => e = .returned (.agg #[.int .i64 0, .int .i64 0, .string ⟨#[]⟩]) ∧ Below w.heap.size w w' := by
  go_enter Tryd.func179, Tryd.ntmps179
  (go_wp2_with fail; repeat (any_goals (go_quiet (fail); go_wp2_with fail)))
  exact bodyPost_ret (v := .agg #[.int .i64 0, .int .i64 0, .string ⟨#[]⟩]) (by simp [results, Tryd.results179, go_sem]) rfl ⟨rfl, (by repeat (first | assumption | exact Below.refl _ _ | apply Below.drew | apply below_drewN | apply balloc | (refine Below.setCell ?_ (by first | omega | (simp <;> omega)) _)))⟩
theorem plainFlag (b : Bool) (w : World) : Calls Tryd.prog 181 #[.bool b] w fun e w' => e = .returned (.agg #[.int .i64 1, .int .i64 (if b then 1 else 0), .string ⟨#[]⟩]) ∧ Below w.heap.size w w' := by
  cases b
  · go_enter Tryd.func181, Tryd.ntmps181
    (go_wp2_with fail; repeat (any_goals (go_quiet (fail); go_wp2_with fail)))
    exact bodyPost_ret (v := .agg #[.int .i64 1, .int .i64 0, .string ⟨#[]⟩]) (by simp [results, Tryd.results181, go_sem]) rfl ⟨rfl, (by repeat (first | assumption | exact Below.refl _ _ | apply Below.drew | apply below_drewN | apply balloc | (refine Below.setCell ?_ (by first | omega | (simp <;> omega)) _)))⟩
  · go_enter Tryd.func181, Tryd.ntmps181
    (go_wp2_with fail; repeat (any_goals (go_quiet (fail); go_wp2_with fail)))
    exact bodyPost_ret (v := .agg #[.int .i64 1, .int .i64 1, .string ⟨#[]⟩]) (by simp [results, Tryd.results181, go_sem]) rfl ⟨rfl, (by repeat (first | assumption | exact Below.refl _ _ | apply Below.drew | apply below_drewN | apply balloc | (refine Below.setCell ?_ (by first | omega | (simp <;> omega)) _)))⟩
theorem plainNumber (n : Int) (w : World) : Calls Tryd.prog 183 #[.int .i64 n] w fun e w' => e = .returned (.agg #[.int .i64 2, .int .i64 n, .string ⟨#[]⟩]) ∧ Below w.heap.size w w' := by
  go_enter Tryd.func183, Tryd.ntmps183
  (go_wp2_with fail; repeat (any_goals (go_quiet (fail); go_wp2_with fail)))
  exact bodyPost_ret (v := .agg #[.int .i64 2, .int .i64 n, .string ⟨#[]⟩]) (by simp [results, Tryd.results183, go_sem]) rfl ⟨rfl, (by repeat (first | assumption | exact Below.refl _ _ | apply Below.drew | apply below_drewN | apply balloc | (refine Below.setCell ?_ (by first | omega | (simp <;> omega)) _)))⟩
theorem plainText (t : ByteArray) (w : World) : Calls Tryd.prog 185 #[.string t] w fun e w' => e = .returned (.agg #[.int .i64 3, .int .i64 0, .string t]) ∧ Below w.heap.size w w' := by
  go_enter Tryd.func185, Tryd.ntmps185
  (go_wp2_with fail; repeat (any_goals (go_quiet (fail); go_wp2_with fail)))
  exact bodyPost_ret (v := .agg #[.int .i64 3, .int .i64 0, .string t]) (by simp [results, Tryd.results185, go_sem]) rfl ⟨rfl, (by repeat (first | assumption | exact Below.refl _ _ | apply Below.drew | apply below_drewN | apply balloc | (refine Below.setCell ?_ (by first | omega | (simp <;> omega)) _)))⟩

end Go.Proofs.YtfdhklpabhhjjaaDoor
