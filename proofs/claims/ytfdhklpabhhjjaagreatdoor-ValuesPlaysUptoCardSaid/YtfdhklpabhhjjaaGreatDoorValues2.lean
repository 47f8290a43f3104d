/- Package values, on: the values of the interface. -/
import Derived.Test.YtfdhklpabhhjjaaGreatDoorValues
namespace Go.Proofs.YtfdhklpabhhjjaaGreatDoor
open Go Go.RowKit

/-- A good plain value as a value of the interface. -/
def valV (p : Pl) : Value :=
  if p.kind = 1 then .iface 152 (.bool (p.num == 1))
  else if p.kind = 2 then .iface 157 (.int .i64 p.num)
  else if p.kind = 3 then .iface 158 (.string p.text)
  else .iface 151 (.agg #[])

set_option maxHeartbeats 1000000 in
theorem value_calls (k n : Int) (t : ByteArray) (w : World) :
    Calls Tryz.prog 46 #[.agg #[.int .i64 k, .int .i64 n, .string t]] w fun e w' => e = .returned (valV ⟨k, n, t⟩) ∧ Below w.heap.size w w' := by
  go_enter Tryz.func46, Tryz.ntmps46
  (go_wp2_with fail; repeat (any_goals (go_quiet (fail); go_wp2_with fail)))
  all_goals
    go_ret
    exact ⟨by simp_all [valV], (by repeat (first | assumption | exact Below.refl _ _ | apply Below.drew | apply below_drewN | apply balloc | (refine Below.setCell ?_ (by first | omega | (simp <;> omega)) _)))⟩

set_option maxHeartbeats 1000000 in
theorem Of_ok {A : Nat → Addr} {B : Nat} (k n : Int) (t : ByteArray) (w : World) (hs : t.size ≤ 140737488351232) (hE : Env A B SV w) (h : vCheck ⟨k, n, t⟩ = 0) :
    Calls Tryz.prog 20 #[.agg #[.int .i64 k, .int .i64 n, .string t]] w fun e w' => e = .returned (.tuple #[valV ⟨k, n, t⟩, .nilIface]) ∧ Below w.heap.size w w' := by
  have H := Lib.hid h
  clear h
  go_enter Tryz.func20, Tryz.ntmps20
  (go_wp2_with fail; repeat (any_goals (go_quiet (fail); go_wp2_with fail)))
  refine (Check_calls _ _ _ _ hs (hE.next (by repeat (first | assumption | exact Below.refl _ _ | apply Below.drew | apply below_drewN | apply balloc | (refine Below.setCell ?_ (by first | omega | (simp <;> omega)) _))))).mono ?_
  rintro e w1 ⟨rfl, hb⟩
  rw [H.out, errV_zero]
  have hb1 : Below w.heap.size w w1 := bcall (by repeat (first | assumption | exact Below.refl _ _ | apply Below.drew | apply below_drewN | apply balloc | (refine Below.setCell ?_ (by first | omega | (simp <;> omega)) _))) hb
  obtain ⟨hc, hf⟩ := bcell hb
  clear hb
  (go_wp2_with fail; repeat (any_goals (go_quiet (fail); go_wp2_with fail)))
  refine (value_calls _ _ _ _).mono ?_
  rintro e w2 ⟨rfl, hb⟩
  have hb2 : Below w.heap.size w w2 := bcall hb1 hb
  clear hb hc hf
  (go_wp2_with fail; repeat (any_goals (go_quiet (fail); go_wp2_with fail)))
  go_ret2
  exact ⟨rfl, hb2⟩

set_option maxHeartbeats 1000000 in
theorem Of_bad {A : Nat → Addr} {B : Nat} (k n : Int) (t : ByteArray) (w : World) (hs : t.size ≤ 140737488351232) (hE : Env A B SV w) (h : 0 < vCheck ⟨k, n, t⟩) :
    Calls Tryz.prog 20 #[.agg #[.int .i64 k, .int .i64 n, .string t]] w fun e w' => e = .returned (.tuple #[.nilIface, .iface 264 (.pointer (some (A (vCheck ⟨k, n, t⟩))))]) ∧ Below w.heap.size w w' := by
  obtain ⟨a, ha⟩ : ∃ a, A (vCheck ⟨k, n, t⟩) = a := ⟨_, rfl⟩
  have C := @Check_calls A B k n t
  simp only [errV_pos A h, ha] at C ⊢
  have HC := Lib.hid C
  clear C h ha
  go_enter Tryz.func20, Tryz.ntmps20
  (go_wp2_with fail; repeat (any_goals (go_quiet (fail); go_wp2_with fail)))
  refine (HC.out _ hs (hE.next (by repeat (first | assumption | exact Below.refl _ _ | apply Below.drew | apply below_drewN | apply balloc | (refine Below.setCell ?_ (by first | omega | (simp <;> omega)) _))))).mono ?_
  rintro e w1 ⟨rfl, hb⟩
  have hb1 : Below w.heap.size w w1 := bcall (by repeat (first | assumption | exact Below.refl _ _ | apply Below.drew | apply below_drewN | apply balloc | (refine Below.setCell ?_ (by first | omega | (simp <;> omega)) _))) hb
  clear hb
  (go_wp2_with fail; repeat (any_goals (go_quiet (fail); go_wp2_with fail)))
  go_ret2
  exact ⟨rfl, hb1⟩

/-- The methods of the values: their kind, and the plain value. -/
theorem kindNull (w : World) : Calls Tryz.prog 198 #[.agg #[]] w fun e w' => e = .returned (.int .i64 0) ∧ Below w.heap.size w w' := by
  go_enter Tryz.func198, Tryz.ntmps198
  (go_wp2_with fail; repeat (any_goals (go_quiet (fail); go_wp2_with fail)))
  go_ret
  exact ⟨rfl, (by repeat (first | assumption | exact Below.refl _ _ | apply Below.drew | apply below_drewN | apply balloc | (refine Below.setCell ?_ (by first | omega | (simp <;> omega)) _)))⟩
theorem kindFlag (b : Bool) (w : World) : Calls Tryz.prog 200 #[.bool b] w fun e w' => e = .returned (.int .i64 1) ∧ Below w.heap.size w w' := by
  go_enter Tryz.func200, Tryz.ntmps200
  (go_wp2_with fail; repeat (any_goals (go_quiet (fail); go_wp2_with fail)))
  go_ret
  exact ⟨rfl, (by repeat (first | assumption | exact Below.refl _ _ | apply Below.drew | apply below_drewN | apply balloc | (refine Below.setCell ?_ (by first | omega | (simp <;> omega)) _)))⟩
theorem kindNumber (n : Int) (w : World) : Calls Tryz.prog 202 #[.int .i64 n] w fun e w' => e = .returned (.int .i64 2) ∧ Below w.heap.size w w' := by
  go_enter Tryz.func202, Tryz.ntmps202
  (go_wp2_with fail; repeat (any_goals (go_quiet (fail); go_wp2_with fail)))
  go_ret
  exact ⟨rfl, (by repeat (first | assumption | exact Below.refl _ _ | apply Below.drew | apply below_drewN | apply balloc | (refine Below.setCell ?_ (by first | omega | (simp <;> omega)) _)))⟩
theorem kindText (t : ByteArray) (w : World) : Calls Tryz.prog 204 #[.string t] w fun e w' => e = .returned (.int .i64 3) ∧ Below w.heap.size w w' := by
  go_enter Tryz.func204, Tryz.ntmps204
  (go_wp2_with fail; repeat (any_goals (go_quiet (fail); go_wp2_with fail)))
  go_ret
  exact ⟨rfl, (by repeat (first | assumption | exact Below.refl _ _ | apply Below.drew | apply below_drewN | apply balloc | (refine Below.setCell ?_ (by first | omega | (simp <;> omega)) _)))⟩
theorem plainNull (w : World) : Calls Tryz.prog 199 #[.agg #[]] w fun e w' => e = .returned (.agg #[.int .i64 0, .int .i64 0, .string ⟨#[]⟩]) ∧ Below w.heap.size w w' := by
  go_enter Tryz.func199, Tryz.ntmps199
  (go_wp2_with fail; repeat (any_goals (go_quiet (fail); go_wp2_with fail)))
  exact bodyPost_ret (v := .agg #[.int .i64 0, .int .i64 0, .string ⟨#[]⟩]) (by simp [results, Tryz.results199, go_sem]) rfl ⟨rfl, (by repeat (first | assumption | exact Below.refl _ _ | apply Below.drew | apply below_drewN | apply balloc | (refine Below.setCell ?_ (by first | omega | (simp <;> omega)) _)))⟩
theorem plainFlag (b : Bool) (w : World) : Calls Tryz.prog 201 #[.bool b] w fun e w' => e = .returned (.agg #[.int .i64 1, .int .i64 (if b then 1 else 0), .string ⟨#[]⟩]) ∧ Below w.heap.size w w' := by
  cases b
  · go_enter Tryz.func201, Tryz.ntmps201
    (go_wp2_with fail; repeat (any_goals (go_quiet (fail); go_wp2_with fail)))
    exact bodyPost_ret (v := .agg #[.int .i64 1, .int .i64 0, .string ⟨#[]⟩]) (by simp [results, Tryz.results201, go_sem]) rfl ⟨rfl, (by repeat (first | assumption | exact Below.refl _ _ | apply Below.drew | apply below_drewN | apply balloc | (refine Below.setCell ?_ (by first | omega | (simp <;> omega)) _)))⟩
  · go_enter Tryz.func201, Tryz.ntmps201
    (go_wp2_with fail; repeat (any_goals (go_quiet (fail); go_wp2_with fail)))
    exact bodyPost_ret (v := .agg #[.int .i64 1, .int .i64 1, .string ⟨#[]⟩]) (by simp [results, Tryz.results201, go_sem]) rfl ⟨rfl, (by repeat (first | assumption | exact Below.refl _ _ | apply Below.drew | apply below_drewN | apply balloc | (refine Below.setCell ?_ (by first | omega | (simp <;> omega)) _)))⟩
theorem plainNumber (n : Int) (w : World) : Calls Tryz.prog 203 #[.int .i64 n] w fun e w' => e = .returned (.agg #[.int .i64 2, .int .i64 n, .string ⟨#[]⟩]) ∧ Below w.heap.size w w' := by
  go_enter Tryz.func203, Tryz.ntmps203
  (go_wp2_with fail; repeat (any_goals (go_quiet (fail); go_wp2_with fail)))
  exact bodyPost_ret (v := .agg #[.int .i64 2, .int .i64 n, .string ⟨#[]⟩]) (by simp [results, Tryz.results203, go_sem]) rfl ⟨rfl, (by repeat (first | assumption | exact Below.refl _ _ | apply Below.drew | apply below_drewN | apply balloc | (refine Below.setCell ?_ (by first | omega | (simp <;> omega)) _)))⟩
theorem plainText (t : ByteArray) (w : World) : Calls Tryz.prog 205 #[.string t] w fun e w' => e = .returned (.agg #[.int .i64 3, .int .i64 0, .string t]) ∧ Below w.heap.size w w' := by
  go_enter Tryz.func205, Tryz.ntmps205
  (go_wp2_with fail; repeat (any_goals (go_quiet (fail); go_wp2_with fail)))
  exact bodyPost_ret (v := .agg #[.int .i64 3, .int .i64 0, .string t]) (by simp [results, Tryz.results205, go_sem]) rfl ⟨rfl, (by repeat (first | assumption | exact Below.refl _ _ | apply Below.drew | apply below_drewN | apply balloc | (refine Below.setCell ?_ (by first | omega | (simp <;> omega)) _)))⟩

end Go.Proofs.YtfdhklpabhhjjaaGreatDoor
