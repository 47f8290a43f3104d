/- The statements of layer 2, begun: the calls that the document fixes. -/
import Derived.Test.YtfdhklpabhhjjaaGreatDoorValues3
namespace Go.Proofs.YtfdhklpabhhjjaaGreatDoor
open Go Go.RowKit

theorem ex_parse1 : vParse ⟨#[39, 105, 116, 39, 115]⟩ = (⟨3, 0, ⟨#[105, 116, 39, 115]⟩⟩, 0) := by kernel_rfl
theorem ex_parse2 : vParse ⟨#[45, 48]⟩ = (⟨0, 0, ⟨#[]⟩⟩, 5) := by kernel_rfl
theorem ex_text1 : vText ⟨1, 1, ⟨#[]⟩⟩ = ⟨#[116, 114, 117, 101]⟩ := by kernel_rfl
theorem ex_of1 : vCheck ⟨2, -5, ⟨#[]⟩⟩ = 0 := by kernel_rfl
theorem ex_ck1 : vCheck ⟨4, 0, ⟨#[]⟩⟩ = 5 := by kernel_rfl
theorem ex_ck2 : vCheck ⟨1, 1, ⟨#[]⟩⟩ = 0 := by kernel_rfl
set_option maxHeartbeats 1000000 in
set_option maxRecDepth 100000 in
theorem fixed_calls {A : Nat → Addr} {B : Nat} (w : World) (hE : EnvN A B w) :
    Calls Tryz.prog 18 #[] w fun e w' => e = .returned (.bool true) ∧ Below w.heap.size w w' := by
  have C1 := Lib.hid (fun w hE => Of_ok (A := A) (B := B) 2 (-5) ⟨#[]⟩ w (by decide) hE ex_of1)
  have C2 := Lib.hid (fun w hE => Parse_calls (A := A) (B := B) ⟨#[39, 105, 116, 39, 115]⟩ w (by decide) hE)
  have C3 := Lib.hid (fun w hE => Text_ok (A := A) (B := B) 1 1 ⟨#[]⟩ w (by decide) (by decide) (by decide) hE ex_ck2)
  have C4 := Lib.hid (fun w hE => Parse_calls (A := A) (B := B) ⟨#[45, 48]⟩ w (by decide) hE)
  have C5 := Lib.hid (fun w hE => Check_calls (A := A) (B := B) 4 0 ⟨#[]⟩ w (by decide) hE)
  rw [ex_parse1] at C2
  rw [ex_parse2] at C4
  rw [ex_text1] at C3
  rw [ex_ck1] at C5
  simp only [valV, ansV, errV] at C1 C2 C4 C5
  go_enter Tryz.func18, Tryz.ntmps18
  (go_wp2_with fail; repeat (any_goals (go_quiet (fail); go_wp2_with fail)))
  refine (C1.out _ (hE.env.next (by repeat (first | assumption | exact Below.refl _ _ | apply Below.drew | apply below_drewN | apply balloc | (refine Below.setCell ?_ (by first | omega | (simp <;> omega)) _))))).mono ?_
  rintro e w1 ⟨rfl, hb⟩
  have hb1 : Below w.heap.size w w1 := bcall (by repeat (first | assumption | exact Below.refl _ _ | apply Below.drew | apply below_drewN | apply balloc | (refine Below.setCell ?_ (by first | omega | (simp <;> omega)) _))) hb
  clear hb
  (go_wp2_with fail; repeat (any_goals (go_quiet (fail); go_wp2_with fail)))
  refine (kindNumber _ _).mono ?_
  rintro e w2 ⟨rfl, hb⟩
  have hb2 : Below w.heap.size w w2 := bcall hb1 hb
  clear hb hb1
  (go_wp2_with fail; repeat (any_goals (go_quiet (fail); go_wp2_with fail)))
  refine (plainNumber _ _).mono ?_
  rintro e w3 ⟨rfl, hb⟩
  have hb3 : Below w.heap.size w w3 := bcall hb2 hb
  clear hb hb2
  (go_wp2_with fail; repeat (any_goals (go_quiet (fail); go_wp2_with fail)))
  refine (C2.out _ (hE.env.next hb3)).mono ?_
  rintro e w4 ⟨rfl, hb⟩
  have hb4 : Below w.heap.size w w4 := bcall hb3 hb
  clear hb hb3
  (go_wp2_with fail; repeat (any_goals (go_quiet (fail); go_wp2_with fail)))
  refine (C3.out _ (hE.next hb4)).mono ?_
  rintro e w5 ⟨rfl, hb⟩
  have hb5 : Below w.heap.size w w5 := bcall hb4 hb
  clear hb hb4
  (go_wp2_with fail; repeat (any_goals (go_quiet (fail); go_wp2_with fail)))
  refine (C4.out _ (hE.env.next hb5)).mono ?_
  rintro e w6 ⟨rfl, hb⟩
  have hb6 : Below w.heap.size w w6 := bcall hb5 hb
  clear hb hb5
  (go_wp2_with fail; repeat (any_goals (go_quiet (fail); go_wp2_with fail)))
  have c5 := (hE.env.next hb6).e5
  clear C1 C2 C3 C4
  go_region_held3 (fun w' => w'.cell? ⟨1, 0, none⟩ = some (.iface 264 (.pointer (some (A 5)))) ∧ Below w.heap.size w w') (exact (fun (h : Below w.heap.size w _) => ⟨(hE.env.next h).e5, h⟩) (by repeat (first | assumption | exact Below.refl _ _ | apply Below.drew | apply below_drewN | apply balloc | (refine Below.setCell ?_ (by first | omega | (simp <;> omega)) _)))) (first | (go_at_call 205; refine (plainText _ _).mono ?_; rintro e w7 ⟨rfl, hb⟩; have hb : Below w.heap.size w w7 := bcall (by repeat (first | assumption | exact Below.refl _ _ | apply Below.drew | apply below_drewN | apply balloc | (refine Below.setCell ?_ (by first | omega | (simp <;> omega)) _))) hb) | (go_at_call 22; refine (C5.out _ (hE.env.next (by repeat (first | assumption | exact Below.refl _ _ | apply Below.drew | apply below_drewN | apply balloc | (refine Below.setCell ?_ (by first | omega | (simp <;> omega)) _))))).mono ?_; rintro e w8 ⟨rfl, hb⟩; have hb : Below w.heap.size w w8 := bcall (by repeat (first | assumption | exact Below.refl _ _ | apply Below.drew | apply below_drewN | apply balloc | (refine Below.setCell ?_ (by first | omega | (simp <;> omega)) _))) hb))
  all_goals
    (go_wp2_with fail; repeat (any_goals (go_quiet (fail); go_wp2_with fail)))
    go_ret
    exact ⟨rfl, (by repeat (first | assumption | exact Below.refl _ _ | apply Below.drew | apply below_drewN | apply balloc | (refine Below.setCell ?_ (by first | omega | (simp <;> omega)) _)))⟩

end Go.Proofs.YtfdhklpabhhjjaaGreatDoor
