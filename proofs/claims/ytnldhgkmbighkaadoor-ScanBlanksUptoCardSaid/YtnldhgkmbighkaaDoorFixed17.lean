/- The statements of chapter 17: the calls whose answers are fixed. -/
import Derived.Test.YtnldhgkmbighkaaDoorNumber
import Derived.Test.YtnldhgkmbighkaaDoorQuoteW
namespace Go.Proofs.YtnldhgkmbighkaaDoor
open Go Go.RowKit

def fx1 : ByteArray := ⟨#[91, 49, 44, 32, 34, 97, 34, 93]⟩
theorem fx1_some : someS fx1 = ([⟨8, 0, 1, noS⟩, ⟨4, 1, 2, noS⟩, ⟨11, 2, 3, noS⟩, ⟨5, 4, 7, ⟨#[97]⟩⟩, ⟨9, 7, 8, noS⟩], 0, 0) := by kernel_rfl
def fx2 : ByteArray := ⟨#[34, 92, 117, 100, 56, 48, 48, 34]⟩
theorem fx2_some : someS fx2 = ([], 1, 1) := by kernel_rfl
def fx3 : ByteArray := ⟨#[34, 92, 1]⟩
theorem fx3_utf : utfE fx3 = 0 := by kernel_rfl
theorem fx3_quote : quoteS fx3 = ⟨#[34, 92, 34, 92, 92, 92, 117, 48, 48, 48, 49, 34]⟩ := by kernel_rfl
def fx4 : ByteArray := ⟨#[34, 92, 117, 48, 48, 52, 49, 34]⟩
theorem fx4_some : someS fx4 = ([⟨5, 0, 8, ⟨#[65]⟩⟩], 0, 0) := by kernel_rfl
def fx5 : ByteArray := ⟨#[45, 49, 50]⟩
theorem fx5_num : numS fx5 = (-12, 0) := by kernel_rfl
/-- The fourth token of the first text. -/
def Tok3 (g : Nat) (w : World) : Prop := w.cell? ⟨g, 12, none⟩ = some (.int .i64 5) ∧ w.cell? ⟨g, 13, none⟩ = some (.int .i64 4) ∧ w.cell? ⟨g, 14, none⟩ = some (.int .i64 7) ∧ w.cell? ⟨g, 15, none⟩ = some (.string ⟨#[97]⟩)
theorem Tok3.next {g : Nat} {w w1 : World} (h : Tok3 g w) (hg : g < w.heap.size) (hb : Below w.heap.size w w1) : Tok3 g w1 :=
  ⟨(hb.cell (p := ⟨g, 12, none⟩) hg).trans h.1, (hb.cell (p := ⟨g, 13, none⟩) hg).trans h.2.1, (hb.cell (p := ⟨g, 14, none⟩) hg).trans h.2.2.1, (hb.cell (p := ⟨g, 15, none⟩) hg).trans h.2.2.2⟩
theorem fx_scan {A : Nat → Addr} {B : Nat} (w : World) (hE : Env A B SVN w) :
    Calls Tryd.prog 17 #[.string ⟨#[91, 49, 44, 32, 34, 97, 34, 93]⟩] w fun e w' => ∃ g cap, e = .returned (.tuple #[.slice (some ⟨g, 0, none⟩) 5 cap, .nilIface]) ∧ w.heap.size ≤ g ∧ (5 : Int) ≤ cap ∧
      Tok3 g w' ∧ g < w'.heap.size ∧ Below w.heap.size w w' := by
  refine (Scan_calls fx1 w (hE.sub (by decide)) (by decide)).mono fun e w' ⟨hr, hb⟩ => ?_
  rw [fx1_some] at hr
  unfold ScanR at hr
  rw [if_pos rfl] at hr
  obtain ⟨v, rfl, ho⟩ := hr
  have ho : OwnT w' w.heap.size v [⟨8, 0, 1, noS⟩, ⟨4, 1, 2, noS⟩, ⟨11, 2, 3, noS⟩, ⟨5, 4, 7, ⟨#[97]⟩⟩, ⟨9, 7, 8, noS⟩] := ho
  rcases ho.form with ⟨h, _⟩ | ⟨g, cap, rfl, hbg, hgl, hnl, hcm⟩
  · cases h
  · exact ⟨g, cap, rfl, hbg, by simp at hnl; omega, ho.at (j := 3) rfl, hgl, hb⟩
theorem fx_bad {A : Nat → Addr} {B : Nat} (w : World) (hE : Env A B SVN w) :
    Calls Tryd.prog 17 #[.string ⟨#[34, 92, 117, 100, 56, 48, 48, 34]⟩] w fun e w' => ∃ g, e = .returned (.tuple #[.slice none 0 0, .iface 34 (.pointer (some ⟨g, 0, none⟩))]) ∧ w.heap.size ≤ g ∧ AtB 1 (.iface 203 (.pointer (some (A 1)))) g w' ∧ Below w.heap.size w w' := by
  refine (Scan_calls fx2 w (hE.sub (by decide)) (by decide)).mono fun e w' ⟨hr, hb⟩ => ?_
  rw [fx2_some] at hr
  unfold ScanR at hr
  rw [if_neg (by simp)] at hr
  obtain ⟨g, hg, rfl, hat⟩ := hr
  exact ⟨g, rfl, hg, hat, hb⟩
theorem fx_quote {A : Nat → Addr} {B : Nat} (w : World) (hE : Env A B SVN w) :
    Calls Tryd.prog 13 #[.string ⟨#[34, 92, 1]⟩] w fun e w' => e = .returned (.tuple #[.string ⟨#[34, 92, 34, 92, 92, 92, 117, 48, 48, 48, 49, 34]⟩, .nilIface]) ∧ Below w.heap.size w w' := by
  refine (Quote_calls fx3 w (hE.sub (by decide)) (by decide)).mono fun e w' ⟨hr, hb⟩ => ⟨?_, hb⟩
  rw [hr, if_pos fx3_utf, fx3_quote]
theorem fx_unq {A : Nat → Addr} {B : Nat} (w : World) (hE : Env A B SVN w) :
    Calls Tryd.prog 16 #[.string ⟨#[34, 92, 117, 48, 48, 52, 49, 34]⟩] w fun e w' => e = .returned (.tuple #[.string ⟨#[65]⟩, .nilIface]) ∧ Below w.heap.size w w' := by
  refine (Unquote_calls fx4 w (hE.sub (by decide)) (by decide)).mono fun e w' ⟨hr, hb⟩ => ⟨?_, hb⟩
  unfold UnqR at hr
  rw [fx4_some] at hr
  rcases hr with ⟨_, _, T, h2, rfl⟩ | ⟨_, h, _⟩ | ⟨h, _⟩
  · simp only [List.cons.injEq, and_true] at h2
    rw [← h2]
  · exact absurd h (by decide)
  · exact absurd rfl h
theorem fx_num {A : Nat → Addr} {B : Nat} (w : World) (hE : Env A B SVN w) :
    Calls Tryd.prog 31 #[.string ⟨#[45, 49, 50]⟩] w fun e w' => e = .returned (.tuple #[.int .i64 (-12), .nilIface]) ∧ Below w.heap.size w w' := by
  refine (Number_calls fx5 w (hE.sub (by decide)) (by decide)).mono fun e w' ⟨hr, hb⟩ => ⟨?_, hb⟩
  rw [hr, fx5_num]
  rfl
set_option maxHeartbeats 2000000 in
set_option maxRecDepth 100000 in
theorem fixed17 {A : Nat → Addr} {B : Nat} (w : World) (hE : Env A B SVN w) :
    Calls Tryd.prog 12 #[] w fun e w' => e = .returned (.bool true) ∧ Below w.heap.size w w' := by
  have neq := neqTk_same
  go_enter Tryd.func12, Tryd.ntmps12
  (go_wp2_with fail; repeat (any_goals (go_quiet (fail); go_wp2_with fail)))
  refine (fx_scan _ (hE.next (by repeat (first | assumption | exact Below.refl _ _ | apply Below.drew | apply below_drewN | apply balloc | (refine Below.setCell ?_ (by first | omega | (simp <;> omega)) _))))).mono ?_
  rintro e w1 ⟨g, cap, rfl, hg, hcap, hc, hgl, hb⟩
  have hb1 : Below w.heap.size w w1 := bcall (by repeat (first | assumption | exact Below.refl _ _ | apply Below.drew | apply below_drewN | apply balloc | (refine Below.setCell ?_ (by first | omega | (simp <;> omega)) _))) hb
  clear hb
  replace hc := Lib.hid hc
  (go_wp2_with fail; repeat (any_goals (go_quiet (fail); go_wp2_with fail)))
  refine (fx_bad _ (hE.next hb1)).mono ?_
  rintro e w2 ⟨g2, rfl, hg2, hat, hb⟩
  have hb2 : Below w.heap.size w w2 := bcall hb1 hb
  replace hc := Lib.hid (hc.out.next hgl hb)
  have hgl2 : g < w2.heap.size := Nat.lt_of_lt_of_le hgl hb.size
  clear hb hb1 hgl
  replace hat := Lib.hid hat
  (go_wp2_with fail; repeat (any_goals (go_quiet (fail); go_wp2_with fail)))
  refine (Place_at 1 1 g2 _ (by decide) (by decide) (hE.next hb2) hat.out).mono ?_
  rintro e w3 ⟨rfl, hb⟩
  have hb3 : Below w.heap.size w w3 := bcall hb2 hb
  obtain ⟨z0, z1, z2, z3⟩ := hc.out.next hgl2 hb
  clear hb hb2 hgl2
  (go_wp2_with fail; repeat (any_goals (go_quiet (fail); go_wp2_with fail)))
  refine (fx_quote _ (hE.next (by repeat (first | assumption | exact Below.refl _ _ | apply Below.drew | apply below_drewN | apply balloc | (refine Below.setCell ?_ (by first | omega | (simp <;> omega)) _))))).mono ?_
  rintro e w4 ⟨rfl, hb⟩
  have hb4 : Below w.heap.size w w4 := bcall (by repeat (first | assumption | exact Below.refl _ _ | apply Below.drew | apply below_drewN | apply balloc | (refine Below.setCell ?_ (by first | omega | (simp <;> omega)) _))) hb
  clear hb hb3 z0 z1 z2 z3
  (go_wp2_with fail; repeat (any_goals (go_quiet (fail); go_wp2_with fail)))
  refine (fx_unq _ (hE.next (by repeat (first | assumption | exact Below.refl _ _ | apply Below.drew | apply below_drewN | apply balloc | (refine Below.setCell ?_ (by first | omega | (simp <;> omega)) _))))).mono ?_
  rintro e w5 ⟨rfl, hb⟩
  have hb5 : Below w.heap.size w w5 := bcall (by repeat (first | assumption | exact Below.refl _ _ | apply Below.drew | apply below_drewN | apply balloc | (refine Below.setCell ?_ (by first | omega | (simp <;> omega)) _))) hb
  clear hb hb4
  (go_wp2_with fail; repeat (any_goals (go_quiet (fail); go_wp2_with fail)))
  refine (fx_num _ (hE.next (by repeat (first | assumption | exact Below.refl _ _ | apply Below.drew | apply below_drewN | apply balloc | (refine Below.setCell ?_ (by first | omega | (simp <;> omega)) _))))).mono ?_
  rintro e w6 ⟨rfl, hb⟩
  have hb6 : Below w.heap.size w w6 := bcall (by repeat (first | assumption | exact Below.refl _ _ | apply Below.drew | apply below_drewN | apply balloc | (refine Below.setCell ?_ (by first | omega | (simp <;> omega)) _))) hb
  clear hb hb5
  (go_wp2_with fail; repeat (any_goals (go_quiet (fail); go_wp2_with fail)))
  go_ret
  exact ⟨rfl, (by repeat (first | assumption | exact Below.refl _ _ | apply Below.drew | apply below_drewN | apply balloc | (refine Below.setCell ?_ (by first | omega | (simp <;> omega)) _)))⟩

end Go.Proofs.YtnldhgkmbighkaaDoor
