/- Package values: the walks. -/
import Derived.Test.YtfdhklpabhhjjaaGreatDoorScalars
namespace Go.Proofs.YtfdhklpabhhjjaaGreatDoor
open Go Go.RowKit
abbrev SV : List Nat := [1, 4, 5, 10, 20, 21]

/-- A plain value. -/
structure Pl where
  kind : Int
  num : Int
  text : ByteArray
def plV (p : Pl) : Value := .agg #[.int .i64 p.kind, .int .i64 p.num, .string p.text]
/-- The error's number that Check answers. -/
def txE (s : ByteArray) : Nat := if utfE s = 1 then 1 else if 1048576 < s.size then 10 else 0
def vCheck (p : Pl) : Nat :=
  if p.kind = 0 then (if p.num = 0 ∧ p.text.toList = [] then 0 else 5)
  else if p.kind = 1 then (if (p.num = 0 ∨ p.num = 1) ∧ p.text.toList = [] then 0 else 5)
  else if p.kind = 2 then (if p.text.toList = [] then 0 else 5)
  else if p.kind = 3 then (if p.num = 0 then txE p.text else 5)
  else 5
theorem size_nil {s : ByteArray} (h : s.toList = []) : s.size = 0 := by
  rw [Lib.toList_data] at h
  rw [Lib.size_eq, h]; rfl
theorem utfE_nil {s : ByteArray} (h : s.toList = []) : utfE s = 0 := by
  have := size_nil h
  unfold utfE; rw [if_neg (by omega)]
theorem sc_ok {A : Nat → Addr} {B : Nat} (s : ByteArray) (w : World) (hs : s.size ≤ 140737488351232) (h : Hid (utfE s = 0)) (hE : Env A B SV w) :
    Calls Tryz.prog 48 #[.string s] w fun e w' => e = .returned (.tuple #[.int .i64 (brkAt s 0), .nilIface]) ∧ Below w.heap.size w w' := by
  have := scalarsCheck_calls s w hs (hE.sub (by decide))
  rw [h.out] at this
  exact this
theorem utfE_01 (s : ByteArray) : utfE s = 0 ∨ utfE s = 1 := by unfold utfE; split <;> simp
theorem sc_bad {A : Nat → Addr} {B : Nat} (s : ByteArray) (w : World) (hs : s.size ≤ 140737488351232) (h : Hid (utfE s = 1)) (hE : Env A B SV w) :
    Calls Tryz.prog 48 #[.string s] w fun e w' => e = .returned (.tuple #[.int .i64 (brkAt s 0), .iface 264 (.pointer (some (A 1)))]) ∧ Below w.heap.size w w' := by
  have := scalarsCheck_calls s w hs (hE.sub (by decide))
  rw [h.out] at this
  exact this

set_option maxHeartbeats 1000000 in
theorem Check_calls {A : Nat → Addr} {B : Nat} (k n : Int) (t : ByteArray) (w : World) (hs : t.size ≤ 140737488351232) (hE : Env A B SV w) :
    Calls Tryz.prog 22 #[.agg #[.int .i64 k, .int .i64 n, .string t]] w fun e w' => e = .returned (errV A (vCheck ⟨k, n, t⟩)) ∧ Below w.heap.size w w' := by
  have hB := hE.hB
  have c1 := hE.e1
  have c5 := hE.e5
  have c10 := hE.e10
  have l1 := hE.l1
  have l5 := hE.l5
  have l10 := hE.l10
  go_enter Tryz.func22, Tryz.ntmps22
  (go_wp2_with fail; repeat (any_goals (go_quiet (fail); go_wp2_with fail)))
  all_goals first
    | (go_ret; exact ⟨by simp_all [vCheck, errV], (by repeat (first | assumption | exact Below.refl _ _ | apply Below.drew | apply below_drewN | apply balloc | (refine Below.setCell ?_ (by first | omega | (simp <;> omega)) _)))⟩)
    | skip
  all_goals
    rcases utfE_01 t with hu | hu
    · have HU := Lib.hid hu
      clear hu
      refine (sc_ok _ _ hs HU (hE.next (by repeat (first | assumption | exact Below.refl _ _ | apply Below.drew | apply below_drewN | apply balloc | (refine Below.setCell ?_ (by first | omega | (simp <;> omega)) _))))).mono ?_
      rintro e w1 ⟨rfl, hb⟩
      have hb1 : Below w.heap.size w w1 := bcall (by repeat (first | assumption | exact Below.refl _ _ | apply Below.drew | apply below_drewN | apply balloc | (refine Below.setCell ?_ (by first | omega | (simp <;> omega)) _))) hb
      obtain ⟨hc, hf⟩ := bcell hb
      clear hb
      have d10 := (hE.next hb1).e10
      (go_wp2_with fail; repeat (any_goals (go_quiet (fail); go_wp2_with fail)))
      all_goals
        go_ret
        have hu := HU.out
        have hn := @utfE_nil t
        have hn2 := @size_nil t
        exact ⟨by simp_all [vCheck, errV, txE] <;> (first | rw [if_neg (by omega)] | rw [if_pos (by omega)]), (by repeat (first | assumption | exact Below.refl _ _ | apply Below.drew | apply below_drewN | apply balloc | (refine Below.setCell ?_ (by first | omega | (simp <;> omega)) _)))⟩
    · have HU := Lib.hid hu
      clear hu
      refine (sc_bad _ _ hs HU (hE.next (by repeat (first | assumption | exact Below.refl _ _ | apply Below.drew | apply below_drewN | apply balloc | (refine Below.setCell ?_ (by first | omega | (simp <;> omega)) _))))).mono ?_
      rintro e w1 ⟨rfl, hb⟩
      have hb1 : Below w.heap.size w w1 := bcall (by repeat (first | assumption | exact Below.refl _ _ | apply Below.drew | apply below_drewN | apply balloc | (refine Below.setCell ?_ (by first | omega | (simp <;> omega)) _))) hb
      obtain ⟨hc, hf⟩ := bcell hb
      clear hb
      have d1 := (hE.next hb1).e1
      (go_wp2_with fail; repeat (any_goals (go_quiet (fail); go_wp2_with fail)))
      all_goals
        go_ret
        have hu := HU.out
        have hn := @utfE_nil t
        exact ⟨by simp_all [vCheck, errV, txE], (by repeat (first | assumption | exact Below.refl _ _ | apply Below.drew | apply below_drewN | apply balloc | (refine Below.setCell ?_ (by first | omega | (simp <;> omega)) _)))⟩

end Go.Proofs.YtfdhklpabhhjjaaGreatDoor
