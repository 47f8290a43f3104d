/- Plain laws: the order of plain values. No program in sight. -/
import Derived.Test.YtfdhklpabhhjjaaGreatDoorValues3
import Derived.Lib.Bytealg
import Derived.Lib.Small
namespace Go.Proofs.YtfdhklpabhhjjaaGreatDoor
open Go Go.RowKit

theorem ci_range (x y : Int) : Lib.compareInt x y = -1 ∨ Lib.compareInt x y = 0 ∨ Lib.compareInt x y = 1 := by
  unfold Lib.compareInt; repeat' split
  all_goals simp
theorem ci_neg (x y : Int) : Lib.compareInt y x = -Lib.compareInt x y := by
  unfold Lib.compareInt; repeat' split
  all_goals omega
theorem ci_zero {x y : Int} : Lib.compareInt x y = 0 ↔ x = y := by
  unfold Lib.compareInt; repeat' split
  all_goals omega
theorem ci_lt {x y : Int} : Lib.compareInt x y < 0 ↔ x < y := by
  unfold Lib.compareInt; repeat' split
  all_goals omega
theorem ci_trans {x y z : Int} (h1 : Lib.compareInt x y ≤ 0) (h2 : Lib.compareInt y z ≤ 0) : Lib.compareInt x z ≤ 0 := by
  unfold Lib.compareInt at *
  repeat' split at h1
  all_goals repeat' split at h2
  all_goals repeat' split
  all_goals omega
theorem cb_range : ∀ l m : List UInt8, Lib.compareBytes l m = -1 ∨ Lib.compareBytes l m = 0 ∨ Lib.compareBytes l m = 1
  | [], [] => by simp [Lib.compareBytes]
  | [], _ :: _ => by simp [Lib.compareBytes]
  | _ :: _, [] => by simp [Lib.compareBytes]
  | a :: l, b :: m => by
    rw [Lib.compareBytes]
    split
    · simp
    · split
      · simp
      · exact cb_range l m
theorem u8_eq {a b : UInt8} (h1 : ¬ a < b) (h2 : ¬ b < a) : a = b := by
  rw [UInt8.lt_iff_toNat_lt] at h1 h2
  exact UInt8.toNat_inj.1 (by omega)
theorem cb_neg : ∀ l m : List UInt8, Lib.compareBytes m l = -Lib.compareBytes l m
  | [], [] => by simp [Lib.compareBytes]
  | [], _ :: _ => by simp [Lib.compareBytes]
  | _ :: _, [] => by simp [Lib.compareBytes]
  | a :: l, b :: m => by
    rw [Lib.compareBytes, Lib.compareBytes]
    have ih := cb_neg l m
    by_cases h1 : a < b
    · have h2 : ¬ b < a := by rw [UInt8.lt_iff_toNat_lt] at *; omega
      rw [if_neg h2, if_pos h1, if_pos h1]; rfl
    · by_cases h2 : b < a
      · rw [if_pos h2, if_neg h1, if_pos h2]
      · rw [if_neg h2, if_neg h1, if_neg h1, if_neg h2]; exact ih
theorem cb_zero : ∀ {l m : List UInt8}, Lib.compareBytes l m = 0 ↔ l = m
  | [], [] => by simp [Lib.compareBytes]
  | [], _ :: _ => by simp [Lib.compareBytes]
  | _ :: _, [] => by simp [Lib.compareBytes]
  | a :: l, b :: m => by
    rw [Lib.compareBytes]
    have ih := @cb_zero l m
    by_cases h1 : a < b
    · rw [if_pos h1]
      simp only [List.cons.injEq]
      constructor
      · intro h; cases h
      · rintro ⟨rfl, _⟩; rw [UInt8.lt_iff_toNat_lt] at h1; omega
    · by_cases h2 : b < a
      · rw [if_neg h1, if_pos h2]
        simp only [List.cons.injEq]
        constructor
        · intro h; cases h
        · rintro ⟨rfl, _⟩; rw [UInt8.lt_iff_toNat_lt] at h2; omega
      · rw [if_neg h1, if_neg h2, ih]
        simp [u8_eq h1 h2]
theorem cb_trans : ∀ {l m n : List UInt8}, Lib.compareBytes l m ≤ 0 → Lib.compareBytes m n ≤ 0 → Lib.compareBytes l n ≤ 0
  | [], _, [] => fun _ _ => by simp [Lib.compareBytes]
  | [], _, _ :: _ => fun _ _ => by simp [Lib.compareBytes]
  | _ :: _, [], _ => fun h _ => by simp [Lib.compareBytes] at h
  | _ :: _, _ :: _, [] => fun _ h => by simp [Lib.compareBytes] at h
  | a :: l, b :: m, c :: n => fun h1 h2 => by
    rw [Lib.compareBytes] at h1 h2 ⊢
    simp only [UInt8.lt_iff_toNat_lt] at *
    by_cases p1 : a.toNat < b.toNat
    · by_cases p2 : b.toNat < c.toNat
      · rw [if_pos (by omega)]; decide
      · by_cases p3 : c.toNat < b.toNat
        · rw [if_neg p2, if_pos p3] at h2; omega
        · rw [if_pos (by omega)]; decide
    · by_cases p2 : b.toNat < a.toNat
      · rw [if_neg p1, if_pos p2] at h1; omega
      · rw [if_neg p1, if_neg p2] at h1
        by_cases p3 : b.toNat < c.toNat
        · rw [if_pos (by omega)]; decide
        · by_cases p4 : c.toNat < b.toNat
          · rw [if_neg p3, if_pos p4] at h2; omega
          · rw [if_neg p3, if_neg p4] at h2
            rw [if_neg (by omega), if_neg (by omega)]
            exact cb_trans h1 h2
/-- Compare: field by field. -/
def cmpPl (a b : Pl) : Int := if Lib.compareInt a.kind b.kind ≠ 0 then Lib.compareInt a.kind b.kind else if Lib.compareInt a.num b.num ≠ 0 then Lib.compareInt a.num b.num else Lib.compareBytes a.text.data.toList b.text.data.toList
theorem cmpPl_range (a b : Pl) : cmpPl a b = -1 ∨ cmpPl a b = 0 ∨ cmpPl a b = 1 := by
  unfold cmpPl; repeat' split
  · exact ci_range _ _
  · exact ci_range _ _
  · exact cb_range _ _
theorem cmpPl_neg (a b : Pl) : cmpPl b a = -cmpPl a b := by
  unfold cmpPl
  rw [ci_neg a.kind b.kind, ci_neg a.num b.num, cb_neg a.text.data.toList]
  repeat' split
  all_goals omega
theorem text_ext {s t : ByteArray} (h : s.data.toList = t.data.toList) : s = t := by
  obtain ⟨⟨l⟩⟩ := s
  obtain ⟨⟨m⟩⟩ := t
  simp only at h
  rw [h]
theorem cmpPl_zero {a b : Pl} : cmpPl a b = 0 ↔ a = b := by
  obtain ⟨k, n, t⟩ := a
  obtain ⟨k', n', t'⟩ := b
  unfold cmpPl
  simp only [Pl.mk.injEq]
  constructor
  · intro h
    by_cases h1 : Lib.compareInt k k' = 0
    · rw [if_neg (by simpa using h1)] at h
      by_cases h2 : Lib.compareInt n n' = 0
      · rw [if_neg (by simpa using h2)] at h
        exact ⟨ci_zero.1 h1, ci_zero.1 h2, text_ext (cb_zero.1 h)⟩
      · rw [if_pos h2] at h; exact absurd h h2
    · rw [if_pos h1] at h; exact absurd h h1
  · rintro ⟨rfl, rfl, rfl⟩
    have e1 : Lib.compareInt k k = 0 := ci_zero.2 rfl
    have e2 : Lib.compareInt n n = 0 := ci_zero.2 rfl
    rw [if_neg (by simpa using e1), if_neg (by simpa using e2)]
    exact cb_zero.2 rfl
theorem cmpPl_trans {a b c : Pl} (h1 : cmpPl a b ≤ 0) (h2 : cmpPl b c ≤ 0) : cmpPl a c ≤ 0 := by
  unfold cmpPl at *
  have k1 := ci_range a.kind b.kind
  have k2 := ci_range b.kind c.kind
  by_cases p1 : Lib.compareInt a.kind b.kind = 0
  · rw [if_neg (by simpa using p1)] at h1
    rw [ci_zero.1 p1]
    by_cases p2 : Lib.compareInt b.kind c.kind = 0
    · rw [if_neg (by simpa using p2)] at h2 ⊢
      by_cases q1 : Lib.compareInt a.num b.num = 0
      · rw [if_neg (by simpa using q1)] at h1
        rw [ci_zero.1 q1]
        by_cases q2 : Lib.compareInt b.num c.num = 0
        · rw [if_neg (by simpa using q2)] at h2 ⊢
          exact cb_trans h1 h2
        · rw [if_pos q2] at h2 ⊢; exact h2
      · rw [if_pos q1] at h1
        by_cases q2 : Lib.compareInt b.num c.num = 0
        · rw [← ci_zero.1 q2, if_pos q1]; exact h1
        · rw [if_pos q2] at h2
          have q3 : Lib.compareInt a.num c.num < 0 := by
            rw [ci_lt]
            have r1 := ci_range a.num b.num
            have r2 := ci_range b.num c.num
            have := @ci_lt a.num b.num
            have := @ci_lt b.num c.num
            omega
          rw [if_pos (by omega)]; omega
    · rw [if_pos p2] at h2 ⊢; exact h2
  · rw [if_pos p1] at h1
    by_cases p2 : Lib.compareInt b.kind c.kind = 0
    · rw [← ci_zero.1 p2, if_pos p1]; exact h1
    · rw [if_pos p2] at h2
      have q3 : Lib.compareInt a.kind c.kind < 0 := by
        rw [ci_lt]
        have := @ci_lt a.kind b.kind
        have := @ci_lt b.kind c.kind
        omega
      rw [if_pos (by omega)]; omega
theorem cmpPl_trans2 {a b c : Pl} (h1 : cmpPl a b < 0) (h2 : cmpPl b c ≤ 0) : cmpPl a c < 0 := by
  have h3 := cmpPl_trans (a := a) (b := b) (c := c) (by omega) h2
  rcases Int.lt_or_eq_of_le h3 with h | h
  · exact h
  · have e := cmpPl_zero.1 h
    subst e
    have := cmpPl_neg a b
    omega
theorem bytesLess_iff : ∀ l m : List UInt8, Op.bytesLess l m = decide (Lib.compareBytes l m < 0)
  | [], [] => by simp [Op.bytesLess, Lib.compareBytes]
  | [], _ :: _ => by simp [Op.bytesLess, Lib.compareBytes]
  | _ :: _, [] => by simp [Op.bytesLess, Lib.compareBytes]
  | a :: l, b :: m => by
    have ih := bytesLess_iff l m
    simp only [Op.bytesLess, Lib.compareBytes]
    by_cases h1 : a < b
    · simp [h1]
    · by_cases h2 : b < a
      · simp [h1, h2]
        rintro rfl
        rw [UInt8.lt_iff_toNat_lt] at h2; omega
      · have e := u8_eq h1 h2
        subst e
        simp [ih]

end Go.Proofs.YtfdhklpabhhjjaaGreatDoor
