/- Plain laws: digits as bytes and as a list. -/
import Derived.Test.YtnldhgkmbighkaaDoorRef4
import Derived.Test.YtnldhgkmbighkaaDoorNumPlain
namespace Go.Proofs.YtnldhgkmbighkaaDoor
open Go Go.RowKit

theorem canon_head {l : List UInt8} (h : Canon l) : ∃ c r, l = c :: r ∧ isDig c := by
  cases l with
  | nil => exact absurd rfl h.2.1
  | cons c r => exact ⟨c, r, rfl, h.1 c (List.mem_cons_self ..)⟩
theorem canon_not45 {l : List UInt8} (h : Canon l) : l.head? ≠ some 45 := by
  obtain ⟨c, r, rfl, hc⟩ := canon_head h
  intro e
  simp only [List.head?_cons, Option.some.injEq] at e
  subst e
  exact absurd hc (by decide)
theorem canon_zero {l : List UInt8} (h : Canon l) (hz : dvalA 0 l = 0) : l = [48] := by
  have := canon_unique _ l rfl h
  rw [hz, Lib.decDigits] at this
  rw [← this]; rfl
theorem ba_eq {s : ByteArray} {l : List UInt8} (h : s.data.toList = l) : s = ⟨l.toArray⟩ := by
  obtain ⟨⟨m⟩⟩ := s
  simp only at h
  rw [h]
/-- All digits, no zero ahead. -/
def digT (t : ByteArray) : Prop := (∀ j, j < t.size → 48 ≤ bAt t j ∧ bAt t j ≤ 57) ∧ (t.size = 1 ∨ (1 < t.size ∧ bAt t 0 ≠ 48))
theorem bAt_list (t : ByteArray) (j : Nat) (h : j < t.size) : ∃ c, t.data.toList[j]? = some c ∧ c.toNat = bAt t j := by
  refine ⟨t[j], ?_, bAt_eq t j h⟩
  rw [Array.getElem?_toList]
  exact Array.getElem?_eq_getElem h
theorem digT_iff (t : ByteArray) : digT t ↔ Canon t.data.toList := by
  have hl : t.data.toList.length = t.size := by rw [Array.length_toList]; rfl
  have hall : (∀ j, j < t.size → 48 ≤ bAt t j ∧ bAt t j ≤ 57) ↔ ∀ c ∈ t.data.toList, isDig c := by
    constructor
    · intro h c hc
      obtain ⟨j, hj⟩ := List.mem_iff_getElem?.1 hc
      have hjl : j < t.size := by
        rw [← hl]
        rcases Nat.lt_or_ge j t.data.toList.length with h | h
        · exact h
        · rw [List.getElem?_eq_none h] at hj; cases hj
      obtain ⟨d, hd, hn⟩ := bAt_list t j hjl
      rw [hj] at hd
      cases hd
      unfold isDig
      rw [hn]
      exact h j hjl
    · intro h j hj
      obtain ⟨d, hd, hn⟩ := bAt_list t j hj
      have := h d (List.mem_of_getElem? hd)
      unfold isDig at this
      omega
  unfold digT Canon
  rw [hall]
  refine and_congr_right fun _ => ?_
  cases he : t.data.toList with
  | nil => rw [he] at hl; simp at hl; simp; omega
  | cons c r =>
    rw [he] at hl
    simp only [List.length_cons] at hl
    obtain ⟨d, hd, hn⟩ := bAt_list t 0 (by omega)
    rw [he] at hd
    simp at hd
    subst hd
    have h48 : c = 48 ↔ bAt t 0 = 48 := by
      rw [← hn]
      exact ⟨fun h => by rw [h]; rfl, fun h => UInt8.toNat_inj.1 h⟩
    have hr : r = [] ↔ t.size = 1 := by
      cases r with
      | nil => simp at hl ⊢; omega
      | cons x y => simp at hl ⊢; omega
    simp only [ne_eq, List.cons_ne_nil, not_false_eq_true, true_and, List.head?_cons, Option.some.injEq, List.cons.injEq, h48, hr]
    omega
theorem extract1 (s : ByteArray) {c : UInt8} {r : List UInt8} (h : s.data.toList = c :: r) : (s.extract 1 s.size).data.toList = r := by
  have hl : s.size = r.length + 1 := by
    have : s.data.toList.length = s.size := by rw [Array.length_toList]; rfl
    rw [← this, h]; rfl
  rw [ByteArray.data_extract, Array.toList_extract, h, hl]
  simp [List.extract]
theorem nil_of_toList {t : ByteArray} (h : t.toList = []) : t = ⟨#[]⟩ := by
  rw [Lib.toList_data] at h
  obtain ⟨⟨l⟩⟩ := t
  simp only at h
  rw [h]
theorem text_ext {s t : ByteArray} (h : s.data.toList = t.data.toList) : s = t := by
  obtain ⟨⟨l⟩⟩ := s
  obtain ⟨⟨m⟩⟩ := t
  simp only at h
  rw [h]
/-- What Whole answers. -/
def wholeV (l : List UInt8) : Int × Bool := match Lib.parseIntB 64 l with | .ok v => (v, true) | _ => (0, false)

end Go.Proofs.YtnldhgkmbighkaaDoor
