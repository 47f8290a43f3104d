/- Package scalars: the walks. -/
import Derived.Test.YtnldhgkmbighkaaDoorBase
import Derived.Test.YtnldhgkmbighkaaDoorShelf
namespace Go.Proofs.YtnldhgkmbighkaaDoor
open Go Go.RowKit
abbrev SU : List Nat := [1]

/-- The scalar that s begins with, and its bytes; (0, 0): none. -/
def nextS (s : ByteArray) : Nat × Nat := if (Lib.decodeGo s).1 = 65533 ∧ (Lib.decodeGo s).2 < 2 then (0, 0) else Lib.decodeGo s

set_option maxHeartbeats 400000 in
theorem next_calls {A : Nat → Addr} {B : Nat} (s : ByteArray) (w : World) (hE : Env A B SU w) :
    Calls Tryd.prog 52 #[.string s] w fun e w' => e = .returned (.tuple #[.int .i32 (nextS s).1, .int .i64 (nextS s).2]) ∧ Below w.heap.size w w' := by
  have hT := hE.tabs
  unfold nextS
  generalize hd : Lib.decodeGo s = d
  have c := Tryd.utf8_DecodeRuneInString s w hT
  rw [hd] at c
  obtain ⟨r, n⟩ := d
  have C := Lib.hid c
  clear c hd hT
  go_enter Tryd.func52, Tryd.ntmps52
  go_wp2_with fail
  refine (C.out).mono ?_
  rintro e w1 ⟨rfl, hb⟩
  go_wp2_with fail
  all_goals go_ret2
  all_goals exact ⟨rfl, hb⟩

/-- How wide the scalar at a place is; 0: none begins there. -/
def widthAt (s : ByteArray) (k : Nat) : Nat := (nextS (s.extract k s.size)).2
theorem decode_le (s : ByteArray) (h : 0 < s.size) : (Utf8.decode s 0).2 ≤ s.size := by
  unfold Utf8.decode
  simp only [Bool.and_eq_true, decide_eq_true_eq]
  repeat' split
  all_goals (simp only; omega)
theorem extract_size (s : ByteArray) (k : Nat) (h : k ≤ s.size) : (s.extract k s.size).size = s.size - k := by
  rw [ByteArray.size_extract]; omega
theorem nextS_le (s : ByteArray) : (nextS s).2 ≤ s.size := by
  unfold nextS
  split
  · exact Nat.zero_le _
  · unfold Lib.decodeGo
    split
    · rename_i h; exact absurd h (by rename_i h2; intro h3; apply h2; simp [Lib.decodeGo, h3])
    · exact decode_le s (by omega)
theorem widthAt_le (s : ByteArray) (k : Nat) (h : k < s.size) : k + widthAt s k ≤ s.size := by
  have h1 := nextS_le (s.extract k s.size)
  have h2 := extract_size s k (by omega)
  unfold widthAt
  omega
/-- Where s breaks, from a place on. -/
def brkF (s : ByteArray) : Nat → Nat → Nat
  | 0, k => k
  | f + 1, k => if k < s.size then (if widthAt s k = 0 then k else brkF s f (k + widthAt s k)) else k
def brkAt (s : ByteArray) (k : Nat) : Nat := brkF s (s.size - k) k
theorem brkF_fuel (s : ByteArray) : ∀ f g k, s.size - k ≤ f → s.size - k ≤ g → brkF s f k = brkF s g k := by
  intro f
  induction f with
  | zero =>
    intro g k hf hg
    cases g with
    | zero => rfl
    | succ g => rw [brkF, brkF, if_neg (by omega)]
  | succ f ih =>
    intro g k hf hg
    cases g with
    | zero => rw [brkF, brkF, if_neg (by omega)]
    | succ g =>
      rw [brkF, brkF]
      by_cases h : k < s.size
      · rw [if_pos h, if_pos h]
        by_cases hw : widthAt s k = 0
        · rw [if_pos hw, if_pos hw]
        · rw [if_neg hw, if_neg hw]; exact ih g _ (by omega) (by omega)
      · rw [if_neg h, if_neg h]
theorem brkAt_eq (s : ByteArray) (k : Nat) : brkAt s k = if k < s.size then (if widthAt s k = 0 then k else brkAt s (k + widthAt s k)) else k := by
  unfold brkAt
  by_cases h : k < s.size
  · obtain ⟨f, hf⟩ : ∃ f, s.size - k = f + 1 := ⟨s.size - k - 1, by omega⟩
    rw [hf, brkF, if_pos h, if_pos h]
    by_cases hw : widthAt s k = 0
    · rw [if_pos hw, if_pos hw]
    · rw [if_neg hw, if_neg hw]; exact brkF_fuel s _ _ _ (by omega) (by omega)
  · rw [if_neg h, show s.size - k = 0 by omega]; rfl
/-- Its error: 1, if s is no UTF-8. -/
def utfE (s : ByteArray) : Nat := if brkAt s 0 < s.size then 1 else 0
set_option maxHeartbeats 400000 in
theorem scalarsCheck_calls {A : Nat → Addr} {B : Nat} (s : ByteArray) (w : World) (hs : s.size ≤ 140737488351232) (hE : Env A B SU w) :
    Calls Tryd.prog 32 #[.string s] w fun e w' => e = .returned (.tuple #[.int .i64 (brkAt s 0), errV A (utfE s)]) ∧ Below w.heap.size w w' := by
  go_enter Tryd.func32, Tryd.ntmps32
  go_wp2_with fail
  go_loopw [4] (fun i wr => ∃ k : Nat, k ≤ s.size ∧ i = .int .i64 k ∧ Hid (brkAt s k = brkAt s 0) ∧ Below w.heap.size w wr) (fun i _ => s.size - (intOf i).toNat)
  case atStart => exact ⟨0, Nat.zero_le _, rfl, rfl, Below.refl _ _⟩
  case round =>
    obtain ⟨k, hk, rfl, hr, hb⟩ := hrel
    have hE1 := hE.next hb
    by_cases hlt : k < s.size
    · go_wp2_with fail
      refine (next_calls _ _ hE1).mono ?_
      rintro e w1 ⟨rfl, hb1⟩
      have hb2 := hb.trans (hb1.mono hb.size)
      have hE2 := hE.next hb2
      have h1 := hE2.e1
      have hw := widthAt_le s k hlt
      unfold widthAt at hw
      have hcond : Hid (brkAt s k = if widthAt s k = 0 then k else brkAt s (k + widthAt s k)) := by
        rw [brkAt_eq, if_pos hlt]; exact rfl
      unfold widthAt at hcond
      generalize hm : (nextS (s.extract k s.size)).2 = m at *
      have Hm := Lib.hid hm
      clear hm
      by_cases hz : m = 0
      · subst hz
        go_wp2_with fail
        go_region
        all_goals
          go_wp2_with fail
          go_ret2
          have e0 : brkAt s 0 = k := by rw [← hr.out, hcond.out]; simp
          have e1 : utfE s = 1 := by rw [utfE, e0, if_pos hlt]
          rw [e0, e1]
          exact ⟨rfl, by repeat (first | exact hb2 | apply Below.drew)⟩
      · have hz0 : ((m : Int) == 0) = false := by simp; omega
        go_wp2_with fail
        go_roundw
        case rel => exact ⟨k + m, by omega, by go_num, by rw [← hr.out, hcond.out, if_neg hz]; rfl, hb2⟩
        case measure => simp [intOf]; omega
    · have e0 : brkAt s 0 = k := by rw [← hr.out, brkAt_eq, if_neg hlt]
      go_wp2_with fail
      go_ret2
      have e1 : utfE s = 0 := by rw [utfE, e0, if_neg (by omega)]
      rw [e0, e1]
      exact ⟨rfl, hb⟩

end Go.Proofs.YtnldhgkmbighkaaDoor
