/- Plain functions: JSON cut into tokens. No program in sight. -/
import Derived.Test.YtnldhgkmbighkaaDoorRef4
namespace Go.Proofs.YtnldhgkmbighkaaDoor
open Go Go.RowKit

def isD (c : Nat) : Bool := decide (48 ≤ c ∧ c ≤ 57)
theorem isD_iff {c : Nat} : isD c = true ↔ 48 ≤ c ∧ c ≤ 57 := by unfold isD; rw [decide_eq_true_eq]
theorem bAt_ge (s : ByteArray) (i : Nat) (h : s.size ≤ i) : bAt s i = 0 := by unfold bAt; rw [dif_neg (by omega)]
theorem lt_of_bAt {s : ByteArray} {i : Nat} (h : bAt s i ≠ 0) : i < s.size := by
  rcases Nat.lt_or_ge i s.size with h1 | h1
  · exact h1
  · exact absurd (bAt_ge s i h1) h
/-- The place behind the digits from i on. -/
def digF (s : ByteArray) : Nat → Nat → Nat
  | 0, i => i
  | f + 1, i => if isD (bAt s i) = true then digF s f (i + 1) else i
def digAt (s : ByteArray) (i : Nat) : Nat := digF s (s.size - i) i
theorem digAt_eq (s : ByteArray) (i : Nat) : digAt s i = if isD (bAt s i) = true then digAt s (i + 1) else i := by
  by_cases h : isD (bAt s i) = true
  · have hi : i < s.size := lt_of_bAt (by rw [isD_iff] at h; omega)
    rw [if_pos h]
    unfold digAt
    obtain ⟨f, hf⟩ : ∃ f, s.size - i = f + 1 := ⟨s.size - i - 1, by omega⟩
    rw [hf, digF, if_pos h, show s.size - (i + 1) = f by omega]
  · rw [if_neg h]
    unfold digAt
    cases s.size - i with
    | zero => rfl
    | succ f => rw [digF, if_neg h]
theorem digF_bd (s : ByteArray) : ∀ f i, i ≤ digF s f i ∧ (i ≤ s.size → digF s f i ≤ s.size)
  | 0, i => ⟨Nat.le_refl _, id⟩
  | f + 1, i => by
    rw [digF]
    by_cases h : isD (bAt s i) = true
    · rw [if_pos h]
      have hi : i < s.size := lt_of_bAt (by rw [isD_iff] at h; omega)
      have := digF_bd s f (i + 1)
      exact ⟨by omega, fun _ => this.2 hi⟩
    · rw [if_neg h]; exact ⟨Nat.le_refl _, id⟩
theorem digAt_ge (s : ByteArray) (i : Nat) : i ≤ digAt s i := (digF_bd s _ i).1
theorem digAt_le (s : ByteArray) (i : Nat) (h : i ≤ s.size) : digAt s i ≤ s.size := (digF_bd s _ i).2 h
theorem digAt_none {s : ByteArray} {i : Nat} : digAt s i = i ↔ isD (bAt s i) = false := by
  rw [digAt_eq]
  cases h : isD (bAt s i) with
  | true =>
    rw [if_pos rfl]
    have := digAt_ge s (i + 1)
    constructor
    · intro h2; omega
    · intro h2; cases h2
  | false => simp

/-- A number's fraction, if one stands there: true and the place behind it, or false and where a digit is missing. -/
def fracAt (s : ByteArray) (i : Nat) : Bool × Nat := if bAt s i = 46 then (if digAt s (i + 1) = i + 1 then (false, i + 1) else (true, digAt s (i + 1))) else (true, i)
/-- Where the digits of an exponent whose letter stands at i begin. -/
def signAt (s : ByteArray) (i : Nat) : Nat := if bAt s (i + 1) = 43 ∨ bAt s (i + 1) = 45 then i + 2 else i + 1
def expAt (s : ByteArray) (i : Nat) : Bool × Nat := if bAt s i = 101 ∨ bAt s i = 69 then (if digAt s (signAt s i) = signAt s i then (false, signAt s i) else (true, digAt s (signAt s i))) else (true, i)
def minAt (s : ByteArray) (i : Nat) : Nat := if bAt s i = 45 then i + 1 else i
def headAt (s : ByteArray) (i : Nat) : Nat := if bAt s i = 48 then i + 1 else digAt s i
/-- The number that begins at i: true and the place behind it, or false and where a digit is missing. -/
def numAt (s : ByteArray) (i : Nat) : Bool × Nat :=
  if isD (bAt s (minAt s i)) = true then
    (if (fracAt s (headAt s (minAt s i))).1 = true then expAt s (fracAt s (headAt s (minAt s i))).2 else fracAt s (headAt s (minAt s i)))
  else (false, minAt s i)

/-- A hexadecimal digit's number; 16: it is none. -/
def hexD (c : Nat) : Nat := if 48 ≤ c ∧ c ≤ 57 then c - 48 else if 97 ≤ c ∧ c ≤ 102 then c - 87 else if 65 ≤ c ∧ c ≤ 70 then c - 55 else 16
theorem hexD_le (c : Nat) : hexD c ≤ 16 := by unfold hexD; repeat' split
                                              all_goals omega
theorem hexD_zero : hexD 0 = 16 := rfl
/-- What the first k digits behind i tell; 65536 and more: they are none. -/
def hexF (s : ByteArray) (i : Nat) : Nat → Nat
  | 0 => 0
  | k + 1 => if hexF s i k < 65536 ∧ hexD (bAt s (i + k)) < 16 then hexF s i k * 16 + hexD (bAt s (i + k)) else 65536
/-- The number of a backslash, u and four digits that stand at i; 65536: no such thing. -/
def hexAt (s : ByteArray) (i : Nat) : Nat := if bAt s i = 92 ∧ bAt s (i + 1) = 117 then hexF s (i + 2) 4 else 65536
/-- The escape at i: the error's number, the scalar, the bytes. -/
def escAt (s : ByteArray) (i : Nat) : Nat × Nat × Nat :=
  let c := bAt s (i + 1)
  if c = 34 ∨ c = 92 ∨ c = 47 then (0, c, 2)
  else if c = 98 then (0, 8, 2)
  else if c = 102 then (0, 12, 2)
  else if c = 110 then (0, 10, 2)
  else if c = 114 then (0, 13, 2)
  else if c = 116 then (0, 9, 2)
  else if 65536 ≤ hexAt s i then (2, 0, 0)
  else if scalarN (hexAt s i) = true then (0, hexAt s i, 6)
  else if hexAt s i < 56320 ∧ 56320 ≤ hexAt s (i + 6) ∧ hexAt s (i + 6) ≤ 57343 then (0, 65536 + (hexAt s i - 55296) * 1024 + (hexAt s (i + 6) - 56320), 12)
  else (1, 0, 0)
/-- The text from i on, acc ahead of it: the error's number and its place, or the place behind the text, and the text. -/
def qF (s : ByteArray) : Nat → Nat → List UInt8 → Nat × Nat × List UInt8
  | 0, _, _ => (2, s.size, [])
  | f + 1, i, acc =>
    if i < s.size then
      (if bAt s i = 34 then (0, i + 1, acc)
      else if bAt s i < 32 then (2, i, [])
      else if bAt s i = 92 then (if (escAt s i).1 = 0 then qF s f (i + (escAt s i).2.2) (acc ++ (encN (escAt s i).2.1).map UInt8.ofNat) else ((escAt s i).1, i, []))
      else qF s f (i + 1) (acc ++ [UInt8.ofNat (bAt s i)]))
    else (2, s.size, [])
def qAt (s : ByteArray) (i : Nat) (acc : List UInt8) : Nat × Nat × List UInt8 := qF s (s.size - i + 1) i acc

structure Tk where
  kind : Nat
  fr : Nat
  to : Nat
  text : ByteArray
/-- The token of a byte; 0: none. -/
def signK (c : Nat) : Nat := if c = 123 then 6 else if c = 125 then 7 else if c = 91 then 8 else if c = 93 then 9 else if c = 58 then 10 else if c = 44 then 11 else 0
def noS : ByteArray := ⟨#[]⟩
/-- The token that begins at i: the error's number, its place, the token. -/
def oneAt (s : ByteArray) (i : Nat) : Nat × Nat × Tk :=
  let c := bAt s i
  if signK c ≠ 0 then (0, 0, ⟨signK c, i, i + 1, noS⟩)
  else if c = 110 then (if bAt s (i + 1) = 117 ∧ bAt s (i + 2) = 108 ∧ bAt s (i + 3) = 108 then (0, 0, ⟨1, i, i + 4, noS⟩) else (2, i, ⟨0, 0, 0, noS⟩))
  else if c = 116 then (if bAt s (i + 1) = 114 ∧ bAt s (i + 2) = 117 ∧ bAt s (i + 3) = 101 then (0, 0, ⟨2, i, i + 4, noS⟩) else (2, i, ⟨0, 0, 0, noS⟩))
  else if c = 102 then (if bAt s (i + 1) = 97 ∧ bAt s (i + 2) = 108 ∧ bAt s (i + 3) = 115 ∧ bAt s (i + 4) = 101 then (0, 0, ⟨3, i, i + 5, noS⟩) else (2, i, ⟨0, 0, 0, noS⟩))
  else if c = 45 ∨ isD c = true then (if (numAt s i).1 = true then (0, 0, ⟨4, i, (numAt s i).2, noS⟩) else (2, (numAt s i).2, ⟨0, 0, 0, noS⟩))
  else if c = 34 then (if (qAt s (i + 1) []).1 = 0 then (0, 0, ⟨5, i, (qAt s (i + 1) []).2.1, ⟨(qAt s (i + 1) []).2.2.toArray⟩⟩) else ((qAt s (i + 1) []).1, (qAt s (i + 1) []).2.1, ⟨0, 0, 0, noS⟩))
  else (2, i, ⟨0, 0, 0, noS⟩)
def blankN (c : Nat) : Bool := c == 32 || c == 9 || c == 10 || c == 13
/-- The tokens from i on: up to the first error, its number and place. -/
def scanF (s : ByteArray) : Nat → Nat → List Tk × Nat × Nat
  | 0, _ => ([], 0, 0)
  | f + 1, i =>
    if i < s.size then
      (if blankN (bAt s i) = true then scanF s f (i + 1)
      else if (oneAt s i).1 = 0 then
        (((oneAt s i).2.2 :: (scanF s f (oneAt s i).2.2.to).1), (scanF s f (oneAt s i).2.2.to).2)
      else ([], (oneAt s i).1, (oneAt s i).2.1))
    else ([], 0, 0)
/-- The tokens up to the first error, its number and place. -/
def someS (s : ByteArray) : List Tk × Nat × Nat := if utfE s = 0 then scanF s (s.size + 1) 0 else ([], 1, brkAt s 0)
/-- The tokens, none where there is an error; its number and place. -/
def scanS (s : ByteArray) : List Tk × Nat × Nat := if (someS s).2.1 = 0 then ((someS s).1, 0, 0) else ([], (someS s).2)

/-! ### Bounds -/
theorem fracAt_bd (s : ByteArray) (i : Nat) (h : i ≤ s.size) : i ≤ (fracAt s i).2 ∧ (fracAt s i).2 ≤ s.size := by
  unfold fracAt
  by_cases h1 : bAt s i = 46
  · have hi := lt_of_bAt (s := s) (i := i) (by omega)
    have h2 := digAt_ge s (i + 1)
    have h3 := digAt_le s (i + 1) hi
    rw [if_pos h1]
    split <;> (simp only; omega)
  · rw [if_neg h1]; exact ⟨Nat.le_refl _, h⟩
theorem signAt_bd (s : ByteArray) (i : Nat) (h : i < s.size) : i < signAt s i ∧ signAt s i ≤ s.size := by
  unfold signAt
  split
  · rename_i h1
    have hi := lt_of_bAt (s := s) (i := i + 1) (by omega)
    omega
  · omega
theorem expAt_bd (s : ByteArray) (i : Nat) (h : i ≤ s.size) : i ≤ (expAt s i).2 ∧ (expAt s i).2 ≤ s.size := by
  unfold expAt
  by_cases h1 : bAt s i = 101 ∨ bAt s i = 69
  · have hi := lt_of_bAt (s := s) (i := i) (by omega)
    have hs := signAt_bd s i hi
    have h2 := digAt_ge s (signAt s i)
    have h3 := digAt_le s (signAt s i) hs.2
    rw [if_pos h1]
    split <;> (simp only; omega)
  · rw [if_neg h1]; exact ⟨Nat.le_refl _, h⟩
theorem minAt_bd (s : ByteArray) (i : Nat) (h : i < s.size) : i ≤ minAt s i ∧ minAt s i ≤ s.size ∧ minAt s i ≤ i + 1 := by
  unfold minAt; split <;> omega
theorem headAt_bd (s : ByteArray) (i : Nat) (h : isD (bAt s i) = true) : i < headAt s i ∧ headAt s i ≤ s.size := by
  have h0 := isD_iff.1 h
  have hi := lt_of_bAt (s := s) (i := i) (by omega)
  have h2 := digAt_ge s (i + 1)
  have h3 := digAt_le s (i + 1) hi
  unfold headAt
  rw [digAt_eq, if_pos h]
  split <;> omega
theorem numAt_bd (s : ByteArray) (i : Nat) (h : i < s.size) : i ≤ (numAt s i).2 ∧ (numAt s i).2 ≤ s.size ∧ ((numAt s i).1 = true → i < (numAt s i).2) := by
  have h1 := minAt_bd s i h
  unfold numAt
  by_cases hd : isD (bAt s (minAt s i)) = true
  · rw [if_pos hd]
    have h2 := headAt_bd s _ hd
    have h3 := fracAt_bd s _ h2.2
    have h4 := expAt_bd s _ h3.2
    split
    · exact ⟨by omega, h4.2, fun _ => by omega⟩
    · exact ⟨by omega, h3.2, fun h => by omega⟩
  · rw [if_neg hd]
    exact ⟨h1.1, h1.2.1, fun h => by cases h⟩

theorem hexF_ok (s : ByteArray) (i : Nat) : ∀ k, hexF s i k < 65536 → (∀ j, j < k → hexD (bAt s (i + j)) < 16) ∧ hexF s i k < 16 ^ k
  | 0 => fun _ => ⟨fun j h => by omega, by simp [hexF]⟩
  | k + 1 => fun h => by
    rw [hexF] at h
    by_cases hc : hexF s i k < 65536 ∧ hexD (bAt s (i + k)) < 16
    · have ih := hexF_ok s i k hc.1
      refine ⟨fun j hj => ?_, ?_⟩
      · rcases Nat.lt_or_ge j k with hlt | hge
        · exact ih.1 j hlt
        · obtain rfl : j = k := by omega
          exact hc.2
      · rw [hexF, if_pos hc, Nat.pow_succ]
        have := hc.2
        have := ih.2
        omega
    · rw [if_neg hc] at h; omega
theorem hexAt_ok {s : ByteArray} {i : Nat} (h : hexAt s i < 65536) : i + 6 ≤ s.size ∧ bAt s i = 92 ∧ bAt s (i + 1) = 117 := by
  unfold hexAt at h
  by_cases hc : bAt s i = 92 ∧ bAt s (i + 1) = 117
  · rw [if_pos hc] at h
    have h5 := (hexF_ok s (i + 2) 4 h).1 3 (by omega)
    refine ⟨?_, hc⟩
    have := lt_of_bAt (s := s) (i := i + 2 + 3) (by intro h0; rw [h0, hexD_zero] at h5; omega)
    omega
  · rw [if_neg hc] at h; omega
theorem hexAt_le (s : ByteArray) (i : Nat) : hexAt s i ≤ 65536 := by
  by_cases h : hexAt s i < 65536
  · omega
  · unfold hexAt
    split
    · rw [show hexF s (i + 2) 4 = if hexF s (i + 2) 3 < 65536 ∧ hexD (bAt s (i + 2 + 3)) < 16 then hexF s (i + 2) 3 * 16 + hexD (bAt s (i + 2 + 3)) else 65536 from rfl]
      split
      · rename_i hc
        have := (hexF_ok s (i + 2) 3 hc.1).2
        omega
      · exact Nat.le_refl _
    · exact Nat.le_refl _
theorem scalarN_iff {r : Nat} : scalarN r = true ↔ r < 55296 ∨ (57344 ≤ r ∧ r ≤ 1114111) := by simp [scalarN]
theorem escAt_ok {s : ByteArray} {i : Nat} (_h92 : bAt s i = 92) (h : (escAt s i).1 = 0) : i + (escAt s i).2.2 ≤ s.size ∧ 2 ≤ (escAt s i).2.2 ∧ (escAt s i).2.2 ≤ 12 ∧ scalarN (escAt s i).2.1 = true ∧ ((escAt s i).2.1 < 128 ∨ 4 ≤ (escAt s i).2.2) := by
  unfold escAt at h ⊢
  simp only at h ⊢
  have hl : bAt s (i + 1) ≠ 0 → i + 2 ≤ s.size := fun h => by have := lt_of_bAt h; omega
  by_cases h1 : bAt s (i + 1) = 34 ∨ bAt s (i + 1) = 92 ∨ bAt s (i + 1) = 47
  · rw [if_pos h1]
    exact ⟨hl (by omega), Nat.le_refl _, by simp, by rw [scalarN_iff]; simp only; omega, Or.inl (by simp only; omega)⟩
  rw [if_neg h1] at h ⊢
  by_cases h2 : bAt s (i + 1) = 98
  · rw [if_pos h2]
    exact ⟨hl (by omega), Nat.le_refl _, by simp, rfl, Or.inl (by decide)⟩
  rw [if_neg h2] at h ⊢
  by_cases h3 : bAt s (i + 1) = 102
  · rw [if_pos h3]
    exact ⟨hl (by omega), Nat.le_refl _, by simp, rfl, Or.inl (by decide)⟩
  rw [if_neg h3] at h ⊢
  by_cases h4 : bAt s (i + 1) = 110
  · rw [if_pos h4]
    exact ⟨hl (by omega), Nat.le_refl _, by simp, rfl, Or.inl (by decide)⟩
  rw [if_neg h4] at h ⊢
  by_cases h5 : bAt s (i + 1) = 114
  · rw [if_pos h5]
    exact ⟨hl (by omega), Nat.le_refl _, by simp, rfl, Or.inl (by decide)⟩
  rw [if_neg h5] at h ⊢
  by_cases h6 : bAt s (i + 1) = 116
  · rw [if_pos h6]
    exact ⟨hl (by omega), Nat.le_refl _, by simp, rfl, Or.inl (by decide)⟩
  rw [if_neg h6] at h ⊢
  by_cases h7 : 65536 ≤ hexAt s i
  · rw [if_pos h7] at h; cases h
  rw [if_neg h7] at h ⊢
  have h8 := hexAt_ok (s := s) (i := i) (by omega)
  by_cases h9 : scalarN (hexAt s i) = true
  · rw [if_pos h9]
    exact ⟨h8.1, by simp, by simp, h9, Or.inr (by simp)⟩
  rw [if_neg h9] at h ⊢
  by_cases ha : hexAt s i < 56320 ∧ 56320 ≤ hexAt s (i + 6) ∧ hexAt s (i + 6) ≤ 57343
  · rw [if_pos ha]
    have hb := hexAt_ok (s := s) (i := i + 6) (by omega)
    rw [scalarN_iff] at h9
    exact ⟨by simp only; omega, by simp, by simp, by rw [scalarN_iff]; simp only; omega, Or.inr (by simp)⟩
  · rw [if_neg ha] at h; cases h

theorem qF_fuel (s : ByteArray) : ∀ f g i acc, s.size - i < f → s.size - i < g → qF s f i acc = qF s g i acc := by
  intro f
  induction f with
  | zero => intro g i acc h1; omega
  | succ f ih =>
    intro g i acc h1 h2
    obtain ⟨g, rfl⟩ : ∃ m, g = m + 1 := ⟨g - 1, by omega⟩
    rw [qF, qF]
    by_cases hi : i < s.size
    · rw [if_pos hi, if_pos hi]
      by_cases h34 : bAt s i = 34
      · rw [if_pos h34, if_pos h34]
      rw [if_neg h34, if_neg h34]
      by_cases h32 : bAt s i < 32
      · rw [if_pos h32, if_pos h32]
      rw [if_neg h32, if_neg h32]
      by_cases h92 : bAt s i = 92
      · rw [if_pos h92, if_pos h92]
        by_cases he : (escAt s i).1 = 0
        · have := escAt_ok h92 he
          rw [if_pos he, if_pos he]
          exact ih _ _ _ (by omega) (by omega)
        · rw [if_neg he, if_neg he]
      · rw [if_neg h92, if_neg h92]
        exact ih _ _ _ (by omega) (by omega)
    · rw [if_neg hi, if_neg hi]
theorem qAt_eq (s : ByteArray) (i : Nat) (acc : List UInt8) : qAt s i acc =
    if i < s.size then
      (if bAt s i = 34 then (0, i + 1, acc)
      else if bAt s i < 32 then (2, i, [])
      else if bAt s i = 92 then (if (escAt s i).1 = 0 then qAt s (i + (escAt s i).2.2) (acc ++ (encN (escAt s i).2.1).map UInt8.ofNat) else ((escAt s i).1, i, []))
      else qAt s (i + 1) (acc ++ [UInt8.ofNat (bAt s i)]))
    else (2, s.size, []) := by
  conv => lhs; unfold qAt
  rw [qF]
  by_cases hi : i < s.size
  · rw [if_pos hi, if_pos hi]
    by_cases h92 : bAt s i = 92
    · rw [if_pos h92, if_pos h92]
      by_cases he : (escAt s i).1 = 0
      · have := escAt_ok h92 he
        rw [if_pos he, if_pos he, qF_fuel s (s.size - i) (s.size - (i + (escAt s i).2.2) + 1) (i + (escAt s i).2.2) _ (by omega) (by omega)]
        rfl
      · rw [if_neg he, if_neg he]
    · rw [if_neg h92, if_neg h92, qF_fuel s (s.size - i) (s.size - (i + 1) + 1) (i + 1) _ (by omega) (by omega)]
      rfl
  · rw [if_neg hi, if_neg hi]
theorem escAt_err (s : ByteArray) (i : Nat) : (escAt s i).1 = 0 ∨ (escAt s i).1 = 1 ∨ (escAt s i).1 = 2 := by
  unfold escAt
  simp only
  repeat' split
  all_goals simp
theorem enc_esc (s : ByteArray) (i : Nat) (h92 : bAt s i = 92) (h : (escAt s i).1 = 0) : (if (escAt s i).2.1 < 128 then 1 else if (escAt s i).2.1 < 2048 then 2 else if (escAt s i).2.1 < 65536 then 3 else 4) ≤ (escAt s i).2.2 := by
  have h2 := escAt_ok h92 h
  repeat' split
  all_goals omega
theorem qAt_bd (s : ByteArray) : ∀ n i acc, s.size - i ≤ n → i ≤ s.size →
    ((qAt s i acc).1 = 0 ∨ (qAt s i acc).1 = 1 ∨ (qAt s i acc).1 = 2) ∧ i ≤ (qAt s i acc).2.1 ∧ (qAt s i acc).2.1 ≤ s.size ∧ ((qAt s i acc).1 = 0 → i < (qAt s i acc).2.1 ∧ (qAt s i acc).2.2.length + i < acc.length + (qAt s i acc).2.1) := by
  intro n
  induction n with
  | zero =>
    intro i acc h1 h2
    rw [qAt_eq, if_neg (by omega)]
    exact ⟨Or.inr (Or.inr rfl), h2, Nat.le_refl _, fun h => by cases h⟩
  | succ n ih =>
    intro i acc h1 h2
    rw [qAt_eq]
    by_cases hi : i < s.size
    · rw [if_pos hi]
      by_cases h34 : bAt s i = 34
      · rw [if_pos h34]
        exact ⟨Or.inl rfl, by simp, hi, fun _ => ⟨by simp, by simp⟩⟩
      rw [if_neg h34]
      by_cases h32 : bAt s i < 32
      · rw [if_pos h32]
        exact ⟨Or.inr (Or.inr rfl), Nat.le_refl _, h2, fun h => by cases h⟩
      rw [if_neg h32]
      by_cases h92 : bAt s i = 92
      · rw [if_pos h92]
        by_cases he : (escAt s i).1 = 0
        · have := escAt_ok h92 he
          rw [if_pos he]
          have hh := ih (i + (escAt s i).2.2) (acc ++ (encN (escAt s i).2.1).map UInt8.ofNat) (by omega) (by omega)
          have hlen : (encN (escAt s i).2.1).length ≤ (escAt s i).2.2 := by
            rw [encN_len]
            have := enc_esc s i h92 he
            exact this
          refine ⟨hh.1, by omega, hh.2.2.1, fun h0 => ?_⟩
          have := hh.2.2.2 h0
          rw [List.length_append, List.length_map] at this
          omega
        · rw [if_neg he]
          exact ⟨escAt_err s i, Nat.le_refl _, h2, fun h => absurd h he⟩
      · rw [if_neg h92]
        have hh := ih (i + 1) (acc ++ [UInt8.ofNat (bAt s i)]) (by omega) (by omega)
        refine ⟨hh.1, by omega, hh.2.2.1, fun h0 => ?_⟩
        have := hh.2.2.2 h0
        rw [List.length_append, List.length_cons, List.length_nil] at this
        omega
    · rw [if_neg hi]
      exact ⟨Or.inr (Or.inr rfl), h2, Nat.le_refl _, fun h => by cases h⟩

end Go.Proofs.YtnldhgkmbighkaaDoor
