/- Lemmas of the proof, put together: ScanPlain, Scan1, Scan2, Scan3, Scan4, Build, TextPlain. -/
import Derived.Test.YtibopkodoidjoaaGreatDoorM1
import Derived.Deep.DeepCutAuto
import Derived.Lib.Builder
import Derived.Lib.OthersKept
import Derived.Lib.RuneBytes
import Derived.Laws.Externs

/- Plain functions: JSON cut into tokens. No program in sight. -/
namespace Go.Proofs.YtibopkodoidjoaaGreatDoor
open Go Go.RowKit

def isD (c : Nat) : Bool := decide (48 ≤ c ∧ c ≤ 57)
theorem isD_iff {c : Nat} : isD c = true ↔ 48 ≤ c ∧ c ≤ 57 := by unfold isD; rw [decide_eq_true_eq]
theorem bAt_ge (s : ByteArray) (i : Nat) (h : s.size ≤ i) : bAt s i = 0 := by unfold bAt; rw [dif_neg (by omega)]
theorem lt_of_bAt {s : ByteArray} {i : Nat} (h : bAt s i ≠ 0) : i < s.size := by
  rcases Nat.lt_or_ge i s.size with h1 | h1
  · exact h1
  · exact absurd (bAt_ge s i h1) h
/-- The place behind the digits from i on. -/
def digF (s : ByteArray) : Nat → Nat → Nat
  | 0, i => i
  | f + 1, i => if isD (bAt s i) = true then digF s f (i + 1) else i
def digAt (s : ByteArray) (i : Nat) : Nat := digF s (s.size - i) i
theorem digAt_eq (s : ByteArray) (i : Nat) : digAt s i = if isD (bAt s i) = true then digAt s (i + 1) else i := by
  by_cases h : isD (bAt s i) = true
  · have hi : i < s.size := lt_of_bAt (by rw [isD_iff] at h; omega)
    rw [if_pos h]
    unfold digAt
    obtain ⟨f, hf⟩ : ∃ f, s.size - i = f + 1 := ⟨s.size - i - 1, by omega⟩
    rw [hf, digF, if_pos h, show s.size - (i + 1) = f by omega]
  · rw [if_neg h]
    unfold digAt
    cases s.size - i with
    | zero => rfl
    | succ f => rw [digF, if_neg h]
theorem digF_bd (s : ByteArray) : ∀ f i, i ≤ digF s f i ∧ (i ≤ s.size → digF s f i ≤ s.size)
  | 0, i => ⟨Nat.le_refl _, id⟩
  | f + 1, i => by
    rw [digF]
    by_cases h : isD (bAt s i) = true
    · rw [if_pos h]
      have hi : i < s.size := lt_of_bAt (by rw [isD_iff] at h; omega)
      have := digF_bd s f (i + 1)
      exact ⟨by omega, fun _ => this.2 hi⟩
    · rw [if_neg h]; exact ⟨Nat.le_refl _, id⟩
theorem digAt_ge (s : ByteArray) (i : Nat) : i ≤ digAt s i := (digF_bd s _ i).1
theorem digAt_le (s : ByteArray) (i : Nat) (h : i ≤ s.size) : digAt s i ≤ s.size := (digF_bd s _ i).2 h
theorem digAt_none {s : ByteArray} {i : Nat} : digAt s i = i ↔ isD (bAt s i) = false := by
  rw [digAt_eq]
  cases h : isD (bAt s i) with
  | true =>
    rw [if_pos rfl]
    have := digAt_ge s (i + 1)
    constructor
    · intro h2; omega
    · intro h2; cases h2
  | false => simp

/-- A number's fraction, if one stands there: true and the place behind it, or false and where a digit is missing. -/
def fracAt (s : ByteArray) (i : Nat) : Bool × Nat := if bAt s i = 46 then (if digAt s (i + 1) = i + 1 then (false, i + 1) else (true, digAt s (i + 1))) else (true, i)
/-- Where the digits of an exponent whose letter stands at i begin. -/
def signAt (s : ByteArray) (i : Nat) : Nat := if bAt s (i + 1) = 43 ∨ bAt s (i + 1) = 45 then i + 2 else i + 1
def expAt (s : ByteArray) (i : Nat) : Bool × Nat := if bAt s i = 101 ∨ bAt s i = 69 then (if digAt s (signAt s i) = signAt s i then (false, signAt s i) else (true, digAt s (signAt s i))) else (true, i)
def minAt (s : ByteArray) (i : Nat) : Nat := if bAt s i = 45 then i + 1 else i
def headAt (s : ByteArray) (i : Nat) : Nat := if bAt s i = 48 then i + 1 else digAt s i
/-- The number that begins at i: true and the place behind it, or false and where a digit is missing. -/
def numAt (s : ByteArray) (i : Nat) : Bool × Nat :=
  if isD (bAt s (minAt s i)) = true then
    (if (fracAt s (headAt s (minAt s i))).1 = true then expAt s (fracAt s (headAt s (minAt s i))).2 else fracAt s (headAt s (minAt s i)))
  else (false, minAt s i)

/-- A hexadecimal digit's number; 16: it is none. -/
def hexD (c : Nat) : Nat := if 48 ≤ c ∧ c ≤ 57 then c - 48 else if 97 ≤ c ∧ c ≤ 102 then c - 87 else if 65 ≤ c ∧ c ≤ 70 then c - 55 else 16
theorem hexD_zero : hexD 0 = 16 := rfl
/-- What the first k digits behind i tell; 65536 and more: they are none. -/
def hexF (s : ByteArray) (i : Nat) : Nat → Nat
  | 0 => 0
  | k + 1 => if hexF s i k < 65536 ∧ hexD (bAt s (i + k)) < 16 then hexF s i k * 16 + hexD (bAt s (i + k)) else 65536
/-- The number of a backslash, u and four digits that stand at i; 65536: no such thing. -/
def hexAt (s : ByteArray) (i : Nat) : Nat := if bAt s i = 92 ∧ bAt s (i + 1) = 117 then hexF s (i + 2) 4 else 65536
/-- The escape at i: the error's number, the scalar, the bytes. -/
def escAt (s : ByteArray) (i : Nat) : Nat × Nat × Nat :=
  let c := bAt s (i + 1)
  if c = 34 ∨ c = 92 ∨ c = 47 then (0, c, 2)
  else if c = 98 then (0, 8, 2)
  else if c = 102 then (0, 12, 2)
  else if c = 110 then (0, 10, 2)
  else if c = 114 then (0, 13, 2)
  else if c = 116 then (0, 9, 2)
  else if 65536 ≤ hexAt s i then (2, 0, 0)
  else if scalarN (hexAt s i) = true then (0, hexAt s i, 6)
  else if hexAt s i < 56320 ∧ 56320 ≤ hexAt s (i + 6) ∧ hexAt s (i + 6) ≤ 57343 then (0, 65536 + (hexAt s i - 55296) * 1024 + (hexAt s (i + 6) - 56320), 12)
  else (1, 0, 0)
/-- The text from i on, acc ahead of it: the error's number and its place, or the place behind the text, and the text. -/
def qF (s : ByteArray) : Nat → Nat → List UInt8 → Nat × Nat × List UInt8
  | 0, _, _ => (2, s.size, [])
  | f + 1, i, acc =>
    if i < s.size then
      (if bAt s i = 34 then (0, i + 1, acc)
      else if bAt s i < 32 then (2, i, [])
      else if bAt s i = 92 then (if (escAt s i).1 = 0 then qF s f (i + (escAt s i).2.2) (acc ++ (encN (escAt s i).2.1).map UInt8.ofNat) else ((escAt s i).1, i, []))
      else qF s f (i + 1) (acc ++ [UInt8.ofNat (bAt s i)]))
    else (2, s.size, [])
def qAt (s : ByteArray) (i : Nat) (acc : List UInt8) : Nat × Nat × List UInt8 := qF s (s.size - i + 1) i acc

structure Tk where
  kind : Nat
  fr : Nat
  «to» : Nat
  text : ByteArray
/-- The token of a byte; 0: none. -/
def signK (c : Nat) : Nat := if c = 123 then 6 else if c = 125 then 7 else if c = 91 then 8 else if c = 93 then 9 else if c = 58 then 10 else if c = 44 then 11 else 0
def noS : ByteArray := ⟨#[]⟩
/-- The token that begins at i: the error's number, its place, the token. -/
def oneAt (s : ByteArray) (i : Nat) : Nat × Nat × Tk :=
  let c := bAt s i
  if signK c ≠ 0 then (0, 0, ⟨signK c, i, i + 1, noS⟩)
  else if c = 110 then (if bAt s (i + 1) = 117 ∧ bAt s (i + 2) = 108 ∧ bAt s (i + 3) = 108 then (0, 0, ⟨1, i, i + 4, noS⟩) else (2, i, ⟨0, 0, 0, noS⟩))
  else if c = 116 then (if bAt s (i + 1) = 114 ∧ bAt s (i + 2) = 117 ∧ bAt s (i + 3) = 101 then (0, 0, ⟨2, i, i + 4, noS⟩) else (2, i, ⟨0, 0, 0, noS⟩))
  else if c = 102 then (if bAt s (i + 1) = 97 ∧ bAt s (i + 2) = 108 ∧ bAt s (i + 3) = 115 ∧ bAt s (i + 4) = 101 then (0, 0, ⟨3, i, i + 5, noS⟩) else (2, i, ⟨0, 0, 0, noS⟩))
  else if c = 45 ∨ isD c = true then (if (numAt s i).1 = true then (0, 0, ⟨4, i, (numAt s i).2, noS⟩) else (2, (numAt s i).2, ⟨0, 0, 0, noS⟩))
  else if c = 34 then (if (qAt s (i + 1) []).1 = 0 then (0, 0, ⟨5, i, (qAt s (i + 1) []).2.1, ⟨(qAt s (i + 1) []).2.2.toArray⟩⟩) else ((qAt s (i + 1) []).1, (qAt s (i + 1) []).2.1, ⟨0, 0, 0, noS⟩))
  else (2, i, ⟨0, 0, 0, noS⟩)
def blankN (c : Nat) : Bool := c == 32 || c == 9 || c == 10 || c == 13
/-- The tokens from i on: up to the first error, its number and place. -/
def scanF (s : ByteArray) : Nat → Nat → List Tk × Nat × Nat
  | 0, _ => ([], 0, 0)
  | f + 1, i =>
    if i < s.size then
      (if blankN (bAt s i) = true then scanF s f (i + 1)
      else if (oneAt s i).1 = 0 then
        (((oneAt s i).2.2 :: (scanF s f (oneAt s i).2.2.to).1), (scanF s f (oneAt s i).2.2.to).2)
      else ([], (oneAt s i).1, (oneAt s i).2.1))
    else ([], 0, 0)
/-- The tokens up to the first error, its number and place. -/
def someS (s : ByteArray) : List Tk × Nat × Nat := if utfE s = 0 then scanF s (s.size + 1) 0 else ([], 1, brkAt s 0)
/-- The tokens, none where there is an error; its number and place. -/
def scanS (s : ByteArray) : List Tk × Nat × Nat := if (someS s).2.1 = 0 then ((someS s).1, 0, 0) else ([], (someS s).2)

/-! ### Bounds -/
theorem fracAt_bd (s : ByteArray) (i : Nat) (h : i ≤ s.size) : i ≤ (fracAt s i).2 ∧ (fracAt s i).2 ≤ s.size := by
  unfold fracAt
  by_cases h1 : bAt s i = 46
  · have hi := lt_of_bAt (s := s) (i := i) (by omega)
    have h2 := digAt_ge s (i + 1)
    have h3 := digAt_le s (i + 1) hi
    rw [if_pos h1]
    split <;> (simp only; omega)
  · rw [if_neg h1]; exact ⟨Nat.le_refl _, h⟩
theorem signAt_bd (s : ByteArray) (i : Nat) (h : i < s.size) : i < signAt s i ∧ signAt s i ≤ s.size := by
  unfold signAt
  split
  · rename_i h1
    have hi := lt_of_bAt (s := s) (i := i + 1) (by omega)
    omega
  · omega
theorem expAt_bd (s : ByteArray) (i : Nat) (h : i ≤ s.size) : i ≤ (expAt s i).2 ∧ (expAt s i).2 ≤ s.size := by
  unfold expAt
  by_cases h1 : bAt s i = 101 ∨ bAt s i = 69
  · have hi := lt_of_bAt (s := s) (i := i) (by omega)
    have hs := signAt_bd s i hi
    have h2 := digAt_ge s (signAt s i)
    have h3 := digAt_le s (signAt s i) hs.2
    rw [if_pos h1]
    split <;> (simp only; omega)
  · rw [if_neg h1]; exact ⟨Nat.le_refl _, h⟩
theorem minAt_bd (s : ByteArray) (i : Nat) (h : i < s.size) : i ≤ minAt s i ∧ minAt s i ≤ s.size ∧ minAt s i ≤ i + 1 := by
  unfold minAt; split <;> omega
theorem headAt_bd (s : ByteArray) (i : Nat) (h : isD (bAt s i) = true) : i < headAt s i ∧ headAt s i ≤ s.size := by
  have h0 := isD_iff.1 h
  have hi := lt_of_bAt (s := s) (i := i) (by omega)
  have h2 := digAt_ge s (i + 1)
  have h3 := digAt_le s (i + 1) hi
  unfold headAt
  rw [digAt_eq, if_pos h]
  split <;> omega
theorem numAt_bd (s : ByteArray) (i : Nat) (h : i < s.size) : i ≤ (numAt s i).2 ∧ (numAt s i).2 ≤ s.size ∧ ((numAt s i).1 = true → i < (numAt s i).2) := by
  have h1 := minAt_bd s i h
  unfold numAt
  by_cases hd : isD (bAt s (minAt s i)) = true
  · rw [if_pos hd]
    have h2 := headAt_bd s _ hd
    have h3 := fracAt_bd s _ h2.2
    have h4 := expAt_bd s _ h3.2
    split
    · exact ⟨by omega, h4.2, fun _ => by omega⟩
    · exact ⟨by omega, h3.2, fun h => by omega⟩
  · rw [if_neg hd]
    exact ⟨h1.1, h1.2.1, fun h => by cases h⟩

theorem hexF_ok (s : ByteArray) (i : Nat) : ∀ k, hexF s i k < 65536 → (∀ j, j < k → hexD (bAt s (i + j)) < 16) ∧ hexF s i k < 16 ^ k
  | 0 => fun _ => ⟨fun j h => by omega, by simp [hexF]⟩
  | k + 1 => fun h => by
    rw [hexF] at h
    by_cases hc : hexF s i k < 65536 ∧ hexD (bAt s (i + k)) < 16
    · have ih := hexF_ok s i k hc.1
      refine ⟨fun j hj => ?_, ?_⟩
      · rcases Nat.lt_or_ge j k with hlt | hge
        · exact ih.1 j hlt
        · obtain rfl : j = k := by omega
          exact hc.2
      · rw [hexF, if_pos hc, Nat.pow_succ]
        have := hc.2
        have := ih.2
        omega
    · rw [if_neg hc] at h; omega
theorem hexAt_ok {s : ByteArray} {i : Nat} (h : hexAt s i < 65536) : i + 6 ≤ s.size ∧ bAt s i = 92 ∧ bAt s (i + 1) = 117 := by
  unfold hexAt at h
  by_cases hc : bAt s i = 92 ∧ bAt s (i + 1) = 117
  · rw [if_pos hc] at h
    have h5 := (hexF_ok s (i + 2) 4 h).1 3 (by omega)
    refine ⟨?_, hc⟩
    have := lt_of_bAt (s := s) (i := i + 2 + 3) (by intro h0; rw [h0, hexD_zero] at h5; omega)
    omega
  · rw [if_neg hc] at h; omega
theorem hexAt_le (s : ByteArray) (i : Nat) : hexAt s i ≤ 65536 := by
  by_cases h : hexAt s i < 65536
  · omega
  · unfold hexAt
    split
    · rw [show hexF s (i + 2) 4 = if hexF s (i + 2) 3 < 65536 ∧ hexD (bAt s (i + 2 + 3)) < 16 then hexF s (i + 2) 3 * 16 + hexD (bAt s (i + 2 + 3)) else 65536 from rfl]
      split
      · rename_i hc
        have := (hexF_ok s (i + 2) 3 hc.1).2
        omega
      · exact Nat.le_refl _
    · exact Nat.le_refl _
theorem scalarN_iff {r : Nat} : scalarN r = true ↔ r < 55296 ∨ (57344 ≤ r ∧ r ≤ 1114111) := by simp [scalarN]
theorem escAt_ok {s : ByteArray} {i : Nat} (_h92 : bAt s i = 92) (h : (escAt s i).1 = 0) : i + (escAt s i).2.2 ≤ s.size ∧ 2 ≤ (escAt s i).2.2 ∧ (escAt s i).2.2 ≤ 12 ∧ scalarN (escAt s i).2.1 = true ∧ ((escAt s i).2.1 < 128 ∨ 4 ≤ (escAt s i).2.2) := by
  unfold escAt at h ⊢
  simp only at h ⊢
  have hl : bAt s (i + 1) ≠ 0 → i + 2 ≤ s.size := fun h => by have := lt_of_bAt h; omega
  by_cases h1 : bAt s (i + 1) = 34 ∨ bAt s (i + 1) = 92 ∨ bAt s (i + 1) = 47
  · rw [if_pos h1]
    exact ⟨hl (by omega), Nat.le_refl _, by simp, by rw [scalarN_iff]; simp only; omega, Or.inl (by simp only; omega)⟩
  rw [if_neg h1] at h ⊢
  by_cases h2 : bAt s (i + 1) = 98
  · rw [if_pos h2]
    exact ⟨hl (by omega), Nat.le_refl _, by simp, rfl, Or.inl (by decide)⟩
  rw [if_neg h2] at h ⊢
  by_cases h3 : bAt s (i + 1) = 102
  · rw [if_pos h3]
    exact ⟨hl (by omega), Nat.le_refl _, by simp, rfl, Or.inl (by decide)⟩
  rw [if_neg h3] at h ⊢
  by_cases h4 : bAt s (i + 1) = 110
  · rw [if_pos h4]
    exact ⟨hl (by omega), Nat.le_refl _, by simp, rfl, Or.inl (by decide)⟩
  rw [if_neg h4] at h ⊢
  by_cases h5 : bAt s (i + 1) = 114
  · rw [if_pos h5]
    exact ⟨hl (by omega), Nat.le_refl _, by simp, rfl, Or.inl (by decide)⟩
  rw [if_neg h5] at h ⊢
  by_cases h6 : bAt s (i + 1) = 116
  · rw [if_pos h6]
    exact ⟨hl (by omega), Nat.le_refl _, by simp, rfl, Or.inl (by decide)⟩
  rw [if_neg h6] at h ⊢
  by_cases h7 : 65536 ≤ hexAt s i
  · rw [if_pos h7] at h; cases h
  rw [if_neg h7] at h ⊢
  have h8 := hexAt_ok (s := s) (i := i) (by omega)
  by_cases h9 : scalarN (hexAt s i) = true
  · rw [if_pos h9]
    exact ⟨h8.1, by simp, by simp, h9, Or.inr (by simp)⟩
  rw [if_neg h9] at h ⊢
  by_cases ha : hexAt s i < 56320 ∧ 56320 ≤ hexAt s (i + 6) ∧ hexAt s (i + 6) ≤ 57343
  · rw [if_pos ha]
    have hb := hexAt_ok (s := s) (i := i + 6) (by omega)
    rw [scalarN_iff] at h9
    exact ⟨by simp only; omega, by simp, by simp, by rw [scalarN_iff]; simp only; omega, Or.inr (by simp)⟩
  · rw [if_neg ha] at h; cases h

theorem qF_fuel (s : ByteArray) : ∀ f g i acc, s.size - i < f → s.size - i < g → qF s f i acc = qF s g i acc := by
  intro f
  induction f with
  | zero => intro g i acc h1; omega
  | succ f ih =>
    intro g i acc h1 h2
    obtain ⟨g, rfl⟩ : ∃ m, g = m + 1 := ⟨g - 1, by omega⟩
    rw [qF, qF]
    by_cases hi : i < s.size
    · rw [if_pos hi, if_pos hi]
      by_cases h34 : bAt s i = 34
      · rw [if_pos h34, if_pos h34]
      rw [if_neg h34, if_neg h34]
      by_cases h32 : bAt s i < 32
      · rw [if_pos h32, if_pos h32]
      rw [if_neg h32, if_neg h32]
      by_cases h92 : bAt s i = 92
      · rw [if_pos h92, if_pos h92]
        by_cases he : (escAt s i).1 = 0
        · have := escAt_ok h92 he
          rw [if_pos he, if_pos he]
          exact ih _ _ _ (by omega) (by omega)
        · rw [if_neg he, if_neg he]
      · rw [if_neg h92, if_neg h92]
        exact ih _ _ _ (by omega) (by omega)
    · rw [if_neg hi, if_neg hi]
theorem qAt_eq (s : ByteArray) (i : Nat) (acc : List UInt8) : qAt s i acc =
    if i < s.size then
      (if bAt s i = 34 then (0, i + 1, acc)
      else if bAt s i < 32 then (2, i, [])
      else if bAt s i = 92 then (if (escAt s i).1 = 0 then qAt s (i + (escAt s i).2.2) (acc ++ (encN (escAt s i).2.1).map UInt8.ofNat) else ((escAt s i).1, i, []))
      else qAt s (i + 1) (acc ++ [UInt8.ofNat (bAt s i)]))
    else (2, s.size, []) := by
  conv => lhs; unfold qAt
  rw [qF]
  by_cases hi : i < s.size
  · rw [if_pos hi, if_pos hi]
    by_cases h92 : bAt s i = 92
    · rw [if_pos h92, if_pos h92]
      by_cases he : (escAt s i).1 = 0
      · have := escAt_ok h92 he
        rw [if_pos he, if_pos he, qF_fuel s (s.size - i) (s.size - (i + (escAt s i).2.2) + 1) (i + (escAt s i).2.2) _ (by omega) (by omega)]
        rfl
      · rw [if_neg he, if_neg he]
    · rw [if_neg h92, if_neg h92, qF_fuel s (s.size - i) (s.size - (i + 1) + 1) (i + 1) _ (by omega) (by omega)]
      rfl
  · rw [if_neg hi, if_neg hi]
theorem escAt_err (s : ByteArray) (i : Nat) : (escAt s i).1 = 0 ∨ (escAt s i).1 = 1 ∨ (escAt s i).1 = 2 := by
  unfold escAt
  simp only
  repeat' split
  all_goals simp
theorem enc_esc (s : ByteArray) (i : Nat) (h92 : bAt s i = 92) (h : (escAt s i).1 = 0) : (if (escAt s i).2.1 < 128 then 1 else if (escAt s i).2.1 < 2048 then 2 else if (escAt s i).2.1 < 65536 then 3 else 4) ≤ (escAt s i).2.2 := by
  have h2 := escAt_ok h92 h
  repeat' split
  all_goals omega
theorem qAt_bd (s : ByteArray) : ∀ n i acc, s.size - i ≤ n → i ≤ s.size →
    ((qAt s i acc).1 = 0 ∨ (qAt s i acc).1 = 1 ∨ (qAt s i acc).1 = 2) ∧ i ≤ (qAt s i acc).2.1 ∧ (qAt s i acc).2.1 ≤ s.size ∧ ((qAt s i acc).1 = 0 → i < (qAt s i acc).2.1 ∧ (qAt s i acc).2.2.length + i < acc.length + (qAt s i acc).2.1) := by
  intro n
  induction n with
  | zero =>
    intro i acc h1 h2
    rw [qAt_eq, if_neg (by omega)]
    exact ⟨Or.inr (Or.inr rfl), h2, Nat.le_refl _, fun h => by cases h⟩
  | succ n ih =>
    intro i acc h1 h2
    rw [qAt_eq]
    by_cases hi : i < s.size
    · rw [if_pos hi]
      by_cases h34 : bAt s i = 34
      · rw [if_pos h34]
        exact ⟨Or.inl rfl, by simp, hi, fun _ => ⟨by simp, by simp⟩⟩
      rw [if_neg h34]
      by_cases h32 : bAt s i < 32
      · rw [if_pos h32]
        exact ⟨Or.inr (Or.inr rfl), Nat.le_refl _, h2, fun h => by cases h⟩
      rw [if_neg h32]
      by_cases h92 : bAt s i = 92
      · rw [if_pos h92]
        by_cases he : (escAt s i).1 = 0
        · have := escAt_ok h92 he
          rw [if_pos he]
          have hh := ih (i + (escAt s i).2.2) (acc ++ (encN (escAt s i).2.1).map UInt8.ofNat) (by omega) (by omega)
          have hlen : (encN (escAt s i).2.1).length ≤ (escAt s i).2.2 := by
            rw [encN_len]
            have := enc_esc s i h92 he
            exact this
          refine ⟨hh.1, by omega, hh.2.2.1, fun h0 => ?_⟩
          have := hh.2.2.2 h0
          rw [List.length_append, List.length_map] at this
          omega
        · rw [if_neg he]
          exact ⟨escAt_err s i, Nat.le_refl _, h2, fun h => absurd h he⟩
      · rw [if_neg h92]
        have hh := ih (i + 1) (acc ++ [UInt8.ofNat (bAt s i)]) (by omega) (by omega)
        refine ⟨hh.1, by omega, hh.2.2.1, fun h0 => ?_⟩
        have := hh.2.2.2 h0
        rw [List.length_append, List.length_cons, List.length_nil] at this
        omega
    · rw [if_neg hi]
      exact ⟨Or.inr (Or.inr rfl), h2, Nat.le_refl _, fun h => by cases h⟩

end Go.Proofs.YtibopkodoidjoaaGreatDoor

/- Package scan: the walks of its small functions, and of number. -/
namespace Go.Proofs.YtibopkodoidjoaaGreatDoor
open Go Go.RowKit

set_option maxHeartbeats 400000 in
theorem digit_calls (c : Nat) (w : World) : Calls Tryz.prog 100 #[.int .u8 (c : Int)] w fun e w' => e = .returned (.bool (isD c)) ∧ w' = w := by
  by_cases h1 : 48 ≤ c
  · by_cases h2 : c ≤ 57
    · have e : isD c = true := isD_iff.2 ⟨h1, h2⟩
      rw [e]
      clear e
      go_enter Tryz.func100, Tryz.ntmps100
      (go_wp2_with fail; repeat (any_goals (go_quiet (fail); go_wp2_with fail)))
      go_ret
      exact ⟨by simp <;> omega, rfl⟩
    · have e : isD c = false := by rw [Bool.eq_false_iff]; intro h; exact h2 (isD_iff.1 h).2
      rw [e]
      clear e
      go_enter Tryz.func100, Tryz.ntmps100
      (go_wp2_with fail; repeat (any_goals (go_quiet (fail); go_wp2_with fail)))
      go_ret
      exact ⟨by simp <;> omega, rfl⟩
  · have e : isD c = false := by rw [Bool.eq_false_iff]; intro h; exact h1 (isD_iff.1 h).1
    rw [e]
    clear e
    go_enter Tryz.func100, Tryz.ntmps100
    (go_wp2_with fail; repeat (any_goals (go_quiet (fail); go_wp2_with fail)))
    go_ret
    exact ⟨by simp <;> omega, rfl⟩
theorem byte_at (s : ByteArray) (i : Nat) : ∀ h, ((s[i]'h).toNat : Int) = (bAt s i : Int) := fun h => by rw [bAt_eq]
set_option maxHeartbeats 1000000 in
theorem digits_calls (s : ByteArray) (i : Nat) (w : World) (hs : s.size ≤ 140737488351232) (hi : i ≤ s.size) :
    Calls Tryz.prog 119 #[.string s, .int .i64 (i : Int)] w fun e w' => e = .returned (.int .i64 (digAt s i : Nat)) ∧ w' = w := by
  obtain ⟨r, hr⟩ : ∃ r, digAt s i = r := ⟨_, rfl⟩
  rw [hr]
  replace hr := Lib.hid hr
  go_enter Tryz.func119, Tryz.ntmps119
  (go_wp2_with fail; repeat (any_goals (go_quiet (fail); go_wp2_with fail)))
  go_loop [1] (fun v => ∃ k : Nat, k ≤ s.size ∧ v = .int .i64 (k : Int) ∧ Hid (digAt s k = r)) (fun v => s.size - (intOf v).toNat)
  case atStart => exact ⟨i, hi, rfl, hr⟩
  case round =>
    obtain ⟨k, hk, rfl, hr2⟩ := hrel
    have hx := byte_at s k
    have he := Lib.hid (digAt_eq s k)
    by_cases hlt : k < s.size
    · have D := Lib.hid (fun w => digit_calls (bAt s k) w)
      cases hd : isD (bAt s k) with
      | true =>
        rw [hd] at D
        replace hd := Lib.hid hd
        (go_wp2_with fail; repeat (any_goals (go_quiet (fail); go_wp2_with fail)))
        refine (D.out _).mono ?_
        rintro e w1 ⟨rfl, rfl⟩
        (go_wp2_with fail; repeat (any_goals (go_quiet (fail); go_wp2_with fail)))
        go_round
        case rel => exact ⟨k + 1, by omega, by go_num, Lib.hid (by rw [← hr2.out, he.out, if_pos hd.out])⟩
        case measure => simp [intOf]; omega
      | false =>
        rw [hd] at D
        replace hd := Lib.hid hd
        (go_wp2_with fail; repeat (any_goals (go_quiet (fail); go_wp2_with fail)))
        refine (D.out _).mono ?_
        rintro e w1 ⟨rfl, rfl⟩
        (go_wp2_with fail; repeat (any_goals (go_quiet (fail); go_wp2_with fail)))
        go_ret
        exact ⟨ret_int (by rw [← hr2.out, he.out, if_neg (by rw [hd.out]; simp)]), rfl⟩
    · have hd : isD (bAt s k) = false := by rw [bAt_ge s k (by omega)]; rfl
      replace hd := Lib.hid hd
      (go_wp2_with fail; repeat (any_goals (go_quiet (fail); go_wp2_with fail)))
      go_ret
      exact ⟨ret_int (by rw [← hr2.out, he.out, if_neg (by rw [hd.out]; simp)]), rfl⟩

/-- A new error with a place: block g. -/
def AtB (p : Int) (v : Value) (g : Nat) (w : World) : Prop := w.heap[g]? = some (.cells #[.int .i64 p, v] 86 (0, 0))
set_option maxHeartbeats 400000 in
theorem fault_calls (p : Int) (T : TypeId) (v : Value) (w : World) : Calls Tryz.prog 80 #[.int .i64 p, .iface T v] w fun e w' =>
    ∃ g, w.heap.size ≤ g ∧ e = .returned (.iface 69 (.pointer (some ⟨g, 0, none⟩))) ∧ AtB p (.iface T v) g w' ∧ Below w.heap.size w w' := by
  go_enter Tryz.func80, Tryz.ntmps80
  (go_wp2_with fail; repeat (any_goals (go_quiet (fail); go_wp2_with fail)))
  go_ret
  exact ⟨w.heap.size, Nat.le_refl _, rfl, heap_alloc_new w _, (by repeat (first | assumption | exact Below.refl _ _ | apply Below.drew | apply below_drewN | apply balloc | (refine Below.setCell ?_ (by first | omega | (simp <;> omega)) _)))⟩

set_option maxHeartbeats 1000000 in
theorem one_calls (c : Nat) (w : World) : Calls Tryz.prog 97 #[.int .u8 (c : Int)] w fun e w' => e = .returned (.int .i64 (signK c : Nat)) ∧ w' = w := by
  go_enter Tryz.func97, Tryz.ntmps97
  (go_wp2_with fail; repeat (any_goals (go_quiet (fail); go_wp2_with fail)))
  all_goals
    go_ret
    refine ⟨ret_int ?_, rfl⟩
    unfold signK
    (repeat' split) <;> simp_all <;> omega
/-- The word that begins with a byte, its kind; 0: none. -/
def wordS (c : Nat) : ByteArray := if c = 110 then ⟨#[110, 117, 108, 108]⟩ else if c = 116 then ⟨#[116, 114, 117, 101]⟩ else if c = 102 then ⟨#[102, 97, 108, 115, 101]⟩ else ⟨#[]⟩
def wordK (c : Nat) : Nat := if c = 110 then 1 else if c = 116 then 2 else if c = 102 then 3 else 0
set_option maxHeartbeats 1000000 in
theorem word_calls (c : Nat) (w : World) : Calls Tryz.prog 98 #[.int .u8 (c : Int)] w fun e w' => e = .returned (.tuple #[.string (wordS c), .int .i64 (wordK c : Nat)]) ∧ w' = w := by
  by_cases h1 : c = 110
  · subst h1
    go_enter Tryz.func98, Tryz.ntmps98
    (go_wp2_with fail; repeat (any_goals (go_quiet (fail); go_wp2_with fail)))
    go_ret2
    exact ⟨rfl, rfl⟩
  have k1 : ((c : Int) == 110) = false := by simp; omega
  by_cases h2 : c = 116
  · subst h2
    clear h1 k1
    go_enter Tryz.func98, Tryz.ntmps98
    (go_wp2_with fail; repeat (any_goals (go_quiet (fail); go_wp2_with fail)))
    go_ret2
    exact ⟨rfl, rfl⟩
  have k2 : ((c : Int) == 116) = false := by simp; omega
  by_cases h3 : c = 102
  · subst h3
    clear h1 k1 h2 k2
    go_enter Tryz.func98, Tryz.ntmps98
    (go_wp2_with fail; repeat (any_goals (go_quiet (fail); go_wp2_with fail)))
    go_ret2
    exact ⟨rfl, rfl⟩
  have k3 : ((c : Int) == 102) = false := by simp; omega
  have e1 : wordS c = ⟨#[]⟩ := by unfold wordS; rw [if_neg h1, if_neg h2, if_neg h3]
  have e2 : wordK c = 0 := by unfold wordK; rw [if_neg h1, if_neg h2, if_neg h3]
  rw [e1, e2]
  clear h1 h2 h3 e1 e2
  go_enter Tryz.func98, Tryz.ntmps98
  (go_wp2_with fail; repeat (any_goals (go_quiet (fail); go_wp2_with fail)))
  go_ret2
  exact ⟨rfl, rfl⟩

end Go.Proofs.YtibopkodoidjoaaGreatDoor

/- Package scan: the walks of hex and escape. -/
namespace Go.Proofs.YtibopkodoidjoaaGreatDoor
open Go Go.RowKit

/-- A scanner: its text, its place. -/
def ScB (s : ByteArray) (p : Int) (b : Nat) (w : World) : Prop := w.heap[b]? = some (.cells #[.string s, .int .i64 p] 162 (0, 0))
theorem ScB.s {s : ByteArray} {p : Int} {b : Nat} {w : World} (h : ScB s p b w) : w.cell? ⟨b, 0, none⟩ = some (.string s) := cellB h 0 rfl
theorem ScB.at {s : ByteArray} {p : Int} {b : Nat} {w : World} (h : ScB s p b w) : w.cell? ⟨b, 1, none⟩ = some (.int .i64 p) := cellB h 1 rfl
theorem ScB.next {s : ByteArray} {p : Int} {b : Nat} {w w1 : World} (h : ScB s p b w) (hb : Below w.heap.size w w1) : ScB s p b w1 := box_next h hb
def hexS : ByteArray := ⟨#[48, 49, 50, 51, 52, 53, 54, 55, 56, 57, 97, 98, 99, 100, 101, 102]⟩
/-- What IndexByte tells of a byte with bit 32. -/
def hexI (c : Nat) : Int := Lib.indexByte [48, 49, 50, 51, 52, 53, 54, 55, 56, 57, 97, 98, 99, 100, 101, 102] (c ||| 32).toUInt8
theorem hexI_all : ∀ c, c < 256 → (if hexI c < 0 ∨ c < 48 then hexD c = 16 else hexI c = (hexD c : Int) ∧ hexD c < 16) := by decide +kernel
theorem hexI_ok {c : Nat} (h : c < 256) (hd : hexD c < 16) : hexI c = (hexD c : Int) ∧ 48 ≤ c := by
  have := hexI_all c h
  split at this
  · omega
  · exact ⟨this.1, by omega⟩
theorem hexI_no {c : Nat} (h : c < 256) (hd : ¬ hexD c < 16) : hexI c < 0 ∨ c < 48 := by
  have := hexI_all c h
  split at this
  · assumption
  · exact absurd this.2 hd
theorem bits32_all : ∀ c : Nat, c < 256 → bits BinOp.or IntKind.u8 (c : Int) 32 = ((c ||| 32 : Nat) : Int) := by decide +kernel
theorem wrap16 (n : Nat) (h : n < 4096) : IntKind.i32.wrap ((n : Int) * 16) = (n : Int) * 16 := by rw [IntKind.wrap_i32]; omega
theorem or4 (n d : Nat) (h : n < 4096) (hd : d < 16) : bits BinOp.or IntKind.i32 ((n : Int) * 16) (d : Int) = (n : Int) * 16 + (d : Int) :=
  bits_join .i32 31 (by decide) wraps_i32 4 _ _ (by omega) (by omega) (by omega) (by omega) (by omega) (by omega)
theorem hexF_lt {s : ByteArray} {i k : Nat} (h : hexF s i k < 65536) : hexF s i k < 16 ^ k := (hexF_ok s i k h).2
theorem hexF_bad {s : ByteArray} {i k : Nat} (h : hexF s i k = 65536) : ∀ m, k ≤ m → hexF s i m = 65536
  | 0, hm => by obtain rfl : k = 0 := by omega
                exact h
  | m + 1, hm => by
    by_cases he : k = m + 1
    · rw [← he]; exact h
    · have := hexF_bad h m (by omega)
      rw [hexF, if_neg (by omega)]
/-- What hex answers. -/
def hexR (h : Nat) : Value := if h < 65536 then .tuple #[.int .i32 (h : Int), .bool true] else .tuple #[.int .i32 0, .bool false]
set_option maxHeartbeats 2000000 in
set_option maxRecDepth 100000 in
theorem hex_in (s : ByteArray) (p : Int) (b i : Nat) (w : World) (hs : (s.size : Int) ≤ 140737488351232) (hsc : ScB s p b w) (h6 : (i : Int) + 6 ≤ (s.size : Int)) (h0 : bAt s i = 92) (h1 : bAt s (i + 1) = 117) :
    Calls Tryz.prog 136 #[.pointer (some ⟨b, 0, none⟩), .int .i64 (i : Int)] w fun e w' => e = .returned (hexR (hexF s (i + 2) 4)) ∧ w' = w := by
  have x0 := hsc.s
  have x1 := hsc.at
  have hx0 : ∀ h, ((s[i]'h).toNat : Int) = 92 := fun h => by rw [bAt_eq, h0]; rfl
  have hx1 : ∀ h, ((s[i + 1]'h).toNat : Int) = 117 := fun h => by rw [bAt_eq, h1]; rfl
  replace h0 := Lib.hid h0
  replace h1 := Lib.hid h1
  replace hsc := Lib.hid hsc
  obtain ⟨r, hr⟩ : ∃ r, r = hexF s (i + 2) 4 := ⟨_, rfl⟩
  rw [← hr]
  replace hr := Lib.hid hr
  go_enter Tryz.func136, Tryz.ntmps136
  go_wp2_with fail
  clear hx0 hx1
  go_loop [6, 36] (fun v6 v36 => ∃ k : Nat, k ≤ 4 ∧ v36 = .int .i64 (k : Int) ∧ v6 = .int .i32 ((hexF s (i + 2) k : Nat) : Int) ∧ hexF s (i + 2) k < 65536) (fun _ v36 => 4 - (intOf v36).toNat)
  case atStart => exact ⟨0, by decide, rfl, rfl, by show (0 : Nat) < 65536; decide⟩
  case round =>
    obtain ⟨k, hk, rfl, rfl, hlt⟩ := hrel
    by_cases h4 : k < 4
    · have hx : ∀ h, ((s[i + 2 + k]'h).toNat : Int) = (bAt s (i + 2 + k) : Int) := byte_at s _
      have hc := bAt_lt s (i + 2 + k)
      have ho := bits32_all (bAt s (i + 2 + k)) hc
      have hb := hexF_lt hlt
      have I : ∀ w, Calls Tryz.prog 96 #[.string ⟨#[48, 49, 50, 51, 52, 53, 54, 55, 56, 57, 97, 98, 99, 100, 101, 102]⟩, .int .u8 ((bAt s (i + 2 + k) ||| 32 : Nat) : Int)] w fun e w' => e = .returned (.int .i64 (hexI (bAt s (i + 2 + k)))) ∧ w' = w := fun w => Tryz.strings_IndexByte ⟨#[48, 49, 50, 51, 52, 53, 54, 55, 56, 57, 97, 98, 99, 100, 101, 102]⟩ _ w
      have hn : hexF s (i + 2) (k + 1) = if hexF s (i + 2) k < 65536 ∧ hexD (bAt s (i + 2 + k)) < 16 then hexF s (i + 2) k * 16 + hexD (bAt s (i + 2 + k)) else 65536 := rfl
      replace I := Lib.hid I
      by_cases hd : hexD (bAt s (i + 2 + k)) < 16
      · have hi := hexI_ok hc hd
        have hn2 : hexF s (i + 2) (k + 1) = hexF s (i + 2) k * 16 + hexD (bAt s (i + 2 + k)) := by rw [hn, if_pos ⟨hlt, hd⟩]
        have h12 : hexF s (i + 2) k < 4096 := by
          have : 16 ^ k ≤ 16 ^ 3 := Nat.pow_le_pow_right (by decide) (by omega)
          omega
        rw [hi.1] at I
        have hge : (48 : Int) ≤ (bAt s (i + 2 + k) : Int) := by omega
        have hw := wrap16 _ h12
        have hor := or4 _ _ h12 hd
        clear hn hi hb
        generalize hexD (bAt s (i + 2 + k)) = d at *
        generalize hexF s (i + 2) k = n at *
        replace hn2 := Lib.hid hn2
        generalize bAt s (i + 2 + k) = c at *
        replace hc := Lib.hid hc
        go_wp2_with fail
        refine (I.out _).mono ?_
        rintro e w1 ⟨rfl, rfl⟩
        go_wp2_with fail
        go_round
        case rel => exact ⟨k + 1, by omega, by go_num, by rw [hn2.out]; go_num, by rw [hn2.out]; omega⟩
        case measure => simp [intOf]; omega
      · have hi := hexI_no hc hd
        have hn2 : hexF s (i + 2) (k + 1) = 65536 := by rw [hn, if_neg (fun h => hd h.2)]
        have hend : Hid (¬ r < 65536) := by
          have h4' : hexF s (i + 2) 4 = 65536 := hexF_bad hn2 4 (by omega)
          exact Lib.hid (by rw [hr.out, h4']; decide)
        clear hn hb hd
        generalize hexI (bAt s (i + 2 + k)) = d at *
        generalize bAt s (i + 2 + k) = c at *
        replace hc := Lib.hid hc
        by_cases hd : d < 0
        · replace hi := Lib.hid hi
          go_wp2_with fail
          refine (I.out _).mono ?_
          rintro e w1 ⟨rfl, rfl⟩
          go_wp2_with fail
          go_ret2
          exact ⟨by rw [hexR, if_neg hend.out]; rfl, rfl⟩
        · have hi2 : (c : Int) < 48 := by omega
          replace hi := Lib.hid hi
          go_wp2_with fail
          refine (I.out _).mono ?_
          rintro e w1 ⟨rfl, rfl⟩
          go_wp2_with fail
          go_ret2
          exact ⟨by rw [hexR, if_neg hend.out]; rfl, rfl⟩
    · obtain rfl : k = 4 := by omega
      have hlt2 : r < 65536 := by rw [hr.out]; exact hlt
      have hre : hexF s (i + 2) 4 = r := hr.out.symm
      go_wp2_with fail
      go_ret2
      exact ⟨by rw [hexR, if_pos hlt2]; rfl, rfl⟩
theorem hex_calls (s : ByteArray) (p : Int) (b i : Nat) (w : World) (hs : (s.size : Int) ≤ 140737488351232) (hsc : ScB s p b w) (hi : (i : Int) ≤ 140737488351300) :
    Calls Tryz.prog 136 #[.pointer (some ⟨b, 0, none⟩), .int .i64 (i : Int)] w fun e w' => e = .returned (hexR (hexAt s i)) ∧ w' = w := by
  by_cases h6 : (i : Int) + 6 ≤ (s.size : Int)
  · by_cases h0 : bAt s i = 92
    · by_cases h1 : bAt s (i + 1) = 117
      · have e : hexAt s i = hexF s (i + 2) 4 := by unfold hexAt; rw [if_pos ⟨h0, h1⟩]
        rw [e]
        exact hex_in s p b i w hs hsc h6 h0 h1
      · have e : hexAt s i = 65536 := by unfold hexAt; rw [if_neg (fun h => h1 h.2)]
        have x0 := hsc.s
        have hx0 : ∀ h, ((s[i]'h).toNat : Int) = 92 := fun h => by rw [bAt_eq, h0]; rfl
        have hx1 : ∀ h, ((s[i + 1]'h).toNat : Int) = (bAt s (i + 1) : Int) := byte_at s _
        have hb1 : ((bAt s (i + 1) : Int) != 117) = true := by simp; omega
        rw [e]
        replace h0 := Lib.hid h0
        replace h1 := Lib.hid h1
        replace hsc := Lib.hid hsc
        replace e := Lib.hid e
        go_enter Tryz.func136, Tryz.ntmps136
        go_wp2_with fail
        go_ret2
        exact ⟨rfl, rfl⟩
    · have e : hexAt s i = 65536 := by unfold hexAt; rw [if_neg (fun h => h0 h.1)]
      have x0 := hsc.s
      have hx0 : ∀ h, ((s[i]'h).toNat : Int) = (bAt s i : Int) := byte_at s _
      have hb0 : ((bAt s i : Int) != 92) = true := by simp; omega
      rw [e]
      replace h0 := Lib.hid h0
      replace hsc := Lib.hid hsc
      replace e := Lib.hid e
      go_enter Tryz.func136, Tryz.ntmps136
      go_wp2_with fail
      go_ret2
      exact ⟨rfl, rfl⟩
  · have e : hexAt s i = 65536 := by
      by_cases h : hexAt s i < 65536
      · have := (hexAt_ok h).1; omega
      · have := hexAt_le s i; omega
    have x0 := hsc.s
    rw [e]
    replace hsc := Lib.hid hsc
    replace e := Lib.hid e
    go_enter Tryz.func136, Tryz.ntmps136
    go_wp2_with fail
    go_ret2
    exact ⟨rfl, rfl⟩

end Go.Proofs.YtibopkodoidjoaaGreatDoor

/- Package scan: the walk of escape. -/
namespace Go.Proofs.YtibopkodoidjoaaGreatDoor
open Go Go.RowKit

set_option maxHeartbeats 400000 in
theorem Width_calls (r : Int) (w : World) :
    Calls Tryz.prog 137 #[.int .i32 r] w fun e w' => e = .returned (.int .i64 (max (Lib.runeLen r) 0)) ∧ w' = w := by
  have C := Lib.hid (fun w => Tryz.utf8_RuneLen r w)
  generalize Lib.runeLen r = n at *
  go_enter Tryz.func137, Tryz.ntmps137
  go_wp2_with fail
  refine (C.out _).mono ?_
  rintro e w1 ⟨rfl, rfl⟩
  go_wp2_with fail
  go_ret
  exact ⟨rfl, rfl⟩
set_option maxHeartbeats 400000 in
theorem Pair_ok' (x y : Int) (w : World) (h0 : 55296 ≤ x) (h1 : x < 56320) (h2 : 56320 ≤ y) (h3 : y ≤ 57343) :
    Calls Tryz.prog 138 #[.int .i32 x, .int .i32 y] w fun e w' => e = .returned (.tuple #[.int .i32 (65536 + (x - 55296) * 1024 + (y - 56320)), .nilIface]) ∧ w' = w := by
  go_enter Tryz.func138, Tryz.ntmps138
  go_wp2_with fail
  go_ret2
  exact ⟨rfl, rfl⟩
theorem Pair_ok (x y : Nat) (w : World) (h0 : 55296 ≤ x) (h1 : x < 56320) (h2 : 56320 ≤ y) (h3 : y ≤ 57343) :
    Calls Tryz.prog 138 #[.int .i32 (x : Int), .int .i32 (y : Int)] w fun e w' => e = .returned (.tuple #[.int .i32 ((65536 + (x - 55296) * 1024 + (y - 56320) : Nat) : Int), .nilIface]) ∧ w' = w := by
  have := Pair_ok' (x : Int) (y : Int) w (by omega) (by omega) (by omega) (by omega)
  rw [show (65536 : Int) + ((x : Int) - 55296) * 1024 + ((y : Int) - 56320) = ((65536 + (x - 55296) * 1024 + (y - 56320) : Nat) : Int) by omega] at this
  exact this
set_option maxHeartbeats 400000 in
theorem Pair_hi {A : Nat → Addr} {B : Nat} (x y : Int) (w : World) (hE : Env A B SU w) (h0 : 55296 ≤ x) (h1 : 56320 ≤ x) :
    Calls Tryz.prog 138 #[.int .i32 x, .int .i32 y] w fun e w' => e = .returned (.tuple #[.int .i32 0, .iface 237 (.pointer (some (A 1)))]) ∧ Below w.heap.size w w' := by
  have e1 := hE.e1
  have l1 := hE.l1
  go_enter Tryz.func138, Tryz.ntmps138
  (go_wp2_with fail; repeat (any_goals (go_quiet (fail); go_wp2_with fail)))
  go_ret2
  exact ⟨rfl, (by repeat (first | assumption | exact Below.refl _ _ | apply Below.drew | apply below_drewN | apply balloc | (refine Below.setCell ?_ (by first | omega | (simp <;> omega)) _)))⟩
set_option maxHeartbeats 400000 in
theorem Pair_lo1 {A : Nat → Addr} {B : Nat} (x y : Int) (w : World) (hE : Env A B SU w) (h0 : 55296 ≤ x) (h1 : x < 56320) (h2 : y < 56320) :
    Calls Tryz.prog 138 #[.int .i32 x, .int .i32 y] w fun e w' => e = .returned (.tuple #[.int .i32 0, .iface 237 (.pointer (some (A 1)))]) ∧ Below w.heap.size w w' := by
  have e1 := hE.e1
  have l1 := hE.l1
  go_enter Tryz.func138, Tryz.ntmps138
  (go_wp2_with fail; repeat (any_goals (go_quiet (fail); go_wp2_with fail)))
  go_ret2
  exact ⟨rfl, (by repeat (first | assumption | exact Below.refl _ _ | apply Below.drew | apply below_drewN | apply balloc | (refine Below.setCell ?_ (by first | omega | (simp <;> omega)) _)))⟩
set_option maxHeartbeats 400000 in
theorem Pair_lo2 {A : Nat → Addr} {B : Nat} (x y : Int) (w : World) (hE : Env A B SU w) (h0 : 55296 ≤ x) (h1 : x < 56320) (h2 : 56320 ≤ y) (h3 : 57343 < y) :
    Calls Tryz.prog 138 #[.int .i32 x, .int .i32 y] w fun e w' => e = .returned (.tuple #[.int .i32 0, .iface 237 (.pointer (some (A 1)))]) ∧ Below w.heap.size w w' := by
  have e1 := hE.e1
  have l1 := hE.l1
  go_enter Tryz.func138, Tryz.ntmps138
  (go_wp2_with fail; repeat (any_goals (go_quiet (fail); go_wp2_with fail)))
  go_ret2
  exact ⟨rfl, (by repeat (first | assumption | exact Below.refl _ _ | apply Below.drew | apply below_drewN | apply balloc | (refine Below.setCell ?_ (by first | omega | (simp <;> omega)) _)))⟩
theorem Pair_bad {A : Nat → Addr} {B : Nat} (x y : Nat) (w : World) (hE : Env A B SU w) (h0 : 55296 ≤ x) (h : ¬ (x < 56320 ∧ 56320 ≤ y ∧ y ≤ 57343)) :
    Calls Tryz.prog 138 #[.int .i32 (x : Int), .int .i32 (y : Int)] w fun e w' => e = .returned (.tuple #[.int .i32 0, .iface 237 (.pointer (some (A 1)))]) ∧ Below w.heap.size w w' := by
  by_cases h1 : x < 56320
  · by_cases h2 : y < 56320
    · exact Pair_lo1 (x : Int) (y : Int) w hE (by omega) (by omega) (by omega)
    · exact Pair_lo2 (x : Int) (y : Int) w hE (by omega) (by omega) (by omega) (by omega)
  · exact Pair_hi (x : Int) (y : Int) w hE (by omega) (by omega)

abbrev SJ : List Nat := [1, 2]
/-- What escape answers where there is an escape. -/
def EscOk (r n : Nat) (e : Ending) : Prop := e = .returned (.tuple #[.int .i32 (r : Int), .int .i64 (n : Int), .nilIface])
def EscBad (A : Nat → Addr) (k : Nat) (i : Nat) (w : World) (e : Ending) (w' : World) : Prop :=
  ∃ g, w.heap.size ≤ g ∧ e = .returned (.tuple #[.int .i32 0, .int .i64 0, .iface 69 (.pointer (some ⟨g, 0, none⟩))]) ∧ AtB (i : Int) (.iface 237 (.pointer (some (A k)))) g w'
set_option maxHeartbeats 1000000 in
theorem esc_q (s : ByteArray) (p : Int) (b i : Nat) (w : World) (hs : (s.size : Int) ≤ 140737488351232) (hsc : ScB s p b w) (hi : (i : Int) + 1 < (s.size : Int)) (hc : bAt s (i + 1) = 34) :
    Calls Tryz.prog 122 #[.pointer (some ⟨b, 0, none⟩), .int .i64 (i : Int)] w fun e w' => EscOk 34 2 e ∧ w' = w := by
  have x0 := hsc.s
  have hx : ∀ h, ((s[i + 1]'h).toNat : Int) = 34 := fun h => by rw [bAt_eq, hc]; rfl
  replace hsc := Lib.hid hsc
  replace hc := Lib.hid hc
  go_enter Tryz.func122, Tryz.ntmps122
  go_wp2_with fail
  exact bodyPost_ret (v := .tuple #[.int .i32 34, .int .i64 2, .nilIface]) (by simp [results, Tryz.results122, go_sem]) rfl ⟨rfl, rfl⟩
set_option maxHeartbeats 1000000 in
theorem esc_b (s : ByteArray) (p : Int) (b i : Nat) (w : World) (hs : (s.size : Int) ≤ 140737488351232) (hsc : ScB s p b w) (hi : (i : Int) + 1 < (s.size : Int)) (hc : bAt s (i + 1) = 92) :
    Calls Tryz.prog 122 #[.pointer (some ⟨b, 0, none⟩), .int .i64 (i : Int)] w fun e w' => EscOk 92 2 e ∧ w' = w := by
  have x0 := hsc.s
  have hx : ∀ h, ((s[i + 1]'h).toNat : Int) = 92 := fun h => by rw [bAt_eq, hc]; rfl
  replace hsc := Lib.hid hsc
  replace hc := Lib.hid hc
  go_enter Tryz.func122, Tryz.ntmps122
  go_wp2_with fail
  exact bodyPost_ret (v := .tuple #[.int .i32 92, .int .i64 2, .nilIface]) (by simp [results, Tryz.results122, go_sem]) rfl ⟨rfl, rfl⟩
set_option maxHeartbeats 1000000 in
theorem esc_s (s : ByteArray) (p : Int) (b i : Nat) (w : World) (hs : (s.size : Int) ≤ 140737488351232) (hsc : ScB s p b w) (hi : (i : Int) + 1 < (s.size : Int)) (hc : bAt s (i + 1) = 47) :
    Calls Tryz.prog 122 #[.pointer (some ⟨b, 0, none⟩), .int .i64 (i : Int)] w fun e w' => EscOk 47 2 e ∧ w' = w := by
  have x0 := hsc.s
  have hx : ∀ h, ((s[i + 1]'h).toNat : Int) = 47 := fun h => by rw [bAt_eq, hc]; rfl
  replace hsc := Lib.hid hsc
  replace hc := Lib.hid hc
  go_enter Tryz.func122, Tryz.ntmps122
  go_wp2_with fail
  exact bodyPost_ret (v := .tuple #[.int .i32 47, .int .i64 2, .nilIface]) (by simp [results, Tryz.results122, go_sem]) rfl ⟨rfl, rfl⟩
set_option maxHeartbeats 1000000 in
theorem esc_bb (s : ByteArray) (p : Int) (b i : Nat) (w : World) (hs : (s.size : Int) ≤ 140737488351232) (hsc : ScB s p b w) (hi : (i : Int) + 1 < (s.size : Int)) (hc : bAt s (i + 1) = 98) :
    Calls Tryz.prog 122 #[.pointer (some ⟨b, 0, none⟩), .int .i64 (i : Int)] w fun e w' => EscOk 8 2 e ∧ w' = w := by
  have x0 := hsc.s
  have hx : ∀ h, ((s[i + 1]'h).toNat : Int) = 98 := fun h => by rw [bAt_eq, hc]; rfl
  replace hsc := Lib.hid hsc
  replace hc := Lib.hid hc
  go_enter Tryz.func122, Tryz.ntmps122
  go_wp2_with fail
  exact bodyPost_ret (v := .tuple #[.int .i32 8, .int .i64 2, .nilIface]) (by simp [results, Tryz.results122, go_sem]) rfl ⟨rfl, rfl⟩
set_option maxHeartbeats 1000000 in
theorem esc_ff (s : ByteArray) (p : Int) (b i : Nat) (w : World) (hs : (s.size : Int) ≤ 140737488351232) (hsc : ScB s p b w) (hi : (i : Int) + 1 < (s.size : Int)) (hc : bAt s (i + 1) = 102) :
    Calls Tryz.prog 122 #[.pointer (some ⟨b, 0, none⟩), .int .i64 (i : Int)] w fun e w' => EscOk 12 2 e ∧ w' = w := by
  have x0 := hsc.s
  have hx : ∀ h, ((s[i + 1]'h).toNat : Int) = 102 := fun h => by rw [bAt_eq, hc]; rfl
  replace hsc := Lib.hid hsc
  replace hc := Lib.hid hc
  go_enter Tryz.func122, Tryz.ntmps122
  go_wp2_with fail
  exact bodyPost_ret (v := .tuple #[.int .i32 12, .int .i64 2, .nilIface]) (by simp [results, Tryz.results122, go_sem]) rfl ⟨rfl, rfl⟩
set_option maxHeartbeats 1000000 in
theorem esc_nn (s : ByteArray) (p : Int) (b i : Nat) (w : World) (hs : (s.size : Int) ≤ 140737488351232) (hsc : ScB s p b w) (hi : (i : Int) + 1 < (s.size : Int)) (hc : bAt s (i + 1) = 110) :
    Calls Tryz.prog 122 #[.pointer (some ⟨b, 0, none⟩), .int .i64 (i : Int)] w fun e w' => EscOk 10 2 e ∧ w' = w := by
  have x0 := hsc.s
  have hx : ∀ h, ((s[i + 1]'h).toNat : Int) = 110 := fun h => by rw [bAt_eq, hc]; rfl
  replace hsc := Lib.hid hsc
  replace hc := Lib.hid hc
  go_enter Tryz.func122, Tryz.ntmps122
  go_wp2_with fail
  exact bodyPost_ret (v := .tuple #[.int .i32 10, .int .i64 2, .nilIface]) (by simp [results, Tryz.results122, go_sem]) rfl ⟨rfl, rfl⟩
set_option maxHeartbeats 1000000 in
theorem esc_rr (s : ByteArray) (p : Int) (b i : Nat) (w : World) (hs : (s.size : Int) ≤ 140737488351232) (hsc : ScB s p b w) (hi : (i : Int) + 1 < (s.size : Int)) (hc : bAt s (i + 1) = 114) :
    Calls Tryz.prog 122 #[.pointer (some ⟨b, 0, none⟩), .int .i64 (i : Int)] w fun e w' => EscOk 13 2 e ∧ w' = w := by
  have x0 := hsc.s
  have hx : ∀ h, ((s[i + 1]'h).toNat : Int) = 114 := fun h => by rw [bAt_eq, hc]; rfl
  replace hsc := Lib.hid hsc
  replace hc := Lib.hid hc
  go_enter Tryz.func122, Tryz.ntmps122
  go_wp2_with fail
  exact bodyPost_ret (v := .tuple #[.int .i32 13, .int .i64 2, .nilIface]) (by simp [results, Tryz.results122, go_sem]) rfl ⟨rfl, rfl⟩
set_option maxHeartbeats 1000000 in
theorem esc_tt (s : ByteArray) (p : Int) (b i : Nat) (w : World) (hs : (s.size : Int) ≤ 140737488351232) (hsc : ScB s p b w) (hi : (i : Int) + 1 < (s.size : Int)) (hc : bAt s (i + 1) = 116) :
    Calls Tryz.prog 122 #[.pointer (some ⟨b, 0, none⟩), .int .i64 (i : Int)] w fun e w' => EscOk 9 2 e ∧ w' = w := by
  have x0 := hsc.s
  have hx : ∀ h, ((s[i + 1]'h).toNat : Int) = 116 := fun h => by rw [bAt_eq, hc]; rfl
  replace hsc := Lib.hid hsc
  replace hc := Lib.hid hc
  go_enter Tryz.func122, Tryz.ntmps122
  go_wp2_with fail
  exact bodyPost_ret (v := .tuple #[.int .i32 9, .int .i64 2, .nilIface]) (by simp [results, Tryz.results122, go_sem]) rfl ⟨rfl, rfl⟩
/-- No letter of an escape. -/
def NoLet (c : Nat) : Prop := c ≠ 34 ∧ c ≠ 92 ∧ c ≠ 47 ∧ c ≠ 98 ∧ c ≠ 102 ∧ c ≠ 110 ∧ c ≠ 114 ∧ c ≠ 116
set_option maxHeartbeats 1000000 in
set_option maxRecDepth 100000 in
theorem esc_six (s : ByteArray) (p : Int) (b i x : Nat) (w : World) (hs : (s.size : Int) ≤ 140737488351232) (hsc : ScB s p b w) (hi : (i : Int) + 1 < (s.size : Int)) (hc : NoLet (bAt s (i + 1))) (hx6 : hexAt s i = x) (hxl : x < 65536) (hsn : scalarN x = true) :
    Calls Tryz.prog 122 #[.pointer (some ⟨b, 0, none⟩), .int .i64 (i : Int)] w fun e w' => EscOk x 6 e ∧ w' = w := by
  have hlt : x < 65536 ∧ 0 < max (Lib.runeLen (x : Int)) 0 := by
    have := scalarN_iff.1 hsn
    refine ⟨hxl, ?_⟩
    unfold Lib.runeLen
    repeat' split
    all_goals omega
  have H1 := fun w h => hex_calls s p b i w hs h (by omega)
  rw [hx6, hexR, if_pos hlt.1] at H1
  have W := fun w => Width_calls (x : Int) w
  obtain ⟨hl1, hl2⟩ := hlt
  clear hxl
  generalize max (Lib.runeLen (x : Int)) 0 = n at *
  replace H1 := Lib.hid H1
  replace W := Lib.hid W
  replace hsn := Lib.hid hsn
  replace hx6 := Lib.hid hx6
  have x0 := hsc.s
  have hx : ∀ h, ((s[i + 1]'h).toNat : Int) = (bAt s (i + 1) : Int) := byte_at s _
  unfold NoLet at hc
  have n34 : ((bAt s (i + 1) : Int) == 34) = false := by simp; omega
  have n92 : ((bAt s (i + 1) : Int) == 92) = false := by simp; omega
  have n47 : ((bAt s (i + 1) : Int) == 47) = false := by simp; omega
  have n98 : ((bAt s (i + 1) : Int) == 98) = false := by simp; omega
  have n102 : ((bAt s (i + 1) : Int) == 102) = false := by simp; omega
  have n110 : ((bAt s (i + 1) : Int) == 110) = false := by simp; omega
  have n114 : ((bAt s (i + 1) : Int) == 114) = false := by simp; omega
  have n116 : ((bAt s (i + 1) : Int) == 116) = false := by simp; omega
  replace hc := Lib.hid hc
  replace hsc := Lib.hid hsc
  go_enter Tryz.func122, Tryz.ntmps122
  go_wp2_with fail
  refine (H1.out _ hsc.out).mono ?_
  rintro e w1 ⟨rfl, rfl⟩
  clear hx n34 n92 n47 n98 n102 n110 n114 n116
  go_wp2_with fail
  refine (W.out _).mono ?_
  rintro e w1 ⟨rfl, rfl⟩
  go_wp2_with fail
  exact bodyPost_ret (v := .tuple #[.int .i32 (x : Int), .int .i64 6, .nilIface]) (by simp [results, Tryz.results122, go_sem]) rfl ⟨rfl, rfl⟩

set_option maxHeartbeats 1000000 in
set_option maxRecDepth 100000 in
theorem esc_none {A : Nat → Addr} {B : Nat} (s : ByteArray) (p : Int) (b i : Nat) (w : World) (hE : Env A B SJ w) (hs : (s.size : Int) ≤ 140737488351232) (hsc : ScB s p b w) (hi : (i : Int) + 1 < (s.size : Int)) (hc : NoLet (bAt s (i + 1))) (hx6 : ¬ hexAt s i < 65536) :
    Calls Tryz.prog 122 #[.pointer (some ⟨b, 0, none⟩), .int .i64 (i : Int)] w fun e w' => EscBad A 2 i w e w' ∧ Below w.heap.size w w' := by
  have H1 := fun w h => hex_calls s p b i w hs h (by omega)
  rw [hexR, if_neg hx6] at H1
  replace H1 := Lib.hid H1
  replace hx6 := Lib.hid hx6
  have e8 := hE.e2
  have x0 := hsc.s
  have hx : ∀ h, ((s[i + 1]'h).toNat : Int) = (bAt s (i + 1) : Int) := byte_at s _
  unfold NoLet at hc
  have n34 : ((bAt s (i + 1) : Int) == 34) = false := by simp; omega
  have n92 : ((bAt s (i + 1) : Int) == 92) = false := by simp; omega
  have n47 : ((bAt s (i + 1) : Int) == 47) = false := by simp; omega
  have n98 : ((bAt s (i + 1) : Int) == 98) = false := by simp; omega
  have n102 : ((bAt s (i + 1) : Int) == 102) = false := by simp; omega
  have n110 : ((bAt s (i + 1) : Int) == 110) = false := by simp; omega
  have n114 : ((bAt s (i + 1) : Int) == 114) = false := by simp; omega
  have n116 : ((bAt s (i + 1) : Int) == 116) = false := by simp; omega
  replace hc := Lib.hid hc
  replace hsc := Lib.hid hsc
  go_enter Tryz.func122, Tryz.ntmps122
  go_wp2_with fail
  refine (H1.out _ hsc.out).mono ?_
  rintro e w1 ⟨rfl, rfl⟩
  clear hx n34 n92 n47 n98 n102 n110 n114 n116
  go_wp2_with fail
  have hb9 := Below.refl w1.heap.size w1
  have e9 := (hE.next hb9).e2
  (go_wp2_with fail; repeat (any_goals (go_quiet (fail); go_wp2_with fail)))
  refine (fault_calls _ _ _ _).mono ?_
  rintro e w2 ⟨g, hg, rfl, hat, hb⟩
  have hb2 : Below w1.heap.size w1 w2 := bcall (by repeat (first | assumption | exact Below.refl _ _ | apply Below.drew | apply below_drewN | apply balloc | (refine Below.setCell ?_ (by first | omega | (simp <;> omega)) _))) hb
  have hg2 : w1.heap.size ≤ g := Nat.le_trans (hb9.size) (by first | exact hg | (simp at hg; omega))
  clear hb
  (go_wp2_with fail; repeat (any_goals (go_quiet (fail); go_wp2_with fail)))
  exact bodyPost_ret (v := .tuple #[.int .i32 0, .int .i64 0, .iface 69 (.pointer (some ⟨g, 0, none⟩))]) (by simp [results, Tryz.results122, go_sem]) rfl ⟨⟨g, hg2, rfl, hat⟩, (by repeat (first | assumption | exact Below.refl _ _ | apply Below.drew | apply below_drewN | apply balloc | (refine Below.setCell ?_ (by first | omega | (simp <;> omega)) _)))⟩
set_option maxHeartbeats 1000000 in
set_option maxRecDepth 100000 in
theorem esc_end {A : Nat → Addr} {B : Nat} (s : ByteArray) (p : Int) (b i : Nat) (w : World) (hE : Env A B SJ w) (hs : (s.size : Int) ≤ 140737488351232) (hsc : ScB s p b w) (hi : (s.size : Int) ≤ (i : Int) + 1) (hi2 : (i : Int) ≤ (s.size : Int)) (hx6 : ¬ hexAt s i < 65536) :
    Calls Tryz.prog 122 #[.pointer (some ⟨b, 0, none⟩), .int .i64 (i : Int)] w fun e w' => EscBad A 2 i w e w' ∧ Below w.heap.size w w' := by
  have H1 := fun w h => hex_calls s p b i w hs h (by omega)
  rw [hexR, if_neg hx6] at H1
  replace H1 := Lib.hid H1
  replace hx6 := Lib.hid hx6
  have x0 := hsc.s
  have e8 := hE.e2
  replace hsc := Lib.hid hsc
  go_enter Tryz.func122, Tryz.ntmps122
  go_wp2_with fail
  refine (H1.out _ hsc.out).mono ?_
  rintro e w1 ⟨rfl, rfl⟩
  go_wp2_with fail
  have hb9 := Below.refl w1.heap.size w1
  have e9 := (hE.next hb9).e2
  (go_wp2_with fail; repeat (any_goals (go_quiet (fail); go_wp2_with fail)))
  refine (fault_calls _ _ _ _).mono ?_
  rintro e w2 ⟨g, hg, rfl, hat, hb⟩
  have hb2 : Below w1.heap.size w1 w2 := bcall (by repeat (first | assumption | exact Below.refl _ _ | apply Below.drew | apply below_drewN | apply balloc | (refine Below.setCell ?_ (by first | omega | (simp <;> omega)) _))) hb
  have hg2 : w1.heap.size ≤ g := Nat.le_trans (hb9.size) (by first | exact hg | (simp at hg; omega))
  clear hb
  (go_wp2_with fail; repeat (any_goals (go_quiet (fail); go_wp2_with fail)))
  exact bodyPost_ret (v := .tuple #[.int .i32 0, .int .i64 0, .iface 69 (.pointer (some ⟨g, 0, none⟩))]) (by simp [results, Tryz.results122, go_sem]) rfl ⟨⟨g, hg2, rfl, hat⟩, (by repeat (first | assumption | exact Below.refl _ _ | apply Below.drew | apply below_drewN | apply balloc | (refine Below.setCell ?_ (by first | omega | (simp <;> omega)) _)))⟩

set_option maxHeartbeats 1000000 in
set_option maxRecDepth 100000 in
theorem esc_pair {A : Nat → Addr} {B : Nat} (s : ByteArray) (p : Int) (b i x y : Nat) (w : World) (hE : Env A B SJ w) (hs : (s.size : Int) ≤ 140737488351232) (hsc : ScB s p b w) (hi : (i : Int) + 1 < (s.size : Int)) (hc : NoLet (bAt s (i + 1))) (hx6 : hexAt s i = x) (hxl : x < 65536) (hsn : ¬ scalarN x = true)
    (hy : (if hexAt s (i + 6) < 65536 then hexAt s (i + 6) else 0) = y) (h1 : x < 56320) (h2 : 56320 ≤ y) (h3 : y ≤ 57343) :
    Calls Tryz.prog 122 #[.pointer (some ⟨b, 0, none⟩), .int .i64 (i : Int)] w fun e w' => EscOk (65536 + (x - 55296) * 1024 + (y - 56320)) 12 e ∧ w' = w := by
  have hlt : 55296 ≤ x ∧ max (Lib.runeLen (x : Int)) 0 = 0 := by
    rw [scalarN_iff] at hsn
    refine ⟨by omega, ?_⟩
    unfold Lib.runeLen
    repeat' split
    all_goals omega
  obtain ⟨hl1, hl2⟩ := hlt
  have H1 := fun w h => hex_calls s p b i w hs h (by omega)
  have H2 := fun w h => hex_calls s p b (i + 6) w hs h (by omega)
  rw [hx6, hexR, if_pos hxl] at H1
  have W := fun w => Width_calls (x : Int) w
  rw [hl2] at W
  have H2 : ∀ w, ScB s p b w → Calls Tryz.prog 136 #[.pointer (some ⟨b, 0, none⟩), .int .i64 ((i : Int) + 6)] w fun e w' => (∃ ok, e = .returned (.tuple #[.int .i32 (y : Int), .bool ok])) ∧ w' = w := fun w h => by
    refine (H2 w h).mono ?_
    rintro e w' ⟨rfl, rfl⟩
    refine ⟨?_, rfl⟩
    unfold hexR
    by_cases h6 : hexAt s (i + 6) < 65536
    · rw [if_pos h6] at hy ⊢; rw [hy]; exact ⟨_, rfl⟩
    · rw [if_neg h6] at hy ⊢; rw [← hy]; exact ⟨_, rfl⟩
  have P := fun w => Pair_ok x y w hl1 h1 h2 h3
  replace H1 := Lib.hid H1
  replace H2 := Lib.hid H2
  replace W := Lib.hid W
  replace P := Lib.hid P
  clear hxl
  replace hsn := Lib.hid hsn
  replace hx6 := Lib.hid hx6
  replace hy := Lib.hid hy
  replace hl2 := Lib.hid hl2
  have e8 := hE.e1
  have x0 := hsc.s
  have hx : ∀ h, ((s[i + 1]'h).toNat : Int) = (bAt s (i + 1) : Int) := byte_at s _
  unfold NoLet at hc
  have n34 : ((bAt s (i + 1) : Int) == 34) = false := by simp; omega
  have n92 : ((bAt s (i + 1) : Int) == 92) = false := by simp; omega
  have n47 : ((bAt s (i + 1) : Int) == 47) = false := by simp; omega
  have n98 : ((bAt s (i + 1) : Int) == 98) = false := by simp; omega
  have n102 : ((bAt s (i + 1) : Int) == 102) = false := by simp; omega
  have n110 : ((bAt s (i + 1) : Int) == 110) = false := by simp; omega
  have n114 : ((bAt s (i + 1) : Int) == 114) = false := by simp; omega
  have n116 : ((bAt s (i + 1) : Int) == 116) = false := by simp; omega
  replace hc := Lib.hid hc
  replace hsc := Lib.hid hsc
  go_enter Tryz.func122, Tryz.ntmps122
  go_wp2_with fail
  refine (H1.out _ hsc.out).mono ?_
  rintro e w1 ⟨rfl, rfl⟩
  clear hx n34 n92 n47 n98 n102 n110 n114 n116
  go_wp2_with fail
  refine (W.out _).mono ?_
  rintro e w2 ⟨rfl, rfl⟩
  go_wp2_with fail
  refine (H2.out _ hsc.out).mono ?_
  rintro e w3 ⟨⟨ok, rfl⟩, rfl⟩
  go_wp2_with fail
  refine (P.out _).mono ?_
  rintro e w4 ⟨rfl, rfl⟩
  go_wp2_with fail
  exact bodyPost_ret (v := .tuple #[.int .i32 ((65536 + (x - 55296) * 1024 + (y - 56320) : Nat) : Int), .int .i64 12, .nilIface]) (by simp [results, Tryz.results122, go_sem]) rfl ⟨rfl, rfl⟩

set_option maxHeartbeats 1000000 in
set_option maxRecDepth 100000 in
theorem esc_nopair {A : Nat → Addr} {B : Nat} (s : ByteArray) (p : Int) (b i x y : Nat) (w : World) (hE : Env A B SJ w) (hs : (s.size : Int) ≤ 140737488351232) (hsc : ScB s p b w) (hi : (i : Int) + 1 < (s.size : Int)) (hc : NoLet (bAt s (i + 1))) (hx6 : hexAt s i = x) (hxl : x < 65536) (hsn : ¬ scalarN x = true)
    (hy : (if hexAt s (i + 6) < 65536 then hexAt s (i + 6) else 0) = y) (h1 : ¬ (x < 56320 ∧ 56320 ≤ y ∧ y ≤ 57343)) :
    Calls Tryz.prog 122 #[.pointer (some ⟨b, 0, none⟩), .int .i64 (i : Int)] w fun e w' => EscBad A 1 i w e w' ∧ Below w.heap.size w w' := by
  have hlt : 55296 ≤ x ∧ max (Lib.runeLen (x : Int)) 0 = 0 := by
    rw [scalarN_iff] at hsn
    refine ⟨by omega, ?_⟩
    unfold Lib.runeLen
    repeat' split
    all_goals omega
  obtain ⟨hl1, hl2⟩ := hlt
  have H1 := fun w h => hex_calls s p b i w hs h (by omega)
  have H2 := fun w h => hex_calls s p b (i + 6) w hs h (by omega)
  rw [hx6, hexR, if_pos hxl] at H1
  have W := fun w => Width_calls (x : Int) w
  rw [hl2] at W
  have H2 : ∀ w, ScB s p b w → Calls Tryz.prog 136 #[.pointer (some ⟨b, 0, none⟩), .int .i64 ((i : Int) + 6)] w fun e w' => (∃ ok, e = .returned (.tuple #[.int .i32 (y : Int), .bool ok])) ∧ w' = w := fun w h => by
    refine (H2 w h).mono ?_
    rintro e w' ⟨rfl, rfl⟩
    refine ⟨?_, rfl⟩
    unfold hexR
    by_cases h6 : hexAt s (i + 6) < 65536
    · rw [if_pos h6] at hy ⊢; rw [hy]; exact ⟨_, rfl⟩
    · rw [if_neg h6] at hy ⊢; rw [← hy]; exact ⟨_, rfl⟩
  have P := fun w hE => Pair_bad (A := A) (B := B) x y w hE hl1 h1
  replace H1 := Lib.hid H1
  replace H2 := Lib.hid H2
  replace W := Lib.hid W
  replace P := Lib.hid P
  clear hxl
  replace hsn := Lib.hid hsn
  replace hx6 := Lib.hid hx6
  replace hy := Lib.hid hy
  replace hl2 := Lib.hid hl2
  have e8 := hE.e1
  have x0 := hsc.s
  have hx : ∀ h, ((s[i + 1]'h).toNat : Int) = (bAt s (i + 1) : Int) := byte_at s _
  unfold NoLet at hc
  have n34 : ((bAt s (i + 1) : Int) == 34) = false := by simp; omega
  have n92 : ((bAt s (i + 1) : Int) == 92) = false := by simp; omega
  have n47 : ((bAt s (i + 1) : Int) == 47) = false := by simp; omega
  have n98 : ((bAt s (i + 1) : Int) == 98) = false := by simp; omega
  have n102 : ((bAt s (i + 1) : Int) == 102) = false := by simp; omega
  have n110 : ((bAt s (i + 1) : Int) == 110) = false := by simp; omega
  have n114 : ((bAt s (i + 1) : Int) == 114) = false := by simp; omega
  have n116 : ((bAt s (i + 1) : Int) == 116) = false := by simp; omega
  replace hc := Lib.hid hc
  replace hsc := Lib.hid hsc
  go_enter Tryz.func122, Tryz.ntmps122
  go_wp2_with fail
  refine (H1.out _ hsc.out).mono ?_
  rintro e w1 ⟨rfl, rfl⟩
  clear hx n34 n92 n47 n98 n102 n110 n114 n116
  go_wp2_with fail
  refine (W.out _).mono ?_
  rintro e w2 ⟨rfl, rfl⟩
  go_wp2_with fail
  refine (H2.out _ hsc.out).mono ?_
  rintro e w3 ⟨⟨ok, rfl⟩, rfl⟩
  go_wp2_with fail
  replace h1 := Lib.hid h1
  refine (P.out _ (hE.sub (by decide))).mono ?_
  rintro e w4 ⟨rfl, hb9⟩
  have e9 := (hE.next hb9).e1
  (go_wp2_with fail; repeat (any_goals (go_quiet (fail); go_wp2_with fail)))
  refine (fault_calls _ _ _ _).mono ?_
  rintro e w2 ⟨g, hg, rfl, hat, hb⟩
  have hb2 : Below w3.heap.size w3 w2 := bcall (by repeat (first | assumption | exact Below.refl _ _ | apply Below.drew | apply below_drewN | apply balloc | (refine Below.setCell ?_ (by first | omega | (simp <;> omega)) _))) hb
  have hg2 : w3.heap.size ≤ g := Nat.le_trans (hb9.size) (by first | exact hg | (simp at hg; omega))
  clear hb
  (go_wp2_with fail; repeat (any_goals (go_quiet (fail); go_wp2_with fail)))
  exact bodyPost_ret (v := .tuple #[.int .i32 0, .int .i64 0, .iface 69 (.pointer (some ⟨g, 0, none⟩))]) (by simp [results, Tryz.results122, go_sem]) rfl ⟨⟨g, hg2, rfl, hat⟩, (by repeat (first | assumption | exact Below.refl _ _ | apply Below.drew | apply below_drewN | apply balloc | (refine Below.setCell ?_ (by first | omega | (simp <;> omega)) _)))⟩
/-- What escape answers. -/
def EscR (A : Nat → Addr) (E : Nat × Nat × Nat) (i : Nat) (w : World) (e : Ending) (w' : World) : Prop := if E.1 = 0 then EscOk E.2.1 E.2.2 e else EscBad A E.1 i w e w'
theorem escape_calls {A : Nat → Addr} {B : Nat} (s : ByteArray) (p : Int) (b i : Nat) (w : World) (hE : Env A B SJ w) (hs : s.size ≤ 140737488351232) (hsc : ScB s p b w) (hi : i < s.size) :
    Calls Tryz.prog 122 #[.pointer (some ⟨b, 0, none⟩), .int .i64 (i : Int)] w fun e w' => EscR A (escAt s i) i w e w' ∧ Below w.heap.size w w' := by
  have hs' : (s.size : Int) ≤ 140737488351232 := by omega
  have one : ∀ (r n : Nat), escAt s i = (0, r, n) → Calls Tryz.prog 122 #[.pointer (some ⟨b, 0, none⟩), .int .i64 (i : Int)] w (fun e w' => EscOk r n e ∧ w' = w) → Calls Tryz.prog 122 #[.pointer (some ⟨b, 0, none⟩), .int .i64 (i : Int)] w fun e w' => EscR A (escAt s i) i w e w' ∧ Below w.heap.size w w' := by
    intro r n he h
    refine h.mono ?_
    rintro e w' ⟨h1, rfl⟩
    rw [he]
    exact ⟨by unfold EscR; rw [if_pos rfl]; exact h1, Below.refl _ _⟩
  have two : ∀ (k r n : Nat), escAt s i = (k + 1, r, n) → Calls Tryz.prog 122 #[.pointer (some ⟨b, 0, none⟩), .int .i64 (i : Int)] w (fun e w' => EscBad A (k + 1) i w e w' ∧ Below w.heap.size w w') → Calls Tryz.prog 122 #[.pointer (some ⟨b, 0, none⟩), .int .i64 (i : Int)] w fun e w' => EscR A (escAt s i) i w e w' ∧ Below w.heap.size w w' := by
    intro k r n he h
    refine h.mono ?_
    rintro e w' ⟨h1, hb⟩
    rw [he]
    exact ⟨by unfold EscR; rw [if_neg (by simp)]; exact h1, hb⟩
  have hle := hexAt_le s i
  by_cases hin : i + 1 < s.size
  · have hin' : (i : Int) + 1 < (s.size : Int) := by omega
    by_cases c1 : bAt s (i + 1) = 34 ∨ bAt s (i + 1) = 92 ∨ bAt s (i + 1) = 47
    · rcases c1 with h | h | h
      · exact one 34 2 (by unfold escAt; simp only [h]; rfl) (esc_q s p b i w hs' hsc hin' h)
      · exact one 92 2 (by unfold escAt; simp only [h]; rfl) (esc_b s p b i w hs' hsc hin' h)
      · exact one 47 2 (by unfold escAt; simp only [h]; rfl) (esc_s s p b i w hs' hsc hin' h)
    by_cases c2 : bAt s (i + 1) = 98
    · exact one 8 2 (by unfold escAt; simp only [c2]; rfl) (esc_bb s p b i w hs' hsc hin' c2)
    by_cases c3 : bAt s (i + 1) = 102
    · exact one 12 2 (by unfold escAt; simp only [c3]; rfl) (esc_ff s p b i w hs' hsc hin' c3)
    by_cases c4 : bAt s (i + 1) = 110
    · exact one 10 2 (by unfold escAt; simp only [c4]; rfl) (esc_nn s p b i w hs' hsc hin' c4)
    by_cases c5 : bAt s (i + 1) = 114
    · exact one 13 2 (by unfold escAt; simp only [c5]; rfl) (esc_rr s p b i w hs' hsc hin' c5)
    by_cases c6 : bAt s (i + 1) = 116
    · exact one 9 2 (by unfold escAt; simp only [c6]; rfl) (esc_tt s p b i w hs' hsc hin' c6)
    have hno : NoLet (bAt s (i + 1)) := by unfold NoLet; omega
    have base : escAt s i = if 65536 ≤ hexAt s i then (2, 0, 0)
      else if scalarN (hexAt s i) = true then (0, hexAt s i, 6)
      else if hexAt s i < 56320 ∧ 56320 ≤ hexAt s (i + 6) ∧ hexAt s (i + 6) ≤ 57343 then (0, 65536 + (hexAt s i - 55296) * 1024 + (hexAt s (i + 6) - 56320), 12)
      else (1, 0, 0) := by
      conv => lhs; unfold escAt
      simp only
      rw [if_neg c1, if_neg c2, if_neg c3, if_neg c4, if_neg c5, if_neg c6]
    by_cases c7 : hexAt s i < 65536
    · rw [if_neg (by omega)] at base
      by_cases c8 : scalarN (hexAt s i) = true
      · rw [if_pos c8] at base
        exact one _ _ base (esc_six s p b i _ w hs' hsc hin' hno rfl c7 c8)
      · rw [if_neg c8] at base
        by_cases c9 : hexAt s i < 56320 ∧ 56320 ≤ hexAt s (i + 6) ∧ hexAt s (i + 6) ≤ 57343
        · rw [if_pos c9] at base
          exact one _ _ base (esc_pair s p b i _ _ w hE hs' hsc hin' hno rfl c7 c8 (by rw [if_pos (by omega)]) c9.1 c9.2.1 c9.2.2)
        · rw [if_neg c9] at base
          refine two 0 _ _ base (esc_nopair s p b i _ _ w hE hs' hsc hin' hno rfl c7 c8 rfl ?_)
          split
          · exact c9
          · omega
    · rw [if_pos (by omega)] at base
      exact two 1 _ _ base (esc_none s p b i w hE hs' hsc hin' hno c7)
  · have h0 : bAt s (i + 1) = 0 := bAt_ge s (i + 1) (by omega)
    have c7 : ¬ hexAt s i < 65536 := fun h => by have := (hexAt_ok h).1; omega
    have base : escAt s i = (2, 0, 0) := by
      conv => lhs; unfold escAt
      simp only
      rw [h0, if_neg (by decide), if_neg (by decide), if_neg (by decide), if_neg (by decide), if_neg (by decide), if_neg (by decide), if_pos (by omega)]
    exact two 1 _ _ base (esc_end s p b i w hE hs' hsc (by omega) (by omega) c7)

end Go.Proofs.YtibopkodoidjoaaGreatDoor

/- Package scan: the walk of number. -/
namespace Go.Proofs.YtibopkodoidjoaaGreatDoor
open Go Go.RowKit

theorem digits_calls' (s : ByteArray) (i : Nat) (w : World) (hs : s.size ≤ 140737488351232) (hi : i ≤ s.size) :
    Calls Tryz.prog 119 #[.string s, .int .i64 (i : Int)] w fun e w' => e = .returned (.int .i64 (digAt s i : Nat)) ∧ w = w' := (digits_calls s i w hs hi).mono fun _ _ ⟨h, hw⟩ => ⟨h, hw.symm⟩
/-- What number answers. -/
def NumBad (A : Nat → Addr) (i : Nat) (w : World) (e : Ending) (w' : World) : Prop :=
  ∃ g, w.heap.size ≤ g ∧ e = .returned (.tuple #[.int .i64 0, .iface 69 (.pointer (some ⟨g, 0, none⟩))]) ∧ AtB (i : Int) (.iface 237 (.pointer (some (A 2)))) g w'
def NumR (A : Nat → Addr) (N : Bool × Nat) (w : World) (e : Ending) (w' : World) : Prop := if N.1 = true then e = .returned (.tuple #[.int .i64 (N.2 : Int), .nilIface]) else NumBad A N.2 w e w'
theorem fracAt_no {s : ByteArray} {i : Nat} (h : bAt s i ≠ 46) : fracAt s i = (true, i) := by unfold fracAt; rw [if_neg h]
theorem fracAt_bad {s : ByteArray} {i : Nat} (h : bAt s i = 46) (h2 : digAt s (i + 1) = i + 1) : fracAt s i = (false, i + 1) := by unfold fracAt; rw [if_pos h, if_pos h2]
theorem fracAt_ok {s : ByteArray} {i : Nat} (h : bAt s i = 46) (h2 : digAt s (i + 1) ≠ i + 1) : fracAt s i = (true, digAt s (i + 1)) := by unfold fracAt; rw [if_pos h, if_neg h2]
theorem numR_bad {A : Nat → Addr} {N : Bool × Nat} {i : Nat} {w w' : World} {e : Ending} (h : N = (false, i)) : NumR A N w e w' ↔ NumBad A i w e w' := by
  subst h; unfold NumR; rw [if_neg (by simp)]
theorem numR_ok {A : Nat → Addr} {N : Bool × Nat} {i : Nat} {w w' : World} {e : Ending} (h : N = (true, i)) : NumR A N w e w' ↔ e = .returned (.tuple #[.int .i64 (i : Int), .nilIface]) := by
  subst h; unfold NumR; rw [if_pos rfl]
set_option maxHeartbeats 4000000 in
set_option maxRecDepth 100000 in
theorem number_calls {A : Nat → Addr} {B : Nat} (s : ByteArray) (p : Nat) (b : Nat) (w : World) (hE : Env A B SJ w) (hs : s.size ≤ 140737488351232) (hsc : ScB s (p : Int) b w) (hp : p < s.size) :
    Calls Tryz.prog 101 #[.pointer (some ⟨b, 0, none⟩)] w fun e w' => NumR A (numAt s p) w e w' ∧ Below w.heap.size w w' := by
  have x0 := hsc.s
  have x1 := hsc.at
  have e2 := hE.e2
  have hs' : (s.size : Int) ≤ 140737488351232 := by omega
  have hx := byte_at s p
  obtain ⟨N, hN⟩ : ∃ N, N = numAt s p := ⟨_, rfl⟩
  rw [← hN]
  replace hN := Lib.hid hN
  replace hsc := Lib.hid hsc
  have ha := minAt_bd s p hp
  have D := Lib.hid (fun i w hi => digits_calls' s i w hs hi)
  go_enter Tryz.func101, Tryz.ntmps101
  go_upto_if 16 with fail
  go_cut [4] (fun v wx => v = .int .i64 (minAt s p : Nat) ∧ w = wx)
  case first =>
    by_cases h45 : bAt s p = 45
    · have h45' : ((bAt s p : Int) == 45) = true := by simp; omega
      have em : minAt s p = p + 1 := by unfold minAt; rw [if_pos h45]
      replace h45 := Lib.hid h45
      replace em := Lib.hid em
      clear ha
      go_wp2_with fail
      go_meet
      exact ⟨by (rw [em.out]) <;> go_num, rfl⟩
    · have h45' : ((bAt s p : Int) == 45) = false := by simp; omega
      have em : minAt s p = p := by unfold minAt; rw [if_neg h45]
      replace h45 := Lib.hid h45
      replace em := Lib.hid em
      clear ha
      go_wp2_with fail
      go_meet
      exact ⟨by (rw [em.out]) <;> go_num, rfl⟩
  case rest =>
    obtain ⟨rfl, rfl⟩ := hcut
    clear hx
    obtain ⟨ha0, ha1, _⟩ := ha
    have hNe : numAt s p = if isD (bAt s (minAt s p)) = true then
      (if (fracAt s (headAt s (minAt s p))).1 = true then expAt s (fracAt s (headAt s (minAt s p))).2 else fracAt s (headAt s (minAt s p)))
      else (false, minAt s p) := rfl
    rw [hNe] at hN
    clear hNe
    replace hN := Lib.hid hN.out
    generalize minAt s p = a at *
    go_wp2_with fail
    refine (D.out a _ ha1).mono ?_
    rintro e w1 ⟨rfl, rfl⟩
    cases hd : isD (bAt s a) with
    | false =>
      have hda := digAt_none.2 hd
      have hNe : N = (false, a) := by rw [hN.out, if_neg (by rw [hd]; simp)]
      replace hd := Lib.hid hd
      go_wp2_with fail
      refine (fault_calls _ _ _ _).mono ?_
      rintro e w2 ⟨g, hg, rfl, hat, hb⟩
      go_wp2_with fail
      go_ret2
      exact ⟨(numR_bad hNe).2 ⟨g, hg, rfl, hat⟩, hb⟩
    | true =>
      have hda : ((digAt s a : Int) == (a : Int)) = false := by
        have : digAt s a ≠ a := fun h => by have := digAt_none.1 h; rw [hd] at this; cases this
        simp; omega
      have hN2 := Lib.hid (show N = _ by rw [hN.out, if_pos hd])
      have hal : (a : Int) < (s.size : Int) := by
        have := lt_of_bAt (s := s) (i := a) (by have := isD_iff.1 hd; omega)
        omega
      have hh := headAt_bd s a hd
      replace hd := Lib.hid hd
      have hx := byte_at s a
      go_upto_if 37 with fail
      go_cut [5] (fun v wx => v = .int .i64 (headAt s a : Nat) ∧ w = wx)
      case first =>
        by_cases h48 : bAt s a = 48
        · have h48' : ((bAt s a : Int) == 48) = true := by simp; omega
          have em : headAt s a = a + 1 := by unfold headAt; rw [if_pos h48]
          replace h48 := Lib.hid h48
          replace em := Lib.hid em
          clear hh
          go_wp2_with fail
          go_meet
          exact ⟨by (rw [em.out]) <;> go_num, rfl⟩
        · have h48' : ((bAt s a : Int) == 48) = false := by simp; omega
          have em : headAt s a = digAt s a := by unfold headAt; rw [if_neg h48]
          replace h48 := Lib.hid h48
          replace em := Lib.hid em
          clear hh
          go_wp2_with fail
          go_meet
          exact ⟨by rw [em.out], rfl⟩
      case rest =>
        obtain ⟨rfl, rfl⟩ := hcut
        clear hx hN
        obtain ⟨hh0, hh1⟩ := hh
        have hf := fracAt_bd s (headAt s a) hh1
        generalize headAt s a = t at *
        have hx := byte_at s t
        go_upto_region 9 with fail
        go_cut [55] (fun v wx => v = .bool ((bAt s t : Int) == 46) ∧ w = wx)
        case first =>
          by_cases htl : t < s.size
          · go_wp2_with fail
            go_meet
            exact ⟨by simp, rfl⟩
          · have h0 : bAt s t = 0 := bAt_ge s t (by omega)
            replace h0 := Lib.hid h0
            go_wp2_with fail
            go_meet
            exact ⟨by rw [h0.out]; rfl, rfl⟩
        case rest =>
          obtain ⟨rfl, rfl⟩ := hcut
          go_upto_if 55 with fail
          go_cut [5] (fun v wx => v = .int .i64 ((fracAt s t).2 : Nat) ∧ w = wx ∧ (fracAt s t).1 = true)
          case first =>
            by_cases h46 : bAt s t = 46
            · have h46' : ((bAt s t : Int) == 46) = true := by simp; omega
              have htl := lt_of_bAt (s := s) (i := t) (by omega)
              by_cases hdt : digAt s (t + 1) = t + 1
              · have hNe : N = (false, t + 1) := by rw [hN2.out, fracAt_bad h46 hdt, if_neg (by simp)]
                replace h46 := Lib.hid h46
                have hdt' : ((digAt s (t + 1) : Nat) : Int) = (t : Int) + 1 := by omega
                replace hdt := Lib.hid hdt
                have D2 := Lib.hid (fun w => digits_calls' s (t + 1) w hs htl)
                clear hf
                go_wp2_with fail
                refine (D2.out _).mono ?_
                rintro e w1 ⟨rfl, rfl⟩
                go_wp2_with fail
                refine (fault_calls _ _ _ _).mono ?_
                rintro e w2 ⟨g, hg, rfl, hat, hb⟩
                go_wp2_with fail
                go_ret2
                exact ⟨(numR_bad hNe).2 ⟨g, hg, rfl, by simpa using hat⟩, hb⟩
              · have em := fracAt_ok h46 hdt
                replace h46 := Lib.hid h46
                have hdt' : (((digAt s (t + 1) : Nat) : Int) == (t : Int) + 1) = false := by simp; omega
                replace hdt := Lib.hid hdt
                have D2 := Lib.hid (fun w => digits_calls' s (t + 1) w hs htl)
                replace em := Lib.hid em
                clear hf
                go_wp2_with fail
                refine (D2.out _).mono ?_
                rintro e w1 ⟨rfl, rfl⟩
                go_wp2_with fail
                go_meet
                exact ⟨by rw [em.out], rfl, by rw [em.out]⟩
            · have h46' : ((bAt s t : Int) == 46) = false := by simp; omega
              have em := fracAt_no h46
              replace h46 := Lib.hid h46
              replace em := Lib.hid em
              clear hf
              go_wp2_with fail
              go_meet
              exact ⟨by rw [em.out], rfl, by rw [em.out]⟩
          case rest =>
            obtain ⟨rfl, rfl, hft⟩ := hcut
            have hN3 := Lib.hid (show N = expAt s (fracAt s t).2 by rw [hN2.out, if_pos hft])
            clear hx hN2 hft
            obtain ⟨hf0, hf1⟩ := hf
            generalize (fracAt s t).2 = u at *
            have hx := byte_at s u
            go_upto_region 14 with fail
            go_cut [94] (fun v wx => v = .bool (bAt s u == 101 || bAt s u == 69) ∧ w = wx)
            case first =>
              by_cases hul : u < s.size
              · by_cases h1 : bAt s u = 101
                · have h1' : ((bAt s u : Int) == 101) = true := by simp; omega
                  replace h1 := Lib.hid h1
                  go_wp2_with fail
                  go_meet
                  exact ⟨by rw [h1.out]; rfl, rfl⟩
                · have h1' : ((bAt s u : Int) == 101) = false := by simp; omega
                  replace h1 := Lib.hid h1
                  by_cases h2 : bAt s u = 69
                  · have h2' : ((bAt s u : Int) == 69) = true := by simp; omega
                    replace h2 := Lib.hid h2
                    go_wp2_with fail
                    go_meet
                    exact ⟨by rw [h2.out]; rfl, rfl⟩
                  · have h2' : ((bAt s u : Int) == 69) = false := by simp; omega
                    replace h2 := Lib.hid h2
                    go_wp2_with fail
                    go_meet
                    exact ⟨by rw [show (bAt s u == 101) = false by simpa using h1.out, show (bAt s u == 69) = false by simpa using h2.out]; rfl, rfl⟩
              · have h0 : bAt s u = 0 := bAt_ge s u (by omega)
                replace h0 := Lib.hid h0
                go_wp2_with fail
                go_meet
                exact ⟨by rw [h0.out]; rfl, rfl⟩
            case rest =>
              obtain ⟨hv, rfl⟩ := hcut
              by_cases hE1 : bAt s u = 101 ∨ bAt s u = 69
              · rw [show (bAt s u == 101 || bAt s u == 69) = true by simpa using hE1] at hv
                subst hv
                have hul := lt_of_bAt (s := s) (i := u) (by omega)
                have hsg := signAt_bd s u hul
                have hN4 := Lib.hid (show N = if digAt s (signAt s u) = signAt s u then (false, signAt s u) else (true, digAt s (signAt s u)) by rw [hN3.out, expAt, if_pos hE1])
                replace hE1 := Lib.hid hE1
                clear hx hN3
                have hx := byte_at s (u + 1)
                go_upto_region 16 with fail
                go_cut [121] (fun v wx => v = .bool (bAt s (u + 1) == 43 || bAt s (u + 1) == 45) ∧ w = wx)
                case first =>
                  clear hsg
                  by_cases hul1 : u + 1 < s.size
                  · have hul2 : (u : Int) + 1 < (s.size : Int) := by omega
                    by_cases h1 : bAt s (u + 1) = 43
                    · have h1' : ((bAt s (u + 1) : Int) == 43) = true := by simp; omega
                      replace h1 := Lib.hid h1
                      go_wp2_with fail
                      go_meet
                      exact ⟨by rw [h1.out]; rfl, rfl⟩
                    · have h1' : ((bAt s (u + 1) : Int) == 43) = false := by simp; omega
                      replace h1 := Lib.hid h1
                      by_cases h2 : bAt s (u + 1) = 45
                      · have h2' : ((bAt s (u + 1) : Int) == 45) = true := by simp; omega
                        replace h2 := Lib.hid h2
                        go_wp2_with fail
                        go_meet
                        exact ⟨by rw [h2.out]; rfl, rfl⟩
                      · have h2' : ((bAt s (u + 1) : Int) == 45) = false := by simp; omega
                        replace h2 := Lib.hid h2
                        go_wp2_with fail
                        go_meet
                        exact ⟨by rw [show (bAt s (u + 1) == 43) = false by simpa using h1.out, show (bAt s (u + 1) == 45) = false by simpa using h2.out]; rfl, rfl⟩
                  · have hul2 : (s.size : Int) ≤ (u : Int) + 1 := by omega
                    have h0 : bAt s (u + 1) = 0 := bAt_ge s (u + 1) (by omega)
                    replace h0 := Lib.hid h0
                    go_wp2_with fail
                    go_meet
                    exact ⟨by rw [h0.out]; rfl, rfl⟩
                case rest =>
                  obtain ⟨hv, rfl⟩ := hcut
                  replace hv := Lib.hid hv
                  clear hx
                  go_upto_if 121 with fail
                  go_cut [4] (fun v wx => v = .int .i64 (signAt s u : Nat) ∧ w = wx)
                  case first =>
                    by_cases h1 : bAt s (u + 1) = 43 ∨ bAt s (u + 1) = 45
                    · have hv := hv.out
                      rw [show (bAt s (u + 1) == 43 || bAt s (u + 1) == 45) = true by simpa using h1] at hv
                      subst hv
                      have em : signAt s u = u + 2 := by unfold signAt; rw [if_pos h1]
                      replace h1 := Lib.hid h1
                      replace em := Lib.hid em
                      clear hsg
                      go_wp2_with fail
                      go_meet
                      exact ⟨by rw [em.out]; simp [Value.int.injEq] <;> omega, rfl⟩
                    · have hv := hv.out
                      rw [show (bAt s (u + 1) == 43 || bAt s (u + 1) == 45) = false by simpa using h1] at hv
                      subst hv
                      have em : signAt s u = u + 1 := by unfold signAt; rw [if_neg h1]
                      replace h1 := Lib.hid h1
                      replace em := Lib.hid em
                      clear hsg
                      go_wp2_with fail
                      go_meet
                      exact ⟨by (rw [em.out]) <;> go_num, rfl⟩
                  case rest =>
                    obtain ⟨rfl, rfl⟩ := hcut
                    obtain ⟨hsg0, hsg1⟩ := hsg
                    generalize signAt s u = v at *
                    have D2 := Lib.hid (fun w => digits_calls' s v w hs hsg1)
                    by_cases hdt : digAt s v = v
                    · have hNe : N = (false, v) := by rw [hN4.out, if_pos hdt]
                      have hdt' : ((digAt s v : Nat) : Int) = (v : Int) := by omega
                      replace hdt := Lib.hid hdt
                      clear hN4
                      go_wp2_with fail
                      refine (D2.out _).mono ?_
                      rintro e w1 ⟨rfl, rfl⟩
                      go_wp2_with fail
                      refine (fault_calls _ _ _ _).mono ?_
                      rintro e w2 ⟨g, hg, rfl, hat, hb⟩
                      go_wp2_with fail
                      go_ret2
                      exact ⟨(numR_bad hNe).2 ⟨g, hg, rfl, hat⟩, hb⟩
                    · have hNe : N = (true, digAt s v) := by rw [hN4.out, if_neg hdt]
                      have hdt' : (((digAt s v : Nat) : Int) == (v : Int)) = false := by simp; omega
                      replace hdt := Lib.hid hdt
                      replace hNe := Lib.hid hNe
                      clear hN4
                      go_wp2_with fail
                      refine (D2.out _).mono ?_
                      rintro e w1 ⟨rfl, rfl⟩
                      go_wp2_with fail
                      go_ret2
                      exact ⟨(numR_ok hNe.out).2 rfl, Below.refl _ _⟩
              · rw [show (bAt s u == 101 || bAt s u == 69) = false by simpa using hE1] at hv
                subst hv
                have hNe : N = (true, u) := by rw [hN3.out, expAt, if_neg hE1]
                replace hE1 := Lib.hid hE1
                replace hNe := Lib.hid hNe
                clear hx hN3
                go_wp2_with fail
                go_ret2
                exact ⟨(numR_ok hNe.out).2 rfl, Below.refl _ _⟩

end Go.Proofs.YtibopkodoidjoaaGreatDoor

/- strings.Builder: WriteRune at this program (its copyCheck's panic is refused by the loader, so the shelf's contract does not lie). -/
namespace Go.Proofs.YtibopkodoidjoaaGreatDoor
open Go Go.RowKit

theorem sizeBuilder : (Tryz.prog.info? 214).map (·.size) = some 2 := by kernel_rfl
theorem liesBuilder : liesAt Tryz.prog Tryz.prog.depth 214 (2 / Tryz.prog.cellsOf 214) 0 214 1 = true := by kernel_rfl
abbrev BuIs (B b : Nat) (bs : List Value) (w : World) : Prop := Lib.IsBuilder 214 5 B b bs w

set_option maxHeartbeats 1000000 in
set_option maxRecDepth 100000 in
theorem copyCheck_used (b : Nat) (w : World) (h0 : w.cell? ⟨b, 0, none⟩ = some (.pointer (some ⟨b, 0, none⟩))) :
    Calls Tryz.prog 134 #[.pointer (some ⟨b, 0, none⟩)] w fun e w' => e = .returned (.tuple #[]) ∧ w' = w := by
  obtain ⟨j, hj, _⟩ := Option.map_eq_some_iff.1 sizeBuilder
  go_enter Tryz.func134, Tryz.ntmps134
  go_wp2_with fail
  rw [Lib.run_neq_ptr_same w _ Tryz.underlying212 hj]
  go_wp2_with fail
  go_end0
  exact ⟨rfl, rfl⟩
set_option maxHeartbeats 1000000 in
set_option maxRecDepth 100000 in
theorem copyCheck_fresh (b : Nat) (w : World) (h0 : w.cell? ⟨b, 0, none⟩ = some (.pointer none)) (hsh : w.shape? b = some (214, 2)) (hfz : w.frozen? ⟨b, 0, none⟩ = false) :
    Calls Tryz.prog 134 #[.pointer (some ⟨b, 0, none⟩)] w fun e w' => e = .returned (.tuple #[]) ∧ w' = w.setCell ⟨b, 0, none⟩ (.pointer (some ⟨b, 0, none⟩)) := by
  obtain ⟨j, hj, hjs⟩ := Option.map_eq_some_iff.1 sizeBuilder
  have u1 := Lib.run_to_unsafe w ⟨b, 0, none⟩ Tryz.underlying212 Tryz.underlying129 hj (by rw [hjs]; decide) hsh (Nat.zero_lt_succ 1)
  have u2 := Lib.run_from_unsafe w ⟨b, 0, none⟩ Tryz.underlying129 Tryz.underlying212 hj hsh liesBuilder
  have u3 : ∀ w, (callFunc 140 #[.pointer (some ⟨b, 0, none⟩)]).run Tryz.prog w = .ok (.value (.pointer (some ⟨b, 0, none⟩))) w := by
    intro w
    rw [run_callFunc_extern Tryz.func140 (by kernel_rfl) (by kernel_rfl) (by kernel_rfl) (e := Extern.AbiNoEscape.same) (by kernel_rfl)]
    rw [Lib.run_noEscape]
    rfl
  go_enter Tryz.func134, Tryz.ntmps134
  go_wp2_with fail
  go_end0
  exact ⟨rfl, rfl⟩
theorem copyCheck_calls (B b : Nat) (bs : List Value) (w : World) (h : BuIs B b bs w) :
    Calls Tryz.prog 134 #[.pointer (some ⟨b, 0, none⟩)] w fun e w' => e = .returned (.tuple #[]) ∧ Lib.BuilderAt 214 5 B b (.pointer (some ⟨b, 0, none⟩)) bs w' ∧ Below B w w' ∧ Lib.OthersKept 5 (some b) w w' := by
  rcases h with h | h
  · refine (copyCheck_fresh b w h.cell0 h.shape h.frozen0).mono ?_
    rintro e w' ⟨rfl, rfl⟩
    exact ⟨rfl, h.used _, (Below.refl B w).setCell (p := ⟨b, 0, none⟩) h.1 _, (Lib.OthersKept.refl _ _ w).setCell ⟨b, 0, none⟩ rfl _⟩
  · refine (copyCheck_used b w h.cell0).mono ?_
    rintro e w' ⟨rfl, rfl⟩
    exact ⟨rfl, h, Below.refl B _, Lib.OthersKept.refl _ _ _⟩
set_option maxHeartbeats 2000000 in
set_option maxRecDepth 100000 in
theorem WriteRune_calls (B b : Nat) (bs : List Value) (r : Int) (w : World) (hr0 : -2147483648 ≤ r) (hr1 : r ≤ 2147483647) (h : BuIs B b bs w) (hlen : bs.length + 4 ≤ 140737488355328) (hBw : B ≤ w.heap.size) :
    Calls Tryz.prog 121 #[.pointer (some ⟨b, 0, none⟩), .int .i32 r] w fun e w' => e = .returned (.tuple #[.int .i64 (Lib.runeCells r).length, .nilIface]) ∧ BuIs B b (bs ++ Lib.runeCells r) w' ∧ Below B w w' ∧ Lib.OthersKept 5 (some b) w w' := by
  have hk4 := Lib.runeCells_le r
  have C := Lib.hid (fun w => copyCheck_calls B b bs w)
  have D := Lib.hid (fun v w => Tryz.utf8_AppendRune_plain B v bs.length bs r hr0 hr1 w)
  go_enter Tryz.func121, Tryz.ntmps121
  go_wp2_with fail
  refine (C.out _ h).mono ?_
  rintro e w1 ⟨rfl, h1, hb1, hk1⟩
  obtain ⟨hB, v, hbk, hown, hne⟩ := h1
  obtain ⟨ao, cap, rfl⟩ : ∃ ao cap, v = .slice ao bs.length cap := by
    rcases hown.2 with ⟨hv, h0⟩ | ⟨g, cap, cur, hv, _⟩
    · exact ⟨none, 0, by rw [hv, h0]⟩
    · exact ⟨_, _, hv⟩
  have c0 : w1.cell? ⟨b, 0, none⟩ = some (.pointer (some ⟨b, 0, none⟩)) := by rw [Lib.cell_of_heap hbk]; rfl
  have c1 : w1.cell? ⟨b, 1, none⟩ = some (.slice ao bs.length cap) := by rw [Lib.cell_of_heap hbk]; rfl
  go_wp2_with fail
  refine (D.out _ _ hown hlen (by have := hb1.size; omega)).mono ?_
  rintro e w2 ⟨v', rfl, hown', o, hgrow⟩
  have hlt : b < w1.heap.size := ltB hbk
  have hb2 : w2.heap[b]? = some (.cells #[.pointer (some ⟨b, 0, none⟩), .slice ao bs.length cap] 214 (0, 0)) := by
    rw [hgrow.block b (by simp; omega) (fun e => hne e.symm), Below.heap_alloc w1 _ b hlt]
    exact hbk
  have d0 : w2.cell? ⟨b, 0, none⟩ = some (.pointer (some ⟨b, 0, none⟩)) := by rw [Lib.cell_of_heap hb2]; rfl
  have d1 : w2.cell? ⟨b, 1, none⟩ = some (.slice ao bs.length cap) := by rw [Lib.cell_of_heap hb2]; rfl
  have f1 : w2.frozen? ⟨b, 1, none⟩ = false := freeB hb2 1
  obtain ⟨g, cap', rfl⟩ : ∃ g cap', v' = .slice (some ⟨g, 0, none⟩) (bs.length + (Lib.runeCells r).length) cap' := by
    rcases hown'.2 with ⟨_, h0⟩ | ⟨g, cap', cur, hv, _⟩
    · omega
    · exact ⟨g, cap', hv⟩
  go_wp2_with fail
  go_ret2
  refine ⟨?_, ?_, ?_, ((hk1.alloc _).grown hgrow ?_).setCell ⟨b, 1, none⟩ rfl _⟩
  · have e : ((bs.length : Int) + ((Lib.runeCells r).length : Int) - (bs.length : Int)) = ((Lib.runeCells r).length : Int) := by omega
    simp [e]
  · exact Or.inr (Lib.BuilderAt.put hB hb2 (bs' := bs ++ Lib.runeCells r) (by simpa using hown') (by decide))
  · exact ((hb1.alloc (by have := hb1.size; omega) _).grown hgrow (by have := hb1.size; simp; omega) (fun k hk => (hown.lt k hk).1)).setCell (p := ⟨b, 1, none⟩) hB _
  · intro g hg
    rcases (hown.alloc o).2 with ⟨hv, _⟩ | ⟨g', cap', cur, hv, _, hh, _⟩
    · rw [hv] at hg; cases hg
    · rw [hv] at hg; cases hg; exact ⟨_, _, hh⟩

end Go.Proofs.YtibopkodoidjoaaGreatDoor

/- Plain laws: a text's runes are its bytes. -/
namespace Go.Proofs.YtibopkodoidjoaaGreatDoor
open Go Go.RowKit

theorem encodeRune_enc {r : Nat} (h : scalarN r = true) : Lib.encodeRune (r : Int) = (encN r).map UInt8.ofNat := by
  have hs := scalarN_iff.1 h
  unfold Lib.encodeRune
  have e : ∀ x : Nat, (x : Int).toNat.toUInt8 = UInt8.ofNat x := fun x => rfl
  by_cases h1 : r < 128
  · rw [Lib.encodeRuneZ_one (by omega) (by omega)]
    unfold encN; rw [if_pos h1]; rfl
  by_cases h2 : r < 2048
  · rw [Lib.encodeRuneZ_two (by omega) (by omega)]
    unfold encN; rw [if_neg h1, if_pos h2]
    rw [show (192 + (r : Int) / 64) = ((192 + r / 64 : Nat) : Int) by omega, show (128 + (r : Int) % 64) = ((128 + r % 64 : Nat) : Int) by omega]
    rfl
  by_cases h3 : r < 65536
  · rw [Lib.encodeRuneZ_three (by omega)]
    unfold encN; rw [if_neg h1, if_neg h2, if_pos h3]
    rw [show (224 + (r : Int) / 4096) = ((224 + r / 4096 : Nat) : Int) by omega, show (128 + (r : Int) / 64 % 64) = ((128 + r / 64 % 64 : Nat) : Int) by omega, show (128 + (r : Int) % 64) = ((128 + r % 64 : Nat) : Int) by omega]
    rfl
  · rw [Lib.encodeRuneZ_four (by omega) (by omega)]
    unfold encN; rw [if_neg h1, if_neg h2, if_neg h3]
    rw [show (240 + (r : Int) / 262144) = ((240 + r / 262144 : Nat) : Int) by omega, show (128 + (r : Int) / 4096 % 64) = ((128 + r / 4096 % 64 : Nat) : Int) by omega, show (128 + (r : Int) / 64 % 64) = ((128 + r / 64 % 64 : Nat) : Int) by omega, show (128 + (r : Int) % 64) = ((128 + r % 64 : Nat) : Int) by omega]
    rfl
theorem encN_ge {r : Nat} (h : 128 ≤ r) : ∀ x ∈ encN r, 128 ≤ x := by
  unfold encN
  rw [if_neg (by omega)]
  split
  · intro x hx; simp at hx; omega
  · split
    · intro x hx; simp at hx; omega
    · intro x hx; simp at hx; omega
theorem rune_dec {s : ByteArray} {a pos : Nat} (h : a + pos < s.size) (hv : widthAt s (a + pos) ≠ 0) : Utf8.decode (s.extract a s.size) pos = refAt s (a + pos) := by
  have e1 : (s.extract a s.size).size = s.size - a := by rw [ByteArray.size_extract]; omega
  have e2 : (s.extract (a + pos) s.size).size = s.size - (a + pos) := by rw [ByteArray.size_extract]; omega
  have hd : Utf8.decode (s.extract a s.size) pos = Utf8.decode (s.extract (a + pos) s.size) 0 := by
    rw [Lib.decode_at, Lib.decode_at]
    simp only [get_bAt, bAt_extract]
    rw [e1, e2, show s.size - a - pos = s.size - (a + pos) - 0 by omega]
    simp only [Nat.add_assoc, Nat.zero_add, Nat.add_zero]
  rw [hd, refAt_eq h]
  unfold widthAt at hv
  unfold nextS at hv ⊢
  have hg : Lib.decodeGo (s.extract (a + pos) s.size) = Utf8.decode (s.extract (a + pos) s.size) 0 := by
    show (if (s.extract (a + pos) s.size).size = 0 then _ else _) = _
    rw [if_neg (by omega)]
  rw [hg] at hv ⊢
  split
  · rename_i hc
    rw [if_pos hc] at hv
    exact absurd rfl hv
  · rfl
/-- The scalar at a place where one begins: one byte, or two and more. -/
theorem rune_cases {s : ByteArray} {q : Nat} (h : q < s.size) (hv : widthAt s q ≠ 0) :
    scalarN (refAt s q).1 = true ∧ encN (refAt s q).1 = (List.range (refAt s q).2).map (fun j => bAt s (q + j)) ∧ widthAt s q = (refAt s q).2 ∧ q + (refAt s q).2 ≤ s.size ∧
    (((refAt s q).2 = 1 ∧ (refAt s q).1 = bAt s q ∧ bAt s q < 128) ∨ (2 ≤ (refAt s q).2 ∧ 128 ≤ (refAt s q).1 ∧ ∀ j, j < (refAt s q).2 → 128 ≤ bAt s (q + j))) := by
  have hw : widthAt s q = (refAt s q).2 := by unfold widthAt; rw [refAt_eq h]
  rw [hw] at hv
  have hbd := (refF_bd (fun j => bAt s (q + j)) (s.size - q)).1
  have hdef : refAt s q = refF (fun j => bAt s (q + j)) (s.size - q) := rfl
  have hr := hdef
  unfold refF at hr
  split at hr
  · rw [hr] at hv; exact absurd rfl hv
  · split at hr
    · rename_i h1 h2
      obtain ⟨h2, h3⟩ := h2
      have e1 : (refAt s q).1 = accB (fun j => bAt s (q + j)) (rN (bAt s (q + 0)) - 1) := by rw [hr]
      have e2 : (refAt s q).2 = rN (bAt s (q + 0)) := by rw [hr]
      rw [← e1, ← e2] at h3
      rw [← e1] at h2
      refine ⟨h2, h3, hw, by rw [hdef]; omega, ?_⟩
      have hl := congrArg List.length h3
      rw [encN_len, List.length_map, List.length_range] at hl
      have hb := bAt_lt s q
      by_cases h128 : (refAt s q).1 < 128
      · rw [if_pos h128] at hl
        refine Or.inl ⟨hl.symm, ?_, ?_⟩
        · rw [← hl] at h3
          unfold encN at h3
          rw [if_pos h128] at h3
          simpa using h3
        · have : (refAt s q).1 = bAt s q := by
            rw [← hl] at h3
            unfold encN at h3
            rw [if_pos h128] at h3
            simpa using h3
          omega
      · refine Or.inr ⟨?_, by omega, fun j hj => ?_⟩
        · rw [if_neg h128] at hl
          split at hl
          · omega
          · split at hl <;> omega
        · have hm : bAt s (q + j) ∈ encN (refAt s q).1 := by
            rw [h3]
            exact List.mem_map.2 ⟨j, List.mem_range.2 hj, rfl⟩
          exact encN_ge (by omega) _ hm
    · rw [hr] at hv; exact absurd rfl hv
theorem brk_next {s : ByteArray} {q : Nat} (h : q < s.size) (hb : brkAt s q = s.size) : widthAt s q ≠ 0 ∧ brkAt s (q + (refAt s q).2) = s.size := by
  have hw : widthAt s q = (refAt s q).2 := by unfold widthAt; rw [refAt_eq h]
  rw [brkAt_eq, if_pos h] at hb
  split at hb
  · omega
  · rename_i h0; exact ⟨h0, by rw [← hw]; exact hb⟩
theorem brk_ascii {s : ByteArray} {q : Nat} (hb : brkAt s q = s.size) (h : q < s.size) (ha : bAt s q < 128) : brkAt s (q + 1) = s.size := by
  obtain ⟨h0, h1⟩ := brk_next h hb
  obtain ⟨_, _, _, _, h2 | ⟨_, _, h3⟩⟩ := rune_cases h h0
  · rw [h2.1] at h1; exact h1
  · have := h3 0 (by omega)
    rw [Nat.add_zero] at this
    omega
theorem brk_run {s : ByteArray} : ∀ {k q : Nat}, brkAt s q = s.size → q + k ≤ s.size → (∀ j, j < k → bAt s (q + j) < 128) → brkAt s (q + k) = s.size
  | 0, q, hb, _, _ => hb
  | k + 1, q, hb, hk, ha => by
    have h1 := brk_ascii hb (by omega) (ha 0 (by omega))
    have := brk_run (k := k) h1 (by omega) (fun j hj => by have := ha (j + 1) (by omega); rw [show q + 1 + j = q + (j + 1) by omega]; exact this)
    rw [show q + (k + 1) = q + 1 + k by omega]
    exact this
theorem hexD_ascii {c : Nat} (h : hexD c < 16) : c < 128 := by
  unfold hexD at h
  repeat' split at h
  all_goals omega
theorem hexAt_ascii {s : ByteArray} {i : Nat} (h : hexAt s i < 65536) : ∀ j, j < 6 → bAt s (i + j) < 128 := by
  have h2 := hexAt_ok h
  unfold hexAt at h
  rw [if_pos ⟨h2.2.1, h2.2.2⟩] at h
  have hk := (hexF_ok s (i + 2) 4 h).1
  intro j hj
  rcases (show j = 0 ∨ j = 1 ∨ 2 ≤ j by omega) with rfl | rfl | h3
  · rw [Nat.add_zero]; omega
  · omega
  · have := hexD_ascii (hk (j - 2) (by omega))
    rw [show i + 2 + (j - 2) = i + j by omega] at this
    exact this
theorem escAt_ascii {s : ByteArray} {i : Nat} (h92 : bAt s i = 92) (h : (escAt s i).1 = 0) : ∀ j, j < (escAt s i).2.2 → bAt s (i + j) < 128 := by
  have two : bAt s (i + 1) < 128 → ∀ j, j < 2 → bAt s (i + j) < 128 := fun h1 j hj => by
    rcases (show j = 0 ∨ j = 1 by omega) with rfl | rfl
    · rw [Nat.add_zero]; omega
    · exact h1
  unfold escAt at h ⊢
  simp only at h ⊢
  by_cases h1 : bAt s (i + 1) = 34 ∨ bAt s (i + 1) = 92 ∨ bAt s (i + 1) = 47
  · rw [if_pos h1]; exact two (by omega)
  rw [if_neg h1] at h ⊢
  by_cases h2 : bAt s (i + 1) = 98
  · rw [if_pos h2]; exact two (by omega)
  rw [if_neg h2] at h ⊢
  by_cases h3 : bAt s (i + 1) = 102
  · rw [if_pos h3]; exact two (by omega)
  rw [if_neg h3] at h ⊢
  by_cases h4 : bAt s (i + 1) = 110
  · rw [if_pos h4]; exact two (by omega)
  rw [if_neg h4] at h ⊢
  by_cases h5 : bAt s (i + 1) = 114
  · rw [if_pos h5]; exact two (by omega)
  rw [if_neg h5] at h ⊢
  by_cases h6 : bAt s (i + 1) = 116
  · rw [if_pos h6]; exact two (by omega)
  rw [if_neg h6] at h ⊢
  by_cases h7 : 65536 ≤ hexAt s i
  · rw [if_pos h7] at h; cases h
  rw [if_neg h7] at h ⊢
  have h8 := hexAt_ascii (s := s) (i := i) (by omega)
  by_cases h9 : scalarN (hexAt s i) = true
  · rw [if_pos h9]; exact h8
  rw [if_neg h9] at h ⊢
  by_cases ha : hexAt s i < 56320 ∧ 56320 ≤ hexAt s (i + 6) ∧ hexAt s (i + 6) ≤ 57343
  · rw [if_pos ha]
    have hb := hexAt_ascii (s := s) (i := i + 6) (by omega)
    intro j hj
    rcases Nat.lt_or_ge j 6 with h6 | h6
    · exact h8 j h6
    · have := hb (j - 6) (by simp only at hj; omega)
      rw [show i + 6 + (j - 6) = i + j by omega] at this
      exact this
  · rw [if_neg ha] at h; cases h
theorem qAt_high {s : ByteArray} : ∀ {k q : Nat} (acc : List UInt8), q + k ≤ s.size → (∀ j, j < k → 128 ≤ bAt s (q + j)) → qAt s q acc = qAt s (q + k) (acc ++ ((List.range k).map (fun j => bAt s (q + j))).map UInt8.ofNat)
  | 0, q, acc, _, _ => by simp
  | k + 1, q, acc, hk, ha => by
    have h0 := ha 0 (by omega)
    rw [Nat.add_zero] at h0
    rw [qAt_eq, if_pos (by omega), if_neg (by omega), if_neg (by omega), if_neg (by omega)]
    rw [qAt_high (k := k) (q := q + 1) _ (by omega) (fun j hj => by have := ha (j + 1) (by omega); rw [show q + 1 + j = q + (j + 1) by omega]; exact this)]
    rw [show q + 1 + k = q + (k + 1) by omega]
    congr 1
    rw [List.range_succ_eq_map, List.map_cons, List.map_cons, List.map_map, List.append_assoc, Nat.add_zero]
    congr 1
    simp only [List.singleton_append, List.cons.injEq, List.map_map, Nat.add_zero, true_and]
    apply List.map_congr_left
    intro j _
    simp only [Function.comp]
    rw [show q + 1 + j = q + (j + 1) by omega]
/-- A scalar that is no quote, no backslash, none below 32: its bytes stand. -/
theorem qAt_rune {s : ByteArray} {q : Nat} (acc : List UInt8) (h : q < s.size) (hv : widthAt s q ≠ 0) (h34 : (refAt s q).1 ≠ 34) (h32 : 32 ≤ (refAt s q).1) (h92 : (refAt s q).1 ≠ 92) :
    qAt s q acc = qAt s (q + (refAt s q).2) (acc ++ Lib.encodeRune ((refAt s q).1 : Int)) := by
  obtain ⟨h1, h2, h3, h4, h5⟩ := rune_cases h hv
  rw [encodeRune_enc h1, h2]
  rcases h5 with ⟨h5, h6, h7⟩ | ⟨h5, h6, h7⟩
  · rw [h6] at h34 h32 h92
    rw [h5, qAt_eq, if_pos h, if_neg h34, if_neg (by omega), if_neg h92]
    simp
  · exact qAt_high acc h4 h7
theorem rune_byte {s : ByteArray} {q : Nat} (h : q < s.size) (hv : widthAt s q ≠ 0) (c : Nat) (hc : c < 128) : (refAt s q).1 = c ↔ bAt s q = c := by
  obtain ⟨h1, h2, h3, h4, ⟨h5, h6, h7⟩ | ⟨h5, h6, h7⟩⟩ := rune_cases h hv
  · rw [h6]
  · have := h7 0 (by omega)
    rw [Nat.add_zero] at this
    omega
theorem rune_low {s : ByteArray} {q : Nat} (h : q < s.size) (hv : widthAt s q ≠ 0) : (refAt s q).1 < 32 ↔ bAt s q < 32 := by
  obtain ⟨h1, h2, h3, h4, ⟨h5, h6, h7⟩ | ⟨h5, h6, h7⟩⟩ := rune_cases h hv
  · rw [h6]
  · have := h7 0 (by omega)
    rw [Nat.add_zero] at this
    omega

end Go.Proofs.YtibopkodoidjoaaGreatDoor
