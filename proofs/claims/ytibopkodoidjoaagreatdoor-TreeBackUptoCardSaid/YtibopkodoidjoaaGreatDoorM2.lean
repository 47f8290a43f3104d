/- Lemmas of the proof, put together: ScanPlain, Scan1, TextPlain, ScanPlain2, SRef1, SRefPlain, SRef2, SRef3. -/
import Derived.Test.YtibopkodoidjoaaGreatDoorM1
import Derived.Deep.DeepCutAuto
import Derived.Lib.RuneBytes

/- Plain functions: JSON cut into tokens. No program in sight. -/
namespace Go.Proofs.YtibopkodoidjoaaGreatDoor
open Go Go.RowKit

def isD (c : Nat) : Bool := decide (48 ≤ c ∧ c ≤ 57)
theorem isD_iff {c : Nat} : isD c = true ↔ 48 ≤ c ∧ c ≤ 57 := by unfold isD; rw [decide_eq_true_eq]
theorem bAt_ge (s : ByteArray) (i : Nat) (h : s.size ≤ i) : bAt s i = 0 := by unfold bAt; rw [dif_neg (by omega)]
theorem lt_of_bAt {s : ByteArray} {i : Nat} (h : bAt s i ≠ 0) : i < s.size := by
  rcases Nat.lt_or_ge i s.size with h1 | h1
  · exact h1
  · exact absurd (bAt_ge s i h1) h
/-- The place behind the digits from i on. -/
def digF (s : ByteArray) : Nat → Nat → Nat
  | 0, i => i
  | f + 1, i => if isD (bAt s i) = true then digF s f (i + 1) else i
def digAt (s : ByteArray) (i : Nat) : Nat := digF s (s.size - i) i
theorem digAt_eq (s : ByteArray) (i : Nat) : digAt s i = if isD (bAt s i) = true then digAt s (i + 1) else i := by
  by_cases h : isD (bAt s i) = true
  · have hi : i < s.size := lt_of_bAt (by rw [isD_iff] at h; omega)
    rw [if_pos h]
    unfold digAt
    obtain ⟨f, hf⟩ : ∃ f, s.size - i = f + 1 := ⟨s.size - i - 1, by omega⟩
    rw [hf, digF, if_pos h, show s.size - (i + 1) = f by omega]
  · rw [if_neg h]
    unfold digAt
    cases s.size - i with
    | zero => rfl
    | succ f => rw [digF, if_neg h]
theorem digF_bd (s : ByteArray) : ∀ f i, i ≤ digF s f i ∧ (i ≤ s.size → digF s f i ≤ s.size)
  | 0, i => ⟨Nat.le_refl _, id⟩
  | f + 1, i => by
    rw [digF]
    by_cases h : isD (bAt s i) = true
    · rw [if_pos h]
      have hi : i < s.size := lt_of_bAt (by rw [isD_iff] at h; omega)
      have := digF_bd s f (i + 1)
      exact ⟨by omega, fun _ => this.2 hi⟩
    · rw [if_neg h]; exact ⟨Nat.le_refl _, id⟩
theorem digAt_ge (s : ByteArray) (i : Nat) : i ≤ digAt s i := (digF_bd s _ i).1
theorem digAt_le (s : ByteArray) (i : Nat) (h : i ≤ s.size) : digAt s i ≤ s.size := (digF_bd s _ i).2 h
theorem digAt_none {s : ByteArray} {i : Nat} : digAt s i = i ↔ isD (bAt s i) = false := by
  rw [digAt_eq]
  cases h : isD (bAt s i) with
  | true =>
    rw [if_pos rfl]
    have := digAt_ge s (i + 1)
    constructor
    · intro h2; omega
    · intro h2; cases h2
  | false => simp

/-- A number's fraction, if one stands there: true and the place behind it, or false and where a digit is missing. -/
def fracAt (s : ByteArray) (i : Nat) : Bool × Nat := if bAt s i = 46 then (if digAt s (i + 1) = i + 1 then (false, i + 1) else (true, digAt s (i + 1))) else (true, i)
/-- Where the digits of an exponent whose letter stands at i begin. -/
def signAt (s : ByteArray) (i : Nat) : Nat := if bAt s (i + 1) = 43 ∨ bAt s (i + 1) = 45 then i + 2 else i + 1
def expAt (s : ByteArray) (i : Nat) : Bool × Nat := if bAt s i = 101 ∨ bAt s i = 69 then (if digAt s (signAt s i) = signAt s i then (false, signAt s i) else (true, digAt s (signAt s i))) else (true, i)
def minAt (s : ByteArray) (i : Nat) : Nat := if bAt s i = 45 then i + 1 else i
def headAt (s : ByteArray) (i : Nat) : Nat := if bAt s i = 48 then i + 1 else digAt s i
/-- The number that begins at i: true and the place behind it, or false and where a digit is missing. -/
def numAt (s : ByteArray) (i : Nat) : Bool × Nat :=
  if isD (bAt s (minAt s i)) = true then
    (if (fracAt s (headAt s (minAt s i))).1 = true then expAt s (fracAt s (headAt s (minAt s i))).2 else fracAt s (headAt s (minAt s i)))
  else (false, minAt s i)

/-- A hexadecimal digit's number; 16: it is none. -/
def hexD (c : Nat) : Nat := if 48 ≤ c ∧ c ≤ 57 then c - 48 else if 97 ≤ c ∧ c ≤ 102 then c - 87 else if 65 ≤ c ∧ c ≤ 70 then c - 55 else 16
theorem hexD_le (c : Nat) : hexD c ≤ 16 := by unfold hexD; repeat' split
                                              all_goals omega
theorem hexD_zero : hexD 0 = 16 := rfl
/-- What the first k digits behind i tell; 65536 and more: they are none. -/
def hexF (s : ByteArray) (i : Nat) : Nat → Nat
  | 0 => 0
  | k + 1 => if hexF s i k < 65536 ∧ hexD (bAt s (i + k)) < 16 then hexF s i k * 16 + hexD (bAt s (i + k)) else 65536
/-- The number of a backslash, u and four digits that stand at i; 65536: no such thing. -/
def hexAt (s : ByteArray) (i : Nat) : Nat := if bAt s i = 92 ∧ bAt s (i + 1) = 117 then hexF s (i + 2) 4 else 65536
/-- The escape at i: the error's number, the scalar, the bytes. -/
def escAt (s : ByteArray) (i : Nat) : Nat × Nat × Nat :=
  let c := bAt s (i + 1)
  if c = 34 ∨ c = 92 ∨ c = 47 then (0, c, 2)
  else if c = 98 then (0, 8, 2)
  else if c = 102 then (0, 12, 2)
  else if c = 110 then (0, 10, 2)
  else if c = 114 then (0, 13, 2)
  else if c = 116 then (0, 9, 2)
  else if 65536 ≤ hexAt s i then (2, 0, 0)
  else if scalarN (hexAt s i) = true then (0, hexAt s i, 6)
  else if hexAt s i < 56320 ∧ 56320 ≤ hexAt s (i + 6) ∧ hexAt s (i + 6) ≤ 57343 then (0, 65536 + (hexAt s i - 55296) * 1024 + (hexAt s (i + 6) - 56320), 12)
  else (1, 0, 0)
/-- The text from i on, acc ahead of it: the error's number and its place, or the place behind the text, and the text. -/
def qF (s : ByteArray) : Nat → Nat → List UInt8 → Nat × Nat × List UInt8
  | 0, _, _ => (2, s.size, [])
  | f + 1, i, acc =>
    if i < s.size then
      (if bAt s i = 34 then (0, i + 1, acc)
      else if bAt s i < 32 then (2, i, [])
      else if bAt s i = 92 then (if (escAt s i).1 = 0 then qF s f (i + (escAt s i).2.2) (acc ++ (encN (escAt s i).2.1).map UInt8.ofNat) else ((escAt s i).1, i, []))
      else qF s f (i + 1) (acc ++ [UInt8.ofNat (bAt s i)]))
    else (2, s.size, [])
def qAt (s : ByteArray) (i : Nat) (acc : List UInt8) : Nat × Nat × List UInt8 := qF s (s.size - i + 1) i acc

structure Tk where
  kind : Nat
  fr : Nat
  «to» : Nat
  text : ByteArray
/-- The token of a byte; 0: none. -/
def signK (c : Nat) : Nat := if c = 123 then 6 else if c = 125 then 7 else if c = 91 then 8 else if c = 93 then 9 else if c = 58 then 10 else if c = 44 then 11 else 0
def noS : ByteArray := ⟨#[]⟩
/-- The token that begins at i: the error's number, its place, the token. -/
def oneAt (s : ByteArray) (i : Nat) : Nat × Nat × Tk :=
  let c := bAt s i
  if signK c ≠ 0 then (0, 0, ⟨signK c, i, i + 1, noS⟩)
  else if c = 110 then (if bAt s (i + 1) = 117 ∧ bAt s (i + 2) = 108 ∧ bAt s (i + 3) = 108 then (0, 0, ⟨1, i, i + 4, noS⟩) else (2, i, ⟨0, 0, 0, noS⟩))
  else if c = 116 then (if bAt s (i + 1) = 114 ∧ bAt s (i + 2) = 117 ∧ bAt s (i + 3) = 101 then (0, 0, ⟨2, i, i + 4, noS⟩) else (2, i, ⟨0, 0, 0, noS⟩))
  else if c = 102 then (if bAt s (i + 1) = 97 ∧ bAt s (i + 2) = 108 ∧ bAt s (i + 3) = 115 ∧ bAt s (i + 4) = 101 then (0, 0, ⟨3, i, i + 5, noS⟩) else (2, i, ⟨0, 0, 0, noS⟩))
  else if c = 45 ∨ isD c = true then (if (numAt s i).1 = true then (0, 0, ⟨4, i, (numAt s i).2, noS⟩) else (2, (numAt s i).2, ⟨0, 0, 0, noS⟩))
  else if c = 34 then (if (qAt s (i + 1) []).1 = 0 then (0, 0, ⟨5, i, (qAt s (i + 1) []).2.1, ⟨(qAt s (i + 1) []).2.2.toArray⟩⟩) else ((qAt s (i + 1) []).1, (qAt s (i + 1) []).2.1, ⟨0, 0, 0, noS⟩))
  else (2, i, ⟨0, 0, 0, noS⟩)
def blankN (c : Nat) : Bool := c == 32 || c == 9 || c == 10 || c == 13
/-- The tokens from i on: up to the first error, its number and place. -/
def scanF (s : ByteArray) : Nat → Nat → List Tk × Nat × Nat
  | 0, _ => ([], 0, 0)
  | f + 1, i =>
    if i < s.size then
      (if blankN (bAt s i) = true then scanF s f (i + 1)
      else if (oneAt s i).1 = 0 then
        (((oneAt s i).2.2 :: (scanF s f (oneAt s i).2.2.to).1), (scanF s f (oneAt s i).2.2.to).2)
      else ([], (oneAt s i).1, (oneAt s i).2.1))
    else ([], 0, 0)
/-- The tokens up to the first error, its number and place. -/
def someS (s : ByteArray) : List Tk × Nat × Nat := if utfE s = 0 then scanF s (s.size + 1) 0 else ([], 1, brkAt s 0)
/-- The tokens, none where there is an error; its number and place. -/
def scanS (s : ByteArray) : List Tk × Nat × Nat := if (someS s).2.1 = 0 then ((someS s).1, 0, 0) else ([], (someS s).2)

/-! ### Bounds -/
theorem fracAt_bd (s : ByteArray) (i : Nat) (h : i ≤ s.size) : i ≤ (fracAt s i).2 ∧ (fracAt s i).2 ≤ s.size := by
  unfold fracAt
  by_cases h1 : bAt s i = 46
  · have hi := lt_of_bAt (s := s) (i := i) (by omega)
    have h2 := digAt_ge s (i + 1)
    have h3 := digAt_le s (i + 1) hi
    rw [if_pos h1]
    split <;> (simp only; omega)
  · rw [if_neg h1]; exact ⟨Nat.le_refl _, h⟩
theorem signAt_bd (s : ByteArray) (i : Nat) (h : i < s.size) : i < signAt s i ∧ signAt s i ≤ s.size := by
  unfold signAt
  split
  · rename_i h1
    have hi := lt_of_bAt (s := s) (i := i + 1) (by omega)
    omega
  · omega
theorem expAt_bd (s : ByteArray) (i : Nat) (h : i ≤ s.size) : i ≤ (expAt s i).2 ∧ (expAt s i).2 ≤ s.size := by
  unfold expAt
  by_cases h1 : bAt s i = 101 ∨ bAt s i = 69
  · have hi := lt_of_bAt (s := s) (i := i) (by omega)
    have hs := signAt_bd s i hi
    have h2 := digAt_ge s (signAt s i)
    have h3 := digAt_le s (signAt s i) hs.2
    rw [if_pos h1]
    split <;> (simp only; omega)
  · rw [if_neg h1]; exact ⟨Nat.le_refl _, h⟩
theorem minAt_bd (s : ByteArray) (i : Nat) (h : i < s.size) : i ≤ minAt s i ∧ minAt s i ≤ s.size ∧ minAt s i ≤ i + 1 := by
  unfold minAt; split <;> omega
theorem headAt_bd (s : ByteArray) (i : Nat) (h : isD (bAt s i) = true) : i < headAt s i ∧ headAt s i ≤ s.size := by
  have h0 := isD_iff.1 h
  have hi := lt_of_bAt (s := s) (i := i) (by omega)
  have h2 := digAt_ge s (i + 1)
  have h3 := digAt_le s (i + 1) hi
  unfold headAt
  rw [digAt_eq, if_pos h]
  split <;> omega
theorem numAt_bd (s : ByteArray) (i : Nat) (h : i < s.size) : i ≤ (numAt s i).2 ∧ (numAt s i).2 ≤ s.size ∧ ((numAt s i).1 = true → i < (numAt s i).2) := by
  have h1 := minAt_bd s i h
  unfold numAt
  by_cases hd : isD (bAt s (minAt s i)) = true
  · rw [if_pos hd]
    have h2 := headAt_bd s _ hd
    have h3 := fracAt_bd s _ h2.2
    have h4 := expAt_bd s _ h3.2
    split
    · exact ⟨by omega, h4.2, fun _ => by omega⟩
    · exact ⟨by omega, h3.2, fun h => by omega⟩
  · rw [if_neg hd]
    exact ⟨h1.1, h1.2.1, fun h => by cases h⟩

theorem hexF_ok (s : ByteArray) (i : Nat) : ∀ k, hexF s i k < 65536 → (∀ j, j < k → hexD (bAt s (i + j)) < 16) ∧ hexF s i k < 16 ^ k
  | 0 => fun _ => ⟨fun j h => by omega, by simp [hexF]⟩
  | k + 1 => fun h => by
    rw [hexF] at h
    by_cases hc : hexF s i k < 65536 ∧ hexD (bAt s (i + k)) < 16
    · have ih := hexF_ok s i k hc.1
      refine ⟨fun j hj => ?_, ?_⟩
      · rcases Nat.lt_or_ge j k with hlt | hge
        · exact ih.1 j hlt
        · obtain rfl : j = k := by omega
          exact hc.2
      · rw [hexF, if_pos hc, Nat.pow_succ]
        have := hc.2
        have := ih.2
        omega
    · rw [if_neg hc] at h; omega
theorem hexAt_ok {s : ByteArray} {i : Nat} (h : hexAt s i < 65536) : i + 6 ≤ s.size ∧ bAt s i = 92 ∧ bAt s (i + 1) = 117 := by
  unfold hexAt at h
  by_cases hc : bAt s i = 92 ∧ bAt s (i + 1) = 117
  · rw [if_pos hc] at h
    have h5 := (hexF_ok s (i + 2) 4 h).1 3 (by omega)
    refine ⟨?_, hc⟩
    have := lt_of_bAt (s := s) (i := i + 2 + 3) (by intro h0; rw [h0, hexD_zero] at h5; omega)
    omega
  · rw [if_neg hc] at h; omega
theorem hexAt_le (s : ByteArray) (i : Nat) : hexAt s i ≤ 65536 := by
  by_cases h : hexAt s i < 65536
  · omega
  · unfold hexAt
    split
    · rw [show hexF s (i + 2) 4 = if hexF s (i + 2) 3 < 65536 ∧ hexD (bAt s (i + 2 + 3)) < 16 then hexF s (i + 2) 3 * 16 + hexD (bAt s (i + 2 + 3)) else 65536 from rfl]
      split
      · rename_i hc
        have := (hexF_ok s (i + 2) 3 hc.1).2
        omega
      · exact Nat.le_refl _
    · exact Nat.le_refl _
theorem scalarN_iff {r : Nat} : scalarN r = true ↔ r < 55296 ∨ (57344 ≤ r ∧ r ≤ 1114111) := by simp [scalarN]
theorem escAt_ok {s : ByteArray} {i : Nat} (_h92 : bAt s i = 92) (h : (escAt s i).1 = 0) : i + (escAt s i).2.2 ≤ s.size ∧ 2 ≤ (escAt s i).2.2 ∧ (escAt s i).2.2 ≤ 12 ∧ scalarN (escAt s i).2.1 = true ∧ ((escAt s i).2.1 < 128 ∨ 4 ≤ (escAt s i).2.2) := by
  unfold escAt at h ⊢
  simp only at h ⊢
  have hl : bAt s (i + 1) ≠ 0 → i + 2 ≤ s.size := fun h => by have := lt_of_bAt h; omega
  by_cases h1 : bAt s (i + 1) = 34 ∨ bAt s (i + 1) = 92 ∨ bAt s (i + 1) = 47
  · rw [if_pos h1]
    exact ⟨hl (by omega), Nat.le_refl _, by simp, by rw [scalarN_iff]; simp only; omega, Or.inl (by simp only; omega)⟩
  rw [if_neg h1] at h ⊢
  by_cases h2 : bAt s (i + 1) = 98
  · rw [if_pos h2]
    exact ⟨hl (by omega), Nat.le_refl _, by simp, rfl, Or.inl (by decide)⟩
  rw [if_neg h2] at h ⊢
  by_cases h3 : bAt s (i + 1) = 102
  · rw [if_pos h3]
    exact ⟨hl (by omega), Nat.le_refl _, by simp, rfl, Or.inl (by decide)⟩
  rw [if_neg h3] at h ⊢
  by_cases h4 : bAt s (i + 1) = 110
  · rw [if_pos h4]
    exact ⟨hl (by omega), Nat.le_refl _, by simp, rfl, Or.inl (by decide)⟩
  rw [if_neg h4] at h ⊢
  by_cases h5 : bAt s (i + 1) = 114
  · rw [if_pos h5]
    exact ⟨hl (by omega), Nat.le_refl _, by simp, rfl, Or.inl (by decide)⟩
  rw [if_neg h5] at h ⊢
  by_cases h6 : bAt s (i + 1) = 116
  · rw [if_pos h6]
    exact ⟨hl (by omega), Nat.le_refl _, by simp, rfl, Or.inl (by decide)⟩
  rw [if_neg h6] at h ⊢
  by_cases h7 : 65536 ≤ hexAt s i
  · rw [if_pos h7] at h; cases h
  rw [if_neg h7] at h ⊢
  have h8 := hexAt_ok (s := s) (i := i) (by omega)
  by_cases h9 : scalarN (hexAt s i) = true
  · rw [if_pos h9]
    exact ⟨h8.1, by simp, by simp, h9, Or.inr (by simp)⟩
  rw [if_neg h9] at h ⊢
  by_cases ha : hexAt s i < 56320 ∧ 56320 ≤ hexAt s (i + 6) ∧ hexAt s (i + 6) ≤ 57343
  · rw [if_pos ha]
    have hb := hexAt_ok (s := s) (i := i + 6) (by omega)
    rw [scalarN_iff] at h9
    exact ⟨by simp only; omega, by simp, by simp, by rw [scalarN_iff]; simp only; omega, Or.inr (by simp)⟩
  · rw [if_neg ha] at h; cases h

theorem qF_fuel (s : ByteArray) : ∀ f g i acc, s.size - i < f → s.size - i < g → qF s f i acc = qF s g i acc := by
  intro f
  induction f with
  | zero => intro g i acc h1; omega
  | succ f ih =>
    intro g i acc h1 h2
    obtain ⟨g, rfl⟩ : ∃ m, g = m + 1 := ⟨g - 1, by omega⟩
    rw [qF, qF]
    by_cases hi : i < s.size
    · rw [if_pos hi, if_pos hi]
      by_cases h34 : bAt s i = 34
      · rw [if_pos h34, if_pos h34]
      rw [if_neg h34, if_neg h34]
      by_cases h32 : bAt s i < 32
      · rw [if_pos h32, if_pos h32]
      rw [if_neg h32, if_neg h32]
      by_cases h92 : bAt s i = 92
      · rw [if_pos h92, if_pos h92]
        by_cases he : (escAt s i).1 = 0
        · have := escAt_ok h92 he
          rw [if_pos he, if_pos he]
          exact ih _ _ _ (by omega) (by omega)
        · rw [if_neg he, if_neg he]
      · rw [if_neg h92, if_neg h92]
        exact ih _ _ _ (by omega) (by omega)
    · rw [if_neg hi, if_neg hi]
theorem qAt_eq (s : ByteArray) (i : Nat) (acc : List UInt8) : qAt s i acc =
    if i < s.size then
      (if bAt s i = 34 then (0, i + 1, acc)
      else if bAt s i < 32 then (2, i, [])
      else if bAt s i = 92 then (if (escAt s i).1 = 0 then qAt s (i + (escAt s i).2.2) (acc ++ (encN (escAt s i).2.1).map UInt8.ofNat) else ((escAt s i).1, i, []))
      else qAt s (i + 1) (acc ++ [UInt8.ofNat (bAt s i)]))
    else (2, s.size, []) := by
  conv => lhs; unfold qAt
  rw [qF]
  by_cases hi : i < s.size
  · rw [if_pos hi, if_pos hi]
    by_cases h92 : bAt s i = 92
    · rw [if_pos h92, if_pos h92]
      by_cases he : (escAt s i).1 = 0
      · have := escAt_ok h92 he
        rw [if_pos he, if_pos he, qF_fuel s (s.size - i) (s.size - (i + (escAt s i).2.2) + 1) (i + (escAt s i).2.2) _ (by omega) (by omega)]
        rfl
      · rw [if_neg he, if_neg he]
    · rw [if_neg h92, if_neg h92, qF_fuel s (s.size - i) (s.size - (i + 1) + 1) (i + 1) _ (by omega) (by omega)]
      rfl
  · rw [if_neg hi, if_neg hi]
theorem escAt_err (s : ByteArray) (i : Nat) : (escAt s i).1 = 0 ∨ (escAt s i).1 = 1 ∨ (escAt s i).1 = 2 := by
  unfold escAt
  simp only
  repeat' split
  all_goals simp
theorem enc_esc (s : ByteArray) (i : Nat) (h92 : bAt s i = 92) (h : (escAt s i).1 = 0) : (if (escAt s i).2.1 < 128 then 1 else if (escAt s i).2.1 < 2048 then 2 else if (escAt s i).2.1 < 65536 then 3 else 4) ≤ (escAt s i).2.2 := by
  have h2 := escAt_ok h92 h
  repeat' split
  all_goals omega
theorem qAt_bd (s : ByteArray) : ∀ n i acc, s.size - i ≤ n → i ≤ s.size →
    ((qAt s i acc).1 = 0 ∨ (qAt s i acc).1 = 1 ∨ (qAt s i acc).1 = 2) ∧ i ≤ (qAt s i acc).2.1 ∧ (qAt s i acc).2.1 ≤ s.size ∧ ((qAt s i acc).1 = 0 → i < (qAt s i acc).2.1 ∧ (qAt s i acc).2.2.length + i < acc.length + (qAt s i acc).2.1) := by
  intro n
  induction n with
  | zero =>
    intro i acc h1 h2
    rw [qAt_eq, if_neg (by omega)]
    exact ⟨Or.inr (Or.inr rfl), h2, Nat.le_refl _, fun h => by cases h⟩
  | succ n ih =>
    intro i acc h1 h2
    rw [qAt_eq]
    by_cases hi : i < s.size
    · rw [if_pos hi]
      by_cases h34 : bAt s i = 34
      · rw [if_pos h34]
        exact ⟨Or.inl rfl, by simp, hi, fun _ => ⟨by simp, by simp⟩⟩
      rw [if_neg h34]
      by_cases h32 : bAt s i < 32
      · rw [if_pos h32]
        exact ⟨Or.inr (Or.inr rfl), Nat.le_refl _, h2, fun h => by cases h⟩
      rw [if_neg h32]
      by_cases h92 : bAt s i = 92
      · rw [if_pos h92]
        by_cases he : (escAt s i).1 = 0
        · have := escAt_ok h92 he
          rw [if_pos he]
          have hh := ih (i + (escAt s i).2.2) (acc ++ (encN (escAt s i).2.1).map UInt8.ofNat) (by omega) (by omega)
          have hlen : (encN (escAt s i).2.1).length ≤ (escAt s i).2.2 := by
            rw [encN_len]
            have := enc_esc s i h92 he
            exact this
          refine ⟨hh.1, by omega, hh.2.2.1, fun h0 => ?_⟩
          have := hh.2.2.2 h0
          rw [List.length_append, List.length_map] at this
          omega
        · rw [if_neg he]
          exact ⟨escAt_err s i, Nat.le_refl _, h2, fun h => absurd h he⟩
      · rw [if_neg h92]
        have hh := ih (i + 1) (acc ++ [UInt8.ofNat (bAt s i)]) (by omega) (by omega)
        refine ⟨hh.1, by omega, hh.2.2.1, fun h0 => ?_⟩
        have := hh.2.2.2 h0
        rw [List.length_append, List.length_cons, List.length_nil] at this
        omega
    · rw [if_neg hi]
      exact ⟨Or.inr (Or.inr rfl), h2, Nat.le_refl _, fun h => by cases h⟩

end Go.Proofs.YtibopkodoidjoaaGreatDoor

/- Package scan: the walks of its small functions, and of number. -/
namespace Go.Proofs.YtibopkodoidjoaaGreatDoor
open Go Go.RowKit

set_option maxHeartbeats 400000 in
theorem digit_calls (c : Nat) (w : World) : Calls Tryz.prog 100 #[.int .u8 (c : Int)] w fun e w' => e = .returned (.bool (isD c)) ∧ w' = w := by
  by_cases h1 : 48 ≤ c
  · by_cases h2 : c ≤ 57
    · have e : isD c = true := isD_iff.2 ⟨h1, h2⟩
      rw [e]
      clear e
      go_enter Tryz.func100, Tryz.ntmps100
      (go_wp2_with fail; repeat (any_goals (go_quiet (fail); go_wp2_with fail)))
      go_ret
      exact ⟨by simp <;> omega, rfl⟩
    · have e : isD c = false := by rw [Bool.eq_false_iff]; intro h; exact h2 (isD_iff.1 h).2
      rw [e]
      clear e
      go_enter Tryz.func100, Tryz.ntmps100
      (go_wp2_with fail; repeat (any_goals (go_quiet (fail); go_wp2_with fail)))
      go_ret
      exact ⟨by simp <;> omega, rfl⟩
  · have e : isD c = false := by rw [Bool.eq_false_iff]; intro h; exact h1 (isD_iff.1 h).1
    rw [e]
    clear e
    go_enter Tryz.func100, Tryz.ntmps100
    (go_wp2_with fail; repeat (any_goals (go_quiet (fail); go_wp2_with fail)))
    go_ret
    exact ⟨by simp <;> omega, rfl⟩
theorem byte_at (s : ByteArray) (i : Nat) : ∀ h, ((s[i]'h).toNat : Int) = (bAt s i : Int) := fun h => by rw [bAt_eq]
set_option maxHeartbeats 1000000 in
theorem digits_calls (s : ByteArray) (i : Nat) (w : World) (hs : s.size ≤ 140737488351232) (hi : i ≤ s.size) :
    Calls Tryz.prog 119 #[.string s, .int .i64 (i : Int)] w fun e w' => e = .returned (.int .i64 (digAt s i : Nat)) ∧ w' = w := by
  obtain ⟨r, hr⟩ : ∃ r, digAt s i = r := ⟨_, rfl⟩
  rw [hr]
  replace hr := Lib.hid hr
  go_enter Tryz.func119, Tryz.ntmps119
  (go_wp2_with fail; repeat (any_goals (go_quiet (fail); go_wp2_with fail)))
  go_loop [1] (fun v => ∃ k : Nat, k ≤ s.size ∧ v = .int .i64 (k : Int) ∧ Hid (digAt s k = r)) (fun v => s.size - (intOf v).toNat)
  case atStart => exact ⟨i, hi, rfl, hr⟩
  case round =>
    obtain ⟨k, hk, rfl, hr2⟩ := hrel
    have hx := byte_at s k
    have he := Lib.hid (digAt_eq s k)
    by_cases hlt : k < s.size
    · have D := Lib.hid (fun w => digit_calls (bAt s k) w)
      cases hd : isD (bAt s k) with
      | true =>
        rw [hd] at D
        replace hd := Lib.hid hd
        (go_wp2_with fail; repeat (any_goals (go_quiet (fail); go_wp2_with fail)))
        refine (D.out _).mono ?_
        rintro e w1 ⟨rfl, rfl⟩
        (go_wp2_with fail; repeat (any_goals (go_quiet (fail); go_wp2_with fail)))
        go_round
        case rel => exact ⟨k + 1, by omega, by go_num, Lib.hid (by rw [← hr2.out, he.out, if_pos hd.out])⟩
        case measure => simp [intOf]; omega
      | false =>
        rw [hd] at D
        replace hd := Lib.hid hd
        (go_wp2_with fail; repeat (any_goals (go_quiet (fail); go_wp2_with fail)))
        refine (D.out _).mono ?_
        rintro e w1 ⟨rfl, rfl⟩
        (go_wp2_with fail; repeat (any_goals (go_quiet (fail); go_wp2_with fail)))
        go_ret
        exact ⟨ret_int (by rw [← hr2.out, he.out, if_neg (by rw [hd.out]; simp)]), rfl⟩
    · have hd : isD (bAt s k) = false := by rw [bAt_ge s k (by omega)]; rfl
      replace hd := Lib.hid hd
      (go_wp2_with fail; repeat (any_goals (go_quiet (fail); go_wp2_with fail)))
      go_ret
      exact ⟨ret_int (by rw [← hr2.out, he.out, if_neg (by rw [hd.out]; simp)]), rfl⟩

/-- A new error with a place: block g. -/
def AtB (p : Int) (v : Value) (g : Nat) (w : World) : Prop := w.heap[g]? = some (.cells #[.int .i64 p, v] 86 (0, 0))
set_option maxHeartbeats 400000 in
theorem fault_calls (p : Int) (T : TypeId) (v : Value) (w : World) : Calls Tryz.prog 80 #[.int .i64 p, .iface T v] w fun e w' =>
    ∃ g, w.heap.size ≤ g ∧ e = .returned (.iface 69 (.pointer (some ⟨g, 0, none⟩))) ∧ AtB p (.iface T v) g w' ∧ Below w.heap.size w w' := by
  go_enter Tryz.func80, Tryz.ntmps80
  (go_wp2_with fail; repeat (any_goals (go_quiet (fail); go_wp2_with fail)))
  go_ret
  exact ⟨w.heap.size, Nat.le_refl _, rfl, heap_alloc_new w _, (by repeat (first | assumption | exact Below.refl _ _ | apply Below.drew | apply below_drewN | apply balloc | (refine Below.setCell ?_ (by first | omega | (simp <;> omega)) _)))⟩

set_option maxHeartbeats 1000000 in
theorem one_calls (c : Nat) (w : World) : Calls Tryz.prog 97 #[.int .u8 (c : Int)] w fun e w' => e = .returned (.int .i64 (signK c : Nat)) ∧ w' = w := by
  go_enter Tryz.func97, Tryz.ntmps97
  (go_wp2_with fail; repeat (any_goals (go_quiet (fail); go_wp2_with fail)))
  all_goals
    go_ret
    refine ⟨ret_int ?_, rfl⟩
    unfold signK
    (repeat' split) <;> simp_all <;> omega
/-- The word that begins with a byte, its kind; 0: none. -/
def wordS (c : Nat) : ByteArray := if c = 110 then ⟨#[110, 117, 108, 108]⟩ else if c = 116 then ⟨#[116, 114, 117, 101]⟩ else if c = 102 then ⟨#[102, 97, 108, 115, 101]⟩ else ⟨#[]⟩
def wordK (c : Nat) : Nat := if c = 110 then 1 else if c = 116 then 2 else if c = 102 then 3 else 0
set_option maxHeartbeats 1000000 in
theorem word_calls (c : Nat) (w : World) : Calls Tryz.prog 98 #[.int .u8 (c : Int)] w fun e w' => e = .returned (.tuple #[.string (wordS c), .int .i64 (wordK c : Nat)]) ∧ w' = w := by
  by_cases h1 : c = 110
  · subst h1
    go_enter Tryz.func98, Tryz.ntmps98
    (go_wp2_with fail; repeat (any_goals (go_quiet (fail); go_wp2_with fail)))
    go_ret2
    exact ⟨rfl, rfl⟩
  have k1 : ((c : Int) == 110) = false := by simp; omega
  by_cases h2 : c = 116
  · subst h2
    clear h1 k1
    go_enter Tryz.func98, Tryz.ntmps98
    (go_wp2_with fail; repeat (any_goals (go_quiet (fail); go_wp2_with fail)))
    go_ret2
    exact ⟨rfl, rfl⟩
  have k2 : ((c : Int) == 116) = false := by simp; omega
  by_cases h3 : c = 102
  · subst h3
    clear h1 k1 h2 k2
    go_enter Tryz.func98, Tryz.ntmps98
    (go_wp2_with fail; repeat (any_goals (go_quiet (fail); go_wp2_with fail)))
    go_ret2
    exact ⟨rfl, rfl⟩
  have k3 : ((c : Int) == 102) = false := by simp; omega
  have e1 : wordS c = ⟨#[]⟩ := by unfold wordS; rw [if_neg h1, if_neg h2, if_neg h3]
  have e2 : wordK c = 0 := by unfold wordK; rw [if_neg h1, if_neg h2, if_neg h3]
  rw [e1, e2]
  clear h1 h2 h3 e1 e2
  go_enter Tryz.func98, Tryz.ntmps98
  (go_wp2_with fail; repeat (any_goals (go_quiet (fail); go_wp2_with fail)))
  go_ret2
  exact ⟨rfl, rfl⟩

end Go.Proofs.YtibopkodoidjoaaGreatDoor

/- Plain laws: a text's runes are its bytes. -/
namespace Go.Proofs.YtibopkodoidjoaaGreatDoor
open Go Go.RowKit

theorem encodeRune_enc {r : Nat} (h : scalarN r = true) : Lib.encodeRune (r : Int) = (encN r).map UInt8.ofNat := by
  have hs := scalarN_iff.1 h
  unfold Lib.encodeRune
  have e : ∀ x : Nat, (x : Int).toNat.toUInt8 = UInt8.ofNat x := fun x => rfl
  by_cases h1 : r < 128
  · rw [Lib.encodeRuneZ_one (by omega) (by omega)]
    unfold encN; rw [if_pos h1]; rfl
  by_cases h2 : r < 2048
  · rw [Lib.encodeRuneZ_two (by omega) (by omega)]
    unfold encN; rw [if_neg h1, if_pos h2]
    rw [show (192 + (r : Int) / 64) = ((192 + r / 64 : Nat) : Int) by omega, show (128 + (r : Int) % 64) = ((128 + r % 64 : Nat) : Int) by omega]
    rfl
  by_cases h3 : r < 65536
  · rw [Lib.encodeRuneZ_three (by omega)]
    unfold encN; rw [if_neg h1, if_neg h2, if_pos h3]
    rw [show (224 + (r : Int) / 4096) = ((224 + r / 4096 : Nat) : Int) by omega, show (128 + (r : Int) / 64 % 64) = ((128 + r / 64 % 64 : Nat) : Int) by omega, show (128 + (r : Int) % 64) = ((128 + r % 64 : Nat) : Int) by omega]
    rfl
  · rw [Lib.encodeRuneZ_four (by omega) (by omega)]
    unfold encN; rw [if_neg h1, if_neg h2, if_neg h3]
    rw [show (240 + (r : Int) / 262144) = ((240 + r / 262144 : Nat) : Int) by omega, show (128 + (r : Int) / 4096 % 64) = ((128 + r / 4096 % 64 : Nat) : Int) by omega, show (128 + (r : Int) / 64 % 64) = ((128 + r / 64 % 64 : Nat) : Int) by omega, show (128 + (r : Int) % 64) = ((128 + r % 64 : Nat) : Int) by omega]
    rfl
theorem encN_ge {r : Nat} (h : 128 ≤ r) : ∀ x ∈ encN r, 128 ≤ x := by
  unfold encN
  rw [if_neg (by omega)]
  split
  · intro x hx; simp at hx; omega
  · split
    · intro x hx; simp at hx; omega
    · intro x hx; simp at hx; omega
theorem rune_dec {s : ByteArray} {a pos : Nat} (h : a + pos < s.size) (hv : widthAt s (a + pos) ≠ 0) : Utf8.decode (s.extract a s.size) pos = refAt s (a + pos) := by
  have e1 : (s.extract a s.size).size = s.size - a := by rw [ByteArray.size_extract]; omega
  have e2 : (s.extract (a + pos) s.size).size = s.size - (a + pos) := by rw [ByteArray.size_extract]; omega
  have hd : Utf8.decode (s.extract a s.size) pos = Utf8.decode (s.extract (a + pos) s.size) 0 := by
    rw [Lib.decode_at, Lib.decode_at]
    simp only [get_bAt, bAt_extract]
    rw [e1, e2, show s.size - a - pos = s.size - (a + pos) - 0 by omega]
    simp only [Nat.add_assoc, Nat.zero_add, Nat.add_zero]
  rw [hd, refAt_eq h]
  unfold widthAt at hv
  unfold nextS at hv ⊢
  have hg : Lib.decodeGo (s.extract (a + pos) s.size) = Utf8.decode (s.extract (a + pos) s.size) 0 := by
    show (if (s.extract (a + pos) s.size).size = 0 then _ else _) = _
    rw [if_neg (by omega)]
  rw [hg] at hv ⊢
  split
  · rename_i hc
    rw [if_pos hc] at hv
    exact absurd rfl hv
  · rfl
/-- The scalar at a place where one begins: one byte, or two and more. -/
theorem rune_cases {s : ByteArray} {q : Nat} (h : q < s.size) (hv : widthAt s q ≠ 0) :
    scalarN (refAt s q).1 = true ∧ encN (refAt s q).1 = (List.range (refAt s q).2).map (fun j => bAt s (q + j)) ∧ widthAt s q = (refAt s q).2 ∧ q + (refAt s q).2 ≤ s.size ∧
    (((refAt s q).2 = 1 ∧ (refAt s q).1 = bAt s q ∧ bAt s q < 128) ∨ (2 ≤ (refAt s q).2 ∧ 128 ≤ (refAt s q).1 ∧ ∀ j, j < (refAt s q).2 → 128 ≤ bAt s (q + j))) := by
  have hw : widthAt s q = (refAt s q).2 := by unfold widthAt; rw [refAt_eq h]
  rw [hw] at hv
  have hbd := (refF_bd (fun j => bAt s (q + j)) (s.size - q)).1
  have hdef : refAt s q = refF (fun j => bAt s (q + j)) (s.size - q) := rfl
  have hr := hdef
  unfold refF at hr
  split at hr
  · rw [hr] at hv; exact absurd rfl hv
  · split at hr
    · rename_i h1 h2
      obtain ⟨h2, h3⟩ := h2
      have e1 : (refAt s q).1 = accB (fun j => bAt s (q + j)) (rN (bAt s (q + 0)) - 1) := by rw [hr]
      have e2 : (refAt s q).2 = rN (bAt s (q + 0)) := by rw [hr]
      rw [← e1, ← e2] at h3
      rw [← e1] at h2
      refine ⟨h2, h3, hw, by rw [hdef]; omega, ?_⟩
      have hl := congrArg List.length h3
      rw [encN_len, List.length_map, List.length_range] at hl
      have hb := bAt_lt s q
      by_cases h128 : (refAt s q).1 < 128
      · rw [if_pos h128] at hl
        refine Or.inl ⟨hl.symm, ?_, ?_⟩
        · rw [← hl] at h3
          unfold encN at h3
          rw [if_pos h128] at h3
          simpa using h3
        · have : (refAt s q).1 = bAt s q := by
            rw [← hl] at h3
            unfold encN at h3
            rw [if_pos h128] at h3
            simpa using h3
          omega
      · refine Or.inr ⟨?_, by omega, fun j hj => ?_⟩
        · rw [if_neg h128] at hl
          split at hl
          · omega
          · split at hl <;> omega
        · have hm : bAt s (q + j) ∈ encN (refAt s q).1 := by
            rw [h3]
            exact List.mem_map.2 ⟨j, List.mem_range.2 hj, rfl⟩
          exact encN_ge (by omega) _ hm
    · rw [hr] at hv; exact absurd rfl hv
theorem brk_next {s : ByteArray} {q : Nat} (h : q < s.size) (hb : brkAt s q = s.size) : widthAt s q ≠ 0 ∧ brkAt s (q + (refAt s q).2) = s.size := by
  have hw : widthAt s q = (refAt s q).2 := by unfold widthAt; rw [refAt_eq h]
  rw [brkAt_eq, if_pos h] at hb
  split at hb
  · omega
  · rename_i h0; exact ⟨h0, by rw [← hw]; exact hb⟩
theorem brk_ascii {s : ByteArray} {q : Nat} (hb : brkAt s q = s.size) (h : q < s.size) (ha : bAt s q < 128) : brkAt s (q + 1) = s.size := by
  obtain ⟨h0, h1⟩ := brk_next h hb
  obtain ⟨_, _, _, _, h2 | ⟨_, _, h3⟩⟩ := rune_cases h h0
  · rw [h2.1] at h1; exact h1
  · have := h3 0 (by omega)
    rw [Nat.add_zero] at this
    omega
theorem brk_run {s : ByteArray} : ∀ {k q : Nat}, brkAt s q = s.size → q + k ≤ s.size → (∀ j, j < k → bAt s (q + j) < 128) → brkAt s (q + k) = s.size
  | 0, q, hb, _, _ => hb
  | k + 1, q, hb, hk, ha => by
    have h1 := brk_ascii hb (by omega) (ha 0 (by omega))
    have := brk_run (k := k) h1 (by omega) (fun j hj => by have := ha (j + 1) (by omega); rw [show q + 1 + j = q + (j + 1) by omega]; exact this)
    rw [show q + (k + 1) = q + 1 + k by omega]
    exact this
theorem hexD_ascii {c : Nat} (h : hexD c < 16) : c < 128 := by
  unfold hexD at h
  repeat' split at h
  all_goals omega
theorem hexAt_ascii {s : ByteArray} {i : Nat} (h : hexAt s i < 65536) : ∀ j, j < 6 → bAt s (i + j) < 128 := by
  have h2 := hexAt_ok h
  unfold hexAt at h
  rw [if_pos ⟨h2.2.1, h2.2.2⟩] at h
  have hk := (hexF_ok s (i + 2) 4 h).1
  intro j hj
  rcases (show j = 0 ∨ j = 1 ∨ 2 ≤ j by omega) with rfl | rfl | h3
  · rw [Nat.add_zero]; omega
  · omega
  · have := hexD_ascii (hk (j - 2) (by omega))
    rw [show i + 2 + (j - 2) = i + j by omega] at this
    exact this
theorem escAt_ascii {s : ByteArray} {i : Nat} (h92 : bAt s i = 92) (h : (escAt s i).1 = 0) : ∀ j, j < (escAt s i).2.2 → bAt s (i + j) < 128 := by
  have two : bAt s (i + 1) < 128 → ∀ j, j < 2 → bAt s (i + j) < 128 := fun h1 j hj => by
    rcases (show j = 0 ∨ j = 1 by omega) with rfl | rfl
    · rw [Nat.add_zero]; omega
    · exact h1
  unfold escAt at h ⊢
  simp only at h ⊢
  by_cases h1 : bAt s (i + 1) = 34 ∨ bAt s (i + 1) = 92 ∨ bAt s (i + 1) = 47
  · rw [if_pos h1]; exact two (by omega)
  rw [if_neg h1] at h ⊢
  by_cases h2 : bAt s (i + 1) = 98
  · rw [if_pos h2]; exact two (by omega)
  rw [if_neg h2] at h ⊢
  by_cases h3 : bAt s (i + 1) = 102
  · rw [if_pos h3]; exact two (by omega)
  rw [if_neg h3] at h ⊢
  by_cases h4 : bAt s (i + 1) = 110
  · rw [if_pos h4]; exact two (by omega)
  rw [if_neg h4] at h ⊢
  by_cases h5 : bAt s (i + 1) = 114
  · rw [if_pos h5]; exact two (by omega)
  rw [if_neg h5] at h ⊢
  by_cases h6 : bAt s (i + 1) = 116
  · rw [if_pos h6]; exact two (by omega)
  rw [if_neg h6] at h ⊢
  by_cases h7 : 65536 ≤ hexAt s i
  · rw [if_pos h7] at h; cases h
  rw [if_neg h7] at h ⊢
  have h8 := hexAt_ascii (s := s) (i := i) (by omega)
  by_cases h9 : scalarN (hexAt s i) = true
  · rw [if_pos h9]; exact h8
  rw [if_neg h9] at h ⊢
  by_cases ha : hexAt s i < 56320 ∧ 56320 ≤ hexAt s (i + 6) ∧ hexAt s (i + 6) ≤ 57343
  · rw [if_pos ha]
    have hb := hexAt_ascii (s := s) (i := i + 6) (by omega)
    intro j hj
    rcases Nat.lt_or_ge j 6 with h6 | h6
    · exact h8 j h6
    · have := hb (j - 6) (by simp only at hj; omega)
      rw [show i + 6 + (j - 6) = i + j by omega] at this
      exact this
  · rw [if_neg ha] at h; cases h
theorem qAt_high {s : ByteArray} : ∀ {k q : Nat} (acc : List UInt8), q + k ≤ s.size → (∀ j, j < k → 128 ≤ bAt s (q + j)) → qAt s q acc = qAt s (q + k) (acc ++ ((List.range k).map (fun j => bAt s (q + j))).map UInt8.ofNat)
  | 0, q, acc, _, _ => by simp
  | k + 1, q, acc, hk, ha => by
    have h0 := ha 0 (by omega)
    rw [Nat.add_zero] at h0
    rw [qAt_eq, if_pos (by omega), if_neg (by omega), if_neg (by omega), if_neg (by omega)]
    rw [qAt_high (k := k) (q := q + 1) _ (by omega) (fun j hj => by have := ha (j + 1) (by omega); rw [show q + 1 + j = q + (j + 1) by omega]; exact this)]
    rw [show q + 1 + k = q + (k + 1) by omega]
    congr 1
    rw [List.range_succ_eq_map, List.map_cons, List.map_cons, List.map_map, List.append_assoc, Nat.add_zero]
    congr 1
    simp only [List.singleton_append, List.cons.injEq, List.map_map, Nat.add_zero, true_and]
    apply List.map_congr_left
    intro j _
    simp only [Function.comp]
    rw [show q + 1 + j = q + (j + 1) by omega]
/-- A scalar that is no quote, no backslash, none below 32: its bytes stand. -/
theorem qAt_rune {s : ByteArray} {q : Nat} (acc : List UInt8) (h : q < s.size) (hv : widthAt s q ≠ 0) (h34 : (refAt s q).1 ≠ 34) (h32 : 32 ≤ (refAt s q).1) (h92 : (refAt s q).1 ≠ 92) :
    qAt s q acc = qAt s (q + (refAt s q).2) (acc ++ Lib.encodeRune ((refAt s q).1 : Int)) := by
  obtain ⟨h1, h2, h3, h4, h5⟩ := rune_cases h hv
  rw [encodeRune_enc h1, h2]
  rcases h5 with ⟨h5, h6, h7⟩ | ⟨h5, h6, h7⟩
  · rw [h6] at h34 h32 h92
    rw [h5, qAt_eq, if_pos h, if_neg h34, if_neg (by omega), if_neg h92]
    simp
  · exact qAt_high acc h4 h7
theorem rune_byte {s : ByteArray} {q : Nat} (h : q < s.size) (hv : widthAt s q ≠ 0) (c : Nat) (hc : c < 128) : (refAt s q).1 = c ↔ bAt s q = c := by
  obtain ⟨h1, h2, h3, h4, ⟨h5, h6, h7⟩ | ⟨h5, h6, h7⟩⟩ := rune_cases h hv
  · rw [h6]
  · have := h7 0 (by omega)
    rw [Nat.add_zero] at this
    omega
theorem rune_low {s : ByteArray} {q : Nat} (h : q < s.size) (hv : widthAt s q ≠ 0) : (refAt s q).1 < 32 ↔ bAt s q < 32 := by
  obtain ⟨h1, h2, h3, h4, ⟨h5, h6, h7⟩ | ⟨h5, h6, h7⟩⟩ := rune_cases h hv
  · rw [h6]
  · have := h7 0 (by omega)
    rw [Nat.add_zero] at this
    omega

end Go.Proofs.YtibopkodoidjoaaGreatDoor

/- Plain laws: where a token ends. -/
namespace Go.Proofs.YtibopkodoidjoaaGreatDoor
open Go Go.RowKit

theorem nth_bAt (s : ByteArray) (j : Nat) (x : UInt8) (hx : x ≠ 0) : s.data.toList[j]? = some x ↔ bAt s j = x.toNat := by
  unfold bAt
  have hx' : x.toNat ≠ 0 := fun h => hx (UInt8.toNat_inj.1 h)
  by_cases h : j < s.size
  · rw [dif_pos h]
    have h2 : j < s.data.toList.length := by simpa using h
    rw [List.getElem?_eq_getElem h2]
    simp only [Option.some.injEq]
    rw [← UInt8.toNat_inj]
    rfl
  · rw [dif_neg h]
    have h2 : s.data.toList.length ≤ j := by simpa using Nat.le_of_not_lt h
    rw [List.getElem?_eq_none h2]
    constructor
    · intro h; cases h
    · intro h; exact absurd h.symm hx'
theorem pre4 (l : List UInt8) (a b c d : UInt8) : Lib.hasPrefix l [a, b, c, d] = true ↔ l[0]? = some a ∧ l[1]? = some b ∧ l[2]? = some c ∧ l[3]? = some d := by
  rcases l with _ | ⟨x, _ | ⟨y, _ | ⟨z, _ | ⟨u, l⟩⟩⟩⟩ <;> simp [Lib.hasPrefix, List.isPrefixOf]
  grind
theorem pre5 (l : List UInt8) (a b c d e : UInt8) : Lib.hasPrefix l [a, b, c, d, e] = true ↔ l[0]? = some a ∧ l[1]? = some b ∧ l[2]? = some c ∧ l[3]? = some d ∧ l[4]? = some e := by
  rcases l with _ | ⟨x, _ | ⟨y, _ | ⟨z, _ | ⟨u, _ | ⟨v, l⟩⟩⟩⟩⟩ <;> simp [Lib.hasPrefix, List.isPrefixOf]
  grind
theorem pre_null (s : ByteArray) (p : Nat) (h : bAt s p = 110) : Lib.hasPrefix (s.extract p s.size).data.toList [110, 117, 108, 108] = true ↔ (bAt s (p + 1) = 117 ∧ bAt s (p + 2) = 108 ∧ bAt s (p + 3) = 108) := by
  rw [pre4, nth_bAt _ _ _ (by decide), nth_bAt _ _ _ (by decide), nth_bAt _ _ _ (by decide), nth_bAt _ _ _ (by decide)]
  simp only [bAt_extract, Nat.add_zero, h]
  exact ⟨fun h => h.2, fun h => ⟨rfl, h⟩⟩
theorem pre_true (s : ByteArray) (p : Nat) (h : bAt s p = 116) : Lib.hasPrefix (s.extract p s.size).data.toList [116, 114, 117, 101] = true ↔ (bAt s (p + 1) = 114 ∧ bAt s (p + 2) = 117 ∧ bAt s (p + 3) = 101) := by
  rw [pre4, nth_bAt _ _ _ (by decide), nth_bAt _ _ _ (by decide), nth_bAt _ _ _ (by decide), nth_bAt _ _ _ (by decide)]
  simp only [bAt_extract, Nat.add_zero, h]
  exact ⟨fun h => h.2, fun h => ⟨rfl, h⟩⟩
theorem pre_false (s : ByteArray) (p : Nat) (h : bAt s p = 102) : Lib.hasPrefix (s.extract p s.size).data.toList [102, 97, 108, 115, 101] = true ↔ (bAt s (p + 1) = 97 ∧ bAt s (p + 2) = 108 ∧ bAt s (p + 3) = 115 ∧ bAt s (p + 4) = 101) := by
  rw [pre5, nth_bAt _ _ _ (by decide), nth_bAt _ _ _ (by decide), nth_bAt _ _ _ (by decide), nth_bAt _ _ _ (by decide), nth_bAt _ _ _ (by decide)]
  simp only [bAt_extract, Nat.add_zero, h]
  exact ⟨fun h => h.2, fun h => ⟨rfl, h⟩⟩

/-! ### All bytes below 128 -/
def Low (s : ByteArray) (i j : Nat) : Prop := i ≤ j ∧ j ≤ s.size ∧ ∀ k, i ≤ k → k < j → bAt s k < 128
theorem Low.refl {s : ByteArray} {i : Nat} (h : i ≤ s.size) : Low s i i := ⟨Nat.le_refl _, h, fun k h1 h2 => by omega⟩
theorem Low.trans {s : ByteArray} {i j k : Nat} (h : Low s i j) (h2 : Low s j k) : Low s i k :=
  ⟨Nat.le_trans h.1 h2.1, h2.2.1, fun m h3 h4 => by
    rcases Nat.lt_or_ge m j with h5 | h5
    · exact h.2.2 m h3 h5
    · exact h2.2.2 m h5 h4⟩
theorem Low.one {s : ByteArray} {i : Nat} (h0 : bAt s i ≠ 0) (h : bAt s i < 128) : Low s i (i + 1) :=
  ⟨by omega, lt_of_bAt h0, fun k h1 h2 => by obtain rfl : k = i := by omega
                                             exact h⟩
theorem Low.brk {s : ByteArray} {i j : Nat} (h : Low s i j) (hb : brkAt s i = s.size) : brkAt s j = s.size := by
  have := brk_run (k := j - i) hb (by have := h.1; have := h.2.1; omega) (fun m hm => h.2.2 (i + m) (by omega) (by have := h.1; omega))
  rw [show i + (j - i) = j by have := h.1; omega] at this
  exact this
theorem digF_low (s : ByteArray) : ∀ f i, i ≤ s.size → Low s i (digF s f i)
  | 0, i, h => Low.refl h
  | f + 1, i, h => by
    rw [digF]
    by_cases hd : isD (bAt s i) = true
    · rw [if_pos hd]
      have h1 := isD_iff.1 hd
      have h2 : Low s i (i + 1) := Low.one (by omega) (by omega)
      exact h2.trans (digF_low s f (i + 1) h2.2.1)
    · rw [if_neg hd]; exact Low.refl h
theorem digAt_low (s : ByteArray) (i : Nat) (h : i ≤ s.size) : Low s i (digAt s i) := digF_low s _ i h
theorem fracAt_low (s : ByteArray) (i : Nat) (h : i ≤ s.size) : Low s i (fracAt s i).2 := by
  unfold fracAt
  by_cases h1 : bAt s i = 46
  · rw [if_pos h1]
    have h2 : Low s i (i + 1) := Low.one (by omega) (by omega)
    split
    · exact h2
    · exact h2.trans (digAt_low s _ h2.2.1)
  · rw [if_neg h1]; exact Low.refl h
theorem signAt_low (s : ByteArray) (i : Nat) (h : bAt s i = 101 ∨ bAt s i = 69) : Low s i (signAt s i) := by
  have h2 : Low s i (i + 1) := Low.one (by omega) (by omega)
  unfold signAt
  split
  · exact h2.trans (Low.one (by omega) (by omega))
  · exact h2
theorem expAt_low (s : ByteArray) (i : Nat) (h : i ≤ s.size) : Low s i (expAt s i).2 := by
  unfold expAt
  by_cases h1 : bAt s i = 101 ∨ bAt s i = 69
  · rw [if_pos h1]
    have h2 := signAt_low s i h1
    split
    · exact h2
    · exact h2.trans (digAt_low s _ h2.2.1)
  · rw [if_neg h1]; exact Low.refl h
theorem minAt_low (s : ByteArray) (i : Nat) (h : i ≤ s.size) : Low s i (minAt s i) := by
  unfold minAt
  split
  · exact Low.one (by omega) (by omega)
  · exact Low.refl h
theorem headAt_low (s : ByteArray) (i : Nat) (h : i ≤ s.size) : Low s i (headAt s i) := by
  unfold headAt
  split
  · exact Low.one (by omega) (by omega)
  · exact digAt_low s i h
theorem numAt_low (s : ByteArray) (i : Nat) (h : i ≤ s.size) : Low s i (numAt s i).2 := by
  have h1 := minAt_low s i h
  unfold numAt
  split
  · have h2 := h1.trans (headAt_low s _ h1.2.1)
    have h3 := h2.trans (fracAt_low s _ h2.2.1)
    split
    · exact h3.trans (expAt_low s _ h3.2.1)
    · exact h3
  · exact h1
theorem esc_low {s : ByteArray} {i : Nat} (h92 : bAt s i = 92) (h : (escAt s i).1 = 0) : Low s i (i + (escAt s i).2.2) := by
  have h2 := escAt_ok h92 h
  refine ⟨by omega, h2.1, fun k h3 h4 => ?_⟩
  have := escAt_ascii h92 h (k - i) (by omega)
  rw [show i + (k - i) = k by omega] at this
  exact this
theorem qAt_brk (s : ByteArray) : ∀ n i acc, s.size - i ≤ n → brkAt s i = s.size → (qAt s i acc).1 = 0 → brkAt s (qAt s i acc).2.1 = s.size := by
  intro n
  induction n with
  | zero =>
    intro i acc h1 h2 h3
    rw [qAt_eq, if_neg (by omega)] at h3
    cases h3
  | succ n ih =>
    intro i acc h1 h2 h3
    rcases Nat.lt_or_ge i s.size with hi | hi
    rotate_left
    · rw [qAt_eq, if_neg (by omega)] at h3; cases h3
    have hn := brk_next hi h2
    have hr := rune_cases hi hn.1
    by_cases hb : bAt s i < 128
    · rw [qAt_eq] at h3 ⊢
      rw [if_pos hi] at h3 ⊢
      have h1b := brk_ascii h2 hi hb
      by_cases h34 : bAt s i = 34
      · rw [if_pos h34]; exact h1b
      rw [if_neg h34] at h3 ⊢
      by_cases h32 : bAt s i < 32
      · rw [if_pos h32] at h3; cases h3
      rw [if_neg h32] at h3 ⊢
      by_cases h92 : bAt s i = 92
      · rw [if_pos h92] at h3 ⊢
        by_cases he : (escAt s i).1 = 0
        · rw [if_pos he] at h3 ⊢
          have hl := esc_low h92 he
          have := escAt_ok h92 he
          exact ih _ _ (by omega) (hl.brk h2) h3
        · rw [if_neg he] at h3; exact absurd h3 he
      · rw [if_neg h92] at h3 ⊢
        exact ih _ _ (by omega) h1b h3
    · have hc := hr.2.2.2.2
      rw [qAt_high (k := (refAt s i).2) acc hr.2.2.2.1 (by
        rcases hc with hc | hc
        · omega
        · exact hc.2.2)] at h3 ⊢
      have hw : 1 ≤ (refAt s i).2 := by rw [← hr.2.2.1]; have := hn.1; omega
      exact ih _ _ (by omega) hn.2 h3

theorem signK_ascii {c : Nat} (h : signK c ≠ 0) : c ≠ 0 ∧ c < 128 := by
  unfold signK at h
  repeat' split at h
  all_goals first | omega | exact absurd rfl h
/-- A token: its end, and no scalar is cut. -/
theorem oneAt_ok (s : ByteArray) (i : Nat) (hi : i < s.size) (hb : brkAt s i = s.size) (h : (oneAt s i).1 = 0) :
    (oneAt s i).2.2.fr = i ∧ i < (oneAt s i).2.2.to ∧ (oneAt s i).2.2.to ≤ s.size ∧ brkAt s (oneAt s i).2.2.to = s.size ∧ (oneAt s i).2.2.text.size ≤ (oneAt s i).2.2.to - i ∧ 1 ≤ (oneAt s i).2.2.kind ∧ (oneAt s i).2.2.kind ≤ 11 := by
  have fin : ∀ k t, i < t → Low s i t → 1 ≤ k → k ≤ 11 → ((⟨k, i, t, noS⟩ : Tk).fr = i ∧ i < (⟨k, i, t, noS⟩ : Tk).to ∧ (⟨k, i, t, noS⟩ : Tk).to ≤ s.size ∧ brkAt s (⟨k, i, t, noS⟩ : Tk).to = s.size ∧ (⟨k, i, t, noS⟩ : Tk).text.size ≤ (⟨k, i, t, noS⟩ : Tk).to - i ∧ 1 ≤ (⟨k, i, t, noS⟩ : Tk).kind ∧ (⟨k, i, t, noS⟩ : Tk).kind ≤ 11) :=
    fun k t h1 h2 h3 h4 => ⟨rfl, h1, h2.2.1, h2.brk hb, Nat.zero_le _, h3, h4⟩
  unfold oneAt at h ⊢
  simp only at h ⊢
  by_cases h1 : signK (bAt s i) ≠ 0
  · rw [if_pos h1]
    have := signK_ascii h1
    exact fin _ _ (by omega) (Low.one this.1 this.2) (by omega) (by unfold signK; repeat' split
                                                                    all_goals omega)
  rw [if_neg h1] at h ⊢
  by_cases h2 : bAt s i = 110
  · rw [if_pos h2] at h ⊢
    by_cases hp : bAt s (i + 1) = 117 ∧ bAt s (i + 2) = 108 ∧ bAt s (i + 3) = 108
    · rw [if_pos hp]
      exact fin _ _ (by omega) ((((Low.one (by omega) (by omega)).trans (Low.one (by omega) (by omega))).trans (Low.one (s := s) (i := i + 2) (by omega) (by omega))).trans (Low.one (s := s) (i := i + 3) (by omega) (by omega))) (by omega) (by omega)
    · rw [if_neg hp] at h; cases h
  rw [if_neg h2] at h ⊢
  by_cases h3 : bAt s i = 116
  · rw [if_pos h3] at h ⊢
    by_cases hp : bAt s (i + 1) = 114 ∧ bAt s (i + 2) = 117 ∧ bAt s (i + 3) = 101
    · rw [if_pos hp]
      exact fin _ _ (by omega) ((((Low.one (by omega) (by omega)).trans (Low.one (by omega) (by omega))).trans (Low.one (s := s) (i := i + 2) (by omega) (by omega))).trans (Low.one (s := s) (i := i + 3) (by omega) (by omega))) (by omega) (by omega)
    · rw [if_neg hp] at h; cases h
  rw [if_neg h3] at h ⊢
  by_cases h4 : bAt s i = 102
  · rw [if_pos h4] at h ⊢
    by_cases hp : bAt s (i + 1) = 97 ∧ bAt s (i + 2) = 108 ∧ bAt s (i + 3) = 115 ∧ bAt s (i + 4) = 101
    · rw [if_pos hp]
      exact fin _ _ (by omega) (((((Low.one (by omega) (by omega)).trans (Low.one (by omega) (by omega))).trans (Low.one (s := s) (i := i + 2) (by omega) (by omega))).trans (Low.one (s := s) (i := i + 3) (by omega) (by omega))).trans (Low.one (s := s) (i := i + 4) (by omega) (by omega))) (by omega) (by omega)
    · rw [if_neg hp] at h; cases h
  rw [if_neg h4] at h ⊢
  by_cases h5 : bAt s i = 45 ∨ isD (bAt s i) = true
  · rw [if_pos h5] at h ⊢
    by_cases hn : (numAt s i).1 = true
    · rw [if_pos hn]
      exact fin _ _ ((numAt_bd s i hi).2.2 hn) (numAt_low s i (by omega)) (by omega) (by omega)
    · rw [if_neg hn] at h; cases h
  rw [if_neg h5] at h ⊢
  by_cases h6 : bAt s i = 34
  · rw [if_pos h6] at h ⊢
    by_cases hq : (qAt s (i + 1) []).1 = 0
    · rw [if_pos hq]
      have hb1 := brk_ascii hb hi (by omega)
      have hbd := (qAt_bd s (s.size - (i + 1)) (i + 1) [] (Nat.le_refl _) hi)
      have h7 := hbd.2.2.2 hq
      refine ⟨rfl, ?_, hbd.2.2.1, qAt_brk s _ _ _ (Nat.le_refl _) hb1 hq, ?_, Nat.le_add_left 1 4, by simp only; omega⟩
      · show i < (qAt s (i + 1) []).2.1
        omega
      · show (qAt s (i + 1) []).2.2.toArray.size ≤ (qAt s (i + 1) []).2.1 - i
        rw [List.size_toArray]
        have := h7.2
        rw [List.length_nil] at this
        omega
    · rw [if_neg hq] at h; exact absurd h hq
  rw [if_neg h6] at h
  cases h
/-- An error's number and place. -/
theorem oneAt_bad (s : ByteArray) (i : Nat) (hi : i < s.size) (h : (oneAt s i).1 ≠ 0) : ((oneAt s i).1 = 1 ∨ (oneAt s i).1 = 2) ∧ i ≤ (oneAt s i).2.1 ∧ (oneAt s i).2.1 ≤ s.size := by
  have fin : ∀ j, i ≤ j → j ≤ s.size → ((2 : Nat) = 1 ∨ (2 : Nat) = 2) ∧ i ≤ j ∧ j ≤ s.size := fun j h1 h2 => ⟨Or.inr rfl, h1, h2⟩
  unfold oneAt at h ⊢
  simp only at h ⊢
  by_cases h1 : signK (bAt s i) ≠ 0
  · rw [if_pos h1] at h; exact absurd rfl h
  rw [if_neg h1] at h ⊢
  by_cases h2 : bAt s i = 110
  · rw [if_pos h2] at h ⊢
    split at h
    · exact absurd rfl h
    · rename_i hp; rw [if_neg hp]; exact fin _ (Nat.le_refl _) (Nat.le_of_lt hi)
  rw [if_neg h2] at h ⊢
  by_cases h3 : bAt s i = 116
  · rw [if_pos h3] at h ⊢
    split at h
    · exact absurd rfl h
    · rename_i hp; rw [if_neg hp]; exact fin _ (Nat.le_refl _) (Nat.le_of_lt hi)
  rw [if_neg h3] at h ⊢
  by_cases h4 : bAt s i = 102
  · rw [if_pos h4] at h ⊢
    split at h
    · exact absurd rfl h
    · rename_i hp; rw [if_neg hp]; exact fin _ (Nat.le_refl _) (Nat.le_of_lt hi)
  rw [if_neg h4] at h ⊢
  by_cases h5 : bAt s i = 45 ∨ isD (bAt s i) = true
  · rw [if_pos h5] at h ⊢
    split at h
    · exact absurd rfl h
    · rename_i hn
      rw [if_neg hn]
      have := numAt_bd s i hi
      exact fin _ this.1 this.2.1
  rw [if_neg h5] at h ⊢
  by_cases h6 : bAt s i = 34
  · rw [if_pos h6] at h ⊢
    have hbd := (qAt_bd s (s.size - (i + 1)) (i + 1) [] (Nat.le_refl _) hi)
    split at h
    · exact absurd rfl h
    · rename_i hq
      rw [if_neg hq]
      refine ⟨?_, ?_, hbd.2.2.1⟩
      · show (qAt s (i + 1) []).1 = 1 ∨ (qAt s (i + 1) []).1 = 2
        omega
      · show i ≤ (qAt s (i + 1) []).2.1
        omega
  rw [if_neg h6]
  exact fin _ (Nat.le_refl _) (Nat.le_of_lt hi)

/-! ### The scan's fuel -/
theorem scanF_fuel (s : ByteArray) : ∀ f g i, s.size - i < f → s.size - i < g → brkAt s i = s.size → scanF s f i = scanF s g i := by
  intro f
  induction f with
  | zero => intro g i h1; omega
  | succ f ih =>
    intro g i h1 h2 hb
    obtain ⟨g, rfl⟩ : ∃ m, g = m + 1 := ⟨g - 1, by omega⟩
    rw [scanF, scanF]
    by_cases hi : i < s.size
    · rw [if_pos hi, if_pos hi]
      by_cases hbl : blankN (bAt s i) = true
      · rw [if_pos hbl, if_pos hbl]
        refine ih g (i + 1) (by omega) (by omega) (brk_ascii hb hi ?_)
        simp only [blankN, Bool.or_eq_true, beq_iff_eq] at hbl
        omega
      rw [if_neg hbl, if_neg hbl]
      by_cases ho : (oneAt s i).1 = 0
      · have h3 := oneAt_ok s i hi hb ho
        rw [if_pos ho, if_pos ho, ih g _ (by omega) (by omega) h3.2.2.2.1]
      · rw [if_neg ho, if_neg ho]
    · rw [if_neg hi, if_neg hi]
def scanAt (s : ByteArray) (i : Nat) : List Tk × Nat × Nat := scanF s (s.size - i + 1) i
theorem scanAt_eq (s : ByteArray) (i : Nat) (hb : brkAt s i = s.size) : scanAt s i =
    if i < s.size then
      (if blankN (bAt s i) = true then scanAt s (i + 1)
      else if (oneAt s i).1 = 0 then (((oneAt s i).2.2 :: (scanAt s (oneAt s i).2.2.to).1), (scanAt s (oneAt s i).2.2.to).2)
      else ([], (oneAt s i).1, (oneAt s i).2.1))
    else ([], 0, 0) := by
  conv => lhs; unfold scanAt
  rw [scanF]
  by_cases hi : i < s.size
  · rw [if_pos hi, if_pos hi]
    by_cases hbl : blankN (bAt s i) = true
    · rw [if_pos hbl, if_pos hbl]
      unfold scanAt
      refine scanF_fuel s _ _ (i + 1) (by omega) (by omega) (brk_ascii hb hi ?_)
      simp only [blankN, Bool.or_eq_true, beq_iff_eq] at hbl
      omega
    rw [if_neg hbl, if_neg hbl]
    by_cases ho : (oneAt s i).1 = 0
    · have h3 := oneAt_ok s i hi hb ho
      rw [if_pos ho, if_pos ho, scanF_fuel s (s.size - i) (s.size - (oneAt s i).2.2.to + 1) _ (by omega) (by omega) h3.2.2.2.1]
      rfl
    · rw [if_neg ho, if_neg ho]
  · rw [if_neg hi, if_neg hi]
/-- The place behind the blanks from i on. -/
def blkF (s : ByteArray) : Nat → Nat → Nat
  | 0, i => i
  | f + 1, i => if i < s.size ∧ blankN (bAt s i) = true then blkF s f (i + 1) else i
def blkAt (s : ByteArray) (i : Nat) : Nat := blkF s (s.size - i) i
theorem blkAt_eq (s : ByteArray) (i : Nat) : blkAt s i = if i < s.size ∧ blankN (bAt s i) = true then blkAt s (i + 1) else i := by
  unfold blkAt
  by_cases h : i < s.size ∧ blankN (bAt s i) = true
  · obtain ⟨f, hf⟩ : ∃ f, s.size - i = f + 1 := ⟨s.size - i - 1, by omega⟩
    rw [hf, blkF, if_pos h, if_pos h, show s.size - (i + 1) = f by omega]
  · rw [if_neg h]
    cases s.size - i with
    | zero => rfl
    | succ f => rw [blkF, if_neg h]
theorem blank_ascii {c : Nat} (h : blankN c = true) : c ≠ 0 ∧ c < 128 := by
  simp only [blankN, Bool.or_eq_true, beq_iff_eq] at h
  omega
theorem blkF_low (s : ByteArray) : ∀ f i, i ≤ s.size → Low s i (blkF s f i)
  | 0, i, h => Low.refl h
  | f + 1, i, h => by
    rw [blkF]
    by_cases hd : i < s.size ∧ blankN (bAt s i) = true
    · rw [if_pos hd]
      have h1 := blank_ascii hd.2
      have h2 : Low s i (i + 1) := Low.one h1.1 h1.2
      exact h2.trans (blkF_low s f (i + 1) h2.2.1)
    · rw [if_neg hd]; exact Low.refl h
theorem blkAt_low (s : ByteArray) (i : Nat) (h : i ≤ s.size) : Low s i (blkAt s i) := blkF_low s _ i h
theorem blkAt_not (s : ByteArray) : ∀ n i, s.size - i ≤ n → blkAt s i < s.size → blankN (bAt s (blkAt s i)) = false := by
  intro n
  induction n with
  | zero =>
    intro i h1 h2
    rw [blkAt_eq, if_neg (by omega)] at h2
    omega
  | succ n ih =>
    intro i h1 h2
    rw [blkAt_eq] at h2 ⊢
    by_cases h : i < s.size ∧ blankN (bAt s i) = true
    · rw [if_pos h] at h2 ⊢
      exact ih (i + 1) (by omega) h2
    · rw [if_neg h] at h2 ⊢
      cases hb : blankN (bAt s i) with
      | true => exact absurd ⟨h2, hb⟩ h
      | false => rfl
theorem scan_blk (s : ByteArray) : ∀ n i, s.size - i ≤ n → brkAt s i = s.size → scanAt s i = scanAt s (blkAt s i) := by
  intro n
  induction n with
  | zero =>
    intro i h1 hb
    rw [blkAt_eq, if_neg (by omega)]
  | succ n ih =>
    intro i h1 hb
    rw [blkAt_eq]
    by_cases h : i < s.size ∧ blankN (bAt s i) = true
    · rw [if_pos h, scanAt_eq s i hb, if_pos h.1, if_pos h.2]
      exact ih (i + 1) (by omega) (brk_ascii hb h.1 (blank_ascii h.2).2)
    · rw [if_neg h]
/-- One step of the scan, from a place behind a token. -/
theorem scan_step (s : ByteArray) (i : Nat) (hi : i ≤ s.size) (hb : brkAt s i = s.size) : scanAt s i =
    if blkAt s i < s.size then
      (if (oneAt s (blkAt s i)).1 = 0 then (((oneAt s (blkAt s i)).2.2 :: (scanAt s (oneAt s (blkAt s i)).2.2.to).1), (scanAt s (oneAt s (blkAt s i)).2.2.to).2)
      else ([], (oneAt s (blkAt s i)).1, (oneAt s (blkAt s i)).2.1))
    else ([], 0, 0) := by
  rw [scan_blk s _ i (Nat.le_refl _) hb, scanAt_eq s _ ((blkAt_low s i hi).brk hb)]
  by_cases h : blkAt s i < s.size
  · rw [if_pos h, if_pos h, if_neg (by rw [blkAt_not s _ i (Nat.le_refl _) h]; exact Bool.false_ne_true)]
  · rw [if_neg h, if_neg h]
theorem someS_eq (s : ByteArray) : someS s = if utfE s = 0 then scanAt s 0 else ([], 1, brkAt s 0) := rfl

end Go.Proofs.YtibopkodoidjoaaGreatDoor

/- The reference of chapter 17: its small functions. -/
namespace Go.Proofs.YtibopkodoidjoaaGreatDoor
open Go Go.RowKit

set_option maxHeartbeats 400000 in
theorem rDigit_calls (c : Nat) (w : World) : Calls Tryz.prog 77 #[.int .u8 (c : Int)] w fun e w' => e = .returned (.bool (isD c)) ∧ w' = w := by
  by_cases h1 : 48 ≤ c
  · by_cases h2 : c ≤ 57
    · have e : isD c = true := isD_iff.2 ⟨h1, h2⟩
      rw [e]
      clear e
      go_enter Tryz.func77, Tryz.ntmps77
      (go_wp2_with fail; repeat (any_goals (go_quiet (fail); go_wp2_with fail)))
      go_ret
      exact ⟨by simp <;> omega, rfl⟩
    · have e : isD c = false := by rw [Bool.eq_false_iff]; intro h; exact h2 (isD_iff.1 h).2
      rw [e]
      clear e
      go_enter Tryz.func77, Tryz.ntmps77
      (go_wp2_with fail; repeat (any_goals (go_quiet (fail); go_wp2_with fail)))
      go_ret
      exact ⟨by simp <;> omega, rfl⟩
  · have e : isD c = false := by rw [Bool.eq_false_iff]; intro h; exact h1 (isD_iff.1 h).1
    rw [e]
    clear e
    go_enter Tryz.func77, Tryz.ntmps77
    (go_wp2_with fail; repeat (any_goals (go_quiet (fail); go_wp2_with fail)))
    go_ret
    exact ⟨by simp <;> omega, rfl⟩
set_option maxHeartbeats 1000000 in
theorem rDigits_calls (s : ByteArray) (i : Nat) (w : World) (hs : s.size ≤ 140737488351232) (hi : i ≤ s.size) :
    Calls Tryz.prog 94 #[.string s, .int .i64 (i : Int)] w fun e w' => e = .returned (.int .i64 (digAt s i : Nat)) ∧ w' = w := by
  obtain ⟨r, hr⟩ : ∃ r, digAt s i = r := ⟨_, rfl⟩
  rw [hr]
  replace hr := Lib.hid hr
  go_enter Tryz.func94, Tryz.ntmps94
  (go_wp2_with fail; repeat (any_goals (go_quiet (fail); go_wp2_with fail)))
  go_loop [1] (fun v => ∃ k : Nat, k ≤ s.size ∧ v = .int .i64 (k : Int) ∧ Hid (digAt s k = r)) (fun v => s.size - (intOf v).toNat)
  case atStart => exact ⟨i, hi, rfl, hr⟩
  case round =>
    obtain ⟨k, hk, rfl, hr2⟩ := hrel
    have hx := byte_at s k
    have he := Lib.hid (digAt_eq s k)
    by_cases hlt : k < s.size
    · have D := Lib.hid (fun w => rDigit_calls (bAt s k) w)
      cases hd : isD (bAt s k) with
      | true =>
        rw [hd] at D
        replace hd := Lib.hid hd
        (go_wp2_with fail; repeat (any_goals (go_quiet (fail); go_wp2_with fail)))
        refine (D.out _).mono ?_
        rintro e w1 ⟨rfl, rfl⟩
        (go_wp2_with fail; repeat (any_goals (go_quiet (fail); go_wp2_with fail)))
        go_round
        case rel => exact ⟨k + 1, by omega, by go_num, Lib.hid (by rw [← hr2.out, he.out, if_pos hd.out])⟩
        case measure => simp [intOf]; omega
      | false =>
        rw [hd] at D
        replace hd := Lib.hid hd
        (go_wp2_with fail; repeat (any_goals (go_quiet (fail); go_wp2_with fail)))
        refine (D.out _).mono ?_
        rintro e w1 ⟨rfl, rfl⟩
        (go_wp2_with fail; repeat (any_goals (go_quiet (fail); go_wp2_with fail)))
        go_ret
        exact ⟨ret_int (by rw [← hr2.out, he.out, if_neg (by rw [hd.out]; simp)]), rfl⟩
    · have hd : isD (bAt s k) = false := by rw [bAt_ge s k (by omega)]; rfl
      replace hd := Lib.hid hd
      (go_wp2_with fail; repeat (any_goals (go_quiet (fail); go_wp2_with fail)))
      go_ret
      exact ⟨ret_int (by rw [← hr2.out, he.out, if_neg (by rw [hd.out]; simp)]), rfl⟩


set_option maxHeartbeats 400000 in
theorem rBlank_calls (c : Nat) (w : World) : Calls Tryz.prog 49 #[.int .u8 (c : Int)] w fun e w' => e = .returned (.bool (blankN c)) ∧ w' = w := by
  by_cases h1 : c = 32
  · subst h1
    go_enter Tryz.func49, Tryz.ntmps49
    (go_wp2_with fail; repeat (any_goals (go_quiet (fail); go_wp2_with fail)))
    go_ret
    exact ⟨rfl, rfl⟩
  by_cases h2 : c = 9
  · subst h2
    go_enter Tryz.func49, Tryz.ntmps49
    (go_wp2_with fail; repeat (any_goals (go_quiet (fail); go_wp2_with fail)))
    go_ret
    exact ⟨rfl, rfl⟩
  by_cases h3 : c = 10
  · subst h3
    go_enter Tryz.func49, Tryz.ntmps49
    (go_wp2_with fail; repeat (any_goals (go_quiet (fail); go_wp2_with fail)))
    go_ret
    exact ⟨rfl, rfl⟩
  by_cases h4 : c = 13
  · subst h4
    go_enter Tryz.func49, Tryz.ntmps49
    (go_wp2_with fail; repeat (any_goals (go_quiet (fail); go_wp2_with fail)))
    go_ret
    exact ⟨rfl, rfl⟩
  have e : blankN c = false := by simp [blankN, h1, h2, h3, h4]
  rw [e]
  have c1 : ((c : Int) == 32) = false := by simp; omega
  have c2 : ((c : Int) == 9) = false := by simp; omega
  have c3 : ((c : Int) == 10) = false := by simp; omega
  have c4 : ((c : Int) == 13) = false := by simp; omega
  clear e h1 h2 h3 h4
  go_enter Tryz.func49, Tryz.ntmps49
  (go_wp2_with fail; repeat (any_goals (go_quiet (fail); go_wp2_with fail)))
  go_ret
  exact ⟨by simp, rfl⟩
/-- Whether t stands in s at i. -/
def startsS (s : ByteArray) (i : Nat) (t : ByteArray) : Bool := decide (i + t.size ≤ s.size) && ((s.extract i (i + t.size)).toList == t.toList)
set_option maxHeartbeats 400000 in
theorem starts_calls (s : ByteArray) (i : Nat) (t : ByteArray) (w : World) (hs : s.size ≤ 140737488351232) (ht : t.size ≤ 100) (hi : i ≤ 140737488351300) :
    Calls Tryz.prog 76 #[.string s, .int .i64 (i : Int), .string t] w fun e w' => e = .returned (.bool (startsS s i t)) ∧ w' = w := by
  have hs' : (s.size : Int) ≤ 140737488351232 := by omega
  have ht' : (t.size : Int) ≤ 100 := by omega
  have hi' : (i : Int) ≤ 140737488351300 := by omega
  replace hs := Lib.hid hs
  replace hi := Lib.hid hi
  by_cases h : i + t.size ≤ s.size
  · have h' : (i : Int) + (t.size : Int) ≤ (s.size : Int) := by omega
    unfold startsS
    rw [decide_eq_true h, Bool.true_and]
    replace h := Lib.hid h
    go_enter Tryz.func76, Tryz.ntmps76
    (go_wp2_with fail; repeat (any_goals (go_quiet (fail); go_wp2_with fail)))
    go_ret
    exact ⟨rfl, rfl⟩
  · have h' : ¬ (i : Int) + (t.size : Int) ≤ (s.size : Int) := by omega
    unfold startsS
    rw [decide_eq_false h, Bool.false_and]
    replace h := Lib.hid h
    go_enter Tryz.func76, Tryz.ntmps76
    (go_wp2_with fail; repeat (any_goals (go_quiet (fail); go_wp2_with fail)))
    go_ret
    exact ⟨rfl, rfl⟩

end Go.Proofs.YtibopkodoidjoaaGreatDoor

/- Plain laws on the reference of chapter 17. -/
namespace Go.Proofs.YtibopkodoidjoaaGreatDoor
open Go Go.RowKit

theorem toL (t : ByteArray) : t.toList = t.data.toList := by
  have := Lib.toList_data t
  exact this
theorem startsS_iff (s : ByteArray) (i : Nat) (t : ByteArray) : startsS s i t = true ↔ i + t.size ≤ s.size ∧ ∀ j, j < t.size → bAt s (i + j) = bAt t j := by
  unfold startsS
  by_cases h : i + t.size ≤ s.size
  · rw [decide_eq_true h, Bool.true_and, beq_iff_eq, toL, toL]
    constructor
    · intro he
      have he2 : s.extract i (i + t.size) = t := by
        cases hx : s.extract i (i + t.size); cases t
        rw [hx] at he
        congr 1
        exact Array.toList_inj.1 he
      refine ⟨h, fun j hj => ?_⟩
      have h1 : bAt (s.extract i (i + t.size)) j = bAt t j := by rw [he2]
      rw [← h1]
      unfold bAt
      have hz : (s.extract i (i + t.size)).size = t.size := by rw [he2]
      rw [dif_pos (by omega), dif_pos (by omega)]
      congr 1
      rw [ByteArray.getElem_extract]
    · rintro ⟨_, he⟩
      apply List.ext_getElem
      · simp; omega
      · intro j h1 h2
        have hj : j < t.size := by simpa using h2
        have := he j hj
        unfold bAt at this
        rw [dif_pos (by omega), dif_pos hj] at this
        have h3 := UInt8.toNat_inj.1 this
        have hz : j < (s.extract i (i + t.size)).size := by rw [ByteArray.size_extract]; omega
        have h4 : (s.extract i (i + t.size))[j]'hz = s[i + j]'(by omega) := ByteArray.getElem_extract ..
        show (s.extract i (i + t.size))[j]'hz = t[j]'hj
        rw [h4, h3]
  · rw [decide_eq_false h, Bool.false_and]
    constructor
    · intro h; cases h
    · intro h2; exact absurd h2.1 h

end Go.Proofs.YtibopkodoidjoaaGreatDoor

/- The reference of chapter 17: number. -/
namespace Go.Proofs.YtibopkodoidjoaaGreatDoor
open Go Go.RowKit

theorem rDigits_calls' (s : ByteArray) (i : Nat) (w : World) (hs : s.size ≤ 140737488351232) (hi : i ≤ s.size) :
    Calls Tryz.prog 94 #[.string s, .int .i64 (i : Int)] w fun e w' => e = .returned (.int .i64 (digAt s i : Nat)) ∧ w = w' := (rDigits_calls s i w hs hi).mono fun _ _ ⟨h, hw⟩ => ⟨h, hw.symm⟩
theorem rDigit_calls' (c : Nat) (w : World) : Calls Tryz.prog 77 #[.int .u8 (c : Int)] w fun e w' => e = .returned (.bool (isD c)) ∧ w = w' := (rDigit_calls c w).mono fun _ _ ⟨h, hw⟩ => ⟨h, hw.symm⟩
def rNumV (N : Bool × Nat) : Value := if N.1 = true then .tuple #[.int .i64 (N.2 : Int), .int .i64 (-1)] else .tuple #[.int .i64 0, .int .i64 (N.2 : Int)]
theorem rFrac_no {s : ByteArray} {i : Nat} (h : bAt s i ≠ 46) : fracAt s i = (true, i) := by unfold fracAt; rw [if_neg h]
theorem rFrac_bad {s : ByteArray} {i : Nat} (h : bAt s i = 46) (h2 : digAt s (i + 1) = i + 1) : fracAt s i = (false, i + 1) := by unfold fracAt; rw [if_pos h, if_pos h2]
theorem rFrac_ok {s : ByteArray} {i : Nat} (h : bAt s i = 46) (h2 : digAt s (i + 1) ≠ i + 1) : fracAt s i = (true, digAt s (i + 1)) := by unfold fracAt; rw [if_pos h, if_neg h2]
theorem rNumV_bad {N : Bool × Nat} {i : Nat} (h : N = (false, i)) : rNumV N = .tuple #[.int .i64 0, .int .i64 (i : Int)] := by subst h; unfold rNumV; rw [if_neg (by simp)]
theorem rNumV_ok {N : Bool × Nat} {i : Nat} (h : N = (true, i)) : rNumV N = .tuple #[.int .i64 (i : Int), .int .i64 (-1)] := by subst h; unfold rNumV; rw [if_pos rfl]
set_option maxHeartbeats 4000000 in
set_option maxRecDepth 100000 in
theorem rNumber_calls (s : ByteArray) (p : Nat) (w : World) (hs : s.size ≤ 140737488351232) (hp : p < s.size) :
    Calls Tryz.prog 78 #[.string s, .int .i64 (p : Int)] w fun e w' => e = .returned (rNumV (numAt s p)) ∧ w = w' := by
  have hs' : (s.size : Int) ≤ 140737488351232 := by omega
  have hx := byte_at s p
  obtain ⟨N, hN⟩ : ∃ N, N = numAt s p := ⟨_, rfl⟩
  rw [← hN]
  replace hN := Lib.hid hN
  have ha := minAt_bd s p hp
  have D := Lib.hid (fun i w hi => rDigits_calls' s i w hs hi)
  have D1 := Lib.hid (fun c w => rDigit_calls' c w)
  go_enter Tryz.func78, Tryz.ntmps78
  go_upto_if 9 with fail
  go_cut [1] (fun v wx => v = .int .i64 (minAt s p : Nat) ∧ w = wx)
  case first =>
    by_cases h45 : bAt s p = 45
    · have h45' : ((bAt s p : Int) == 45) = true := by simp; omega
      have em : minAt s p = p + 1 := by unfold minAt; rw [if_pos h45]
      replace h45 := Lib.hid h45
      replace em := Lib.hid em
      clear ha
      go_wp2_with fail
      go_meet
      exact ⟨by (rw [em.out]) <;> go_num, rfl⟩
    · have h45' : ((bAt s p : Int) == 45) = false := by simp; omega
      have em : minAt s p = p := by unfold minAt; rw [if_neg h45]
      replace h45 := Lib.hid h45
      replace em := Lib.hid em
      clear ha
      go_wp2_with fail
      go_meet
      exact ⟨by (rw [em.out]) <;> go_num, rfl⟩
  case rest =>
    obtain ⟨rfl, rfl⟩ := hcut
    clear hx
    obtain ⟨ha0, ha1, _⟩ := ha
    have hNe : numAt s p = if isD (bAt s (minAt s p)) = true then
      (if (fracAt s (headAt s (minAt s p))).1 = true then expAt s (fracAt s (headAt s (minAt s p))).2 else fracAt s (headAt s (minAt s p)))
      else (false, minAt s p) := rfl
    rw [hNe] at hN
    clear hNe
    replace hN := Lib.hid hN.out
    generalize minAt s p = a at *
    have hx := byte_at s a
    cases hd : isD (bAt s a) with
    | false =>
      have hNe : N = (false, a) := by rw [hN.out, if_neg (by rw [hd]; simp)]
      have D2 := Lib.hid (D1.out (bAt s a))
      rw [hd] at D2
      replace hd := Lib.hid hd
      by_cases hal : a < s.size
      · have hne : ((a : Int) == (s.size : Int)) = false := by simp; omega
        go_wp2_with fail
        refine (D2.out _).mono ?_
        rintro e w1 ⟨rfl, rfl⟩
        go_wp2_with fail
        go_ret2
        exact ⟨by rw [rNumV_bad hNe]; rfl, rfl⟩
      · have hne : ((a : Int) == (s.size : Int)) = true := by simp; omega
        go_wp2_with fail
        go_ret2
        exact ⟨by rw [rNumV_bad hNe]; rfl, rfl⟩
    | true =>
      have hN2 := Lib.hid (show N = _ by rw [hN.out, if_pos hd])
      have hal : a < s.size := lt_of_bAt (s := s) (i := a) (by have := isD_iff.1 hd; omega)
      have hne : ((a : Int) == (s.size : Int)) = false := by simp; omega
      have hh := headAt_bd s a hd
      have D2 := Lib.hid (D1.out (bAt s a))
      rw [hd] at D2
      replace hd := Lib.hid hd
      go_wp2_with fail
      refine (D2.out _).mono ?_
      rintro e w1 ⟨rfl, rfl⟩
      go_upto_if 27 with fail
      go_cut [1] (fun v wx => v = .int .i64 (headAt s a : Nat) ∧ w = wx)
      case first =>
        by_cases h48 : bAt s a = 48
        · have h48' : ((bAt s a : Int) == 48) = true := by simp; omega
          have em : headAt s a = a + 1 := by unfold headAt; rw [if_pos h48]
          replace h48 := Lib.hid h48
          replace em := Lib.hid em
          clear hh
          go_wp2_with fail
          go_meet
          exact ⟨by (rw [em.out]) <;> go_num, rfl⟩
        · have h48' : ((bAt s a : Int) == 48) = false := by simp; omega
          have em : headAt s a = digAt s a := by unfold headAt; rw [if_neg h48]
          replace h48 := Lib.hid h48
          replace em := Lib.hid em
          clear hh
          go_wp2_with fail
          refine (D.out a _ ha1).mono ?_
          rintro e w1 ⟨rfl, rfl⟩
          go_wp2_with fail
          go_meet
          exact ⟨by rw [em.out], rfl⟩
      case rest =>
        obtain ⟨rfl, rfl⟩ := hcut
        clear hx hN
        obtain ⟨hh0, hh1⟩ := hh
        have hf := fracAt_bd s (headAt s a) hh1
        generalize headAt s a = t at *
        have hx := byte_at s t
        go_upto_region 8 with fail
        go_cut [42] (fun v wx => v = .bool ((bAt s t : Int) == 46) ∧ w = wx)
        case first =>
          by_cases htl : t < s.size
          · go_wp2_with fail
            go_meet
            exact ⟨by simp, rfl⟩
          · have h0 : bAt s t = 0 := bAt_ge s t (by omega)
            replace h0 := Lib.hid h0
            go_wp2_with fail
            go_meet
            exact ⟨by rw [h0.out]; rfl, rfl⟩
        case rest =>
          obtain ⟨rfl, rfl⟩ := hcut
          go_upto_if 42 with fail
          go_cut [1] (fun v wx => v = .int .i64 ((fracAt s t).2 : Nat) ∧ w = wx ∧ (fracAt s t).1 = true)
          case first =>
            by_cases h46 : bAt s t = 46
            · have h46' : ((bAt s t : Int) == 46) = true := by simp; omega
              have htl := lt_of_bAt (s := s) (i := t) (by omega)
              by_cases hdt : digAt s (t + 1) = t + 1
              · have hNe : N = (false, t + 1) := by rw [hN2.out, rFrac_bad h46 hdt, if_neg (by simp)]
                replace h46 := Lib.hid h46
                have hdt' : ((digAt s (t + 1) : Nat) : Int) = (t : Int) + 1 := by omega
                replace hdt := Lib.hid hdt
                have D2 := Lib.hid (fun w => rDigits_calls' s (t + 1) w hs htl)
                clear hf
                go_wp2_with fail
                refine (D2.out _).mono ?_
                rintro e w1 ⟨rfl, rfl⟩
                go_wp2_with fail
                go_ret2
                exact ⟨by rw [rNumV_bad hNe]; rfl, rfl⟩
              · have em := rFrac_ok h46 hdt
                replace h46 := Lib.hid h46
                have hdt' : (((digAt s (t + 1) : Nat) : Int) == (t : Int) + 1) = false := by simp; omega
                replace hdt := Lib.hid hdt
                have D2 := Lib.hid (fun w => rDigits_calls' s (t + 1) w hs htl)
                replace em := Lib.hid em
                clear hf
                go_wp2_with fail
                refine (D2.out _).mono ?_
                rintro e w1 ⟨rfl, rfl⟩
                go_wp2_with fail
                refine (D2.out _).mono ?_
                rintro e w1 ⟨rfl, rfl⟩
                go_wp2_with fail
                go_meet
                exact ⟨by rw [em.out], rfl, by rw [em.out]⟩
            · have h46' : ((bAt s t : Int) == 46) = false := by simp; omega
              have em := rFrac_no h46
              replace h46 := Lib.hid h46
              replace em := Lib.hid em
              clear hf
              go_wp2_with fail
              go_meet
              exact ⟨by rw [em.out], rfl, by rw [em.out]⟩
          case rest =>
            obtain ⟨rfl, rfl, hft⟩ := hcut
            have hN3 := Lib.hid (show N = expAt s (fracAt s t).2 by rw [hN2.out, if_pos hft])
            clear hx hN2 hft
            obtain ⟨hf0, hf1⟩ := hf
            generalize (fracAt s t).2 = u at *
            have hx := byte_at s u
            go_upto_region 12 with fail
            go_cut [71] (fun v wx => v = .bool (bAt s u == 101 || bAt s u == 69) ∧ w = wx)
            case first =>
              by_cases hul : u < s.size
              · by_cases h1 : bAt s u = 101
                · have h1' : ((bAt s u : Int) == 101) = true := by simp; omega
                  replace h1 := Lib.hid h1
                  go_wp2_with fail
                  go_meet
                  exact ⟨by rw [h1.out]; rfl, rfl⟩
                · have h1' : ((bAt s u : Int) == 101) = false := by simp; omega
                  replace h1 := Lib.hid h1
                  by_cases h2 : bAt s u = 69
                  · have h2' : ((bAt s u : Int) == 69) = true := by simp; omega
                    replace h2 := Lib.hid h2
                    go_wp2_with fail
                    go_meet
                    exact ⟨by rw [h2.out]; rfl, rfl⟩
                  · have h2' : ((bAt s u : Int) == 69) = false := by simp; omega
                    replace h2 := Lib.hid h2
                    go_wp2_with fail
                    go_meet
                    exact ⟨by rw [show (bAt s u == 101) = false by simpa using h1.out, show (bAt s u == 69) = false by simpa using h2.out]; rfl, rfl⟩
              · have h0 : bAt s u = 0 := bAt_ge s u (by omega)
                replace h0 := Lib.hid h0
                go_wp2_with fail
                go_meet
                exact ⟨by rw [h0.out]; rfl, rfl⟩
            case rest =>
              obtain ⟨hv, rfl⟩ := hcut
              by_cases hE1 : bAt s u = 101 ∨ bAt s u = 69
              · rw [show (bAt s u == 101 || bAt s u == 69) = true by simpa using hE1] at hv
                subst hv
                have hul := lt_of_bAt (s := s) (i := u) (by omega)
                have hsg := signAt_bd s u hul
                have hN4 := Lib.hid (show N = if digAt s (signAt s u) = signAt s u then (false, signAt s u) else (true, digAt s (signAt s u)) by rw [hN3.out, expAt, if_pos hE1])
                replace hE1 := Lib.hid hE1
                clear hx hN3
                have hx := byte_at s (u + 1)
                go_upto_region 14 with fail
                go_cut [89] (fun v wx => v = .bool (bAt s (u + 1) == 43 || bAt s (u + 1) == 45) ∧ w = wx)
                case first =>
                  clear hsg
                  by_cases hul1 : u + 1 < s.size
                  · have hul2 : (u : Int) + 1 < (s.size : Int) := by omega
                    by_cases h1 : bAt s (u + 1) = 43
                    · have h1' : ((bAt s (u + 1) : Int) == 43) = true := by simp; omega
                      replace h1 := Lib.hid h1
                      go_wp2_with fail
                      go_meet
                      exact ⟨by rw [h1.out]; rfl, rfl⟩
                    · have h1' : ((bAt s (u + 1) : Int) == 43) = false := by simp; omega
                      replace h1 := Lib.hid h1
                      by_cases h2 : bAt s (u + 1) = 45
                      · have h2' : ((bAt s (u + 1) : Int) == 45) = true := by simp; omega
                        replace h2 := Lib.hid h2
                        go_wp2_with fail
                        go_meet
                        exact ⟨by rw [h2.out]; rfl, rfl⟩
                      · have h2' : ((bAt s (u + 1) : Int) == 45) = false := by simp; omega
                        replace h2 := Lib.hid h2
                        go_wp2_with fail
                        go_meet
                        exact ⟨by rw [show (bAt s (u + 1) == 43) = false by simpa using h1.out, show (bAt s (u + 1) == 45) = false by simpa using h2.out]; rfl, rfl⟩
                  · have hul2 : (s.size : Int) ≤ (u : Int) + 1 := by omega
                    have h0 : bAt s (u + 1) = 0 := bAt_ge s (u + 1) (by omega)
                    replace h0 := Lib.hid h0
                    go_wp2_with fail
                    go_meet
                    exact ⟨by rw [h0.out]; rfl, rfl⟩
                case rest =>
                  obtain ⟨hv, rfl⟩ := hcut
                  replace hv := Lib.hid hv
                  clear hx
                  go_upto_if 89 with fail
                  go_cut [1] (fun v wx => v = .int .i64 (signAt s u : Nat) ∧ w = wx)
                  case first =>
                    by_cases h1 : bAt s (u + 1) = 43 ∨ bAt s (u + 1) = 45
                    · have hv := hv.out
                      rw [show (bAt s (u + 1) == 43 || bAt s (u + 1) == 45) = true by simpa using h1] at hv
                      subst hv
                      have em : signAt s u = u + 2 := by unfold signAt; rw [if_pos h1]
                      replace h1 := Lib.hid h1
                      replace em := Lib.hid em
                      clear hsg
                      go_wp2_with fail
                      go_meet
                      exact ⟨by rw [em.out]; simp [Value.int.injEq] <;> omega, rfl⟩
                    · have hv := hv.out
                      rw [show (bAt s (u + 1) == 43 || bAt s (u + 1) == 45) = false by simpa using h1] at hv
                      subst hv
                      have em : signAt s u = u + 1 := by unfold signAt; rw [if_neg h1]
                      replace h1 := Lib.hid h1
                      replace em := Lib.hid em
                      clear hsg
                      go_wp2_with fail
                      go_meet
                      exact ⟨by (rw [em.out]) <;> go_num, rfl⟩
                  case rest =>
                    obtain ⟨rfl, rfl⟩ := hcut
                    obtain ⟨hsg0, hsg1⟩ := hsg
                    generalize signAt s u = v at *
                    have D2 := Lib.hid (fun w => rDigits_calls' s v w hs hsg1)
                    by_cases hdt : digAt s v = v
                    · have hNe : N = (false, v) := by rw [hN4.out, if_pos hdt]
                      have hdt' : ((digAt s v : Nat) : Int) = (v : Int) := by omega
                      replace hdt := Lib.hid hdt
                      clear hN4
                      go_wp2_with fail
                      refine (D2.out _).mono ?_
                      rintro e w1 ⟨rfl, rfl⟩
                      go_wp2_with fail
                      go_ret2
                      exact ⟨by rw [rNumV_bad hNe]; rfl, rfl⟩
                    · have hNe : N = (true, digAt s v) := by rw [hN4.out, if_neg hdt]
                      have hdt' : (((digAt s v : Nat) : Int) == (v : Int)) = false := by simp; omega
                      replace hdt := Lib.hid hdt
                      replace hNe := Lib.hid hNe
                      clear hN4
                      go_wp2_with fail
                      refine (D2.out _).mono ?_
                      rintro e w1 ⟨rfl, rfl⟩
                      go_wp2_with fail
                      refine (D2.out _).mono ?_
                      rintro e w1 ⟨rfl, rfl⟩
                      go_wp2_with fail
                      go_ret2
                      exact ⟨by rw [rNumV_ok hNe.out]; rfl, rfl⟩
              · rw [show (bAt s u == 101 || bAt s u == 69) = false by simpa using hE1] at hv
                subst hv
                have hNe : N = (true, u) := by rw [hN3.out, expAt, if_neg hE1]
                replace hE1 := Lib.hid hE1
                replace hNe := Lib.hid hNe
                clear hx hN3
                go_wp2_with fail
                go_ret2
                exact ⟨by rw [rNumV_ok hNe.out]; rfl, rfl⟩

end Go.Proofs.YtibopkodoidjoaaGreatDoor

/- The reference of chapter 17: hex. -/
namespace Go.Proofs.YtibopkodoidjoaaGreatDoor
open Go Go.RowKit

theorem starts_u (s : ByteArray) (i : Nat) : startsS s i ⟨#[92, 117]⟩ = true ↔ bAt s i = 92 ∧ bAt s (i + 1) = 117 := by
  rw [startsS_iff]
  constructor
  · rintro ⟨_, h⟩
    exact ⟨h 0 (by decide), h 1 (by decide)⟩
  · rintro ⟨h0, h1⟩
    have := lt_of_bAt (s := s) (i := i + 1) (by omega)
    refine ⟨by show i + 2 ≤ s.size; omega, fun j hj => ?_⟩
    rcases (show j = 0 ∨ j = 1 by have : j < 2 := hj; omega) with rfl | rfl
    · exact h0
    · exact h1
def rHexV (h : Nat) : Value := if h < 65536 then .int .i32 (h : Int) else .int .i32 (-1)
theorem starts_calls' (s : ByteArray) (i : Nat) (t : ByteArray) (w : World) (hs : s.size ≤ 140737488351232) (ht : t.size ≤ 100) (hi : i ≤ 140737488351300) :
    Calls Tryz.prog 76 #[.string s, .int .i64 (i : Int), .string t] w fun e w' => e = .returned (.bool (startsS s i t)) ∧ w = w' := (starts_calls s i t w hs ht hi).mono fun _ _ ⟨h, hw⟩ => ⟨h, hw.symm⟩
set_option maxHeartbeats 4000000 in
set_option maxRecDepth 100000 in
theorem rHex_calls (s : ByteArray) (i : Nat) (w : World) (hs : s.size ≤ 140737488351232) (hi : i ≤ 140737488351300) :
    Calls Tryz.prog 116 #[.string s, .int .i64 (i : Int)] w fun e w' => e = .returned (rHexV (hexAt s i)) ∧ w = w' := by
  have hs' : (s.size : Int) ≤ 140737488351232 := by omega
  have hi' : (i : Int) ≤ 140737488351300 := by omega
  have S := Lib.hid (fun w => starts_calls' s i ⟨#[92, 117]⟩ w hs (by decide) hi)
  have D1 := Lib.hid (fun c w => rDigit_calls' c w)
  obtain ⟨r, hr⟩ : ∃ r, r = hexAt s i := ⟨_, rfl⟩
  rw [← hr]
  cases hst : startsS s i ⟨#[92, 117]⟩ with
  | false =>
    have hend : Hid (¬ r < 65536) := Lib.hid (fun h => by
      have := hexAt_ok (s := s) (i := i) (by omega)
      have h2 := (starts_u s i).2 this.2
      rw [hst] at h2; cases h2)
    rw [hst] at S
    replace hr := Lib.hid hr
    replace hst := Lib.hid hst
    go_enter Tryz.func116, Tryz.ntmps116
    go_wp2_with fail
    refine (S.out _).mono ?_
    rintro e w1 ⟨rfl, rfl⟩
    go_wp2_with fail
    go_ret
    exact ⟨by rw [rHexV, if_neg hend.out]; rfl, rfl⟩
  | true =>
    have hu := (starts_u s i).1 hst
    rw [hst] at S
    replace hst := Lib.hid hst
    by_cases h6 : i + 6 ≤ s.size
    · have h6' : (i : Int) + 6 ≤ (s.size : Int) := by omega
      have hrF : Hid (r = hexF s (i + 2) 4) := Lib.hid (by rw [hr, hexAt, if_pos hu])
      replace hr := Lib.hid hr
      replace hu := Lib.hid hu
      replace hs := Lib.hid hs
      replace hi := Lib.hid hi
      go_enter Tryz.func116, Tryz.ntmps116
      go_wp2_with fail
      refine (S.out _).mono ?_
      rintro e w1 ⟨rfl, rfl⟩
      go_wp2_with fail
      go_loop [5, 6] (fun v5 v6 => ∃ j : Nat, j ≤ 4 ∧ v6 = .int .i64 ((i + 2 + j : Nat) : Int) ∧ v5 = .int .i32 ((hexF s (i + 2) j : Nat) : Int) ∧ hexF s (i + 2) j < 65536) (fun _ v6 => i + 6 - (intOf v6).toNat)
      case atStart => exact ⟨0, by decide, by go_num, rfl, by show (0 : Nat) < 65536; decide⟩
      case round =>
        obtain ⟨j, hj, rfl, rfl, hlt⟩ := hrel
        by_cases h4 : j < 4
        · have hx := byte_at s (i + 2 + j)
          have hc := bAt_lt s (i + 2 + j)
          have hn : hexF s (i + 2) (j + 1) = if hexF s (i + 2) j < 65536 ∧ hexD (bAt s (i + 2 + j)) < 16 then hexF s (i + 2) j * 16 + hexD (bAt s (i + 2 + j)) else 65536 := rfl
          have D2 := Lib.hid (D1.out (bAt s (i + 2 + j)))
          have hb := hexF_ok s (i + 2) j hlt
          have h12 : hexF s (i + 2) j < 4096 := by
            have : 16 ^ j ≤ 16 ^ 3 := Nat.pow_le_pow_right (by decide) (by omega)
            have := hb.2
            omega
          have hr4 : Hid (hexD (bAt s (i + 2 + j)) = 16 → ¬ r < 65536) := Lib.hid (fun h16 h => by
            rw [hrF.out] at h
            have := (hexF_ok s (i + 2) 4 h).1 j h4
            omega)
          clear hb hrF
          generalize bAt s (i + 2 + j) = c at *
          generalize hexF s (i + 2) j = n at *
          by_cases hA : isD c = true
          · have hA2 := isD_iff.1 hA
            have hd : hexD c = c - 48 := by unfold hexD; rw [if_pos hA2]
            rw [hd, if_pos ⟨hlt, by omega⟩] at hn
            rw [hA] at D2
            replace hn := Lib.hid hn
            replace hA := Lib.hid hA
            replace hd := Lib.hid hd
            obtain ⟨hA3, hA4⟩ := hA2
            go_wp2_with fail
            refine (D2.out _).mono ?_
            rintro e w1 ⟨rfl, rfl⟩
            go_wp2_with fail
            go_round
            case rel => exact ⟨j + 1, by omega, by go_num, by rw [hn.out]; simp; omega, by rw [hn.out]; omega⟩
            case measure => simp [intOf]; omega
          · have hA1 : isD c = false := by rw [Bool.eq_false_iff]; exact hA
            have hA2 : ¬ (48 ≤ c ∧ c ≤ 57) := fun h => hA (isD_iff.2 h)
            rw [hA1] at D2
            replace hA := Lib.hid hA
            replace hA1 := Lib.hid hA1
            by_cases hB : 97 ≤ c ∧ c ≤ 102
            · have hd : hexD c = c - 87 := by unfold hexD; rw [if_neg hA2, if_pos hB]
              rw [hd, if_pos ⟨hlt, by omega⟩] at hn
              replace hn := Lib.hid hn
              replace hd := Lib.hid hd
              replace hA2 := Lib.hid hA2
              obtain ⟨hB1, hB2⟩ := hB
              go_wp2_with fail
              refine (D2.out _).mono ?_
              rintro e w1 ⟨rfl, rfl⟩
              go_wp2_with fail
              go_round
              case rel => exact ⟨j + 1, by omega, by go_num, by rw [hn.out]; simp; omega, by rw [hn.out]; omega⟩
              case measure => simp [intOf]; omega
            · by_cases hC : 65 ≤ c ∧ c ≤ 70
              · have hd : hexD c = c - 55 := by unfold hexD; rw [if_neg hA2, if_neg hB, if_pos hC]
                rw [hd, if_pos ⟨hlt, by omega⟩] at hn
                replace hn := Lib.hid hn
                replace hd := Lib.hid hd
                replace hA2 := Lib.hid hA2
                replace hB := Lib.hid hB
                obtain ⟨hC1, hC2⟩ := hC
                go_wp2_with fail
                refine (D2.out _).mono ?_
                rintro e w1 ⟨rfl, rfl⟩
                go_wp2_with fail
                go_round
                case rel => exact ⟨j + 1, by omega, by go_num, by rw [hn.out]; simp; omega, by rw [hn.out]; omega⟩
                case measure => simp [intOf]; omega
              · have hd : hexD c = 16 := by unfold hexD; rw [if_neg hA2, if_neg hB, if_neg hC]
                have hend := Lib.hid (hr4.out hd)
                replace hd := Lib.hid hd
                replace hn := Lib.hid hn
                replace hA2 := Lib.hid hA2
                have hB' : c < 97 ∨ 102 < c := by omega
                have hC' : c < 65 ∨ 70 < c := by omega
                replace hB := Lib.hid hB
                replace hC := Lib.hid hC
                rcases hB' with hB' | hB' <;> rcases hC' with hC' | hC' <;>
                · first
                  | (exfalso; omega)
                  | (go_wp2_with fail
                     refine (D2.out _).mono ?_
                     rintro e w1 ⟨rfl, rfl⟩
                     go_wp2_with fail
                     go_ret
                     exact ⟨by rw [rHexV, if_neg hend.out]; rfl, rfl⟩)
        · obtain rfl : j = 4 := by omega
          have hlt2 : r < 65536 := by rw [hrF.out]; exact hlt
          have hre : hexF s (i + 2) 4 = r := hrF.out.symm
          go_wp2_with fail
          go_ret
          exact ⟨by rw [rHexV, if_pos hlt2, hrF.out]; rfl, rfl⟩
    · have h6' : ¬ (i : Int) + 6 ≤ (s.size : Int) := by omega
      have hend : Hid (¬ r < 65536) := Lib.hid (fun h => by
        have := hexAt_ok (s := s) (i := i) (by omega)
        omega)
      replace hr := Lib.hid hr
      replace hu := Lib.hid hu
      go_enter Tryz.func116, Tryz.ntmps116
      go_wp2_with fail
      refine (S.out _).mono ?_
      rintro e w1 ⟨rfl, rfl⟩
      go_wp2_with fail
      go_ret
      exact ⟨by rw [rHexV, if_neg hend.out]; rfl, rfl⟩

end Go.Proofs.YtibopkodoidjoaaGreatDoor
