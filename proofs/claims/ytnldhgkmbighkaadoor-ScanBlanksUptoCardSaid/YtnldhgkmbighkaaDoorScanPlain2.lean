/- Plain laws: where a token ends. -/
import Derived.Test.YtnldhgkmbighkaaDoorTextPlain
namespace Go.Proofs.YtnldhgkmbighkaaDoor
open Go Go.RowKit

theorem nth_bAt (s : ByteArray) (j : Nat) (x : UInt8) (hx : x ≠ 0) : s.data.toList[j]? = some x ↔ bAt s j = x.toNat := by
  unfold bAt
  have hx' : x.toNat ≠ 0 := fun h => hx (UInt8.toNat_inj.1 h)
  by_cases h : j < s.size
  · rw [dif_pos h]
    have h2 : j < s.data.toList.length := by simpa using h
    rw [List.getElem?_eq_getElem h2]
    simp only [Option.some.injEq]
    rw [← UInt8.toNat_inj]
    rfl
  · rw [dif_neg h]
    have h2 : s.data.toList.length ≤ j := by simpa using Nat.le_of_not_lt h
    rw [List.getElem?_eq_none h2]
    constructor
    · intro h; cases h
    · intro h; exact absurd h.symm hx'
theorem pre4 (l : List UInt8) (a b c d : UInt8) : Lib.hasPrefix l [a, b, c, d] = true ↔ l[0]? = some a ∧ l[1]? = some b ∧ l[2]? = some c ∧ l[3]? = some d := by
  rcases l with _ | ⟨x, _ | ⟨y, _ | ⟨z, _ | ⟨u, l⟩⟩⟩⟩ <;> simp [Lib.hasPrefix, List.isPrefixOf]
  grind
theorem pre5 (l : List UInt8) (a b c d e : UInt8) : Lib.hasPrefix l [a, b, c, d, e] = true ↔ l[0]? = some a ∧ l[1]? = some b ∧ l[2]? = some c ∧ l[3]? = some d ∧ l[4]? = some e := by
  rcases l with _ | ⟨x, _ | ⟨y, _ | ⟨z, _ | ⟨u, _ | ⟨v, l⟩⟩⟩⟩⟩ <;> simp [Lib.hasPrefix, List.isPrefixOf]
  grind
theorem pre_null (s : ByteArray) (p : Nat) (h : bAt s p = 110) : Lib.hasPrefix (s.extract p s.size).data.toList [110, 117, 108, 108] = true ↔ (bAt s (p + 1) = 117 ∧ bAt s (p + 2) = 108 ∧ bAt s (p + 3) = 108) := by
  rw [pre4, nth_bAt _ _ _ (by decide), nth_bAt _ _ _ (by decide), nth_bAt _ _ _ (by decide), nth_bAt _ _ _ (by decide)]
  simp only [bAt_extract, Nat.add_zero, h]
  exact ⟨fun h => h.2, fun h => ⟨rfl, h⟩⟩
theorem pre_true (s : ByteArray) (p : Nat) (h : bAt s p = 116) : Lib.hasPrefix (s.extract p s.size).data.toList [116, 114, 117, 101] = true ↔ (bAt s (p + 1) = 114 ∧ bAt s (p + 2) = 117 ∧ bAt s (p + 3) = 101) := by
  rw [pre4, nth_bAt _ _ _ (by decide), nth_bAt _ _ _ (by decide), nth_bAt _ _ _ (by decide), nth_bAt _ _ _ (by decide)]
  simp only [bAt_extract, Nat.add_zero, h]
  exact ⟨fun h => h.2, fun h => ⟨rfl, h⟩⟩
theorem pre_false (s : ByteArray) (p : Nat) (h : bAt s p = 102) : Lib.hasPrefix (s.extract p s.size).data.toList [102, 97, 108, 115, 101] = true ↔ (bAt s (p + 1) = 97 ∧ bAt s (p + 2) = 108 ∧ bAt s (p + 3) = 115 ∧ bAt s (p + 4) = 101) := by
  rw [pre5, nth_bAt _ _ _ (by decide), nth_bAt _ _ _ (by decide), nth_bAt _ _ _ (by decide), nth_bAt _ _ _ (by decide), nth_bAt _ _ _ (by decide)]
  simp only [bAt_extract, Nat.add_zero, h]
  exact ⟨fun h => h.2, fun h => ⟨rfl, h⟩⟩

/-! ### All bytes below 128 -/
def Low (s : ByteArray) (i j : Nat) : Prop := i ≤ j ∧ j ≤ s.size ∧ ∀ k, i ≤ k → k < j → bAt s k < 128
theorem Low.refl {s : ByteArray} {i : Nat} (h : i ≤ s.size) : Low s i i := ⟨Nat.le_refl _, h, fun k h1 h2 => by omega⟩
theorem Low.trans {s : ByteArray} {i j k : Nat} (h : Low s i j) (h2 : Low s j k) : Low s i k :=
  ⟨Nat.le_trans h.1 h2.1, h2.2.1, fun m h3 h4 => by
    rcases Nat.lt_or_ge m j with h5 | h5
    · exact h.2.2 m h3 h5
    · exact h2.2.2 m h5 h4⟩
theorem Low.one {s : ByteArray} {i : Nat} (h0 : bAt s i ≠ 0) (h : bAt s i < 128) : Low s i (i + 1) :=
  ⟨by omega, lt_of_bAt h0, fun k h1 h2 => by obtain rfl : k = i := by omega
                                             exact h⟩
theorem Low.brk {s : ByteArray} {i j : Nat} (h : Low s i j) (hb : brkAt s i = s.size) : brkAt s j = s.size := by
  have := brk_run (k := j - i) hb (by have := h.1; have := h.2.1; omega) (fun m hm => h.2.2 (i + m) (by omega) (by have := h.1; omega))
  rw [show i + (j - i) = j by have := h.1; omega] at this
  exact this
theorem digF_low (s : ByteArray) : ∀ f i, i ≤ s.size → Low s i (digF s f i)
  | 0, i, h => Low.refl h
  | f + 1, i, h => by
    rw [digF]
    by_cases hd : isD (bAt s i) = true
    · rw [if_pos hd]
      have h1 := isD_iff.1 hd
      have h2 : Low s i (i + 1) := Low.one (by omega) (by omega)
      exact h2.trans (digF_low s f (i + 1) h2.2.1)
    · rw [if_neg hd]; exact Low.refl h
theorem digAt_low (s : ByteArray) (i : Nat) (h : i ≤ s.size) : Low s i (digAt s i) := digF_low s _ i h
theorem fracAt_low (s : ByteArray) (i : Nat) (h : i ≤ s.size) : Low s i (fracAt s i).2 := by
  unfold fracAt
  by_cases h1 : bAt s i = 46
  · rw [if_pos h1]
    have h2 : Low s i (i + 1) := Low.one (by omega) (by omega)
    split
    · exact h2
    · exact h2.trans (digAt_low s _ h2.2.1)
  · rw [if_neg h1]; exact Low.refl h
theorem signAt_low (s : ByteArray) (i : Nat) (h : bAt s i = 101 ∨ bAt s i = 69) : Low s i (signAt s i) := by
  have h2 : Low s i (i + 1) := Low.one (by omega) (by omega)
  unfold signAt
  split
  · exact h2.trans (Low.one (by omega) (by omega))
  · exact h2
theorem expAt_low (s : ByteArray) (i : Nat) (h : i ≤ s.size) : Low s i (expAt s i).2 := by
  unfold expAt
  by_cases h1 : bAt s i = 101 ∨ bAt s i = 69
  · rw [if_pos h1]
    have h2 := signAt_low s i h1
    split
    · exact h2
    · exact h2.trans (digAt_low s _ h2.2.1)
  · rw [if_neg h1]; exact Low.refl h
theorem minAt_low (s : ByteArray) (i : Nat) (h : i ≤ s.size) : Low s i (minAt s i) := by
  unfold minAt
  split
  · exact Low.one (by omega) (by omega)
  · exact Low.refl h
theorem headAt_low (s : ByteArray) (i : Nat) (h : i ≤ s.size) : Low s i (headAt s i) := by
  unfold headAt
  split
  · exact Low.one (by omega) (by omega)
  · exact digAt_low s i h
theorem numAt_low (s : ByteArray) (i : Nat) (h : i ≤ s.size) : Low s i (numAt s i).2 := by
  have h1 := minAt_low s i h
  unfold numAt
  split
  · have h2 := h1.trans (headAt_low s _ h1.2.1)
    have h3 := h2.trans (fracAt_low s _ h2.2.1)
    split
    · exact h3.trans (expAt_low s _ h3.2.1)
    · exact h3
  · exact h1
theorem esc_low {s : ByteArray} {i : Nat} (h92 : bAt s i = 92) (h : (escAt s i).1 = 0) : Low s i (i + (escAt s i).2.2) := by
  have h2 := escAt_ok h92 h
  refine ⟨by omega, h2.1, fun k h3 h4 => ?_⟩
  have := escAt_ascii h92 h (k - i) (by omega)
  rw [show i + (k - i) = k by omega] at this
  exact this
theorem qAt_brk (s : ByteArray) : ∀ n i acc, s.size - i ≤ n → brkAt s i = s.size → (qAt s i acc).1 = 0 → brkAt s (qAt s i acc).2.1 = s.size := by
  intro n
  induction n with
  | zero =>
    intro i acc h1 h2 h3
    rw [qAt_eq, if_neg (by omega)] at h3
    cases h3
  | succ n ih =>
    intro i acc h1 h2 h3
    rcases Nat.lt_or_ge i s.size with hi | hi
    rotate_left
    · rw [qAt_eq, if_neg (by omega)] at h3; cases h3
    have hn := brk_next hi h2
    have hr := rune_cases hi hn.1
    by_cases hb : bAt s i < 128
    · rw [qAt_eq] at h3 ⊢
      rw [if_pos hi] at h3 ⊢
      have h1b := brk_ascii h2 hi hb
      by_cases h34 : bAt s i = 34
      · rw [if_pos h34]; exact h1b
      rw [if_neg h34] at h3 ⊢
      by_cases h32 : bAt s i < 32
      · rw [if_pos h32] at h3; cases h3
      rw [if_neg h32] at h3 ⊢
      by_cases h92 : bAt s i = 92
      · rw [if_pos h92] at h3 ⊢
        by_cases he : (escAt s i).1 = 0
        · rw [if_pos he] at h3 ⊢
          have hl := esc_low h92 he
          have := escAt_ok h92 he
          exact ih _ _ (by omega) (hl.brk h2) h3
        · rw [if_neg he] at h3; exact absurd h3 he
      · rw [if_neg h92] at h3 ⊢
        exact ih _ _ (by omega) h1b h3
    · have hc := hr.2.2.2.2
      rw [qAt_high (k := (refAt s i).2) acc hr.2.2.2.1 (by
        rcases hc with hc | hc
        · omega
        · exact hc.2.2)] at h3 ⊢
      have hw : 1 ≤ (refAt s i).2 := by rw [← hr.2.2.1]; have := hn.1; omega
      exact ih _ _ (by omega) hn.2 h3

theorem signK_ascii {c : Nat} (h : signK c ≠ 0) : c ≠ 0 ∧ c < 128 := by
  unfold signK at h
  repeat' split at h
  all_goals first | omega | exact absurd rfl h
/-- A token: its end, and no scalar is cut. -/
theorem oneAt_ok (s : ByteArray) (i : Nat) (hi : i < s.size) (hb : brkAt s i = s.size) (h : (oneAt s i).1 = 0) :
    (oneAt s i).2.2.fr = i ∧ i < (oneAt s i).2.2.to ∧ (oneAt s i).2.2.to ≤ s.size ∧ brkAt s (oneAt s i).2.2.to = s.size ∧ (oneAt s i).2.2.text.size ≤ (oneAt s i).2.2.to - i ∧ 1 ≤ (oneAt s i).2.2.kind ∧ (oneAt s i).2.2.kind ≤ 11 := by
  have fin : ∀ k t, i < t → Low s i t → 1 ≤ k → k ≤ 11 → ((⟨k, i, t, noS⟩ : Tk).fr = i ∧ i < (⟨k, i, t, noS⟩ : Tk).to ∧ (⟨k, i, t, noS⟩ : Tk).to ≤ s.size ∧ brkAt s (⟨k, i, t, noS⟩ : Tk).to = s.size ∧ (⟨k, i, t, noS⟩ : Tk).text.size ≤ (⟨k, i, t, noS⟩ : Tk).to - i ∧ 1 ≤ (⟨k, i, t, noS⟩ : Tk).kind ∧ (⟨k, i, t, noS⟩ : Tk).kind ≤ 11) :=
    fun k t h1 h2 h3 h4 => ⟨rfl, h1, h2.2.1, h2.brk hb, Nat.zero_le _, h3, h4⟩
  unfold oneAt at h ⊢
  simp only at h ⊢
  by_cases h1 : signK (bAt s i) ≠ 0
  · rw [if_pos h1]
    have := signK_ascii h1
    exact fin _ _ (by omega) (Low.one this.1 this.2) (by omega) (by unfold signK; repeat' split
                                                                    all_goals omega)
  rw [if_neg h1] at h ⊢
  by_cases h2 : bAt s i = 110
  · rw [if_pos h2] at h ⊢
    by_cases hp : bAt s (i + 1) = 117 ∧ bAt s (i + 2) = 108 ∧ bAt s (i + 3) = 108
    · rw [if_pos hp]
      exact fin _ _ (by omega) ((((Low.one (by omega) (by omega)).trans (Low.one (by omega) (by omega))).trans (Low.one (s := s) (i := i + 2) (by omega) (by omega))).trans (Low.one (s := s) (i := i + 3) (by omega) (by omega))) (by omega) (by omega)
    · rw [if_neg hp] at h; cases h
  rw [if_neg h2] at h ⊢
  by_cases h3 : bAt s i = 116
  · rw [if_pos h3] at h ⊢
    by_cases hp : bAt s (i + 1) = 114 ∧ bAt s (i + 2) = 117 ∧ bAt s (i + 3) = 101
    · rw [if_pos hp]
      exact fin _ _ (by omega) ((((Low.one (by omega) (by omega)).trans (Low.one (by omega) (by omega))).trans (Low.one (s := s) (i := i + 2) (by omega) (by omega))).trans (Low.one (s := s) (i := i + 3) (by omega) (by omega))) (by omega) (by omega)
    · rw [if_neg hp] at h; cases h
  rw [if_neg h3] at h ⊢
  by_cases h4 : bAt s i = 102
  · rw [if_pos h4] at h ⊢
    by_cases hp : bAt s (i + 1) = 97 ∧ bAt s (i + 2) = 108 ∧ bAt s (i + 3) = 115 ∧ bAt s (i + 4) = 101
    · rw [if_pos hp]
      exact fin _ _ (by omega) (((((Low.one (by omega) (by omega)).trans (Low.one (by omega) (by omega))).trans (Low.one (s := s) (i := i + 2) (by omega) (by omega))).trans (Low.one (s := s) (i := i + 3) (by omega) (by omega))).trans (Low.one (s := s) (i := i + 4) (by omega) (by omega))) (by omega) (by omega)
    · rw [if_neg hp] at h; cases h
  rw [if_neg h4] at h ⊢
  by_cases h5 : bAt s i = 45 ∨ isD (bAt s i) = true
  · rw [if_pos h5] at h ⊢
    by_cases hn : (numAt s i).1 = true
    · rw [if_pos hn]
      exact fin _ _ ((numAt_bd s i hi).2.2 hn) (numAt_low s i (by omega)) (by omega) (by omega)
    · rw [if_neg hn] at h; cases h
  rw [if_neg h5] at h ⊢
  by_cases h6 : bAt s i = 34
  · rw [if_pos h6] at h ⊢
    by_cases hq : (qAt s (i + 1) []).1 = 0
    · rw [if_pos hq]
      have hb1 := brk_ascii hb hi (by omega)
      have hbd := (qAt_bd s (s.size - (i + 1)) (i + 1) [] (Nat.le_refl _) hi)
      have h7 := hbd.2.2.2 hq
      refine ⟨rfl, ?_, hbd.2.2.1, qAt_brk s _ _ _ (Nat.le_refl _) hb1 hq, ?_, Nat.le_add_left 1 4, by simp only; omega⟩
      · show i < (qAt s (i + 1) []).2.1
        omega
      · show (qAt s (i + 1) []).2.2.toArray.size ≤ (qAt s (i + 1) []).2.1 - i
        rw [List.size_toArray]
        have := h7.2
        rw [List.length_nil] at this
        omega
    · rw [if_neg hq] at h; exact absurd h hq
  rw [if_neg h6] at h
  cases h
/-- An error's number and place. -/
theorem oneAt_bad (s : ByteArray) (i : Nat) (hi : i < s.size) (h : (oneAt s i).1 ≠ 0) : ((oneAt s i).1 = 1 ∨ (oneAt s i).1 = 2) ∧ i ≤ (oneAt s i).2.1 ∧ (oneAt s i).2.1 ≤ s.size := by
  have fin : ∀ j, i ≤ j → j ≤ s.size → ((2 : Nat) = 1 ∨ (2 : Nat) = 2) ∧ i ≤ j ∧ j ≤ s.size := fun j h1 h2 => ⟨Or.inr rfl, h1, h2⟩
  unfold oneAt at h ⊢
  simp only at h ⊢
  by_cases h1 : signK (bAt s i) ≠ 0
  · rw [if_pos h1] at h; exact absurd rfl h
  rw [if_neg h1] at h ⊢
  by_cases h2 : bAt s i = 110
  · rw [if_pos h2] at h ⊢
    split at h
    · exact absurd rfl h
    · rename_i hp; rw [if_neg hp]; exact fin _ (Nat.le_refl _) (Nat.le_of_lt hi)
  rw [if_neg h2] at h ⊢
  by_cases h3 : bAt s i = 116
  · rw [if_pos h3] at h ⊢
    split at h
    · exact absurd rfl h
    · rename_i hp; rw [if_neg hp]; exact fin _ (Nat.le_refl _) (Nat.le_of_lt hi)
  rw [if_neg h3] at h ⊢
  by_cases h4 : bAt s i = 102
  · rw [if_pos h4] at h ⊢
    split at h
    · exact absurd rfl h
    · rename_i hp; rw [if_neg hp]; exact fin _ (Nat.le_refl _) (Nat.le_of_lt hi)
  rw [if_neg h4] at h ⊢
  by_cases h5 : bAt s i = 45 ∨ isD (bAt s i) = true
  · rw [if_pos h5] at h ⊢
    split at h
    · exact absurd rfl h
    · rename_i hn
      rw [if_neg hn]
      have := numAt_bd s i hi
      exact fin _ this.1 this.2.1
  rw [if_neg h5] at h ⊢
  by_cases h6 : bAt s i = 34
  · rw [if_pos h6] at h ⊢
    have hbd := (qAt_bd s (s.size - (i + 1)) (i + 1) [] (Nat.le_refl _) hi)
    split at h
    · exact absurd rfl h
    · rename_i hq
      rw [if_neg hq]
      refine ⟨?_, ?_, hbd.2.2.1⟩
      · show (qAt s (i + 1) []).1 = 1 ∨ (qAt s (i + 1) []).1 = 2
        omega
      · show i ≤ (qAt s (i + 1) []).2.1
        omega
  rw [if_neg h6]
  exact fin _ (Nat.le_refl _) (Nat.le_of_lt hi)

/-! ### The scan's fuel -/
theorem scanF_fuel (s : ByteArray) : ∀ f g i, s.size - i < f → s.size - i < g → brkAt s i = s.size → scanF s f i = scanF s g i := by
  intro f
  induction f with
  | zero => intro g i h1; omega
  | succ f ih =>
    intro g i h1 h2 hb
    obtain ⟨g, rfl⟩ : ∃ m, g = m + 1 := ⟨g - 1, by omega⟩
    rw [scanF, scanF]
    by_cases hi : i < s.size
    · rw [if_pos hi, if_pos hi]
      by_cases hbl : blankN (bAt s i) = true
      · rw [if_pos hbl, if_pos hbl]
        refine ih g (i + 1) (by omega) (by omega) (brk_ascii hb hi ?_)
        simp only [blankN, Bool.or_eq_true, beq_iff_eq] at hbl
        omega
      rw [if_neg hbl, if_neg hbl]
      by_cases ho : (oneAt s i).1 = 0
      · have h3 := oneAt_ok s i hi hb ho
        rw [if_pos ho, if_pos ho, ih g _ (by omega) (by omega) h3.2.2.2.1]
      · rw [if_neg ho, if_neg ho]
    · rw [if_neg hi, if_neg hi]
def scanAt (s : ByteArray) (i : Nat) : List Tk × Nat × Nat := scanF s (s.size - i + 1) i
theorem scanAt_eq (s : ByteArray) (i : Nat) (hb : brkAt s i = s.size) : scanAt s i =
    if i < s.size then
      (if blankN (bAt s i) = true then scanAt s (i + 1)
      else if (oneAt s i).1 = 0 then (((oneAt s i).2.2 :: (scanAt s (oneAt s i).2.2.to).1), (scanAt s (oneAt s i).2.2.to).2)
      else ([], (oneAt s i).1, (oneAt s i).2.1))
    else ([], 0, 0) := by
  conv => lhs; unfold scanAt
  rw [scanF]
  by_cases hi : i < s.size
  · rw [if_pos hi, if_pos hi]
    by_cases hbl : blankN (bAt s i) = true
    · rw [if_pos hbl, if_pos hbl]
      unfold scanAt
      refine scanF_fuel s _ _ (i + 1) (by omega) (by omega) (brk_ascii hb hi ?_)
      simp only [blankN, Bool.or_eq_true, beq_iff_eq] at hbl
      omega
    rw [if_neg hbl, if_neg hbl]
    by_cases ho : (oneAt s i).1 = 0
    · have h3 := oneAt_ok s i hi hb ho
      rw [if_pos ho, if_pos ho, scanF_fuel s (s.size - i) (s.size - (oneAt s i).2.2.to + 1) _ (by omega) (by omega) h3.2.2.2.1]
      rfl
    · rw [if_neg ho, if_neg ho]
  · rw [if_neg hi, if_neg hi]
/-- The place behind the blanks from i on. -/
def blkF (s : ByteArray) : Nat → Nat → Nat
  | 0, i => i
  | f + 1, i => if i < s.size ∧ blankN (bAt s i) = true then blkF s f (i + 1) else i
def blkAt (s : ByteArray) (i : Nat) : Nat := blkF s (s.size - i) i
theorem blkAt_eq (s : ByteArray) (i : Nat) : blkAt s i = if i < s.size ∧ blankN (bAt s i) = true then blkAt s (i + 1) else i := by
  unfold blkAt
  by_cases h : i < s.size ∧ blankN (bAt s i) = true
  · obtain ⟨f, hf⟩ : ∃ f, s.size - i = f + 1 := ⟨s.size - i - 1, by omega⟩
    rw [hf, blkF, if_pos h, if_pos h, show s.size - (i + 1) = f by omega]
  · rw [if_neg h]
    cases s.size - i with
    | zero => rfl
    | succ f => rw [blkF, if_neg h]
theorem blank_ascii {c : Nat} (h : blankN c = true) : c ≠ 0 ∧ c < 128 := by
  simp only [blankN, Bool.or_eq_true, beq_iff_eq] at h
  omega
theorem blkF_low (s : ByteArray) : ∀ f i, i ≤ s.size → Low s i (blkF s f i)
  | 0, i, h => Low.refl h
  | f + 1, i, h => by
    rw [blkF]
    by_cases hd : i < s.size ∧ blankN (bAt s i) = true
    · rw [if_pos hd]
      have h1 := blank_ascii hd.2
      have h2 : Low s i (i + 1) := Low.one h1.1 h1.2
      exact h2.trans (blkF_low s f (i + 1) h2.2.1)
    · rw [if_neg hd]; exact Low.refl h
theorem blkAt_low (s : ByteArray) (i : Nat) (h : i ≤ s.size) : Low s i (blkAt s i) := blkF_low s _ i h
theorem blkAt_not (s : ByteArray) : ∀ n i, s.size - i ≤ n → blkAt s i < s.size → blankN (bAt s (blkAt s i)) = false := by
  intro n
  induction n with
  | zero =>
    intro i h1 h2
    rw [blkAt_eq, if_neg (by omega)] at h2
    omega
  | succ n ih =>
    intro i h1 h2
    rw [blkAt_eq] at h2 ⊢
    by_cases h : i < s.size ∧ blankN (bAt s i) = true
    · rw [if_pos h] at h2 ⊢
      exact ih (i + 1) (by omega) h2
    · rw [if_neg h] at h2 ⊢
      cases hb : blankN (bAt s i) with
      | true => exact absurd ⟨h2, hb⟩ h
      | false => rfl
theorem scan_blk (s : ByteArray) : ∀ n i, s.size - i ≤ n → brkAt s i = s.size → scanAt s i = scanAt s (blkAt s i) := by
  intro n
  induction n with
  | zero =>
    intro i h1 hb
    rw [blkAt_eq, if_neg (by omega)]
  | succ n ih =>
    intro i h1 hb
    rw [blkAt_eq]
    by_cases h : i < s.size ∧ blankN (bAt s i) = true
    · rw [if_pos h, scanAt_eq s i hb, if_pos h.1, if_pos h.2]
      exact ih (i + 1) (by omega) (brk_ascii hb h.1 (blank_ascii h.2).2)
    · rw [if_neg h]
/-- One step of the scan, from a place behind a token. -/
theorem scan_step (s : ByteArray) (i : Nat) (hi : i ≤ s.size) (hb : brkAt s i = s.size) : scanAt s i =
    if blkAt s i < s.size then
      (if (oneAt s (blkAt s i)).1 = 0 then (((oneAt s (blkAt s i)).2.2 :: (scanAt s (oneAt s (blkAt s i)).2.2.to).1), (scanAt s (oneAt s (blkAt s i)).2.2.to).2)
      else ([], (oneAt s (blkAt s i)).1, (oneAt s (blkAt s i)).2.1))
    else ([], 0, 0) := by
  rw [scan_blk s _ i (Nat.le_refl _) hb, scanAt_eq s _ ((blkAt_low s i hi).brk hb)]
  by_cases h : blkAt s i < s.size
  · rw [if_pos h, if_pos h, if_neg (by rw [blkAt_not s _ i (Nat.le_refl _) h]; exact Bool.false_ne_true)]
  · rw [if_neg h, if_neg h]
theorem someS_eq (s : ByteArray) : someS s = if utfE s = 0 then scanAt s 0 else ([], 1, brkAt s 0) := rfl

end Go.Proofs.YtnldhgkmbighkaaDoor
