/- Lemmas of the proof, put together: ScanPlain2, SRef1, SRefPlain, SRef2, SRef3, SRef4, Bytes, SRef5, Scan2, Scan3. -/
import Derived.Test.YtibopkodoidjoaaGreatDoorM1
import Derived.Lib.AppendStr
import Derived.Laws.BytesArg

/- Plain laws: where a token ends. -/
namespace Go.Proofs.YtibopkodoidjoaaGreatDoor
open Go Go.RowKit

theorem nth_bAt (s : ByteArray) (j : Nat) (x : UInt8) (hx : x ≠ 0) : s.data.toList[j]? = some x ↔ bAt s j = x.toNat := by
  unfold bAt
  have hx' : x.toNat ≠ 0 := fun h => hx (UInt8.toNat_inj.1 h)
  by_cases h : j < s.size
  · rw [dif_pos h]
    have h2 : j < s.data.toList.length := by simpa using h
    rw [List.getElem?_eq_getElem h2]
    simp only [Option.some.injEq]
    rw [← UInt8.toNat_inj]
    rfl
  · rw [dif_neg h]
    have h2 : s.data.toList.length ≤ j := by simpa using Nat.le_of_not_lt h
    rw [List.getElem?_eq_none h2]
    constructor
    · intro h; cases h
    · intro h; exact absurd h.symm hx'
theorem pre4 (l : List UInt8) (a b c d : UInt8) : Lib.hasPrefix l [a, b, c, d] = true ↔ l[0]? = some a ∧ l[1]? = some b ∧ l[2]? = some c ∧ l[3]? = some d := by
  rcases l with _ | ⟨x, _ | ⟨y, _ | ⟨z, _ | ⟨u, l⟩⟩⟩⟩ <;> simp [Lib.hasPrefix, List.isPrefixOf]
  grind
theorem pre5 (l : List UInt8) (a b c d e : UInt8) : Lib.hasPrefix l [a, b, c, d, e] = true ↔ l[0]? = some a ∧ l[1]? = some b ∧ l[2]? = some c ∧ l[3]? = some d ∧ l[4]? = some e := by
  rcases l with _ | ⟨x, _ | ⟨y, _ | ⟨z, _ | ⟨u, _ | ⟨v, l⟩⟩⟩⟩⟩ <;> simp [Lib.hasPrefix, List.isPrefixOf]
  grind
theorem pre_null (s : ByteArray) (p : Nat) (h : bAt s p = 110) : Lib.hasPrefix (s.extract p s.size).data.toList [110, 117, 108, 108] = true ↔ (bAt s (p + 1) = 117 ∧ bAt s (p + 2) = 108 ∧ bAt s (p + 3) = 108) := by
  rw [pre4, nth_bAt _ _ _ (by decide), nth_bAt _ _ _ (by decide), nth_bAt _ _ _ (by decide), nth_bAt _ _ _ (by decide)]
  simp only [bAt_extract, Nat.add_zero, h]
  exact ⟨fun h => h.2, fun h => ⟨rfl, h⟩⟩
theorem pre_true (s : ByteArray) (p : Nat) (h : bAt s p = 116) : Lib.hasPrefix (s.extract p s.size).data.toList [116, 114, 117, 101] = true ↔ (bAt s (p + 1) = 114 ∧ bAt s (p + 2) = 117 ∧ bAt s (p + 3) = 101) := by
  rw [pre4, nth_bAt _ _ _ (by decide), nth_bAt _ _ _ (by decide), nth_bAt _ _ _ (by decide), nth_bAt _ _ _ (by decide)]
  simp only [bAt_extract, Nat.add_zero, h]
  exact ⟨fun h => h.2, fun h => ⟨rfl, h⟩⟩
theorem pre_false (s : ByteArray) (p : Nat) (h : bAt s p = 102) : Lib.hasPrefix (s.extract p s.size).data.toList [102, 97, 108, 115, 101] = true ↔ (bAt s (p + 1) = 97 ∧ bAt s (p + 2) = 108 ∧ bAt s (p + 3) = 115 ∧ bAt s (p + 4) = 101) := by
  rw [pre5, nth_bAt _ _ _ (by decide), nth_bAt _ _ _ (by decide), nth_bAt _ _ _ (by decide), nth_bAt _ _ _ (by decide), nth_bAt _ _ _ (by decide)]
  simp only [bAt_extract, Nat.add_zero, h]
  exact ⟨fun h => h.2, fun h => ⟨rfl, h⟩⟩

/-! ### All bytes below 128 -/
def Low (s : ByteArray) (i j : Nat) : Prop := i ≤ j ∧ j ≤ s.size ∧ ∀ k, i ≤ k → k < j → bAt s k < 128
theorem Low.refl {s : ByteArray} {i : Nat} (h : i ≤ s.size) : Low s i i := ⟨Nat.le_refl _, h, fun k h1 h2 => by omega⟩
theorem Low.trans {s : ByteArray} {i j k : Nat} (h : Low s i j) (h2 : Low s j k) : Low s i k :=
  ⟨Nat.le_trans h.1 h2.1, h2.2.1, fun m h3 h4 => by
    rcases Nat.lt_or_ge m j with h5 | h5
    · exact h.2.2 m h3 h5
    · exact h2.2.2 m h5 h4⟩
theorem Low.one {s : ByteArray} {i : Nat} (h0 : bAt s i ≠ 0) (h : bAt s i < 128) : Low s i (i + 1) :=
  ⟨by omega, lt_of_bAt h0, fun k h1 h2 => by obtain rfl : k = i := by omega
                                             exact h⟩
theorem Low.brk {s : ByteArray} {i j : Nat} (h : Low s i j) (hb : brkAt s i = s.size) : brkAt s j = s.size := by
  have := brk_run (k := j - i) hb (by have := h.1; have := h.2.1; omega) (fun m hm => h.2.2 (i + m) (by omega) (by have := h.1; omega))
  rw [show i + (j - i) = j by have := h.1; omega] at this
  exact this
theorem digF_low (s : ByteArray) : ∀ f i, i ≤ s.size → Low s i (digF s f i)
  | 0, i, h => Low.refl h
  | f + 1, i, h => by
    rw [digF]
    by_cases hd : isD (bAt s i) = true
    · rw [if_pos hd]
      have h1 := isD_iff.1 hd
      have h2 : Low s i (i + 1) := Low.one (by omega) (by omega)
      exact h2.trans (digF_low s f (i + 1) h2.2.1)
    · rw [if_neg hd]; exact Low.refl h
theorem digAt_low (s : ByteArray) (i : Nat) (h : i ≤ s.size) : Low s i (digAt s i) := digF_low s _ i h
theorem fracAt_low (s : ByteArray) (i : Nat) (h : i ≤ s.size) : Low s i (fracAt s i).2 := by
  unfold fracAt
  by_cases h1 : bAt s i = 46
  · rw [if_pos h1]
    have h2 : Low s i (i + 1) := Low.one (by omega) (by omega)
    split
    · exact h2
    · exact h2.trans (digAt_low s _ h2.2.1)
  · rw [if_neg h1]; exact Low.refl h
theorem signAt_low (s : ByteArray) (i : Nat) (h : bAt s i = 101 ∨ bAt s i = 69) : Low s i (signAt s i) := by
  have h2 : Low s i (i + 1) := Low.one (by omega) (by omega)
  unfold signAt
  split
  · exact h2.trans (Low.one (by omega) (by omega))
  · exact h2
theorem expAt_low (s : ByteArray) (i : Nat) (h : i ≤ s.size) : Low s i (expAt s i).2 := by
  unfold expAt
  by_cases h1 : bAt s i = 101 ∨ bAt s i = 69
  · rw [if_pos h1]
    have h2 := signAt_low s i h1
    split
    · exact h2
    · exact h2.trans (digAt_low s _ h2.2.1)
  · rw [if_neg h1]; exact Low.refl h
theorem minAt_low (s : ByteArray) (i : Nat) (h : i ≤ s.size) : Low s i (minAt s i) := by
  unfold minAt
  split
  · exact Low.one (by omega) (by omega)
  · exact Low.refl h
theorem headAt_low (s : ByteArray) (i : Nat) (h : i ≤ s.size) : Low s i (headAt s i) := by
  unfold headAt
  split
  · exact Low.one (by omega) (by omega)
  · exact digAt_low s i h
theorem numAt_low (s : ByteArray) (i : Nat) (h : i ≤ s.size) : Low s i (numAt s i).2 := by
  have h1 := minAt_low s i h
  unfold numAt
  split
  · have h2 := h1.trans (headAt_low s _ h1.2.1)
    have h3 := h2.trans (fracAt_low s _ h2.2.1)
    split
    · exact h3.trans (expAt_low s _ h3.2.1)
    · exact h3
  · exact h1
theorem esc_low {s : ByteArray} {i : Nat} (h92 : bAt s i = 92) (h : (escAt s i).1 = 0) : Low s i (i + (escAt s i).2.2) := by
  have h2 := escAt_ok h92 h
  refine ⟨by omega, h2.1, fun k h3 h4 => ?_⟩
  have := escAt_ascii h92 h (k - i) (by omega)
  rw [show i + (k - i) = k by omega] at this
  exact this
theorem qAt_brk (s : ByteArray) : ∀ n i acc, s.size - i ≤ n → brkAt s i = s.size → (qAt s i acc).1 = 0 → brkAt s (qAt s i acc).2.1 = s.size := by
  intro n
  induction n with
  | zero =>
    intro i acc h1 h2 h3
    rw [qAt_eq, if_neg (by omega)] at h3
    cases h3
  | succ n ih =>
    intro i acc h1 h2 h3
    rcases Nat.lt_or_ge i s.size with hi | hi
    rotate_left
    · rw [qAt_eq, if_neg (by omega)] at h3; cases h3
    have hn := brk_next hi h2
    have hr := rune_cases hi hn.1
    by_cases hb : bAt s i < 128
    · rw [qAt_eq] at h3 ⊢
      rw [if_pos hi] at h3 ⊢
      have h1b := brk_ascii h2 hi hb
      by_cases h34 : bAt s i = 34
      · rw [if_pos h34]; exact h1b
      rw [if_neg h34] at h3 ⊢
      by_cases h32 : bAt s i < 32
      · rw [if_pos h32] at h3; cases h3
      rw [if_neg h32] at h3 ⊢
      by_cases h92 : bAt s i = 92
      · rw [if_pos h92] at h3 ⊢
        by_cases he : (escAt s i).1 = 0
        · rw [if_pos he] at h3 ⊢
          have hl := esc_low h92 he
          have := escAt_ok h92 he
          exact ih _ _ (by omega) (hl.brk h2) h3
        · rw [if_neg he] at h3; exact absurd h3 he
      · rw [if_neg h92] at h3 ⊢
        exact ih _ _ (by omega) h1b h3
    · have hc := hr.2.2.2.2
      rw [qAt_high (k := (refAt s i).2) acc hr.2.2.2.1 (by
        rcases hc with hc | hc
        · omega
        · exact hc.2.2)] at h3 ⊢
      have hw : 1 ≤ (refAt s i).2 := by rw [← hr.2.2.1]; have := hn.1; omega
      exact ih _ _ (by omega) hn.2 h3

theorem signK_ascii {c : Nat} (h : signK c ≠ 0) : c ≠ 0 ∧ c < 128 := by
  unfold signK at h
  repeat' split at h
  all_goals first | omega | exact absurd rfl h
/-- A token: its end, and no scalar is cut. -/
theorem oneAt_ok (s : ByteArray) (i : Nat) (hi : i < s.size) (hb : brkAt s i = s.size) (h : (oneAt s i).1 = 0) :
    (oneAt s i).2.2.fr = i ∧ i < (oneAt s i).2.2.to ∧ (oneAt s i).2.2.to ≤ s.size ∧ brkAt s (oneAt s i).2.2.to = s.size ∧ (oneAt s i).2.2.text.size ≤ (oneAt s i).2.2.to - i ∧ 1 ≤ (oneAt s i).2.2.kind ∧ (oneAt s i).2.2.kind ≤ 11 := by
  have fin : ∀ k t, i < t → Low s i t → 1 ≤ k → k ≤ 11 → ((⟨k, i, t, noS⟩ : Tk).fr = i ∧ i < (⟨k, i, t, noS⟩ : Tk).to ∧ (⟨k, i, t, noS⟩ : Tk).to ≤ s.size ∧ brkAt s (⟨k, i, t, noS⟩ : Tk).to = s.size ∧ (⟨k, i, t, noS⟩ : Tk).text.size ≤ (⟨k, i, t, noS⟩ : Tk).to - i ∧ 1 ≤ (⟨k, i, t, noS⟩ : Tk).kind ∧ (⟨k, i, t, noS⟩ : Tk).kind ≤ 11) :=
    fun k t h1 h2 h3 h4 => ⟨rfl, h1, h2.2.1, h2.brk hb, Nat.zero_le _, h3, h4⟩
  unfold oneAt at h ⊢
  simp only at h ⊢
  by_cases h1 : signK (bAt s i) ≠ 0
  · rw [if_pos h1]
    have := signK_ascii h1
    exact fin _ _ (by omega) (Low.one this.1 this.2) (by omega) (by unfold signK; repeat' split
                                                                    all_goals omega)
  rw [if_neg h1] at h ⊢
  by_cases h2 : bAt s i = 110
  · rw [if_pos h2] at h ⊢
    by_cases hp : bAt s (i + 1) = 117 ∧ bAt s (i + 2) = 108 ∧ bAt s (i + 3) = 108
    · rw [if_pos hp]
      exact fin _ _ (by omega) ((((Low.one (by omega) (by omega)).trans (Low.one (by omega) (by omega))).trans (Low.one (s := s) (i := i + 2) (by omega) (by omega))).trans (Low.one (s := s) (i := i + 3) (by omega) (by omega))) (by omega) (by omega)
    · rw [if_neg hp] at h; cases h
  rw [if_neg h2] at h ⊢
  by_cases h3 : bAt s i = 116
  · rw [if_pos h3] at h ⊢
    by_cases hp : bAt s (i + 1) = 114 ∧ bAt s (i + 2) = 117 ∧ bAt s (i + 3) = 101
    · rw [if_pos hp]
      exact fin _ _ (by omega) ((((Low.one (by omega) (by omega)).trans (Low.one (by omega) (by omega))).trans (Low.one (s := s) (i := i + 2) (by omega) (by omega))).trans (Low.one (s := s) (i := i + 3) (by omega) (by omega))) (by omega) (by omega)
    · rw [if_neg hp] at h; cases h
  rw [if_neg h3] at h ⊢
  by_cases h4 : bAt s i = 102
  · rw [if_pos h4] at h ⊢
    by_cases hp : bAt s (i + 1) = 97 ∧ bAt s (i + 2) = 108 ∧ bAt s (i + 3) = 115 ∧ bAt s (i + 4) = 101
    · rw [if_pos hp]
      exact fin _ _ (by omega) (((((Low.one (by omega) (by omega)).trans (Low.one (by omega) (by omega))).trans (Low.one (s := s) (i := i + 2) (by omega) (by omega))).trans (Low.one (s := s) (i := i + 3) (by omega) (by omega))).trans (Low.one (s := s) (i := i + 4) (by omega) (by omega))) (by omega) (by omega)
    · rw [if_neg hp] at h; cases h
  rw [if_neg h4] at h ⊢
  by_cases h5 : bAt s i = 45 ∨ isD (bAt s i) = true
  · rw [if_pos h5] at h ⊢
    by_cases hn : (numAt s i).1 = true
    · rw [if_pos hn]
      exact fin _ _ ((numAt_bd s i hi).2.2 hn) (numAt_low s i (by omega)) (by omega) (by omega)
    · rw [if_neg hn] at h; cases h
  rw [if_neg h5] at h ⊢
  by_cases h6 : bAt s i = 34
  · rw [if_pos h6] at h ⊢
    by_cases hq : (qAt s (i + 1) []).1 = 0
    · rw [if_pos hq]
      have hb1 := brk_ascii hb hi (by omega)
      have hbd := (qAt_bd s (s.size - (i + 1)) (i + 1) [] (Nat.le_refl _) hi)
      have h7 := hbd.2.2.2 hq
      refine ⟨rfl, ?_, hbd.2.2.1, qAt_brk s _ _ _ (Nat.le_refl _) hb1 hq, ?_, Nat.le_add_left 1 4, by simp only; omega⟩
      · show i < (qAt s (i + 1) []).2.1
        omega
      · show (qAt s (i + 1) []).2.2.toArray.size ≤ (qAt s (i + 1) []).2.1 - i
        rw [List.size_toArray]
        have := h7.2
        rw [List.length_nil] at this
        omega
    · rw [if_neg hq] at h; exact absurd h hq
  rw [if_neg h6] at h
  cases h
/-- An error's number and place. -/
theorem oneAt_bad (s : ByteArray) (i : Nat) (hi : i < s.size) (h : (oneAt s i).1 ≠ 0) : ((oneAt s i).1 = 1 ∨ (oneAt s i).1 = 2) ∧ i ≤ (oneAt s i).2.1 ∧ (oneAt s i).2.1 ≤ s.size := by
  have fin : ∀ j, i ≤ j → j ≤ s.size → ((2 : Nat) = 1 ∨ (2 : Nat) = 2) ∧ i ≤ j ∧ j ≤ s.size := fun j h1 h2 => ⟨Or.inr rfl, h1, h2⟩
  unfold oneAt at h ⊢
  simp only at h ⊢
  by_cases h1 : signK (bAt s i) ≠ 0
  · rw [if_pos h1] at h; exact absurd rfl h
  rw [if_neg h1] at h ⊢
  by_cases h2 : bAt s i = 110
  · rw [if_pos h2] at h ⊢
    split at h
    · exact absurd rfl h
    · rename_i hp; rw [if_neg hp]; exact fin _ (Nat.le_refl _) (Nat.le_of_lt hi)
  rw [if_neg h2] at h ⊢
  by_cases h3 : bAt s i = 116
  · rw [if_pos h3] at h ⊢
    split at h
    · exact absurd rfl h
    · rename_i hp; rw [if_neg hp]; exact fin _ (Nat.le_refl _) (Nat.le_of_lt hi)
  rw [if_neg h3] at h ⊢
  by_cases h4 : bAt s i = 102
  · rw [if_pos h4] at h ⊢
    split at h
    · exact absurd rfl h
    · rename_i hp; rw [if_neg hp]; exact fin _ (Nat.le_refl _) (Nat.le_of_lt hi)
  rw [if_neg h4] at h ⊢
  by_cases h5 : bAt s i = 45 ∨ isD (bAt s i) = true
  · rw [if_pos h5] at h ⊢
    split at h
    · exact absurd rfl h
    · rename_i hn
      rw [if_neg hn]
      have := numAt_bd s i hi
      exact fin _ this.1 this.2.1
  rw [if_neg h5] at h ⊢
  by_cases h6 : bAt s i = 34
  · rw [if_pos h6] at h ⊢
    have hbd := (qAt_bd s (s.size - (i + 1)) (i + 1) [] (Nat.le_refl _) hi)
    split at h
    · exact absurd rfl h
    · rename_i hq
      rw [if_neg hq]
      refine ⟨?_, ?_, hbd.2.2.1⟩
      · show (qAt s (i + 1) []).1 = 1 ∨ (qAt s (i + 1) []).1 = 2
        omega
      · show i ≤ (qAt s (i + 1) []).2.1
        omega
  rw [if_neg h6]
  exact fin _ (Nat.le_refl _) (Nat.le_of_lt hi)

/-! ### The scan's fuel -/
theorem scanF_fuel (s : ByteArray) : ∀ f g i, s.size - i < f → s.size - i < g → brkAt s i = s.size → scanF s f i = scanF s g i := by
  intro f
  induction f with
  | zero => intro g i h1; omega
  | succ f ih =>
    intro g i h1 h2 hb
    obtain ⟨g, rfl⟩ : ∃ m, g = m + 1 := ⟨g - 1, by omega⟩
    rw [scanF, scanF]
    by_cases hi : i < s.size
    · rw [if_pos hi, if_pos hi]
      by_cases hbl : blankN (bAt s i) = true
      · rw [if_pos hbl, if_pos hbl]
        refine ih g (i + 1) (by omega) (by omega) (brk_ascii hb hi ?_)
        simp only [blankN, Bool.or_eq_true, beq_iff_eq] at hbl
        omega
      rw [if_neg hbl, if_neg hbl]
      by_cases ho : (oneAt s i).1 = 0
      · have h3 := oneAt_ok s i hi hb ho
        rw [if_pos ho, if_pos ho, ih g _ (by omega) (by omega) h3.2.2.2.1]
      · rw [if_neg ho, if_neg ho]
    · rw [if_neg hi, if_neg hi]
def scanAt (s : ByteArray) (i : Nat) : List Tk × Nat × Nat := scanF s (s.size - i + 1) i
theorem scanAt_eq (s : ByteArray) (i : Nat) (hb : brkAt s i = s.size) : scanAt s i =
    if i < s.size then
      (if blankN (bAt s i) = true then scanAt s (i + 1)
      else if (oneAt s i).1 = 0 then (((oneAt s i).2.2 :: (scanAt s (oneAt s i).2.2.to).1), (scanAt s (oneAt s i).2.2.to).2)
      else ([], (oneAt s i).1, (oneAt s i).2.1))
    else ([], 0, 0) := by
  conv => lhs; unfold scanAt
  rw [scanF]
  by_cases hi : i < s.size
  · rw [if_pos hi, if_pos hi]
    by_cases hbl : blankN (bAt s i) = true
    · rw [if_pos hbl, if_pos hbl]
      unfold scanAt
      refine scanF_fuel s _ _ (i + 1) (by omega) (by omega) (brk_ascii hb hi ?_)
      simp only [blankN, Bool.or_eq_true, beq_iff_eq] at hbl
      omega
    rw [if_neg hbl, if_neg hbl]
    by_cases ho : (oneAt s i).1 = 0
    · have h3 := oneAt_ok s i hi hb ho
      rw [if_pos ho, if_pos ho, scanF_fuel s (s.size - i) (s.size - (oneAt s i).2.2.to + 1) _ (by omega) (by omega) h3.2.2.2.1]
      rfl
    · rw [if_neg ho, if_neg ho]
  · rw [if_neg hi, if_neg hi]
/-- The place behind the blanks from i on. -/
def blkF (s : ByteArray) : Nat → Nat → Nat
  | 0, i => i
  | f + 1, i => if i < s.size ∧ blankN (bAt s i) = true then blkF s f (i + 1) else i
def blkAt (s : ByteArray) (i : Nat) : Nat := blkF s (s.size - i) i
theorem blkAt_eq (s : ByteArray) (i : Nat) : blkAt s i = if i < s.size ∧ blankN (bAt s i) = true then blkAt s (i + 1) else i := by
  unfold blkAt
  by_cases h : i < s.size ∧ blankN (bAt s i) = true
  · obtain ⟨f, hf⟩ : ∃ f, s.size - i = f + 1 := ⟨s.size - i - 1, by omega⟩
    rw [hf, blkF, if_pos h, if_pos h, show s.size - (i + 1) = f by omega]
  · rw [if_neg h]
    cases s.size - i with
    | zero => rfl
    | succ f => rw [blkF, if_neg h]
theorem blank_ascii {c : Nat} (h : blankN c = true) : c ≠ 0 ∧ c < 128 := by
  simp only [blankN, Bool.or_eq_true, beq_iff_eq] at h
  omega
theorem blkF_low (s : ByteArray) : ∀ f i, i ≤ s.size → Low s i (blkF s f i)
  | 0, i, h => Low.refl h
  | f + 1, i, h => by
    rw [blkF]
    by_cases hd : i < s.size ∧ blankN (bAt s i) = true
    · rw [if_pos hd]
      have h1 := blank_ascii hd.2
      have h2 : Low s i (i + 1) := Low.one h1.1 h1.2
      exact h2.trans (blkF_low s f (i + 1) h2.2.1)
    · rw [if_neg hd]; exact Low.refl h
theorem blkAt_low (s : ByteArray) (i : Nat) (h : i ≤ s.size) : Low s i (blkAt s i) := blkF_low s _ i h
theorem blkAt_not (s : ByteArray) : ∀ n i, s.size - i ≤ n → blkAt s i < s.size → blankN (bAt s (blkAt s i)) = false := by
  intro n
  induction n with
  | zero =>
    intro i h1 h2
    rw [blkAt_eq, if_neg (by omega)] at h2
    omega
  | succ n ih =>
    intro i h1 h2
    rw [blkAt_eq] at h2 ⊢
    by_cases h : i < s.size ∧ blankN (bAt s i) = true
    · rw [if_pos h] at h2 ⊢
      exact ih (i + 1) (by omega) h2
    · rw [if_neg h] at h2 ⊢
      cases hb : blankN (bAt s i) with
      | true => exact absurd ⟨h2, hb⟩ h
      | false => rfl
theorem scan_blk (s : ByteArray) : ∀ n i, s.size - i ≤ n → brkAt s i = s.size → scanAt s i = scanAt s (blkAt s i) := by
  intro n
  induction n with
  | zero =>
    intro i h1 hb
    rw [blkAt_eq, if_neg (by omega)]
  | succ n ih =>
    intro i h1 hb
    rw [blkAt_eq]
    by_cases h : i < s.size ∧ blankN (bAt s i) = true
    · rw [if_pos h, scanAt_eq s i hb, if_pos h.1, if_pos h.2]
      exact ih (i + 1) (by omega) (brk_ascii hb h.1 (blank_ascii h.2).2)
    · rw [if_neg h]
/-- One step of the scan, from a place behind a token. -/
theorem scan_step (s : ByteArray) (i : Nat) (hi : i ≤ s.size) (hb : brkAt s i = s.size) : scanAt s i =
    if blkAt s i < s.size then
      (if (oneAt s (blkAt s i)).1 = 0 then (((oneAt s (blkAt s i)).2.2 :: (scanAt s (oneAt s (blkAt s i)).2.2.to).1), (scanAt s (oneAt s (blkAt s i)).2.2.to).2)
      else ([], (oneAt s (blkAt s i)).1, (oneAt s (blkAt s i)).2.1))
    else ([], 0, 0) := by
  rw [scan_blk s _ i (Nat.le_refl _) hb, scanAt_eq s _ ((blkAt_low s i hi).brk hb)]
  by_cases h : blkAt s i < s.size
  · rw [if_pos h, if_pos h, if_neg (by rw [blkAt_not s _ i (Nat.le_refl _) h]; exact Bool.false_ne_true)]
  · rw [if_neg h, if_neg h]
theorem someS_eq (s : ByteArray) : someS s = if utfE s = 0 then scanAt s 0 else ([], 1, brkAt s 0) := rfl

end Go.Proofs.YtibopkodoidjoaaGreatDoor

/- The reference of chapter 17: its small functions. -/
namespace Go.Proofs.YtibopkodoidjoaaGreatDoor
open Go Go.RowKit

set_option maxHeartbeats 400000 in
theorem rDigit_calls (c : Nat) (w : World) : Calls Tryz.prog 77 #[.int .u8 (c : Int)] w fun e w' => e = .returned (.bool (isD c)) ∧ w' = w := by
  by_cases h1 : 48 ≤ c
  · by_cases h2 : c ≤ 57
    · have e : isD c = true := isD_iff.2 ⟨h1, h2⟩
      rw [e]
      clear e
      go_enter Tryz.func77, Tryz.ntmps77
      (go_wp2_with fail; repeat (any_goals (go_quiet (fail); go_wp2_with fail)))
      go_ret
      exact ⟨by simp <;> omega, rfl⟩
    · have e : isD c = false := by rw [Bool.eq_false_iff]; intro h; exact h2 (isD_iff.1 h).2
      rw [e]
      clear e
      go_enter Tryz.func77, Tryz.ntmps77
      (go_wp2_with fail; repeat (any_goals (go_quiet (fail); go_wp2_with fail)))
      go_ret
      exact ⟨by simp <;> omega, rfl⟩
  · have e : isD c = false := by rw [Bool.eq_false_iff]; intro h; exact h1 (isD_iff.1 h).1
    rw [e]
    clear e
    go_enter Tryz.func77, Tryz.ntmps77
    (go_wp2_with fail; repeat (any_goals (go_quiet (fail); go_wp2_with fail)))
    go_ret
    exact ⟨by simp <;> omega, rfl⟩
set_option maxHeartbeats 1000000 in
theorem rDigits_calls (s : ByteArray) (i : Nat) (w : World) (hs : s.size ≤ 140737488351232) (hi : i ≤ s.size) :
    Calls Tryz.prog 94 #[.string s, .int .i64 (i : Int)] w fun e w' => e = .returned (.int .i64 (digAt s i : Nat)) ∧ w' = w := by
  obtain ⟨r, hr⟩ : ∃ r, digAt s i = r := ⟨_, rfl⟩
  rw [hr]
  replace hr := Lib.hid hr
  go_enter Tryz.func94, Tryz.ntmps94
  (go_wp2_with fail; repeat (any_goals (go_quiet (fail); go_wp2_with fail)))
  go_loop [1] (fun v => ∃ k : Nat, k ≤ s.size ∧ v = .int .i64 (k : Int) ∧ Hid (digAt s k = r)) (fun v => s.size - (intOf v).toNat)
  case atStart => exact ⟨i, hi, rfl, hr⟩
  case round =>
    obtain ⟨k, hk, rfl, hr2⟩ := hrel
    have hx := byte_at s k
    have he := Lib.hid (digAt_eq s k)
    by_cases hlt : k < s.size
    · have D := Lib.hid (fun w => rDigit_calls (bAt s k) w)
      cases hd : isD (bAt s k) with
      | true =>
        rw [hd] at D
        replace hd := Lib.hid hd
        (go_wp2_with fail; repeat (any_goals (go_quiet (fail); go_wp2_with fail)))
        refine (D.out _).mono ?_
        rintro e w1 ⟨rfl, rfl⟩
        (go_wp2_with fail; repeat (any_goals (go_quiet (fail); go_wp2_with fail)))
        go_round
        case rel => exact ⟨k + 1, by omega, by go_num, Lib.hid (by rw [← hr2.out, he.out, if_pos hd.out])⟩
        case measure => simp [intOf]; omega
      | false =>
        rw [hd] at D
        replace hd := Lib.hid hd
        (go_wp2_with fail; repeat (any_goals (go_quiet (fail); go_wp2_with fail)))
        refine (D.out _).mono ?_
        rintro e w1 ⟨rfl, rfl⟩
        (go_wp2_with fail; repeat (any_goals (go_quiet (fail); go_wp2_with fail)))
        go_ret
        exact ⟨ret_int (by rw [← hr2.out, he.out, if_neg (by rw [hd.out]; simp)]), rfl⟩
    · have hd : isD (bAt s k) = false := by rw [bAt_ge s k (by omega)]; rfl
      replace hd := Lib.hid hd
      (go_wp2_with fail; repeat (any_goals (go_quiet (fail); go_wp2_with fail)))
      go_ret
      exact ⟨ret_int (by rw [← hr2.out, he.out, if_neg (by rw [hd.out]; simp)]), rfl⟩


set_option maxHeartbeats 400000 in
theorem rBlank_calls (c : Nat) (w : World) : Calls Tryz.prog 49 #[.int .u8 (c : Int)] w fun e w' => e = .returned (.bool (blankN c)) ∧ w' = w := by
  by_cases h1 : c = 32
  · subst h1
    go_enter Tryz.func49, Tryz.ntmps49
    (go_wp2_with fail; repeat (any_goals (go_quiet (fail); go_wp2_with fail)))
    go_ret
    exact ⟨rfl, rfl⟩
  by_cases h2 : c = 9
  · subst h2
    go_enter Tryz.func49, Tryz.ntmps49
    (go_wp2_with fail; repeat (any_goals (go_quiet (fail); go_wp2_with fail)))
    go_ret
    exact ⟨rfl, rfl⟩
  by_cases h3 : c = 10
  · subst h3
    go_enter Tryz.func49, Tryz.ntmps49
    (go_wp2_with fail; repeat (any_goals (go_quiet (fail); go_wp2_with fail)))
    go_ret
    exact ⟨rfl, rfl⟩
  by_cases h4 : c = 13
  · subst h4
    go_enter Tryz.func49, Tryz.ntmps49
    (go_wp2_with fail; repeat (any_goals (go_quiet (fail); go_wp2_with fail)))
    go_ret
    exact ⟨rfl, rfl⟩
  have e : blankN c = false := by simp [blankN, h1, h2, h3, h4]
  rw [e]
  have c1 : ((c : Int) == 32) = false := by simp; omega
  have c2 : ((c : Int) == 9) = false := by simp; omega
  have c3 : ((c : Int) == 10) = false := by simp; omega
  have c4 : ((c : Int) == 13) = false := by simp; omega
  clear e h1 h2 h3 h4
  go_enter Tryz.func49, Tryz.ntmps49
  (go_wp2_with fail; repeat (any_goals (go_quiet (fail); go_wp2_with fail)))
  go_ret
  exact ⟨by simp, rfl⟩
/-- Whether t stands in s at i. -/
def startsS (s : ByteArray) (i : Nat) (t : ByteArray) : Bool := decide (i + t.size ≤ s.size) && ((s.extract i (i + t.size)).toList == t.toList)
set_option maxHeartbeats 400000 in
theorem starts_calls (s : ByteArray) (i : Nat) (t : ByteArray) (w : World) (hs : s.size ≤ 140737488351232) (ht : t.size ≤ 100) (hi : i ≤ 140737488351300) :
    Calls Tryz.prog 76 #[.string s, .int .i64 (i : Int), .string t] w fun e w' => e = .returned (.bool (startsS s i t)) ∧ w' = w := by
  have hs' : (s.size : Int) ≤ 140737488351232 := by omega
  have ht' : (t.size : Int) ≤ 100 := by omega
  have hi' : (i : Int) ≤ 140737488351300 := by omega
  replace hs := Lib.hid hs
  replace hi := Lib.hid hi
  by_cases h : i + t.size ≤ s.size
  · have h' : (i : Int) + (t.size : Int) ≤ (s.size : Int) := by omega
    unfold startsS
    rw [decide_eq_true h, Bool.true_and]
    replace h := Lib.hid h
    go_enter Tryz.func76, Tryz.ntmps76
    (go_wp2_with fail; repeat (any_goals (go_quiet (fail); go_wp2_with fail)))
    go_ret
    exact ⟨rfl, rfl⟩
  · have h' : ¬ (i : Int) + (t.size : Int) ≤ (s.size : Int) := by omega
    unfold startsS
    rw [decide_eq_false h, Bool.false_and]
    replace h := Lib.hid h
    go_enter Tryz.func76, Tryz.ntmps76
    (go_wp2_with fail; repeat (any_goals (go_quiet (fail); go_wp2_with fail)))
    go_ret
    exact ⟨rfl, rfl⟩

end Go.Proofs.YtibopkodoidjoaaGreatDoor

/- Plain laws on the reference of chapter 17. -/
namespace Go.Proofs.YtibopkodoidjoaaGreatDoor
open Go Go.RowKit

theorem toL (t : ByteArray) : t.toList = t.data.toList := by
  have := Lib.toList_data t
  exact this
theorem startsS_iff (s : ByteArray) (i : Nat) (t : ByteArray) : startsS s i t = true ↔ i + t.size ≤ s.size ∧ ∀ j, j < t.size → bAt s (i + j) = bAt t j := by
  unfold startsS
  by_cases h : i + t.size ≤ s.size
  · rw [decide_eq_true h, Bool.true_and, beq_iff_eq, toL, toL]
    constructor
    · intro he
      have he2 : s.extract i (i + t.size) = t := by
        cases hx : s.extract i (i + t.size); cases t
        rw [hx] at he
        congr 1
        exact Array.toList_inj.1 he
      refine ⟨h, fun j hj => ?_⟩
      have h1 : bAt (s.extract i (i + t.size)) j = bAt t j := by rw [he2]
      rw [← h1]
      unfold bAt
      have hz : (s.extract i (i + t.size)).size = t.size := by rw [he2]
      rw [dif_pos (by omega), dif_pos (by omega)]
      congr 1
      rw [ByteArray.getElem_extract]
    · rintro ⟨_, he⟩
      apply List.ext_getElem
      · simp; omega
      · intro j h1 h2
        have hj : j < t.size := by simpa using h2
        have := he j hj
        unfold bAt at this
        rw [dif_pos (by omega), dif_pos hj] at this
        have h3 := UInt8.toNat_inj.1 this
        have hz : j < (s.extract i (i + t.size)).size := by rw [ByteArray.size_extract]; omega
        have h4 : (s.extract i (i + t.size))[j]'hz = s[i + j]'(by omega) := ByteArray.getElem_extract ..
        show (s.extract i (i + t.size))[j]'hz = t[j]'hj
        rw [h4, h3]
  · rw [decide_eq_false h, Bool.false_and]
    constructor
    · intro h; cases h
    · intro h2; exact absurd h2.1 h

end Go.Proofs.YtibopkodoidjoaaGreatDoor

/- The reference of chapter 17: number. -/
namespace Go.Proofs.YtibopkodoidjoaaGreatDoor
open Go Go.RowKit

theorem rDigits_calls' (s : ByteArray) (i : Nat) (w : World) (hs : s.size ≤ 140737488351232) (hi : i ≤ s.size) :
    Calls Tryz.prog 94 #[.string s, .int .i64 (i : Int)] w fun e w' => e = .returned (.int .i64 (digAt s i : Nat)) ∧ w = w' := (rDigits_calls s i w hs hi).mono fun _ _ ⟨h, hw⟩ => ⟨h, hw.symm⟩
theorem rDigit_calls' (c : Nat) (w : World) : Calls Tryz.prog 77 #[.int .u8 (c : Int)] w fun e w' => e = .returned (.bool (isD c)) ∧ w = w' := (rDigit_calls c w).mono fun _ _ ⟨h, hw⟩ => ⟨h, hw.symm⟩
def rNumV (N : Bool × Nat) : Value := if N.1 = true then .tuple #[.int .i64 (N.2 : Int), .int .i64 (-1)] else .tuple #[.int .i64 0, .int .i64 (N.2 : Int)]
theorem rFrac_no {s : ByteArray} {i : Nat} (h : bAt s i ≠ 46) : fracAt s i = (true, i) := by unfold fracAt; rw [if_neg h]
theorem rFrac_bad {s : ByteArray} {i : Nat} (h : bAt s i = 46) (h2 : digAt s (i + 1) = i + 1) : fracAt s i = (false, i + 1) := by unfold fracAt; rw [if_pos h, if_pos h2]
theorem rFrac_ok {s : ByteArray} {i : Nat} (h : bAt s i = 46) (h2 : digAt s (i + 1) ≠ i + 1) : fracAt s i = (true, digAt s (i + 1)) := by unfold fracAt; rw [if_pos h, if_neg h2]
theorem rNumV_bad {N : Bool × Nat} {i : Nat} (h : N = (false, i)) : rNumV N = .tuple #[.int .i64 0, .int .i64 (i : Int)] := by subst h; unfold rNumV; rw [if_neg (by simp)]
theorem rNumV_ok {N : Bool × Nat} {i : Nat} (h : N = (true, i)) : rNumV N = .tuple #[.int .i64 (i : Int), .int .i64 (-1)] := by subst h; unfold rNumV; rw [if_pos rfl]
set_option maxHeartbeats 4000000 in
set_option maxRecDepth 100000 in
theorem rNumber_calls (s : ByteArray) (p : Nat) (w : World) (hs : s.size ≤ 140737488351232) (hp : p < s.size) :
    Calls Tryz.prog 78 #[.string s, .int .i64 (p : Int)] w fun e w' => e = .returned (rNumV (numAt s p)) ∧ w = w' := by
  have hs' : (s.size : Int) ≤ 140737488351232 := by omega
  have hx := byte_at s p
  obtain ⟨N, hN⟩ : ∃ N, N = numAt s p := ⟨_, rfl⟩
  rw [← hN]
  replace hN := Lib.hid hN
  have ha := minAt_bd s p hp
  have D := Lib.hid (fun i w hi => rDigits_calls' s i w hs hi)
  have D1 := Lib.hid (fun c w => rDigit_calls' c w)
  go_enter Tryz.func78, Tryz.ntmps78
  go_upto_if 9 with fail
  go_cut [1] (fun v wx => v = .int .i64 (minAt s p : Nat) ∧ w = wx)
  case first =>
    by_cases h45 : bAt s p = 45
    · have h45' : ((bAt s p : Int) == 45) = true := by simp; omega
      have em : minAt s p = p + 1 := by unfold minAt; rw [if_pos h45]
      replace h45 := Lib.hid h45
      replace em := Lib.hid em
      clear ha
      go_wp2_with fail
      go_meet
      exact ⟨by (rw [em.out]) <;> go_num, rfl⟩
    · have h45' : ((bAt s p : Int) == 45) = false := by simp; omega
      have em : minAt s p = p := by unfold minAt; rw [if_neg h45]
      replace h45 := Lib.hid h45
      replace em := Lib.hid em
      clear ha
      go_wp2_with fail
      go_meet
      exact ⟨by (rw [em.out]) <;> go_num, rfl⟩
  case rest =>
    obtain ⟨rfl, rfl⟩ := hcut
    clear hx
    obtain ⟨ha0, ha1, _⟩ := ha
    have hNe : numAt s p = if isD (bAt s (minAt s p)) = true then
      (if (fracAt s (headAt s (minAt s p))).1 = true then expAt s (fracAt s (headAt s (minAt s p))).2 else fracAt s (headAt s (minAt s p)))
      else (false, minAt s p) := rfl
    rw [hNe] at hN
    clear hNe
    replace hN := Lib.hid hN.out
    generalize minAt s p = a at *
    have hx := byte_at s a
    cases hd : isD (bAt s a) with
    | false =>
      have hNe : N = (false, a) := by rw [hN.out, if_neg (by rw [hd]; simp)]
      have D2 := Lib.hid (D1.out (bAt s a))
      rw [hd] at D2
      replace hd := Lib.hid hd
      by_cases hal : a < s.size
      · have hne : ((a : Int) == (s.size : Int)) = false := by simp; omega
        go_wp2_with fail
        refine (D2.out _).mono ?_
        rintro e w1 ⟨rfl, rfl⟩
        go_wp2_with fail
        go_ret2
        exact ⟨by rw [rNumV_bad hNe]; rfl, rfl⟩
      · have hne : ((a : Int) == (s.size : Int)) = true := by simp; omega
        go_wp2_with fail
        go_ret2
        exact ⟨by rw [rNumV_bad hNe]; rfl, rfl⟩
    | true =>
      have hN2 := Lib.hid (show N = _ by rw [hN.out, if_pos hd])
      have hal : a < s.size := lt_of_bAt (s := s) (i := a) (by have := isD_iff.1 hd; omega)
      have hne : ((a : Int) == (s.size : Int)) = false := by simp; omega
      have hh := headAt_bd s a hd
      have D2 := Lib.hid (D1.out (bAt s a))
      rw [hd] at D2
      replace hd := Lib.hid hd
      go_wp2_with fail
      refine (D2.out _).mono ?_
      rintro e w1 ⟨rfl, rfl⟩
      go_upto_if 27 with fail
      go_cut [1] (fun v wx => v = .int .i64 (headAt s a : Nat) ∧ w = wx)
      case first =>
        by_cases h48 : bAt s a = 48
        · have h48' : ((bAt s a : Int) == 48) = true := by simp; omega
          have em : headAt s a = a + 1 := by unfold headAt; rw [if_pos h48]
          replace h48 := Lib.hid h48
          replace em := Lib.hid em
          clear hh
          go_wp2_with fail
          go_meet
          exact ⟨by (rw [em.out]) <;> go_num, rfl⟩
        · have h48' : ((bAt s a : Int) == 48) = false := by simp; omega
          have em : headAt s a = digAt s a := by unfold headAt; rw [if_neg h48]
          replace h48 := Lib.hid h48
          replace em := Lib.hid em
          clear hh
          go_wp2_with fail
          refine (D.out a _ ha1).mono ?_
          rintro e w1 ⟨rfl, rfl⟩
          go_wp2_with fail
          go_meet
          exact ⟨by rw [em.out], rfl⟩
      case rest =>
        obtain ⟨rfl, rfl⟩ := hcut
        clear hx hN
        obtain ⟨hh0, hh1⟩ := hh
        have hf := fracAt_bd s (headAt s a) hh1
        generalize headAt s a = t at *
        have hx := byte_at s t
        go_upto_region 8 with fail
        go_cut [42] (fun v wx => v = .bool ((bAt s t : Int) == 46) ∧ w = wx)
        case first =>
          by_cases htl : t < s.size
          · go_wp2_with fail
            go_meet
            exact ⟨by simp, rfl⟩
          · have h0 : bAt s t = 0 := bAt_ge s t (by omega)
            replace h0 := Lib.hid h0
            go_wp2_with fail
            go_meet
            exact ⟨by rw [h0.out]; rfl, rfl⟩
        case rest =>
          obtain ⟨rfl, rfl⟩ := hcut
          go_upto_if 42 with fail
          go_cut [1] (fun v wx => v = .int .i64 ((fracAt s t).2 : Nat) ∧ w = wx ∧ (fracAt s t).1 = true)
          case first =>
            by_cases h46 : bAt s t = 46
            · have h46' : ((bAt s t : Int) == 46) = true := by simp; omega
              have htl := lt_of_bAt (s := s) (i := t) (by omega)
              by_cases hdt : digAt s (t + 1) = t + 1
              · have hNe : N = (false, t + 1) := by rw [hN2.out, rFrac_bad h46 hdt, if_neg (by simp)]
                replace h46 := Lib.hid h46
                have hdt' : ((digAt s (t + 1) : Nat) : Int) = (t : Int) + 1 := by omega
                replace hdt := Lib.hid hdt
                have D2 := Lib.hid (fun w => rDigits_calls' s (t + 1) w hs htl)
                clear hf
                go_wp2_with fail
                refine (D2.out _).mono ?_
                rintro e w1 ⟨rfl, rfl⟩
                go_wp2_with fail
                go_ret2
                exact ⟨by rw [rNumV_bad hNe]; rfl, rfl⟩
              · have em := rFrac_ok h46 hdt
                replace h46 := Lib.hid h46
                have hdt' : (((digAt s (t + 1) : Nat) : Int) == (t : Int) + 1) = false := by simp; omega
                replace hdt := Lib.hid hdt
                have D2 := Lib.hid (fun w => rDigits_calls' s (t + 1) w hs htl)
                replace em := Lib.hid em
                clear hf
                go_wp2_with fail
                refine (D2.out _).mono ?_
                rintro e w1 ⟨rfl, rfl⟩
                go_wp2_with fail
                refine (D2.out _).mono ?_
                rintro e w1 ⟨rfl, rfl⟩
                go_wp2_with fail
                go_meet
                exact ⟨by rw [em.out], rfl, by rw [em.out]⟩
            · have h46' : ((bAt s t : Int) == 46) = false := by simp; omega
              have em := rFrac_no h46
              replace h46 := Lib.hid h46
              replace em := Lib.hid em
              clear hf
              go_wp2_with fail
              go_meet
              exact ⟨by rw [em.out], rfl, by rw [em.out]⟩
          case rest =>
            obtain ⟨rfl, rfl, hft⟩ := hcut
            have hN3 := Lib.hid (show N = expAt s (fracAt s t).2 by rw [hN2.out, if_pos hft])
            clear hx hN2 hft
            obtain ⟨hf0, hf1⟩ := hf
            generalize (fracAt s t).2 = u at *
            have hx := byte_at s u
            go_upto_region 12 with fail
            go_cut [71] (fun v wx => v = .bool (bAt s u == 101 || bAt s u == 69) ∧ w = wx)
            case first =>
              by_cases hul : u < s.size
              · by_cases h1 : bAt s u = 101
                · have h1' : ((bAt s u : Int) == 101) = true := by simp; omega
                  replace h1 := Lib.hid h1
                  go_wp2_with fail
                  go_meet
                  exact ⟨by rw [h1.out]; rfl, rfl⟩
                · have h1' : ((bAt s u : Int) == 101) = false := by simp; omega
                  replace h1 := Lib.hid h1
                  by_cases h2 : bAt s u = 69
                  · have h2' : ((bAt s u : Int) == 69) = true := by simp; omega
                    replace h2 := Lib.hid h2
                    go_wp2_with fail
                    go_meet
                    exact ⟨by rw [h2.out]; rfl, rfl⟩
                  · have h2' : ((bAt s u : Int) == 69) = false := by simp; omega
                    replace h2 := Lib.hid h2
                    go_wp2_with fail
                    go_meet
                    exact ⟨by rw [show (bAt s u == 101) = false by simpa using h1.out, show (bAt s u == 69) = false by simpa using h2.out]; rfl, rfl⟩
              · have h0 : bAt s u = 0 := bAt_ge s u (by omega)
                replace h0 := Lib.hid h0
                go_wp2_with fail
                go_meet
                exact ⟨by rw [h0.out]; rfl, rfl⟩
            case rest =>
              obtain ⟨hv, rfl⟩ := hcut
              by_cases hE1 : bAt s u = 101 ∨ bAt s u = 69
              · rw [show (bAt s u == 101 || bAt s u == 69) = true by simpa using hE1] at hv
                subst hv
                have hul := lt_of_bAt (s := s) (i := u) (by omega)
                have hsg := signAt_bd s u hul
                have hN4 := Lib.hid (show N = if digAt s (signAt s u) = signAt s u then (false, signAt s u) else (true, digAt s (signAt s u)) by rw [hN3.out, expAt, if_pos hE1])
                replace hE1 := Lib.hid hE1
                clear hx hN3
                have hx := byte_at s (u + 1)
                go_upto_region 14 with fail
                go_cut [89] (fun v wx => v = .bool (bAt s (u + 1) == 43 || bAt s (u + 1) == 45) ∧ w = wx)
                case first =>
                  clear hsg
                  by_cases hul1 : u + 1 < s.size
                  · have hul2 : (u : Int) + 1 < (s.size : Int) := by omega
                    by_cases h1 : bAt s (u + 1) = 43
                    · have h1' : ((bAt s (u + 1) : Int) == 43) = true := by simp; omega
                      replace h1 := Lib.hid h1
                      go_wp2_with fail
                      go_meet
                      exact ⟨by rw [h1.out]; rfl, rfl⟩
                    · have h1' : ((bAt s (u + 1) : Int) == 43) = false := by simp; omega
                      replace h1 := Lib.hid h1
                      by_cases h2 : bAt s (u + 1) = 45
                      · have h2' : ((bAt s (u + 1) : Int) == 45) = true := by simp; omega
                        replace h2 := Lib.hid h2
                        go_wp2_with fail
                        go_meet
                        exact ⟨by rw [h2.out]; rfl, rfl⟩
                      · have h2' : ((bAt s (u + 1) : Int) == 45) = false := by simp; omega
                        replace h2 := Lib.hid h2
                        go_wp2_with fail
                        go_meet
                        exact ⟨by rw [show (bAt s (u + 1) == 43) = false by simpa using h1.out, show (bAt s (u + 1) == 45) = false by simpa using h2.out]; rfl, rfl⟩
                  · have hul2 : (s.size : Int) ≤ (u : Int) + 1 := by omega
                    have h0 : bAt s (u + 1) = 0 := bAt_ge s (u + 1) (by omega)
                    replace h0 := Lib.hid h0
                    go_wp2_with fail
                    go_meet
                    exact ⟨by rw [h0.out]; rfl, rfl⟩
                case rest =>
                  obtain ⟨hv, rfl⟩ := hcut
                  replace hv := Lib.hid hv
                  clear hx
                  go_upto_if 89 with fail
                  go_cut [1] (fun v wx => v = .int .i64 (signAt s u : Nat) ∧ w = wx)
                  case first =>
                    by_cases h1 : bAt s (u + 1) = 43 ∨ bAt s (u + 1) = 45
                    · have hv := hv.out
                      rw [show (bAt s (u + 1) == 43 || bAt s (u + 1) == 45) = true by simpa using h1] at hv
                      subst hv
                      have em : signAt s u = u + 2 := by unfold signAt; rw [if_pos h1]
                      replace h1 := Lib.hid h1
                      replace em := Lib.hid em
                      clear hsg
                      go_wp2_with fail
                      go_meet
                      exact ⟨by rw [em.out]; simp [Value.int.injEq] <;> omega, rfl⟩
                    · have hv := hv.out
                      rw [show (bAt s (u + 1) == 43 || bAt s (u + 1) == 45) = false by simpa using h1] at hv
                      subst hv
                      have em : signAt s u = u + 1 := by unfold signAt; rw [if_neg h1]
                      replace h1 := Lib.hid h1
                      replace em := Lib.hid em
                      clear hsg
                      go_wp2_with fail
                      go_meet
                      exact ⟨by (rw [em.out]) <;> go_num, rfl⟩
                  case rest =>
                    obtain ⟨rfl, rfl⟩ := hcut
                    obtain ⟨hsg0, hsg1⟩ := hsg
                    generalize signAt s u = v at *
                    have D2 := Lib.hid (fun w => rDigits_calls' s v w hs hsg1)
                    by_cases hdt : digAt s v = v
                    · have hNe : N = (false, v) := by rw [hN4.out, if_pos hdt]
                      have hdt' : ((digAt s v : Nat) : Int) = (v : Int) := by omega
                      replace hdt := Lib.hid hdt
                      clear hN4
                      go_wp2_with fail
                      refine (D2.out _).mono ?_
                      rintro e w1 ⟨rfl, rfl⟩
                      go_wp2_with fail
                      go_ret2
                      exact ⟨by rw [rNumV_bad hNe]; rfl, rfl⟩
                    · have hNe : N = (true, digAt s v) := by rw [hN4.out, if_neg hdt]
                      have hdt' : (((digAt s v : Nat) : Int) == (v : Int)) = false := by simp; omega
                      replace hdt := Lib.hid hdt
                      replace hNe := Lib.hid hNe
                      clear hN4
                      go_wp2_with fail
                      refine (D2.out _).mono ?_
                      rintro e w1 ⟨rfl, rfl⟩
                      go_wp2_with fail
                      refine (D2.out _).mono ?_
                      rintro e w1 ⟨rfl, rfl⟩
                      go_wp2_with fail
                      go_ret2
                      exact ⟨by rw [rNumV_ok hNe.out]; rfl, rfl⟩
              · rw [show (bAt s u == 101 || bAt s u == 69) = false by simpa using hE1] at hv
                subst hv
                have hNe : N = (true, u) := by rw [hN3.out, expAt, if_neg hE1]
                replace hE1 := Lib.hid hE1
                replace hNe := Lib.hid hNe
                clear hx hN3
                go_wp2_with fail
                go_ret2
                exact ⟨by rw [rNumV_ok hNe.out]; rfl, rfl⟩

end Go.Proofs.YtibopkodoidjoaaGreatDoor

/- The reference of chapter 17: hex. -/
namespace Go.Proofs.YtibopkodoidjoaaGreatDoor
open Go Go.RowKit

theorem starts_u (s : ByteArray) (i : Nat) : startsS s i ⟨#[92, 117]⟩ = true ↔ bAt s i = 92 ∧ bAt s (i + 1) = 117 := by
  rw [startsS_iff]
  constructor
  · rintro ⟨_, h⟩
    exact ⟨h 0 (by decide), h 1 (by decide)⟩
  · rintro ⟨h0, h1⟩
    have := lt_of_bAt (s := s) (i := i + 1) (by omega)
    refine ⟨by show i + 2 ≤ s.size; omega, fun j hj => ?_⟩
    rcases (show j = 0 ∨ j = 1 by have : j < 2 := hj; omega) with rfl | rfl
    · exact h0
    · exact h1
def rHexV (h : Nat) : Value := if h < 65536 then .int .i32 (h : Int) else .int .i32 (-1)
theorem starts_calls' (s : ByteArray) (i : Nat) (t : ByteArray) (w : World) (hs : s.size ≤ 140737488351232) (ht : t.size ≤ 100) (hi : i ≤ 140737488351300) :
    Calls Tryz.prog 76 #[.string s, .int .i64 (i : Int), .string t] w fun e w' => e = .returned (.bool (startsS s i t)) ∧ w = w' := (starts_calls s i t w hs ht hi).mono fun _ _ ⟨h, hw⟩ => ⟨h, hw.symm⟩
set_option maxHeartbeats 4000000 in
set_option maxRecDepth 100000 in
theorem rHex_calls (s : ByteArray) (i : Nat) (w : World) (hs : s.size ≤ 140737488351232) (hi : i ≤ 140737488351300) :
    Calls Tryz.prog 116 #[.string s, .int .i64 (i : Int)] w fun e w' => e = .returned (rHexV (hexAt s i)) ∧ w = w' := by
  have hs' : (s.size : Int) ≤ 140737488351232 := by omega
  have hi' : (i : Int) ≤ 140737488351300 := by omega
  have S := Lib.hid (fun w => starts_calls' s i ⟨#[92, 117]⟩ w hs (by decide) hi)
  have D1 := Lib.hid (fun c w => rDigit_calls' c w)
  obtain ⟨r, hr⟩ : ∃ r, r = hexAt s i := ⟨_, rfl⟩
  rw [← hr]
  cases hst : startsS s i ⟨#[92, 117]⟩ with
  | false =>
    have hend : Hid (¬ r < 65536) := Lib.hid (fun h => by
      have := hexAt_ok (s := s) (i := i) (by omega)
      have h2 := (starts_u s i).2 this.2
      rw [hst] at h2; cases h2)
    rw [hst] at S
    replace hr := Lib.hid hr
    replace hst := Lib.hid hst
    go_enter Tryz.func116, Tryz.ntmps116
    go_wp2_with fail
    refine (S.out _).mono ?_
    rintro e w1 ⟨rfl, rfl⟩
    go_wp2_with fail
    go_ret
    exact ⟨by rw [rHexV, if_neg hend.out]; rfl, rfl⟩
  | true =>
    have hu := (starts_u s i).1 hst
    rw [hst] at S
    replace hst := Lib.hid hst
    by_cases h6 : i + 6 ≤ s.size
    · have h6' : (i : Int) + 6 ≤ (s.size : Int) := by omega
      have hrF : Hid (r = hexF s (i + 2) 4) := Lib.hid (by rw [hr, hexAt, if_pos hu])
      replace hr := Lib.hid hr
      replace hu := Lib.hid hu
      replace hs := Lib.hid hs
      replace hi := Lib.hid hi
      go_enter Tryz.func116, Tryz.ntmps116
      go_wp2_with fail
      refine (S.out _).mono ?_
      rintro e w1 ⟨rfl, rfl⟩
      go_wp2_with fail
      go_loop [5, 6] (fun v5 v6 => ∃ j : Nat, j ≤ 4 ∧ v6 = .int .i64 ((i + 2 + j : Nat) : Int) ∧ v5 = .int .i32 ((hexF s (i + 2) j : Nat) : Int) ∧ hexF s (i + 2) j < 65536) (fun _ v6 => i + 6 - (intOf v6).toNat)
      case atStart => exact ⟨0, by decide, by go_num, rfl, by show (0 : Nat) < 65536; decide⟩
      case round =>
        obtain ⟨j, hj, rfl, rfl, hlt⟩ := hrel
        by_cases h4 : j < 4
        · have hx := byte_at s (i + 2 + j)
          have hc := bAt_lt s (i + 2 + j)
          have hn : hexF s (i + 2) (j + 1) = if hexF s (i + 2) j < 65536 ∧ hexD (bAt s (i + 2 + j)) < 16 then hexF s (i + 2) j * 16 + hexD (bAt s (i + 2 + j)) else 65536 := rfl
          have D2 := Lib.hid (D1.out (bAt s (i + 2 + j)))
          have hb := hexF_ok s (i + 2) j hlt
          have h12 : hexF s (i + 2) j < 4096 := by
            have : 16 ^ j ≤ 16 ^ 3 := Nat.pow_le_pow_right (by decide) (by omega)
            have := hb.2
            omega
          have hr4 : Hid (hexD (bAt s (i + 2 + j)) = 16 → ¬ r < 65536) := Lib.hid (fun h16 h => by
            rw [hrF.out] at h
            have := (hexF_ok s (i + 2) 4 h).1 j h4
            omega)
          clear hb hrF
          generalize bAt s (i + 2 + j) = c at *
          generalize hexF s (i + 2) j = n at *
          by_cases hA : isD c = true
          · have hA2 := isD_iff.1 hA
            have hd : hexD c = c - 48 := by unfold hexD; rw [if_pos hA2]
            rw [hd, if_pos ⟨hlt, by omega⟩] at hn
            rw [hA] at D2
            replace hn := Lib.hid hn
            replace hA := Lib.hid hA
            replace hd := Lib.hid hd
            obtain ⟨hA3, hA4⟩ := hA2
            go_wp2_with fail
            refine (D2.out _).mono ?_
            rintro e w1 ⟨rfl, rfl⟩
            go_wp2_with fail
            go_round
            case rel => exact ⟨j + 1, by omega, by go_num, by rw [hn.out]; simp; omega, by rw [hn.out]; omega⟩
            case measure => simp [intOf]; omega
          · have hA1 : isD c = false := by rw [Bool.eq_false_iff]; exact hA
            have hA2 : ¬ (48 ≤ c ∧ c ≤ 57) := fun h => hA (isD_iff.2 h)
            rw [hA1] at D2
            replace hA := Lib.hid hA
            replace hA1 := Lib.hid hA1
            by_cases hB : 97 ≤ c ∧ c ≤ 102
            · have hd : hexD c = c - 87 := by unfold hexD; rw [if_neg hA2, if_pos hB]
              rw [hd, if_pos ⟨hlt, by omega⟩] at hn
              replace hn := Lib.hid hn
              replace hd := Lib.hid hd
              replace hA2 := Lib.hid hA2
              obtain ⟨hB1, hB2⟩ := hB
              go_wp2_with fail
              refine (D2.out _).mono ?_
              rintro e w1 ⟨rfl, rfl⟩
              go_wp2_with fail
              go_round
              case rel => exact ⟨j + 1, by omega, by go_num, by rw [hn.out]; simp; omega, by rw [hn.out]; omega⟩
              case measure => simp [intOf]; omega
            · by_cases hC : 65 ≤ c ∧ c ≤ 70
              · have hd : hexD c = c - 55 := by unfold hexD; rw [if_neg hA2, if_neg hB, if_pos hC]
                rw [hd, if_pos ⟨hlt, by omega⟩] at hn
                replace hn := Lib.hid hn
                replace hd := Lib.hid hd
                replace hA2 := Lib.hid hA2
                replace hB := Lib.hid hB
                obtain ⟨hC1, hC2⟩ := hC
                go_wp2_with fail
                refine (D2.out _).mono ?_
                rintro e w1 ⟨rfl, rfl⟩
                go_wp2_with fail
                go_round
                case rel => exact ⟨j + 1, by omega, by go_num, by rw [hn.out]; simp; omega, by rw [hn.out]; omega⟩
                case measure => simp [intOf]; omega
              · have hd : hexD c = 16 := by unfold hexD; rw [if_neg hA2, if_neg hB, if_neg hC]
                have hend := Lib.hid (hr4.out hd)
                replace hd := Lib.hid hd
                replace hn := Lib.hid hn
                replace hA2 := Lib.hid hA2
                have hB' : c < 97 ∨ 102 < c := by omega
                have hC' : c < 65 ∨ 70 < c := by omega
                replace hB := Lib.hid hB
                replace hC := Lib.hid hC
                rcases hB' with hB' | hB' <;> rcases hC' with hC' | hC' <;>
                · first
                  | (exfalso; omega)
                  | (go_wp2_with fail
                     refine (D2.out _).mono ?_
                     rintro e w1 ⟨rfl, rfl⟩
                     go_wp2_with fail
                     go_ret
                     exact ⟨by rw [rHexV, if_neg hend.out]; rfl, rfl⟩)
        · obtain rfl : j = 4 := by omega
          have hlt2 : r < 65536 := by rw [hrF.out]; exact hlt
          have hre : hexF s (i + 2) 4 = r := hrF.out.symm
          go_wp2_with fail
          go_ret
          exact ⟨by rw [rHexV, if_pos hlt2, hrF.out]; rfl, rfl⟩
    · have h6' : ¬ (i : Int) + 6 ≤ (s.size : Int) := by omega
      have hend : Hid (¬ r < 65536) := Lib.hid (fun h => by
        have := hexAt_ok (s := s) (i := i) (by omega)
        omega)
      replace hr := Lib.hid hr
      replace hu := Lib.hid hu
      go_enter Tryz.func116, Tryz.ntmps116
      go_wp2_with fail
      refine (S.out _).mono ?_
      rintro e w1 ⟨rfl, rfl⟩
      go_wp2_with fail
      go_ret
      exact ⟨by rw [rHexV, if_neg hend.out]; rfl, rfl⟩

end Go.Proofs.YtibopkodoidjoaaGreatDoor

/- The reference of chapter 17: escape. -/
namespace Go.Proofs.YtibopkodoidjoaaGreatDoor
open Go Go.RowKit

/-- What escape answers. -/
def rEscV (E : Nat × Nat × Nat) (i : Nat) : Value := if E.1 = 0 then .tuple #[.string (encS E.2.1), .int .i64 ((i + E.2.2 : Nat) : Int), .int .i64 0] else .tuple #[.string ⟨#[]⟩, .int .i64 0, .int .i64 (E.1 : Int)]
theorem rEscV_ok {E : Nat × Nat × Nat} {i x z : Nat} (h : E = (0, x, z)) : rEscV E i = .tuple #[.string (encS x), .int .i64 ((i + z : Nat) : Int), .int .i64 0] := by subst h; unfold rEscV; rw [if_pos rfl]
theorem rEscV_bad {E : Nat × Nat × Nat} {i k x z : Nat} (h : E = (k + 1, x, z)) : rEscV E i = .tuple #[.string ⟨#[]⟩, .int .i64 0, .int .i64 ((k + 1 : Nat) : Int)] := by subst h; unfold rEscV; rw [if_neg (by simp)]
def escNo (c : Nat) : Prop := c ≠ 34 ∧ c ≠ 92 ∧ c ≠ 47 ∧ c ≠ 98 ∧ c ≠ 102 ∧ c ≠ 110 ∧ c ≠ 114 ∧ c ≠ 116
theorem escAt_hex {s : ByteArray} {i : Nat} (h : escNo (bAt s (i + 1))) : escAt s i = if 65536 ≤ hexAt s i then (2, 0, 0)
  else if scalarN (hexAt s i) = true then (0, hexAt s i, 6)
  else if hexAt s i < 56320 ∧ 56320 ≤ hexAt s (i + 6) ∧ hexAt s (i + 6) ≤ 57343 then (0, 65536 + (hexAt s i - 55296) * 1024 + (hexAt s (i + 6) - 56320), 12)
  else (1, 0, 0) := by
  obtain ⟨h1, h2, h3, h4, h5, h6, h7, h8⟩ := h
  unfold escAt
  simp only
  rw [if_neg (by omega), if_neg h4, if_neg h5, if_neg h6, if_neg h7, if_neg h8]
theorem esc34 {s : ByteArray} {i : Nat} (h : bAt s (i + 1) = 34) : escAt s i = (0, 34, 2) := by unfold escAt; simp only; rw [h]; rfl
theorem esc92 {s : ByteArray} {i : Nat} (h : bAt s (i + 1) = 92) : escAt s i = (0, 92, 2) := by unfold escAt; simp only; rw [h]; rfl
theorem esc47 {s : ByteArray} {i : Nat} (h : bAt s (i + 1) = 47) : escAt s i = (0, 47, 2) := by unfold escAt; simp only; rw [h]; rfl
theorem esc98 {s : ByteArray} {i : Nat} (h : bAt s (i + 1) = 98) : escAt s i = (0, 8, 2) := by unfold escAt; simp only; rw [h]; rfl
theorem esc102 {s : ByteArray} {i : Nat} (h : bAt s (i + 1) = 102) : escAt s i = (0, 12, 2) := by unfold escAt; simp only; rw [h]; rfl
theorem esc110 {s : ByteArray} {i : Nat} (h : bAt s (i + 1) = 110) : escAt s i = (0, 10, 2) := by unfold escAt; simp only; rw [h]; rfl
theorem esc114 {s : ByteArray} {i : Nat} (h : bAt s (i + 1) = 114) : escAt s i = (0, 13, 2) := by unfold escAt; simp only; rw [h]; rfl
theorem esc116 {s : ByteArray} {i : Nat} (h : bAt s (i + 1) = 116) : escAt s i = (0, 9, 2) := by unfold escAt; simp only; rw [h]; rfl
theorem rHex_calls2 (s : ByteArray) (i : Nat) (w : World) (hs : s.size ≤ 140737488351232) (hi : i ≤ 140737488351300) :
    Calls Tryz.prog 116 #[.string s, .int .i64 (i : Int)] w fun e w' => e = .returned (.int .i32 (if hexAt s i < 65536 then (hexAt s i : Int) else -1)) ∧ w = w' := by
  refine (rHex_calls s i w hs hi).mono fun e w' ⟨h1, h2⟩ => ⟨?_, h2⟩
  rw [h1, rHexV]
  split <;> rfl
/-- The letters, by place. -/
def escF (j : Nat) : Nat := match j with | 0 => 34 | 1 => 92 | 2 => 47 | 3 => 98 | 4 => 102 | 5 => 110 | 6 => 114 | _ => 116
set_option maxHeartbeats 4000000 in
set_option maxRecDepth 100000 in
theorem rEscape_calls (s : ByteArray) (i : Nat) (w : World) (hs : s.size ≤ 140737488351232) (hi : i < s.size) :
    Calls Tryz.prog 95 #[.string s, .int .i64 (i : Int)] w fun e w' => e = .returned (rEscV (escAt s i) i) ∧ Below w.heap.size w w' := by
  have hs' : (s.size : Int) ≤ 140737488351232 := by omega
  have hi' : (i : Int) < (s.size : Int) := by omega
  have hx := byte_at s (i + 1)
  have H := Lib.hid (fun i w hi => rHex_calls2 s i w hs hi)
  obtain ⟨E, hEe⟩ : ∃ E, E = escAt s i := ⟨_, rfl⟩
  rw [← hEe]
  replace hEe := Lib.hid hEe
  replace hs := Lib.hid hs
  replace hi := Lib.hid hi
  go_enter Tryz.func95, Tryz.ntmps95
  go_upto_if 16 with fail
  go_cut [] (fun wx => escNo (bAt s (i + 1)) ∧ Below w.heap.size w wx)
  case first =>
    by_cases h1 : i + 1 < s.size
    · have h1' : (i : Int) + 1 < (s.size : Int) := by omega
      replace h1 := Lib.hid h1
      go_wp2_with fail
      go_loopw [9] (fun v wr => ∃ k : Nat, k ≤ 8 ∧ v = .int .i64 (k : Int) ∧ Hid (∀ j, j < k → bAt s (i + 1) ≠ escF j) ∧ Below w.heap.size w wr) (fun v _ => 8 - (intOf v).toNat)
      case atStart => exact ⟨0, by decide, rfl, Lib.hid (fun j hj => by omega), (by repeat (first | assumption | exact Below.refl _ _ | apply Below.drew | apply below_drewN | apply balloc | (refine Below.setCell ?_ (by first | omega | (simp <;> omega)) _)))⟩
      case round =>
        obtain ⟨k, hk, rfl, hno, hB⟩ := hrel
        rcases (show k = 0 ∨ k = 1 ∨ k = 2 ∨ k = 3 ∨ k = 4 ∨ k = 5 ∨ k = 6 ∨ k = 7 ∨ k = 8 by omega) with rfl | rfl | rfl | rfl | rfl | rfl | rfl | rfl | rfl
        · have hv : ∀ h, (((⟨#[34, 92, 47, 98, 102, 110, 114, 116]⟩ : ByteArray)[0]'h).toNat : Int) = 34 := fun _ => rfl
          by_cases hm : bAt s (i + 1) = 34
          · have hm' : ((bAt s (i + 1) : Int) == 34) = true := by simp; omega
            have he := rEscV_ok (i := i) (hEe.out.trans (esc34 hm))
            replace hm := Lib.hid hm
            replace he := Lib.hid he
            (go_wp2_with fail; repeat (any_goals (go_quiet (fail); go_wp2_with fail)))
            go_ret3
            exact ⟨by rw [he.out]; rfl, (by repeat (first | assumption | exact Below.refl _ _ | apply Below.drew | apply below_drewN | apply balloc | (refine Below.setCell ?_ (by first | omega | (simp <;> omega)) _)))⟩
          · have hm' : ((bAt s (i + 1) : Int) == 34) = false := by simp; omega
            replace hm := Lib.hid hm
            (go_wp2_with fail; repeat (any_goals (go_quiet (fail); go_wp2_with fail)))
            go_roundw
            case rel => exact ⟨0 + 1, by omega, rfl, Lib.hid (fun j hj => by
              rcases (show j < 0 ∨ j = 0 by omega) with h | h
              · exact hno.out j h
              · subst h; exact hm.out), (by repeat (first | assumption | exact Below.refl _ _ | apply Below.drew | apply below_drewN | apply balloc | (refine Below.setCell ?_ (by first | omega | (simp <;> omega)) _)))⟩
            case measure => simp [intOf]
        · have hv : ∀ h, (((⟨#[34, 92, 47, 98, 102, 110, 114, 116]⟩ : ByteArray)[1]'h).toNat : Int) = 92 := fun _ => rfl
          by_cases hm : bAt s (i + 1) = 92
          · have hm' : ((bAt s (i + 1) : Int) == 92) = true := by simp; omega
            have he := rEscV_ok (i := i) (hEe.out.trans (esc92 hm))
            replace hm := Lib.hid hm
            replace he := Lib.hid he
            (go_wp2_with fail; repeat (any_goals (go_quiet (fail); go_wp2_with fail)))
            go_ret3
            exact ⟨by rw [he.out]; rfl, (by repeat (first | assumption | exact Below.refl _ _ | apply Below.drew | apply below_drewN | apply balloc | (refine Below.setCell ?_ (by first | omega | (simp <;> omega)) _)))⟩
          · have hm' : ((bAt s (i + 1) : Int) == 92) = false := by simp; omega
            replace hm := Lib.hid hm
            (go_wp2_with fail; repeat (any_goals (go_quiet (fail); go_wp2_with fail)))
            go_roundw
            case rel => exact ⟨1 + 1, by omega, rfl, Lib.hid (fun j hj => by
              rcases (show j < 1 ∨ j = 1 by omega) with h | h
              · exact hno.out j h
              · subst h; exact hm.out), (by repeat (first | assumption | exact Below.refl _ _ | apply Below.drew | apply below_drewN | apply balloc | (refine Below.setCell ?_ (by first | omega | (simp <;> omega)) _)))⟩
            case measure => simp [intOf]
        · have hv : ∀ h, (((⟨#[34, 92, 47, 98, 102, 110, 114, 116]⟩ : ByteArray)[2]'h).toNat : Int) = 47 := fun _ => rfl
          by_cases hm : bAt s (i + 1) = 47
          · have hm' : ((bAt s (i + 1) : Int) == 47) = true := by simp; omega
            have he := rEscV_ok (i := i) (hEe.out.trans (esc47 hm))
            replace hm := Lib.hid hm
            replace he := Lib.hid he
            (go_wp2_with fail; repeat (any_goals (go_quiet (fail); go_wp2_with fail)))
            go_ret3
            exact ⟨by rw [he.out]; rfl, (by repeat (first | assumption | exact Below.refl _ _ | apply Below.drew | apply below_drewN | apply balloc | (refine Below.setCell ?_ (by first | omega | (simp <;> omega)) _)))⟩
          · have hm' : ((bAt s (i + 1) : Int) == 47) = false := by simp; omega
            replace hm := Lib.hid hm
            (go_wp2_with fail; repeat (any_goals (go_quiet (fail); go_wp2_with fail)))
            go_roundw
            case rel => exact ⟨2 + 1, by omega, rfl, Lib.hid (fun j hj => by
              rcases (show j < 2 ∨ j = 2 by omega) with h | h
              · exact hno.out j h
              · subst h; exact hm.out), (by repeat (first | assumption | exact Below.refl _ _ | apply Below.drew | apply below_drewN | apply balloc | (refine Below.setCell ?_ (by first | omega | (simp <;> omega)) _)))⟩
            case measure => simp [intOf]
        · have hv : ∀ h, (((⟨#[34, 92, 47, 98, 102, 110, 114, 116]⟩ : ByteArray)[3]'h).toNat : Int) = 98 := fun _ => rfl
          by_cases hm : bAt s (i + 1) = 98
          · have hm' : ((bAt s (i + 1) : Int) == 98) = true := by simp; omega
            have he := rEscV_ok (i := i) (hEe.out.trans (esc98 hm))
            replace hm := Lib.hid hm
            replace he := Lib.hid he
            (go_wp2_with fail; repeat (any_goals (go_quiet (fail); go_wp2_with fail)))
            go_ret3
            exact ⟨by rw [he.out]; rfl, (by repeat (first | assumption | exact Below.refl _ _ | apply Below.drew | apply below_drewN | apply balloc | (refine Below.setCell ?_ (by first | omega | (simp <;> omega)) _)))⟩
          · have hm' : ((bAt s (i + 1) : Int) == 98) = false := by simp; omega
            replace hm := Lib.hid hm
            (go_wp2_with fail; repeat (any_goals (go_quiet (fail); go_wp2_with fail)))
            go_roundw
            case rel => exact ⟨3 + 1, by omega, rfl, Lib.hid (fun j hj => by
              rcases (show j < 3 ∨ j = 3 by omega) with h | h
              · exact hno.out j h
              · subst h; exact hm.out), (by repeat (first | assumption | exact Below.refl _ _ | apply Below.drew | apply below_drewN | apply balloc | (refine Below.setCell ?_ (by first | omega | (simp <;> omega)) _)))⟩
            case measure => simp [intOf]
        · have hv : ∀ h, (((⟨#[34, 92, 47, 98, 102, 110, 114, 116]⟩ : ByteArray)[4]'h).toNat : Int) = 102 := fun _ => rfl
          by_cases hm : bAt s (i + 1) = 102
          · have hm' : ((bAt s (i + 1) : Int) == 102) = true := by simp; omega
            have he := rEscV_ok (i := i) (hEe.out.trans (esc102 hm))
            replace hm := Lib.hid hm
            replace he := Lib.hid he
            (go_wp2_with fail; repeat (any_goals (go_quiet (fail); go_wp2_with fail)))
            go_ret3
            exact ⟨by rw [he.out]; rfl, (by repeat (first | assumption | exact Below.refl _ _ | apply Below.drew | apply below_drewN | apply balloc | (refine Below.setCell ?_ (by first | omega | (simp <;> omega)) _)))⟩
          · have hm' : ((bAt s (i + 1) : Int) == 102) = false := by simp; omega
            replace hm := Lib.hid hm
            (go_wp2_with fail; repeat (any_goals (go_quiet (fail); go_wp2_with fail)))
            go_roundw
            case rel => exact ⟨4 + 1, by omega, rfl, Lib.hid (fun j hj => by
              rcases (show j < 4 ∨ j = 4 by omega) with h | h
              · exact hno.out j h
              · subst h; exact hm.out), (by repeat (first | assumption | exact Below.refl _ _ | apply Below.drew | apply below_drewN | apply balloc | (refine Below.setCell ?_ (by first | omega | (simp <;> omega)) _)))⟩
            case measure => simp [intOf]
        · have hv : ∀ h, (((⟨#[34, 92, 47, 98, 102, 110, 114, 116]⟩ : ByteArray)[5]'h).toNat : Int) = 110 := fun _ => rfl
          by_cases hm : bAt s (i + 1) = 110
          · have hm' : ((bAt s (i + 1) : Int) == 110) = true := by simp; omega
            have he := rEscV_ok (i := i) (hEe.out.trans (esc110 hm))
            replace hm := Lib.hid hm
            replace he := Lib.hid he
            (go_wp2_with fail; repeat (any_goals (go_quiet (fail); go_wp2_with fail)))
            go_ret3
            exact ⟨by rw [he.out]; rfl, (by repeat (first | assumption | exact Below.refl _ _ | apply Below.drew | apply below_drewN | apply balloc | (refine Below.setCell ?_ (by first | omega | (simp <;> omega)) _)))⟩
          · have hm' : ((bAt s (i + 1) : Int) == 110) = false := by simp; omega
            replace hm := Lib.hid hm
            (go_wp2_with fail; repeat (any_goals (go_quiet (fail); go_wp2_with fail)))
            go_roundw
            case rel => exact ⟨5 + 1, by omega, rfl, Lib.hid (fun j hj => by
              rcases (show j < 5 ∨ j = 5 by omega) with h | h
              · exact hno.out j h
              · subst h; exact hm.out), (by repeat (first | assumption | exact Below.refl _ _ | apply Below.drew | apply below_drewN | apply balloc | (refine Below.setCell ?_ (by first | omega | (simp <;> omega)) _)))⟩
            case measure => simp [intOf]
        · have hv : ∀ h, (((⟨#[34, 92, 47, 98, 102, 110, 114, 116]⟩ : ByteArray)[6]'h).toNat : Int) = 114 := fun _ => rfl
          by_cases hm : bAt s (i + 1) = 114
          · have hm' : ((bAt s (i + 1) : Int) == 114) = true := by simp; omega
            have he := rEscV_ok (i := i) (hEe.out.trans (esc114 hm))
            replace hm := Lib.hid hm
            replace he := Lib.hid he
            (go_wp2_with fail; repeat (any_goals (go_quiet (fail); go_wp2_with fail)))
            go_ret3
            exact ⟨by rw [he.out]; rfl, (by repeat (first | assumption | exact Below.refl _ _ | apply Below.drew | apply below_drewN | apply balloc | (refine Below.setCell ?_ (by first | omega | (simp <;> omega)) _)))⟩
          · have hm' : ((bAt s (i + 1) : Int) == 114) = false := by simp; omega
            replace hm := Lib.hid hm
            (go_wp2_with fail; repeat (any_goals (go_quiet (fail); go_wp2_with fail)))
            go_roundw
            case rel => exact ⟨6 + 1, by omega, rfl, Lib.hid (fun j hj => by
              rcases (show j < 6 ∨ j = 6 by omega) with h | h
              · exact hno.out j h
              · subst h; exact hm.out), (by repeat (first | assumption | exact Below.refl _ _ | apply Below.drew | apply below_drewN | apply balloc | (refine Below.setCell ?_ (by first | omega | (simp <;> omega)) _)))⟩
            case measure => simp [intOf]
        · have hv : ∀ h, (((⟨#[34, 92, 47, 98, 102, 110, 114, 116]⟩ : ByteArray)[7]'h).toNat : Int) = 116 := fun _ => rfl
          by_cases hm : bAt s (i + 1) = 116
          · have hm' : ((bAt s (i + 1) : Int) == 116) = true := by simp; omega
            have he := rEscV_ok (i := i) (hEe.out.trans (esc116 hm))
            replace hm := Lib.hid hm
            replace he := Lib.hid he
            (go_wp2_with fail; repeat (any_goals (go_quiet (fail); go_wp2_with fail)))
            go_ret3
            exact ⟨by rw [he.out]; rfl, (by repeat (first | assumption | exact Below.refl _ _ | apply Below.drew | apply below_drewN | apply balloc | (refine Below.setCell ?_ (by first | omega | (simp <;> omega)) _)))⟩
          · have hm' : ((bAt s (i + 1) : Int) == 116) = false := by simp; omega
            replace hm := Lib.hid hm
            (go_wp2_with fail; repeat (any_goals (go_quiet (fail); go_wp2_with fail)))
            go_roundw
            case rel => exact ⟨7 + 1, by omega, rfl, Lib.hid (fun j hj => by
              rcases (show j < 7 ∨ j = 7 by omega) with h | h
              · exact hno.out j h
              · subst h; exact hm.out), (by repeat (first | assumption | exact Below.refl _ _ | apply Below.drew | apply below_drewN | apply balloc | (refine Below.setCell ?_ (by first | omega | (simp <;> omega)) _)))⟩
            case measure => simp [intOf]
        · (go_wp2_with fail; repeat (any_goals (go_quiet (fail); go_wp2_with fail)))
          go_meet
          have h := hno.out
          exact ⟨⟨h 0 (by omega), h 1 (by omega), h 2 (by omega), h 3 (by omega), h 4 (by omega), h 5 (by omega), h 6 (by omega), h 7 (by omega)⟩, (by repeat (first | assumption | exact Below.refl _ _ | apply Below.drew | apply below_drewN | apply balloc | (refine Below.setCell ?_ (by first | omega | (simp <;> omega)) _)))⟩
    · have h1' : ¬ (i : Int) + 1 < (s.size : Int) := by omega
      have h0 : bAt s (i + 1) = 0 := bAt_ge s (i + 1) (by omega)
      replace h1 := Lib.hid h1
      replace h0 := Lib.hid h0
      go_wp2_with fail
      go_meet
      exact ⟨by rw [h0.out]; unfold escNo; decide, (by repeat (first | assumption | exact Below.refl _ _ | apply Below.drew | apply below_drewN | apply balloc | (refine Below.setCell ?_ (by first | omega | (simp <;> omega)) _)))⟩
  case rest =>
    rename_i wx
    obtain ⟨hno, hB⟩ := hcut
    have hE := hEe.out.trans (escAt_hex hno)
    clear hx hno
    have H1 := Lib.hid (fun w => H.out i w (by have := hs.out; have := hi.out; omega))
    have H2 := Lib.hid (fun w => H.out (i + 6) w (by have := hs.out; have := hi.out; omega))
    clear H
    generalize hexAt s i = h at *
    generalize hexAt s (i + 6) = l at *
    obtain ⟨r, hr⟩ : ∃ r : Int, r = (h : Int) := ⟨_, rfl⟩
    obtain ⟨q, hq⟩ : ∃ q : Int, q = (l : Int) := ⟨_, rfl⟩
    have r0 : 0 ≤ r := by omega
    by_cases c1 : h < 65536
    · replace H1 : Hid (∀ w, Calls Tryz.prog 116 #[.string s, .int .i64 (i : Int)] w fun e w' => e = .returned (.int .i32 r) ∧ w = w') := Lib.hid (fun w => by have := H1.out w; rwa [if_pos c1, ← hr] at this)
      rw [if_neg (by omega)] at hE
      have c1' : r < 65536 := by omega
      replace c1 := Lib.hid c1
      by_cases c2 : h < 55296
      · have c2' : r < 55296 := by omega
        rw [if_pos (scalarN_iff.2 (Or.inl c2))] at hE
        have he := rEscV_ok (i := i) hE
        have hv : Hid (r.toNat = h) := Lib.hid (by omega)
        have C := Lib.hid (fun w => Encode_calls r w r0 (by omega))
        replace c2 := Lib.hid c2
        replace he := Lib.hid he
        replace hE := Lib.hid hE
        replace hr := Lib.hid hr
        replace hq := Lib.hid hq
        (go_wp2_with fail; repeat (any_goals (go_quiet (fail); go_wp2_with fail)))
        refine (H1.out _).mono ?_
        rintro e w1 ⟨rfl, rfl⟩
        (go_wp2_with fail; repeat (any_goals (go_quiet (fail); go_wp2_with fail)))
        refine (C.out _).mono ?_
        rintro e w2 ⟨rfl, hb⟩
        have hb2 := hB.trans (hb.mono hB.size)
        (go_wp2_with fail; repeat (any_goals (go_quiet (fail); go_wp2_with fail)))
        go_ret3
        exact ⟨by rw [he.out, hv.out]; rfl, hb2⟩
      · by_cases c3 : 57344 ≤ h
        · have c3' : 57344 ≤ r := by omega
          rw [if_pos (scalarN_iff.2 (Or.inr ⟨c3, by have := c1.out; omega⟩))] at hE
          have he := rEscV_ok (i := i) hE
          have hv : Hid (r.toNat = h) := Lib.hid (by omega)
          have C := Lib.hid (fun w => Encode_calls r w r0 (by omega))
          replace c2 := Lib.hid c2
          replace c3 := Lib.hid c3
          replace he := Lib.hid he
          replace hE := Lib.hid hE
          replace hr := Lib.hid hr
          replace hq := Lib.hid hq
          (go_wp2_with fail; repeat (any_goals (go_quiet (fail); go_wp2_with fail)))
          refine (H1.out _).mono ?_
          rintro e w1 ⟨rfl, rfl⟩
          (go_wp2_with fail; repeat (any_goals (go_quiet (fail); go_wp2_with fail)))
          refine (C.out _).mono ?_
          rintro e w2 ⟨rfl, hb⟩
          have hb2 := hB.trans (hb.mono hB.size)
          (go_wp2_with fail; repeat (any_goals (go_quiet (fail); go_wp2_with fail)))
          go_ret3
          exact ⟨by rw [he.out, hv.out]; rfl, hb2⟩
        · rw [if_neg (fun hx => by have := scalarN_iff.1 hx; omega)] at hE
          by_cases c4 : 56320 ≤ h
          · have c4' : 56320 ≤ r := by omega
            have c3' : r ≤ 57343 := by omega
            rw [if_neg (by omega)] at hE
            have he := rEscV_bad (i := i) hE
            replace c2 := Lib.hid c2
            replace c3 := Lib.hid c3
            replace c4 := Lib.hid c4
            replace he := Lib.hid he
            replace hE := Lib.hid hE
            replace hr := Lib.hid hr
            replace hq := Lib.hid hq
            (go_wp2_with fail; repeat (any_goals (go_quiet (fail); go_wp2_with fail)))
            refine (H1.out _).mono ?_
            rintro e w1 ⟨rfl, rfl⟩
            (go_wp2_with fail; repeat (any_goals (go_quiet (fail); go_wp2_with fail)))
            go_ret3
            exact ⟨by rw [he.out]; rfl, (by repeat (first | assumption | exact Below.refl _ _ | apply Below.drew | apply below_drewN | apply balloc | (refine Below.setCell ?_ (by first | omega | (simp <;> omega)) _)))⟩
          · have c4' : ¬ 56320 ≤ r := by omega
            have c2' : 55296 ≤ r := by omega
            have c3' : r ≤ 56319 := by omega
            by_cases c5 : 56320 ≤ l ∧ l ≤ 57343
            · obtain ⟨d1, d2⟩ := c5
              replace H2 : Hid (∀ w, Calls Tryz.prog 116 #[.string s, .int .i64 ((i : Int) + 6)] w fun e w' => e = .returned (.int .i32 q) ∧ w = w') := Lib.hid (fun w => by have := H2.out w; rwa [if_pos (show l < 65536 by omega), ← hq] at this)
              have d1' : 56320 ≤ q := by omega
              have d2' : q ≤ 57343 := by omega
              rw [if_pos ⟨by omega, d1, d2⟩] at hE
              have he := rEscV_ok (i := i) hE
              have hv : Hid ((65536 + (r - 55296) * 1024 + q - 56320).toNat = 65536 + (h - 55296) * 1024 + (l - 56320)) := Lib.hid (by omega)
              have C := Lib.hid (fun w => Encode_calls (65536 + (r - 55296) * 1024 + q - 56320) w (by omega) (by omega))
              replace c2 := Lib.hid c2
              replace c3 := Lib.hid c3
              replace c4 := Lib.hid c4
              replace d1 := Lib.hid d1
              replace d2 := Lib.hid d2
              replace he := Lib.hid he
              replace hE := Lib.hid hE
              replace hr := Lib.hid hr
              replace hq := Lib.hid hq
              (go_wp2_with fail; repeat (any_goals (go_quiet (fail); go_wp2_with fail)))
              refine (H1.out _).mono ?_
              rintro e w1 ⟨rfl, rfl⟩
              (go_wp2_with fail; repeat (any_goals (go_quiet (fail); go_wp2_with fail)))
              refine (H2.out _).mono ?_
              rintro e w1 ⟨rfl, rfl⟩
              (go_wp2_with fail; repeat (any_goals (go_quiet (fail); go_wp2_with fail)))
              refine (C.out _).mono ?_
              rintro e w2 ⟨rfl, hb⟩
              have hb2 := hB.trans (hb.mono hB.size)
              (go_wp2_with fail; repeat (any_goals (go_quiet (fail); go_wp2_with fail)))
              go_ret3
              exact ⟨by rw [he.out, hv.out]; rfl, hb2⟩
            · rw [if_neg (fun hx => c5 hx.2)] at hE
              have he := rEscV_bad (i := i) hE
              obtain ⟨q2, hq2⟩ : ∃ q2 : Int, q2 = if l < 65536 then (l : Int) else -1 := ⟨_, rfl⟩
              replace H2 : Hid (∀ w, Calls Tryz.prog 116 #[.string s, .int .i64 ((i : Int) + 6)] w fun e w' => e = .returned (.int .i32 q2) ∧ w = w') := Lib.hid (fun w => by have := H2.out w; rwa [← hq2] at this)
              have hcase : q2 < 56320 ∨ (56320 ≤ q2 ∧ 57343 < q2) := by
                rw [hq2]; split <;> omega
              replace hq2 := Lib.hid hq2
              replace c2 := Lib.hid c2
              replace c3 := Lib.hid c3
              replace c4 := Lib.hid c4
              replace c5 := Lib.hid c5
              replace he := Lib.hid he
              replace hE := Lib.hid hE
              replace hr := Lib.hid hr
              replace hq := Lib.hid hq
              rcases hcase with k1 | ⟨k1, k2⟩
              · (go_wp2_with fail; repeat (any_goals (go_quiet (fail); go_wp2_with fail)))
                refine (H1.out _).mono ?_
                rintro e w1 ⟨rfl, rfl⟩
                (go_wp2_with fail; repeat (any_goals (go_quiet (fail); go_wp2_with fail)))
                refine (H2.out _).mono ?_
                rintro e w1 ⟨rfl, rfl⟩
                (go_wp2_with fail; repeat (any_goals (go_quiet (fail); go_wp2_with fail)))
                go_ret3
                exact ⟨by rw [he.out]; rfl, (by repeat (first | assumption | exact Below.refl _ _ | apply Below.drew | apply below_drewN | apply balloc | (refine Below.setCell ?_ (by first | omega | (simp <;> omega)) _)))⟩
              · (go_wp2_with fail; repeat (any_goals (go_quiet (fail); go_wp2_with fail)))
                refine (H1.out _).mono ?_
                rintro e w1 ⟨rfl, rfl⟩
                (go_wp2_with fail; repeat (any_goals (go_quiet (fail); go_wp2_with fail)))
                refine (H2.out _).mono ?_
                rintro e w1 ⟨rfl, rfl⟩
                (go_wp2_with fail; repeat (any_goals (go_quiet (fail); go_wp2_with fail)))
                go_ret3
                exact ⟨by rw [he.out]; rfl, (by repeat (first | assumption | exact Below.refl _ _ | apply Below.drew | apply below_drewN | apply balloc | (refine Below.setCell ?_ (by first | omega | (simp <;> omega)) _)))⟩
    · replace H1 : Hid (∀ w, Calls Tryz.prog 116 #[.string s, .int .i64 (i : Int)] w fun e w' => e = .returned (.int .i32 (-1)) ∧ w = w') := Lib.hid (fun w => by have := H1.out w; rwa [if_neg c1] at this)
      rw [if_pos (by omega)] at hE
      have he := rEscV_bad (i := i) hE
      replace he := Lib.hid he
      replace hE := Lib.hid hE
      replace hr := Lib.hid hr
      replace hq := Lib.hid hq
      replace c1 := Lib.hid c1
      (go_wp2_with fail; repeat (any_goals (go_quiet (fail); go_wp2_with fail)))
      refine (H1.out _).mono ?_
      rintro e w1 ⟨rfl, rfl⟩
      (go_wp2_with fail; repeat (any_goals (go_quiet (fail); go_wp2_with fail)))
      go_ret3
      exact ⟨by rw [he.out]; rfl, (by repeat (first | assumption | exact Below.refl _ _ | apply Below.drew | apply below_drewN | apply balloc | (refine Below.setCell ?_ (by first | omega | (simp <;> omega)) _)))⟩

end Go.Proofs.YtibopkodoidjoaaGreatDoor

/- Lists of bytes that a call makes: append and string(..). -/
namespace Go.Proofs.YtibopkodoidjoaaGreatDoor
open Go Go.RowKit

def u8c (l : List UInt8) : List Value := l.map fun b => Value.int .u8 (b.toNat : Int)
theorem u8c_append (l m : List UInt8) : u8c (l ++ m) = u8c l ++ u8c m := List.map_append
theorem u8c_len (l : List UInt8) : (u8c l).length = l.length := List.length_map ..
/-- v is a list of bytes of the call's own, in a block from base on. -/
def OwnB (w : World) (base : Nat) (v : Value) (l : List UInt8) : Prop := w.ownsRow base 5 1 v l.length (u8c l)
theorem OwnB.nil (w : World) (base : Nat) : OwnB w base (.slice none 0 0) [] := World.ownsRow_nil _ _ _ _
theorem OwnB.next {w w' : World} {base : Nat} {v : Value} {l : List UInt8} (h : OwnB w base v l) (hb : Below w.heap.size w w') : OwnB w' base v l := own_next h hb
theorem OwnB.lit {w : World} {base : Nat} (l : List UInt8) (cs : Array Value) (hcs : cs = (u8c l).toArray) (hb : base ≤ w.heap.size) (hm : l.length ≤ maxLen) {k c : Nat} (hk : k = l.length) (hc : c = l.length) : OwnB (w.alloc (.cells cs 5 (0, 0))) base (.slice (some ⟨w.heap.size, 0, none⟩) k c) l := by
  subst hcs hk hc
  refine ⟨by rw [u8c_len]; omega, Or.inr ⟨w.heap.size, l.length, (u8c l).toArray, rfl, hb, heap_alloc_new w _, Nat.le_refl _, hm, by simp [u8c], ?_⟩⟩
  rw [Nat.mul_one]
  exact List.take_of_length_le (by simp [u8c])
theorem OwnB.lt {w : World} {base : Nat} {v : Value} {l : List UInt8} (h : OwnB w base v l) : ∀ k, v.ownBlock = some k → base ≤ k := fun k hk => (World.ownsRow.lt h k hk).1
theorem infoU8 : (Tryz.prog.info? 5).map (fun i => (i.zero, i.size, i.bytes)) = some (some (.int .u8 0), 1, 1) := by kernel_rfl
section
variable {ops : Array Oper} {rest : List Oper} {o : Oper} {a : Act} {Q : Exit → Act → World → Prop} {w : World}
/-- append(b, s...) of a text. -/
theorem app_str (hgd : o.guard = none) (sl x : Operand) (ho : o.op = .call { callee := .builtin .append, args := #[sl, x], argTypes := #[104, 9] }) (base : Nat) (v : Value) (l : List UInt8) (hs : a.eval sl = v) (hown : OwnB w base v l)
    (s : ByteArray) (hx : a.eval x = .string s) (hlen : l.length + s.size ≤ 140737488355328) (hbase : base ≤ w.heap.size)
    (h : ∀ v' w', OwnB w' base v' (l ++ s.data.toList) → w.grownBy w' v.ownBlock → wpList Tryz.prog ops Q rest (a.put o.dst v') w') : wpList Tryz.prog ops Q (o :: rest) a w := by
  obtain ⟨i0, hi, hi2⟩ := Option.map_eq_some_iff.1 infoU8
  simp only [Prod.mk.injEq] at hi2
  refine Lib.wpList_append_own_string _ hgd sl x 104 9 ho base 5 i0 Tryz.underlying104 Tryz.underlying9 hi hi2.1 hi2.2.1 hi2.2.2 v l.length (u8c l) hs hown s hx (by unfold maxLen; omega) hlen hbase ?_
  intro v' w' h1 h2 _
  refine h v' w' ?_ h2
  unfold OwnB
  rw [u8c_append, List.length_append]
  have : s.data.toList.length = s.size := by rw [Array.length_toList]; rfl
  rw [this]
  exact h1
/-- append(b, c, ..): the new bytes lie in a block of their own. -/
theorem app_lit (hgd : o.guard = none) (sl x : Operand) (ho : o.op = .call { callee := .builtin .append, args := #[sl, x], argTypes := #[104, 104] }) (base : Nat) (v : Value) (l : List UInt8) (hs : a.eval sl = v) (hown : OwnB w base v l)
    (g k c : Nat) (cs : Array Value) (t : TypeId) (fr : Nat × Nat) (news : List UInt8) (hx : a.eval x = .slice (some ⟨g, 0, none⟩) k c) (hg : w.heap[g]? = some (.cells cs t fr)) (hcs : cs = (u8c news).toArray) (hk : news.length = k)
    (hlen : l.length + k ≤ 140737488355328) (hbase : base ≤ w.heap.size)
    (h : ∀ v' w', OwnB w' base v' (l ++ news) → w.grownBy w' v.ownBlock → wpList Tryz.prog ops Q rest (a.put o.dst v') w') : wpList Tryz.prog ops Q (o :: rest) a w := by
  obtain ⟨i0, hi, hi2⟩ := Option.map_eq_some_iff.1 infoU8
  simp only [Prod.mk.injEq] at hi2
  refine wpList_append_own _ hgd sl x 104 ho base 5 i0 (.int .u8 0) 1 1 Tryz.underlying104 hi hi2.1 hi2.2.1 hi2.2.2 rfl (by decide) v l.length (u8c l) hs hown ⟨g, 0, none⟩ k c (u8c news) hx (by rw [u8c_len]; omega) ?_ ?_ (by unfold maxLen; omega) (by omega) hbase ?_
  · intro j u hj
    have : (⟨g, 0, none⟩ : Addr).add j = ⟨g, j, none⟩ := by simp only [Addr.add, Nat.zero_add]; split <;> simp_all
    rw [this]
    refine cellB hg j ?_
    rw [hcs, List.getElem?_toArray]
    exact hj
  · intro u hu
    obtain ⟨b, _, rfl⟩ := List.mem_map.1 hu
    rfl
  · intro v' w' h1 h2 _
    refine h v' w' ?_ h2
    unfold OwnB
    rw [u8c_append, List.length_append, hk]
    exact h1
end
theorem conv_own {w : World} {base : Nat} {v : Value} {l : List UInt8} (h : OwnB w base v l) : (convert 104 9 v).run Tryz.prog w = .ok (.string ⟨l.toArray⟩) w := by
  obtain ⟨h1, ⟨rfl, h3⟩ | ⟨g, cap, cur, rfl, hbg, hg, hn, hc, hz, ht⟩⟩ := h
  · have : l = [] := List.eq_nil_of_length_eq_zero h3
    subst this
    exact run_convert_bytes_nil w _ 5 Tryz.underlying104 Tryz.underlying5 0 0 _ Tryz.underlying9
  · have := run_convert_bytes_arg w 104 5 Tryz.underlying104 Tryz.underlying5 g 0 l.length cap (l.map fun b => (b.toNat : Int)) (List.length_map ..) (fun i hi => by
      rw [Nat.zero_add]
      refine cellB hg i ?_
      have h2 : (cur.toList.take (l.length * 1))[i]? = (u8c l)[i]? := by rw [ht]
      rw [Nat.mul_one, List.getElem?_take_of_lt hi, Array.getElem?_toList] at h2
      rw [h2]
      unfold u8c
      simp [List.getElem?_eq_getElem hi]) _ Tryz.underlying9
    rw [this]
    have e : (l.map fun b => (b.toNat : Int)).map (fun n => UInt8.ofNat n.toNat) = l := by
      rw [List.map_map]
      conv => rhs; rw [← List.map_id l]
      apply List.map_congr_left
      intro b _
      show UInt8.ofNat ((b.toNat : Int).toNat) = b
      simp
    unfold strOfNums
    rw [e]
theorem below_own {w w1 w2 : World} {base : Nat} {v : Value} {l : List UInt8} (h1 : Below base w w1) (ho : OwnB w1 base v l) (hg : w1.grownBy w2 v.ownBlock) (hb : base ≤ w1.heap.size) : Below base w w2 := h1.grown hg hb (fun k hk => ho.lt k hk)

end Go.Proofs.YtibopkodoidjoaaGreatDoor

/- The reference of chapter 17: quoted. -/
namespace Go.Proofs.YtibopkodoidjoaaGreatDoor
open Go Go.RowKit

/-- What quoted answers. -/
def rQV (R : Nat × Nat × List UInt8) : Value := if R.1 = 0 then .tuple #[.string ⟨R.2.2.toArray⟩, .int .i64 (R.2.1 : Int), .int .i64 0, .int .i64 0] else .tuple #[.string ⟨#[]⟩, .int .i64 0, .int .i64 (R.1 : Int), .int .i64 (R.2.1 : Int)]
theorem rQV_ok {R : Nat × Nat × List UInt8} {p : Nat} {l : List UInt8} (h : R = (0, p, l)) : rQV R = .tuple #[.string ⟨l.toArray⟩, .int .i64 (p : Int), .int .i64 0, .int .i64 0] := by subst h; unfold rQV; rw [if_pos rfl]
theorem rQV_bad {R : Nat × Nat × List UInt8} {k p : Nat} {l : List UInt8} (h : R = (k + 1, p, l)) : rQV R = .tuple #[.string ⟨#[]⟩, .int .i64 0, .int .i64 ((k + 1 : Nat) : Int), .int .i64 (p : Int)] := by subst h; unfold rQV; rw [if_neg (by simp)]
set_option maxHeartbeats 4000000 in
set_option maxRecDepth 100000 in
theorem rQuoted_calls (s : ByteArray) (i : Nat) (w : World) (hs : s.size ≤ 35184372088830) (hi : i < s.size) :
    Calls Tryz.prog 79 #[.string s, .int .i64 (i : Int)] w fun e w' => e = .returned (rQV (qAt s (i + 1) [])) ∧ Below w.heap.size w w' := by
  have hs' : (s.size : Int) ≤ 35184372088830 := by omega
  have hi' : (i : Int) < (s.size : Int) := by omega
  have C := Lib.hid (fun i w hi => rEscape_calls s i w (by omega) hi)
  obtain ⟨R, hR⟩ : ∃ R, R = qAt s (i + 1) [] := ⟨_, rfl⟩
  rw [← hR]
  replace hR := Lib.hid hR
  replace hs := Lib.hid hs
  replace hi := Lib.hid hi
  go_enter Tryz.func79, Tryz.ntmps79
  (go_wp2_with fail; repeat (any_goals (go_quiet (fail); go_wp2_with fail)))
  go_loopg [1, 8] (s.size + 1) (fun kq v1 v8 w' => ∃ (k : Nat) (l : List UInt8), v1 = .int .i64 (k : Int) ∧ Hid (qAt s k l = R ∧ k ≤ s.size ∧ l.length ≤ k ∧ kq + k ≥ s.size + 1 ∧ OwnB w' w.heap.size v8 l) ∧ Below w.heap.size w w')
  case atStart => exact ⟨i + 1, [], by go_num, Lib.hid ⟨hR.out.symm, hi.out, Nat.zero_le _, by omega, OwnB.nil _ _⟩, (by repeat (first | assumption | exact Below.refl _ _ | apply Below.drew | apply below_drewN | apply balloc | (refine Below.setCell ?_ (by first | omega | (simp <;> omega)) _)))⟩
  case round =>
    obtain ⟨k, l, rfl, H, hB⟩ := hrel
    have hk := H.out.2.1
    have hx := byte_at s k
    have hq := Lib.hid (qAt_eq s k l)
    by_cases hlt : k < s.size
    · have hlt' : (k : Int) < (s.size : Int) := by omega
      have hq2 := hq.out
      rw [if_pos hlt, H.out.1] at hq2
      clear hq
      have hB8 := bAt_lt s k
      by_cases h34 : bAt s k = 34
      · have h34' : ((bAt s k : Int) == 34) = true := by simp; omega
        rw [if_pos h34] at hq2
        have he := Lib.hid (rQV_ok hq2)
        have hcv := conv_own H.out.2.2.2.2
        replace h34 := Lib.hid h34
        replace hq2 := Lib.hid hq2
        replace hlt := Lib.hid hlt
        (go_wp2_with fail; repeat (any_goals (go_quiet (fail); go_wp2_with fail)))
        refine bodyPost_ret (v := .tuple #[.string ⟨l.toArray⟩, .int .i64 ((k : Int) + 1), .int .i64 0, .int .i64 0]) (by simp [results, Tryz.results79, go_sem]) rfl ⟨by rw [he.out]; rfl, (by repeat (first | assumption | exact Below.refl _ _ | apply Below.drew | apply below_drewN | apply balloc | (refine Below.setCell ?_ (by first | omega | (simp <;> omega)) _)))⟩
      · have h34' : ((bAt s k : Int) == 34) = false := by simp; omega
        rw [if_neg h34] at hq2
        replace h34 := Lib.hid h34
        by_cases h32 : bAt s k < 32
        · have h32' : (bAt s k : Int) < 32 := by omega
          rw [if_pos h32] at hq2
          have he := Lib.hid (rQV_bad hq2)
          replace h32 := Lib.hid h32
          replace hq2 := Lib.hid hq2
          replace hlt := Lib.hid hlt
          (go_wp2_with fail; repeat (any_goals (go_quiet (fail); go_wp2_with fail)))
          refine bodyPost_ret (v := .tuple #[.string ⟨#[]⟩, .int .i64 0, .int .i64 2, .int .i64 (k : Int)]) (by simp [results, Tryz.results79, go_sem]) rfl ⟨by rw [he.out]; rfl, (by repeat (first | assumption | exact Below.refl _ _ | apply Below.drew | apply below_drewN | apply balloc | (refine Below.setCell ?_ (by first | omega | (simp <;> omega)) _)))⟩
        · have h32' : ¬ (bAt s k : Int) < 32 := by omega
          rw [if_neg h32] at hq2
          replace h32 := Lib.hid h32
          by_cases h92 : bAt s k = 92
          · have h92' : ((bAt s k : Int) == 92) = true := by simp; omega
            rw [if_pos h92] at hq2
            have D := Lib.hid (fun w => C.out k w hlt)
            clear C
            cases hE : escAt s k with
            | mk e xz =>
              obtain ⟨x, z⟩ := xz
              rw [hE] at hq2
              cases e with
              | zero =>
                rw [if_pos rfl] at hq2
                simp only at hq2
                have hok := escAt_ok h92 (by rw [hE])
                have hen := enc_esc s k h92 (by rw [hE])
                rw [← encN_len] at hen
                rw [hE] at hok hen
                simp only at hok hen
                have hV : rEscV (escAt s k) k = .tuple #[.string (encS x), .int .i64 ((k + z : Nat) : Int), .int .i64 0] := rEscV_ok hE
                replace D : Hid (∀ w, Calls Tryz.prog 95 #[.string s, .int .i64 (k : Int)] w fun e w' => e = .returned (.tuple #[.string (encS x), .int .i64 ((k + z : Nat) : Int), .int .i64 0]) ∧ Below w.heap.size w w') := Lib.hid (fun w => by have := D.out w; rwa [hV] at this)
                have hel : Hid ((encS x).size = (encN x).length) := Lib.hid (by show ((encN x).map UInt8.ofNat).toArray.size = _; simp)
                replace h92 := Lib.hid h92
                replace hq2 := Lib.hid hq2
                replace hlt := Lib.hid hlt
                replace hE := Lib.hid hE
                replace hV := Lib.hid hV
                replace hok := Lib.hid hok
                replace hen := Lib.hid hen
                (go_wp2_with fail; repeat (any_goals (go_quiet (fail); go_wp2_with fail)))
                refine (D.out _).mono ?_
                rintro e w1 ⟨rfl, hb⟩
                have ho1 := Lib.hid (H.out.2.2.2.2.next hb)
                have hb1 := hB.trans (hb.mono hB.size)
                clear hb
                go_wp2_with (at_builtin; refine app_str rfl _ _ rfl w.heap.size _ l rfl ho1.out (encS x) rfl (by have := H.out.2.2.1; have := hel.out; have := hen.out; have := hok.out; have := hs.out; omega) hb1.size ?_; intro v' w2 ho2 hg)
                have hb2 := below_own hb1 ho1.out hg hb1.size
                replace ho2 := Lib.hid ho2
                clear hg
                (go_wp2_with fail; repeat (any_goals (go_quiet (fail); go_wp2_with fail)))
                go_roundg (s.size + 1 - (k + z))
                case measure => have := H.out.2.2.2.1; have := hok.out; omega
                case rel =>
                  have h3 := H.out.2.2.1
                  have h4 := H.out.2.2.2.1
                  have h5 := hen.out
                  have h6 := hok.out
                  refine ⟨k + z, l ++ (encN x).map UInt8.ofNat, rfl, Lib.hid ⟨hq2.out.symm, h6.1, by rw [List.length_append, List.length_map]; omega, by omega, ho2.out⟩, by assumption⟩
              | succ e =>
                rw [if_neg (by simp)] at hq2
                simp only at hq2
                have he := Lib.hid (rQV_bad hq2)
                have hV : rEscV (escAt s k) k = .tuple #[.string ⟨#[]⟩, .int .i64 0, .int .i64 ((e + 1 : Nat) : Int)] := rEscV_bad hE
                replace D : Hid (∀ w, Calls Tryz.prog 95 #[.string s, .int .i64 (k : Int)] w fun r w' => r = .returned (.tuple #[.string ⟨#[]⟩, .int .i64 0, .int .i64 ((e + 1 : Nat) : Int)]) ∧ Below w.heap.size w w') := Lib.hid (fun w => by have := D.out w; rwa [hV] at this)
                have hne : (((e + 1 : Nat) : Int) == 0) = false := by simp; omega
                have hne2 : (((e + 1 : Nat) : Int) != 0) = true := by simp; omega
                replace h92 := Lib.hid h92
                replace hq2 := Lib.hid hq2
                replace hlt := Lib.hid hlt
                replace hE := Lib.hid hE
                replace hV := Lib.hid hV
                generalize ((e + 1 : Nat) : Int) = e1 at *
                (go_wp2_with fail; repeat (any_goals (go_quiet (fail); go_wp2_with fail)))
                refine (D.out _).mono ?_
                rintro e w1 ⟨rfl, hb⟩
                have hb1 := hB.trans (hb.mono hB.size)
                clear hb
                (go_wp2_with fail; repeat (any_goals (go_quiet (fail); go_wp2_with fail)))
                refine bodyPost_ret (v := .tuple #[.string ⟨#[]⟩, .int .i64 0, .int .i64 e1, .int .i64 (k : Int)]) (by simp [results, Tryz.results79, go_sem]) rfl ⟨by rw [he.out], hb1⟩
          · have h92' : ((bAt s k : Int) == 92) = false := by simp; omega
            rw [if_neg h92] at hq2
            replace h92 := Lib.hid h92
            replace hq2 := Lib.hid hq2
            replace hlt := Lib.hid hlt
            have ho1 := Lib.hid H.out.2.2.2.2
            have hz := hB.size
            go_wp2_with (at_builtin; refine app_lit rfl _ _ rfl w.heap.size _ l rfl (World.ownsRow.alloc ho1.out _) _ 1 1 _ _ _ [UInt8.ofNat (bAt s k)] rfl (heap_alloc_new _ _) ?c1 rfl (by have := H.out.2.2.1; have := hs.out; omega) (by simp; omega) ?_)
            case c1 => simp [u8c]; omega
            intro v' w2 ho2 hg
            have hb2 := below_own (hB.alloc hz _) (World.ownsRow.alloc ho1.out _) hg (by simp; omega)
            replace ho2 := Lib.hid ho2
            clear hg
            (go_wp2_with fail; repeat (any_goals (go_quiet (fail); go_wp2_with fail)))
            go_roundg (s.size + 1 - (k + 1))
            case measure => have := H.out.2.2.2.1; omega
            case rel =>
              have h3 := H.out.2.2.1
              have h4 := H.out.2.2.2.1
              refine ⟨k + 1, l ++ [UInt8.ofNat (bAt s k)], by go_num, Lib.hid ⟨hq2.out.symm, hlt.out, by rw [List.length_append, List.length_singleton]; omega, by omega, ho2.out⟩, by assumption⟩
    · have hlt' : ¬ (k : Int) < (s.size : Int) := by omega
      have hq2 := hq.out
      rw [if_neg hlt, H.out.1] at hq2
      have he := Lib.hid (rQV_bad hq2)
      have hke : Hid (k = s.size) := Lib.hid (by omega)
      replace hq2 := Lib.hid hq2
      clear hq
      replace hlt := Lib.hid hlt
      (go_wp2_with fail; repeat (any_goals (go_quiet (fail); go_wp2_with fail)))
      refine bodyPost_ret (v := .tuple #[.string ⟨#[]⟩, .int .i64 0, .int .i64 2, .int .i64 (k : Int)]) (by simp [results, Tryz.results79, go_sem]) rfl ⟨by rw [he.out, hke.out]; rfl, (by repeat (first | assumption | exact Below.refl _ _ | apply Below.drew | apply below_drewN | apply balloc | (refine Below.setCell ?_ (by first | omega | (simp <;> omega)) _)))⟩

end Go.Proofs.YtibopkodoidjoaaGreatDoor

/- Package scan: the walks of hex and escape. -/
namespace Go.Proofs.YtibopkodoidjoaaGreatDoor
open Go Go.RowKit

/-- A scanner: its text, its place. -/
def ScB (s : ByteArray) (p : Int) (b : Nat) (w : World) : Prop := w.heap[b]? = some (.cells #[.string s, .int .i64 p] 162 (0, 0))
theorem ScB.s {s : ByteArray} {p : Int} {b : Nat} {w : World} (h : ScB s p b w) : w.cell? ⟨b, 0, none⟩ = some (.string s) := cellB h 0 rfl
theorem ScB.at {s : ByteArray} {p : Int} {b : Nat} {w : World} (h : ScB s p b w) : w.cell? ⟨b, 1, none⟩ = some (.int .i64 p) := cellB h 1 rfl
theorem ScB.next {s : ByteArray} {p : Int} {b : Nat} {w w1 : World} (h : ScB s p b w) (hb : Below w.heap.size w w1) : ScB s p b w1 := box_next h hb
def hexS : ByteArray := ⟨#[48, 49, 50, 51, 52, 53, 54, 55, 56, 57, 97, 98, 99, 100, 101, 102]⟩
/-- What IndexByte tells of a byte with bit 32. -/
def hexI (c : Nat) : Int := Lib.indexByte [48, 49, 50, 51, 52, 53, 54, 55, 56, 57, 97, 98, 99, 100, 101, 102] (c ||| 32).toUInt8
theorem hexI_all : ∀ c, c < 256 → (if hexI c < 0 ∨ c < 48 then hexD c = 16 else hexI c = (hexD c : Int) ∧ hexD c < 16) := by decide +kernel
theorem hexI_ok {c : Nat} (h : c < 256) (hd : hexD c < 16) : hexI c = (hexD c : Int) ∧ 48 ≤ c := by
  have := hexI_all c h
  split at this
  · omega
  · exact ⟨this.1, by omega⟩
theorem hexI_no {c : Nat} (h : c < 256) (hd : ¬ hexD c < 16) : hexI c < 0 ∨ c < 48 := by
  have := hexI_all c h
  split at this
  · assumption
  · exact absurd this.2 hd
theorem bits32_all : ∀ c : Nat, c < 256 → bits BinOp.or IntKind.u8 (c : Int) 32 = ((c ||| 32 : Nat) : Int) := by decide +kernel
theorem wrap16 (n : Nat) (h : n < 4096) : IntKind.i32.wrap ((n : Int) * 16) = (n : Int) * 16 := by rw [IntKind.wrap_i32]; omega
theorem or4 (n d : Nat) (h : n < 4096) (hd : d < 16) : bits BinOp.or IntKind.i32 ((n : Int) * 16) (d : Int) = (n : Int) * 16 + (d : Int) :=
  bits_join .i32 31 (by decide) wraps_i32 4 _ _ (by omega) (by omega) (by omega) (by omega) (by omega) (by omega)
theorem hexF_lt {s : ByteArray} {i k : Nat} (h : hexF s i k < 65536) : hexF s i k < 16 ^ k := (hexF_ok s i k h).2
theorem hexF_bad {s : ByteArray} {i k : Nat} (h : hexF s i k = 65536) : ∀ m, k ≤ m → hexF s i m = 65536
  | 0, hm => by obtain rfl : k = 0 := by omega
                exact h
  | m + 1, hm => by
    by_cases he : k = m + 1
    · rw [← he]; exact h
    · have := hexF_bad h m (by omega)
      rw [hexF, if_neg (by omega)]
/-- What hex answers. -/
def hexR (h : Nat) : Value := if h < 65536 then .tuple #[.int .i32 (h : Int), .bool true] else .tuple #[.int .i32 0, .bool false]
set_option maxHeartbeats 2000000 in
set_option maxRecDepth 100000 in
theorem hex_in (s : ByteArray) (p : Int) (b i : Nat) (w : World) (hs : (s.size : Int) ≤ 140737488351232) (hsc : ScB s p b w) (h6 : (i : Int) + 6 ≤ (s.size : Int)) (h0 : bAt s i = 92) (h1 : bAt s (i + 1) = 117) :
    Calls Tryz.prog 136 #[.pointer (some ⟨b, 0, none⟩), .int .i64 (i : Int)] w fun e w' => e = .returned (hexR (hexF s (i + 2) 4)) ∧ w' = w := by
  have x0 := hsc.s
  have x1 := hsc.at
  have hx0 : ∀ h, ((s[i]'h).toNat : Int) = 92 := fun h => by rw [bAt_eq, h0]; rfl
  have hx1 : ∀ h, ((s[i + 1]'h).toNat : Int) = 117 := fun h => by rw [bAt_eq, h1]; rfl
  replace h0 := Lib.hid h0
  replace h1 := Lib.hid h1
  replace hsc := Lib.hid hsc
  obtain ⟨r, hr⟩ : ∃ r, r = hexF s (i + 2) 4 := ⟨_, rfl⟩
  rw [← hr]
  replace hr := Lib.hid hr
  go_enter Tryz.func136, Tryz.ntmps136
  go_wp2_with fail
  clear hx0 hx1
  go_loop [6, 36] (fun v6 v36 => ∃ k : Nat, k ≤ 4 ∧ v36 = .int .i64 (k : Int) ∧ v6 = .int .i32 ((hexF s (i + 2) k : Nat) : Int) ∧ hexF s (i + 2) k < 65536) (fun _ v36 => 4 - (intOf v36).toNat)
  case atStart => exact ⟨0, by decide, rfl, rfl, by show (0 : Nat) < 65536; decide⟩
  case round =>
    obtain ⟨k, hk, rfl, rfl, hlt⟩ := hrel
    by_cases h4 : k < 4
    · have hx : ∀ h, ((s[i + 2 + k]'h).toNat : Int) = (bAt s (i + 2 + k) : Int) := byte_at s _
      have hc := bAt_lt s (i + 2 + k)
      have ho := bits32_all (bAt s (i + 2 + k)) hc
      have hb := hexF_lt hlt
      have I : ∀ w, Calls Tryz.prog 96 #[.string ⟨#[48, 49, 50, 51, 52, 53, 54, 55, 56, 57, 97, 98, 99, 100, 101, 102]⟩, .int .u8 ((bAt s (i + 2 + k) ||| 32 : Nat) : Int)] w fun e w' => e = .returned (.int .i64 (hexI (bAt s (i + 2 + k)))) ∧ w' = w := fun w => Tryz.strings_IndexByte ⟨#[48, 49, 50, 51, 52, 53, 54, 55, 56, 57, 97, 98, 99, 100, 101, 102]⟩ _ w
      have hn : hexF s (i + 2) (k + 1) = if hexF s (i + 2) k < 65536 ∧ hexD (bAt s (i + 2 + k)) < 16 then hexF s (i + 2) k * 16 + hexD (bAt s (i + 2 + k)) else 65536 := rfl
      replace I := Lib.hid I
      by_cases hd : hexD (bAt s (i + 2 + k)) < 16
      · have hi := hexI_ok hc hd
        have hn2 : hexF s (i + 2) (k + 1) = hexF s (i + 2) k * 16 + hexD (bAt s (i + 2 + k)) := by rw [hn, if_pos ⟨hlt, hd⟩]
        have h12 : hexF s (i + 2) k < 4096 := by
          have : 16 ^ k ≤ 16 ^ 3 := Nat.pow_le_pow_right (by decide) (by omega)
          omega
        rw [hi.1] at I
        have hge : (48 : Int) ≤ (bAt s (i + 2 + k) : Int) := by omega
        have hw := wrap16 _ h12
        have hor := or4 _ _ h12 hd
        clear hn hi hb
        generalize hexD (bAt s (i + 2 + k)) = d at *
        generalize hexF s (i + 2) k = n at *
        replace hn2 := Lib.hid hn2
        generalize bAt s (i + 2 + k) = c at *
        replace hc := Lib.hid hc
        go_wp2_with fail
        refine (I.out _).mono ?_
        rintro e w1 ⟨rfl, rfl⟩
        go_wp2_with fail
        go_round
        case rel => exact ⟨k + 1, by omega, by go_num, by rw [hn2.out]; go_num, by rw [hn2.out]; omega⟩
        case measure => simp [intOf]; omega
      · have hi := hexI_no hc hd
        have hn2 : hexF s (i + 2) (k + 1) = 65536 := by rw [hn, if_neg (fun h => hd h.2)]
        have hend : Hid (¬ r < 65536) := by
          have h4' : hexF s (i + 2) 4 = 65536 := hexF_bad hn2 4 (by omega)
          exact Lib.hid (by rw [hr.out, h4']; decide)
        clear hn hb hd
        generalize hexI (bAt s (i + 2 + k)) = d at *
        generalize bAt s (i + 2 + k) = c at *
        replace hc := Lib.hid hc
        by_cases hd : d < 0
        · replace hi := Lib.hid hi
          go_wp2_with fail
          refine (I.out _).mono ?_
          rintro e w1 ⟨rfl, rfl⟩
          go_wp2_with fail
          go_ret2
          exact ⟨by rw [hexR, if_neg hend.out]; rfl, rfl⟩
        · have hi2 : (c : Int) < 48 := by omega
          replace hi := Lib.hid hi
          go_wp2_with fail
          refine (I.out _).mono ?_
          rintro e w1 ⟨rfl, rfl⟩
          go_wp2_with fail
          go_ret2
          exact ⟨by rw [hexR, if_neg hend.out]; rfl, rfl⟩
    · obtain rfl : k = 4 := by omega
      have hlt2 : r < 65536 := by rw [hr.out]; exact hlt
      have hre : hexF s (i + 2) 4 = r := hr.out.symm
      go_wp2_with fail
      go_ret2
      exact ⟨by rw [hexR, if_pos hlt2]; rfl, rfl⟩
theorem hex_calls (s : ByteArray) (p : Int) (b i : Nat) (w : World) (hs : (s.size : Int) ≤ 140737488351232) (hsc : ScB s p b w) (hi : (i : Int) ≤ 140737488351300) :
    Calls Tryz.prog 136 #[.pointer (some ⟨b, 0, none⟩), .int .i64 (i : Int)] w fun e w' => e = .returned (hexR (hexAt s i)) ∧ w' = w := by
  by_cases h6 : (i : Int) + 6 ≤ (s.size : Int)
  · by_cases h0 : bAt s i = 92
    · by_cases h1 : bAt s (i + 1) = 117
      · have e : hexAt s i = hexF s (i + 2) 4 := by unfold hexAt; rw [if_pos ⟨h0, h1⟩]
        rw [e]
        exact hex_in s p b i w hs hsc h6 h0 h1
      · have e : hexAt s i = 65536 := by unfold hexAt; rw [if_neg (fun h => h1 h.2)]
        have x0 := hsc.s
        have hx0 : ∀ h, ((s[i]'h).toNat : Int) = 92 := fun h => by rw [bAt_eq, h0]; rfl
        have hx1 : ∀ h, ((s[i + 1]'h).toNat : Int) = (bAt s (i + 1) : Int) := byte_at s _
        have hb1 : ((bAt s (i + 1) : Int) != 117) = true := by simp; omega
        rw [e]
        replace h0 := Lib.hid h0
        replace h1 := Lib.hid h1
        replace hsc := Lib.hid hsc
        replace e := Lib.hid e
        go_enter Tryz.func136, Tryz.ntmps136
        go_wp2_with fail
        go_ret2
        exact ⟨rfl, rfl⟩
    · have e : hexAt s i = 65536 := by unfold hexAt; rw [if_neg (fun h => h0 h.1)]
      have x0 := hsc.s
      have hx0 : ∀ h, ((s[i]'h).toNat : Int) = (bAt s i : Int) := byte_at s _
      have hb0 : ((bAt s i : Int) != 92) = true := by simp; omega
      rw [e]
      replace h0 := Lib.hid h0
      replace hsc := Lib.hid hsc
      replace e := Lib.hid e
      go_enter Tryz.func136, Tryz.ntmps136
      go_wp2_with fail
      go_ret2
      exact ⟨rfl, rfl⟩
  · have e : hexAt s i = 65536 := by
      by_cases h : hexAt s i < 65536
      · have := (hexAt_ok h).1; omega
      · have := hexAt_le s i; omega
    have x0 := hsc.s
    rw [e]
    replace hsc := Lib.hid hsc
    replace e := Lib.hid e
    go_enter Tryz.func136, Tryz.ntmps136
    go_wp2_with fail
    go_ret2
    exact ⟨rfl, rfl⟩

end Go.Proofs.YtibopkodoidjoaaGreatDoor

/- Package scan: the walk of escape. -/
namespace Go.Proofs.YtibopkodoidjoaaGreatDoor
open Go Go.RowKit

set_option maxHeartbeats 400000 in
theorem Width_calls (r : Int) (w : World) :
    Calls Tryz.prog 137 #[.int .i32 r] w fun e w' => e = .returned (.int .i64 (max (Lib.runeLen r) 0)) ∧ w' = w := by
  have C := Lib.hid (fun w => Tryz.utf8_RuneLen r w)
  generalize Lib.runeLen r = n at *
  go_enter Tryz.func137, Tryz.ntmps137
  go_wp2_with fail
  refine (C.out _).mono ?_
  rintro e w1 ⟨rfl, rfl⟩
  go_wp2_with fail
  go_ret
  exact ⟨rfl, rfl⟩
set_option maxHeartbeats 400000 in
theorem Pair_ok' (x y : Int) (w : World) (h0 : 55296 ≤ x) (h1 : x < 56320) (h2 : 56320 ≤ y) (h3 : y ≤ 57343) :
    Calls Tryz.prog 138 #[.int .i32 x, .int .i32 y] w fun e w' => e = .returned (.tuple #[.int .i32 (65536 + (x - 55296) * 1024 + (y - 56320)), .nilIface]) ∧ w' = w := by
  go_enter Tryz.func138, Tryz.ntmps138
  go_wp2_with fail
  go_ret2
  exact ⟨rfl, rfl⟩
theorem Pair_ok (x y : Nat) (w : World) (h0 : 55296 ≤ x) (h1 : x < 56320) (h2 : 56320 ≤ y) (h3 : y ≤ 57343) :
    Calls Tryz.prog 138 #[.int .i32 (x : Int), .int .i32 (y : Int)] w fun e w' => e = .returned (.tuple #[.int .i32 ((65536 + (x - 55296) * 1024 + (y - 56320) : Nat) : Int), .nilIface]) ∧ w' = w := by
  have := Pair_ok' (x : Int) (y : Int) w (by omega) (by omega) (by omega) (by omega)
  rw [show (65536 : Int) + ((x : Int) - 55296) * 1024 + ((y : Int) - 56320) = ((65536 + (x - 55296) * 1024 + (y - 56320) : Nat) : Int) by omega] at this
  exact this
set_option maxHeartbeats 400000 in
theorem Pair_hi {A : Nat → Addr} {B : Nat} (x y : Int) (w : World) (hE : Env A B SU w) (h0 : 55296 ≤ x) (h1 : 56320 ≤ x) :
    Calls Tryz.prog 138 #[.int .i32 x, .int .i32 y] w fun e w' => e = .returned (.tuple #[.int .i32 0, .iface 237 (.pointer (some (A 1)))]) ∧ Below w.heap.size w w' := by
  have e1 := hE.e1
  have l1 := hE.l1
  go_enter Tryz.func138, Tryz.ntmps138
  (go_wp2_with fail; repeat (any_goals (go_quiet (fail); go_wp2_with fail)))
  go_ret2
  exact ⟨rfl, (by repeat (first | assumption | exact Below.refl _ _ | apply Below.drew | apply below_drewN | apply balloc | (refine Below.setCell ?_ (by first | omega | (simp <;> omega)) _)))⟩
set_option maxHeartbeats 400000 in
theorem Pair_lo1 {A : Nat → Addr} {B : Nat} (x y : Int) (w : World) (hE : Env A B SU w) (h0 : 55296 ≤ x) (h1 : x < 56320) (h2 : y < 56320) :
    Calls Tryz.prog 138 #[.int .i32 x, .int .i32 y] w fun e w' => e = .returned (.tuple #[.int .i32 0, .iface 237 (.pointer (some (A 1)))]) ∧ Below w.heap.size w w' := by
  have e1 := hE.e1
  have l1 := hE.l1
  go_enter Tryz.func138, Tryz.ntmps138
  (go_wp2_with fail; repeat (any_goals (go_quiet (fail); go_wp2_with fail)))
  go_ret2
  exact ⟨rfl, (by repeat (first | assumption | exact Below.refl _ _ | apply Below.drew | apply below_drewN | apply balloc | (refine Below.setCell ?_ (by first | omega | (simp <;> omega)) _)))⟩
set_option maxHeartbeats 400000 in
theorem Pair_lo2 {A : Nat → Addr} {B : Nat} (x y : Int) (w : World) (hE : Env A B SU w) (h0 : 55296 ≤ x) (h1 : x < 56320) (h2 : 56320 ≤ y) (h3 : 57343 < y) :
    Calls Tryz.prog 138 #[.int .i32 x, .int .i32 y] w fun e w' => e = .returned (.tuple #[.int .i32 0, .iface 237 (.pointer (some (A 1)))]) ∧ Below w.heap.size w w' := by
  have e1 := hE.e1
  have l1 := hE.l1
  go_enter Tryz.func138, Tryz.ntmps138
  (go_wp2_with fail; repeat (any_goals (go_quiet (fail); go_wp2_with fail)))
  go_ret2
  exact ⟨rfl, (by repeat (first | assumption | exact Below.refl _ _ | apply Below.drew | apply below_drewN | apply balloc | (refine Below.setCell ?_ (by first | omega | (simp <;> omega)) _)))⟩
theorem Pair_bad {A : Nat → Addr} {B : Nat} (x y : Nat) (w : World) (hE : Env A B SU w) (h0 : 55296 ≤ x) (h : ¬ (x < 56320 ∧ 56320 ≤ y ∧ y ≤ 57343)) :
    Calls Tryz.prog 138 #[.int .i32 (x : Int), .int .i32 (y : Int)] w fun e w' => e = .returned (.tuple #[.int .i32 0, .iface 237 (.pointer (some (A 1)))]) ∧ Below w.heap.size w w' := by
  by_cases h1 : x < 56320
  · by_cases h2 : y < 56320
    · exact Pair_lo1 (x : Int) (y : Int) w hE (by omega) (by omega) (by omega)
    · exact Pair_lo2 (x : Int) (y : Int) w hE (by omega) (by omega) (by omega) (by omega)
  · exact Pair_hi (x : Int) (y : Int) w hE (by omega) (by omega)

abbrev SJ : List Nat := [1, 2]
/-- What escape answers where there is an escape. -/
def EscOk (r n : Nat) (e : Ending) : Prop := e = .returned (.tuple #[.int .i32 (r : Int), .int .i64 (n : Int), .nilIface])
def EscBad (A : Nat → Addr) (k : Nat) (i : Nat) (w : World) (e : Ending) (w' : World) : Prop :=
  ∃ g, w.heap.size ≤ g ∧ e = .returned (.tuple #[.int .i32 0, .int .i64 0, .iface 69 (.pointer (some ⟨g, 0, none⟩))]) ∧ AtB (i : Int) (.iface 237 (.pointer (some (A k)))) g w'
set_option maxHeartbeats 1000000 in
theorem esc_q (s : ByteArray) (p : Int) (b i : Nat) (w : World) (hs : (s.size : Int) ≤ 140737488351232) (hsc : ScB s p b w) (hi : (i : Int) + 1 < (s.size : Int)) (hc : bAt s (i + 1) = 34) :
    Calls Tryz.prog 122 #[.pointer (some ⟨b, 0, none⟩), .int .i64 (i : Int)] w fun e w' => EscOk 34 2 e ∧ w' = w := by
  have x0 := hsc.s
  have hx : ∀ h, ((s[i + 1]'h).toNat : Int) = 34 := fun h => by rw [bAt_eq, hc]; rfl
  replace hsc := Lib.hid hsc
  replace hc := Lib.hid hc
  go_enter Tryz.func122, Tryz.ntmps122
  go_wp2_with fail
  exact bodyPost_ret (v := .tuple #[.int .i32 34, .int .i64 2, .nilIface]) (by simp [results, Tryz.results122, go_sem]) rfl ⟨rfl, rfl⟩
set_option maxHeartbeats 1000000 in
theorem esc_b (s : ByteArray) (p : Int) (b i : Nat) (w : World) (hs : (s.size : Int) ≤ 140737488351232) (hsc : ScB s p b w) (hi : (i : Int) + 1 < (s.size : Int)) (hc : bAt s (i + 1) = 92) :
    Calls Tryz.prog 122 #[.pointer (some ⟨b, 0, none⟩), .int .i64 (i : Int)] w fun e w' => EscOk 92 2 e ∧ w' = w := by
  have x0 := hsc.s
  have hx : ∀ h, ((s[i + 1]'h).toNat : Int) = 92 := fun h => by rw [bAt_eq, hc]; rfl
  replace hsc := Lib.hid hsc
  replace hc := Lib.hid hc
  go_enter Tryz.func122, Tryz.ntmps122
  go_wp2_with fail
  exact bodyPost_ret (v := .tuple #[.int .i32 92, .int .i64 2, .nilIface]) (by simp [results, Tryz.results122, go_sem]) rfl ⟨rfl, rfl⟩
set_option maxHeartbeats 1000000 in
theorem esc_s (s : ByteArray) (p : Int) (b i : Nat) (w : World) (hs : (s.size : Int) ≤ 140737488351232) (hsc : ScB s p b w) (hi : (i : Int) + 1 < (s.size : Int)) (hc : bAt s (i + 1) = 47) :
    Calls Tryz.prog 122 #[.pointer (some ⟨b, 0, none⟩), .int .i64 (i : Int)] w fun e w' => EscOk 47 2 e ∧ w' = w := by
  have x0 := hsc.s
  have hx : ∀ h, ((s[i + 1]'h).toNat : Int) = 47 := fun h => by rw [bAt_eq, hc]; rfl
  replace hsc := Lib.hid hsc
  replace hc := Lib.hid hc
  go_enter Tryz.func122, Tryz.ntmps122
  go_wp2_with fail
  exact bodyPost_ret (v := .tuple #[.int .i32 47, .int .i64 2, .nilIface]) (by simp [results, Tryz.results122, go_sem]) rfl ⟨rfl, rfl⟩
set_option maxHeartbeats 1000000 in
theorem esc_bb (s : ByteArray) (p : Int) (b i : Nat) (w : World) (hs : (s.size : Int) ≤ 140737488351232) (hsc : ScB s p b w) (hi : (i : Int) + 1 < (s.size : Int)) (hc : bAt s (i + 1) = 98) :
    Calls Tryz.prog 122 #[.pointer (some ⟨b, 0, none⟩), .int .i64 (i : Int)] w fun e w' => EscOk 8 2 e ∧ w' = w := by
  have x0 := hsc.s
  have hx : ∀ h, ((s[i + 1]'h).toNat : Int) = 98 := fun h => by rw [bAt_eq, hc]; rfl
  replace hsc := Lib.hid hsc
  replace hc := Lib.hid hc
  go_enter Tryz.func122, Tryz.ntmps122
  go_wp2_with fail
  exact bodyPost_ret (v := .tuple #[.int .i32 8, .int .i64 2, .nilIface]) (by simp [results, Tryz.results122, go_sem]) rfl ⟨rfl, rfl⟩
set_option maxHeartbeats 1000000 in
theorem esc_ff (s : ByteArray) (p : Int) (b i : Nat) (w : World) (hs : (s.size : Int) ≤ 140737488351232) (hsc : ScB s p b w) (hi : (i : Int) + 1 < (s.size : Int)) (hc : bAt s (i + 1) = 102) :
    Calls Tryz.prog 122 #[.pointer (some ⟨b, 0, none⟩), .int .i64 (i : Int)] w fun e w' => EscOk 12 2 e ∧ w' = w := by
  have x0 := hsc.s
  have hx : ∀ h, ((s[i + 1]'h).toNat : Int) = 102 := fun h => by rw [bAt_eq, hc]; rfl
  replace hsc := Lib.hid hsc
  replace hc := Lib.hid hc
  go_enter Tryz.func122, Tryz.ntmps122
  go_wp2_with fail
  exact bodyPost_ret (v := .tuple #[.int .i32 12, .int .i64 2, .nilIface]) (by simp [results, Tryz.results122, go_sem]) rfl ⟨rfl, rfl⟩
set_option maxHeartbeats 1000000 in
theorem esc_nn (s : ByteArray) (p : Int) (b i : Nat) (w : World) (hs : (s.size : Int) ≤ 140737488351232) (hsc : ScB s p b w) (hi : (i : Int) + 1 < (s.size : Int)) (hc : bAt s (i + 1) = 110) :
    Calls Tryz.prog 122 #[.pointer (some ⟨b, 0, none⟩), .int .i64 (i : Int)] w fun e w' => EscOk 10 2 e ∧ w' = w := by
  have x0 := hsc.s
  have hx : ∀ h, ((s[i + 1]'h).toNat : Int) = 110 := fun h => by rw [bAt_eq, hc]; rfl
  replace hsc := Lib.hid hsc
  replace hc := Lib.hid hc
  go_enter Tryz.func122, Tryz.ntmps122
  go_wp2_with fail
  exact bodyPost_ret (v := .tuple #[.int .i32 10, .int .i64 2, .nilIface]) (by simp [results, Tryz.results122, go_sem]) rfl ⟨rfl, rfl⟩
set_option maxHeartbeats 1000000 in
theorem esc_rr (s : ByteArray) (p : Int) (b i : Nat) (w : World) (hs : (s.size : Int) ≤ 140737488351232) (hsc : ScB s p b w) (hi : (i : Int) + 1 < (s.size : Int)) (hc : bAt s (i + 1) = 114) :
    Calls Tryz.prog 122 #[.pointer (some ⟨b, 0, none⟩), .int .i64 (i : Int)] w fun e w' => EscOk 13 2 e ∧ w' = w := by
  have x0 := hsc.s
  have hx : ∀ h, ((s[i + 1]'h).toNat : Int) = 114 := fun h => by rw [bAt_eq, hc]; rfl
  replace hsc := Lib.hid hsc
  replace hc := Lib.hid hc
  go_enter Tryz.func122, Tryz.ntmps122
  go_wp2_with fail
  exact bodyPost_ret (v := .tuple #[.int .i32 13, .int .i64 2, .nilIface]) (by simp [results, Tryz.results122, go_sem]) rfl ⟨rfl, rfl⟩
set_option maxHeartbeats 1000000 in
theorem esc_tt (s : ByteArray) (p : Int) (b i : Nat) (w : World) (hs : (s.size : Int) ≤ 140737488351232) (hsc : ScB s p b w) (hi : (i : Int) + 1 < (s.size : Int)) (hc : bAt s (i + 1) = 116) :
    Calls Tryz.prog 122 #[.pointer (some ⟨b, 0, none⟩), .int .i64 (i : Int)] w fun e w' => EscOk 9 2 e ∧ w' = w := by
  have x0 := hsc.s
  have hx : ∀ h, ((s[i + 1]'h).toNat : Int) = 116 := fun h => by rw [bAt_eq, hc]; rfl
  replace hsc := Lib.hid hsc
  replace hc := Lib.hid hc
  go_enter Tryz.func122, Tryz.ntmps122
  go_wp2_with fail
  exact bodyPost_ret (v := .tuple #[.int .i32 9, .int .i64 2, .nilIface]) (by simp [results, Tryz.results122, go_sem]) rfl ⟨rfl, rfl⟩
/-- No letter of an escape. -/
def NoLet (c : Nat) : Prop := c ≠ 34 ∧ c ≠ 92 ∧ c ≠ 47 ∧ c ≠ 98 ∧ c ≠ 102 ∧ c ≠ 110 ∧ c ≠ 114 ∧ c ≠ 116
set_option maxHeartbeats 1000000 in
set_option maxRecDepth 100000 in
theorem esc_six (s : ByteArray) (p : Int) (b i x : Nat) (w : World) (hs : (s.size : Int) ≤ 140737488351232) (hsc : ScB s p b w) (hi : (i : Int) + 1 < (s.size : Int)) (hc : NoLet (bAt s (i + 1))) (hx6 : hexAt s i = x) (hxl : x < 65536) (hsn : scalarN x = true) :
    Calls Tryz.prog 122 #[.pointer (some ⟨b, 0, none⟩), .int .i64 (i : Int)] w fun e w' => EscOk x 6 e ∧ w' = w := by
  have hlt : x < 65536 ∧ 0 < max (Lib.runeLen (x : Int)) 0 := by
    have := scalarN_iff.1 hsn
    refine ⟨hxl, ?_⟩
    unfold Lib.runeLen
    repeat' split
    all_goals omega
  have H1 := fun w h => hex_calls s p b i w hs h (by omega)
  rw [hx6, hexR, if_pos hlt.1] at H1
  have W := fun w => Width_calls (x : Int) w
  obtain ⟨hl1, hl2⟩ := hlt
  clear hxl
  generalize max (Lib.runeLen (x : Int)) 0 = n at *
  replace H1 := Lib.hid H1
  replace W := Lib.hid W
  replace hsn := Lib.hid hsn
  replace hx6 := Lib.hid hx6
  have x0 := hsc.s
  have hx : ∀ h, ((s[i + 1]'h).toNat : Int) = (bAt s (i + 1) : Int) := byte_at s _
  unfold NoLet at hc
  have n34 : ((bAt s (i + 1) : Int) == 34) = false := by simp; omega
  have n92 : ((bAt s (i + 1) : Int) == 92) = false := by simp; omega
  have n47 : ((bAt s (i + 1) : Int) == 47) = false := by simp; omega
  have n98 : ((bAt s (i + 1) : Int) == 98) = false := by simp; omega
  have n102 : ((bAt s (i + 1) : Int) == 102) = false := by simp; omega
  have n110 : ((bAt s (i + 1) : Int) == 110) = false := by simp; omega
  have n114 : ((bAt s (i + 1) : Int) == 114) = false := by simp; omega
  have n116 : ((bAt s (i + 1) : Int) == 116) = false := by simp; omega
  replace hc := Lib.hid hc
  replace hsc := Lib.hid hsc
  go_enter Tryz.func122, Tryz.ntmps122
  go_wp2_with fail
  refine (H1.out _ hsc.out).mono ?_
  rintro e w1 ⟨rfl, rfl⟩
  clear hx n34 n92 n47 n98 n102 n110 n114 n116
  go_wp2_with fail
  refine (W.out _).mono ?_
  rintro e w1 ⟨rfl, rfl⟩
  go_wp2_with fail
  exact bodyPost_ret (v := .tuple #[.int .i32 (x : Int), .int .i64 6, .nilIface]) (by simp [results, Tryz.results122, go_sem]) rfl ⟨rfl, rfl⟩

set_option maxHeartbeats 1000000 in
set_option maxRecDepth 100000 in
theorem esc_none {A : Nat → Addr} {B : Nat} (s : ByteArray) (p : Int) (b i : Nat) (w : World) (hE : Env A B SJ w) (hs : (s.size : Int) ≤ 140737488351232) (hsc : ScB s p b w) (hi : (i : Int) + 1 < (s.size : Int)) (hc : NoLet (bAt s (i + 1))) (hx6 : ¬ hexAt s i < 65536) :
    Calls Tryz.prog 122 #[.pointer (some ⟨b, 0, none⟩), .int .i64 (i : Int)] w fun e w' => EscBad A 2 i w e w' ∧ Below w.heap.size w w' := by
  have H1 := fun w h => hex_calls s p b i w hs h (by omega)
  rw [hexR, if_neg hx6] at H1
  replace H1 := Lib.hid H1
  replace hx6 := Lib.hid hx6
  have e8 := hE.e2
  have x0 := hsc.s
  have hx : ∀ h, ((s[i + 1]'h).toNat : Int) = (bAt s (i + 1) : Int) := byte_at s _
  unfold NoLet at hc
  have n34 : ((bAt s (i + 1) : Int) == 34) = false := by simp; omega
  have n92 : ((bAt s (i + 1) : Int) == 92) = false := by simp; omega
  have n47 : ((bAt s (i + 1) : Int) == 47) = false := by simp; omega
  have n98 : ((bAt s (i + 1) : Int) == 98) = false := by simp; omega
  have n102 : ((bAt s (i + 1) : Int) == 102) = false := by simp; omega
  have n110 : ((bAt s (i + 1) : Int) == 110) = false := by simp; omega
  have n114 : ((bAt s (i + 1) : Int) == 114) = false := by simp; omega
  have n116 : ((bAt s (i + 1) : Int) == 116) = false := by simp; omega
  replace hc := Lib.hid hc
  replace hsc := Lib.hid hsc
  go_enter Tryz.func122, Tryz.ntmps122
  go_wp2_with fail
  refine (H1.out _ hsc.out).mono ?_
  rintro e w1 ⟨rfl, rfl⟩
  clear hx n34 n92 n47 n98 n102 n110 n114 n116
  go_wp2_with fail
  have hb9 := Below.refl w1.heap.size w1
  have e9 := (hE.next hb9).e2
  (go_wp2_with fail; repeat (any_goals (go_quiet (fail); go_wp2_with fail)))
  refine (fault_calls _ _ _ _).mono ?_
  rintro e w2 ⟨g, hg, rfl, hat, hb⟩
  have hb2 : Below w1.heap.size w1 w2 := bcall (by repeat (first | assumption | exact Below.refl _ _ | apply Below.drew | apply below_drewN | apply balloc | (refine Below.setCell ?_ (by first | omega | (simp <;> omega)) _))) hb
  have hg2 : w1.heap.size ≤ g := Nat.le_trans (hb9.size) (by first | exact hg | (simp at hg; omega))
  clear hb
  (go_wp2_with fail; repeat (any_goals (go_quiet (fail); go_wp2_with fail)))
  exact bodyPost_ret (v := .tuple #[.int .i32 0, .int .i64 0, .iface 69 (.pointer (some ⟨g, 0, none⟩))]) (by simp [results, Tryz.results122, go_sem]) rfl ⟨⟨g, hg2, rfl, hat⟩, (by repeat (first | assumption | exact Below.refl _ _ | apply Below.drew | apply below_drewN | apply balloc | (refine Below.setCell ?_ (by first | omega | (simp <;> omega)) _)))⟩
set_option maxHeartbeats 1000000 in
set_option maxRecDepth 100000 in
theorem esc_end {A : Nat → Addr} {B : Nat} (s : ByteArray) (p : Int) (b i : Nat) (w : World) (hE : Env A B SJ w) (hs : (s.size : Int) ≤ 140737488351232) (hsc : ScB s p b w) (hi : (s.size : Int) ≤ (i : Int) + 1) (hi2 : (i : Int) ≤ (s.size : Int)) (hx6 : ¬ hexAt s i < 65536) :
    Calls Tryz.prog 122 #[.pointer (some ⟨b, 0, none⟩), .int .i64 (i : Int)] w fun e w' => EscBad A 2 i w e w' ∧ Below w.heap.size w w' := by
  have H1 := fun w h => hex_calls s p b i w hs h (by omega)
  rw [hexR, if_neg hx6] at H1
  replace H1 := Lib.hid H1
  replace hx6 := Lib.hid hx6
  have x0 := hsc.s
  have e8 := hE.e2
  replace hsc := Lib.hid hsc
  go_enter Tryz.func122, Tryz.ntmps122
  go_wp2_with fail
  refine (H1.out _ hsc.out).mono ?_
  rintro e w1 ⟨rfl, rfl⟩
  go_wp2_with fail
  have hb9 := Below.refl w1.heap.size w1
  have e9 := (hE.next hb9).e2
  (go_wp2_with fail; repeat (any_goals (go_quiet (fail); go_wp2_with fail)))
  refine (fault_calls _ _ _ _).mono ?_
  rintro e w2 ⟨g, hg, rfl, hat, hb⟩
  have hb2 : Below w1.heap.size w1 w2 := bcall (by repeat (first | assumption | exact Below.refl _ _ | apply Below.drew | apply below_drewN | apply balloc | (refine Below.setCell ?_ (by first | omega | (simp <;> omega)) _))) hb
  have hg2 : w1.heap.size ≤ g := Nat.le_trans (hb9.size) (by first | exact hg | (simp at hg; omega))
  clear hb
  (go_wp2_with fail; repeat (any_goals (go_quiet (fail); go_wp2_with fail)))
  exact bodyPost_ret (v := .tuple #[.int .i32 0, .int .i64 0, .iface 69 (.pointer (some ⟨g, 0, none⟩))]) (by simp [results, Tryz.results122, go_sem]) rfl ⟨⟨g, hg2, rfl, hat⟩, (by repeat (first | assumption | exact Below.refl _ _ | apply Below.drew | apply below_drewN | apply balloc | (refine Below.setCell ?_ (by first | omega | (simp <;> omega)) _)))⟩

set_option maxHeartbeats 1000000 in
set_option maxRecDepth 100000 in
theorem esc_pair {A : Nat → Addr} {B : Nat} (s : ByteArray) (p : Int) (b i x y : Nat) (w : World) (hE : Env A B SJ w) (hs : (s.size : Int) ≤ 140737488351232) (hsc : ScB s p b w) (hi : (i : Int) + 1 < (s.size : Int)) (hc : NoLet (bAt s (i + 1))) (hx6 : hexAt s i = x) (hxl : x < 65536) (hsn : ¬ scalarN x = true)
    (hy : (if hexAt s (i + 6) < 65536 then hexAt s (i + 6) else 0) = y) (h1 : x < 56320) (h2 : 56320 ≤ y) (h3 : y ≤ 57343) :
    Calls Tryz.prog 122 #[.pointer (some ⟨b, 0, none⟩), .int .i64 (i : Int)] w fun e w' => EscOk (65536 + (x - 55296) * 1024 + (y - 56320)) 12 e ∧ w' = w := by
  have hlt : 55296 ≤ x ∧ max (Lib.runeLen (x : Int)) 0 = 0 := by
    rw [scalarN_iff] at hsn
    refine ⟨by omega, ?_⟩
    unfold Lib.runeLen
    repeat' split
    all_goals omega
  obtain ⟨hl1, hl2⟩ := hlt
  have H1 := fun w h => hex_calls s p b i w hs h (by omega)
  have H2 := fun w h => hex_calls s p b (i + 6) w hs h (by omega)
  rw [hx6, hexR, if_pos hxl] at H1
  have W := fun w => Width_calls (x : Int) w
  rw [hl2] at W
  have H2 : ∀ w, ScB s p b w → Calls Tryz.prog 136 #[.pointer (some ⟨b, 0, none⟩), .int .i64 ((i : Int) + 6)] w fun e w' => (∃ ok, e = .returned (.tuple #[.int .i32 (y : Int), .bool ok])) ∧ w' = w := fun w h => by
    refine (H2 w h).mono ?_
    rintro e w' ⟨rfl, rfl⟩
    refine ⟨?_, rfl⟩
    unfold hexR
    by_cases h6 : hexAt s (i + 6) < 65536
    · rw [if_pos h6] at hy ⊢; rw [hy]; exact ⟨_, rfl⟩
    · rw [if_neg h6] at hy ⊢; rw [← hy]; exact ⟨_, rfl⟩
  have P := fun w => Pair_ok x y w hl1 h1 h2 h3
  replace H1 := Lib.hid H1
  replace H2 := Lib.hid H2
  replace W := Lib.hid W
  replace P := Lib.hid P
  clear hxl
  replace hsn := Lib.hid hsn
  replace hx6 := Lib.hid hx6
  replace hy := Lib.hid hy
  replace hl2 := Lib.hid hl2
  have e8 := hE.e1
  have x0 := hsc.s
  have hx : ∀ h, ((s[i + 1]'h).toNat : Int) = (bAt s (i + 1) : Int) := byte_at s _
  unfold NoLet at hc
  have n34 : ((bAt s (i + 1) : Int) == 34) = false := by simp; omega
  have n92 : ((bAt s (i + 1) : Int) == 92) = false := by simp; omega
  have n47 : ((bAt s (i + 1) : Int) == 47) = false := by simp; omega
  have n98 : ((bAt s (i + 1) : Int) == 98) = false := by simp; omega
  have n102 : ((bAt s (i + 1) : Int) == 102) = false := by simp; omega
  have n110 : ((bAt s (i + 1) : Int) == 110) = false := by simp; omega
  have n114 : ((bAt s (i + 1) : Int) == 114) = false := by simp; omega
  have n116 : ((bAt s (i + 1) : Int) == 116) = false := by simp; omega
  replace hc := Lib.hid hc
  replace hsc := Lib.hid hsc
  go_enter Tryz.func122, Tryz.ntmps122
  go_wp2_with fail
  refine (H1.out _ hsc.out).mono ?_
  rintro e w1 ⟨rfl, rfl⟩
  clear hx n34 n92 n47 n98 n102 n110 n114 n116
  go_wp2_with fail
  refine (W.out _).mono ?_
  rintro e w2 ⟨rfl, rfl⟩
  go_wp2_with fail
  refine (H2.out _ hsc.out).mono ?_
  rintro e w3 ⟨⟨ok, rfl⟩, rfl⟩
  go_wp2_with fail
  refine (P.out _).mono ?_
  rintro e w4 ⟨rfl, rfl⟩
  go_wp2_with fail
  exact bodyPost_ret (v := .tuple #[.int .i32 ((65536 + (x - 55296) * 1024 + (y - 56320) : Nat) : Int), .int .i64 12, .nilIface]) (by simp [results, Tryz.results122, go_sem]) rfl ⟨rfl, rfl⟩

set_option maxHeartbeats 1000000 in
set_option maxRecDepth 100000 in
theorem esc_nopair {A : Nat → Addr} {B : Nat} (s : ByteArray) (p : Int) (b i x y : Nat) (w : World) (hE : Env A B SJ w) (hs : (s.size : Int) ≤ 140737488351232) (hsc : ScB s p b w) (hi : (i : Int) + 1 < (s.size : Int)) (hc : NoLet (bAt s (i + 1))) (hx6 : hexAt s i = x) (hxl : x < 65536) (hsn : ¬ scalarN x = true)
    (hy : (if hexAt s (i + 6) < 65536 then hexAt s (i + 6) else 0) = y) (h1 : ¬ (x < 56320 ∧ 56320 ≤ y ∧ y ≤ 57343)) :
    Calls Tryz.prog 122 #[.pointer (some ⟨b, 0, none⟩), .int .i64 (i : Int)] w fun e w' => EscBad A 1 i w e w' ∧ Below w.heap.size w w' := by
  have hlt : 55296 ≤ x ∧ max (Lib.runeLen (x : Int)) 0 = 0 := by
    rw [scalarN_iff] at hsn
    refine ⟨by omega, ?_⟩
    unfold Lib.runeLen
    repeat' split
    all_goals omega
  obtain ⟨hl1, hl2⟩ := hlt
  have H1 := fun w h => hex_calls s p b i w hs h (by omega)
  have H2 := fun w h => hex_calls s p b (i + 6) w hs h (by omega)
  rw [hx6, hexR, if_pos hxl] at H1
  have W := fun w => Width_calls (x : Int) w
  rw [hl2] at W
  have H2 : ∀ w, ScB s p b w → Calls Tryz.prog 136 #[.pointer (some ⟨b, 0, none⟩), .int .i64 ((i : Int) + 6)] w fun e w' => (∃ ok, e = .returned (.tuple #[.int .i32 (y : Int), .bool ok])) ∧ w' = w := fun w h => by
    refine (H2 w h).mono ?_
    rintro e w' ⟨rfl, rfl⟩
    refine ⟨?_, rfl⟩
    unfold hexR
    by_cases h6 : hexAt s (i + 6) < 65536
    · rw [if_pos h6] at hy ⊢; rw [hy]; exact ⟨_, rfl⟩
    · rw [if_neg h6] at hy ⊢; rw [← hy]; exact ⟨_, rfl⟩
  have P := fun w hE => Pair_bad (A := A) (B := B) x y w hE hl1 h1
  replace H1 := Lib.hid H1
  replace H2 := Lib.hid H2
  replace W := Lib.hid W
  replace P := Lib.hid P
  clear hxl
  replace hsn := Lib.hid hsn
  replace hx6 := Lib.hid hx6
  replace hy := Lib.hid hy
  replace hl2 := Lib.hid hl2
  have e8 := hE.e1
  have x0 := hsc.s
  have hx : ∀ h, ((s[i + 1]'h).toNat : Int) = (bAt s (i + 1) : Int) := byte_at s _
  unfold NoLet at hc
  have n34 : ((bAt s (i + 1) : Int) == 34) = false := by simp; omega
  have n92 : ((bAt s (i + 1) : Int) == 92) = false := by simp; omega
  have n47 : ((bAt s (i + 1) : Int) == 47) = false := by simp; omega
  have n98 : ((bAt s (i + 1) : Int) == 98) = false := by simp; omega
  have n102 : ((bAt s (i + 1) : Int) == 102) = false := by simp; omega
  have n110 : ((bAt s (i + 1) : Int) == 110) = false := by simp; omega
  have n114 : ((bAt s (i + 1) : Int) == 114) = false := by simp; omega
  have n116 : ((bAt s (i + 1) : Int) == 116) = false := by simp; omega
  replace hc := Lib.hid hc
  replace hsc := Lib.hid hsc
  go_enter Tryz.func122, Tryz.ntmps122
  go_wp2_with fail
  refine (H1.out _ hsc.out).mono ?_
  rintro e w1 ⟨rfl, rfl⟩
  clear hx n34 n92 n47 n98 n102 n110 n114 n116
  go_wp2_with fail
  refine (W.out _).mono ?_
  rintro e w2 ⟨rfl, rfl⟩
  go_wp2_with fail
  refine (H2.out _ hsc.out).mono ?_
  rintro e w3 ⟨⟨ok, rfl⟩, rfl⟩
  go_wp2_with fail
  replace h1 := Lib.hid h1
  refine (P.out _ (hE.sub (by decide))).mono ?_
  rintro e w4 ⟨rfl, hb9⟩
  have e9 := (hE.next hb9).e1
  (go_wp2_with fail; repeat (any_goals (go_quiet (fail); go_wp2_with fail)))
  refine (fault_calls _ _ _ _).mono ?_
  rintro e w2 ⟨g, hg, rfl, hat, hb⟩
  have hb2 : Below w3.heap.size w3 w2 := bcall (by repeat (first | assumption | exact Below.refl _ _ | apply Below.drew | apply below_drewN | apply balloc | (refine Below.setCell ?_ (by first | omega | (simp <;> omega)) _))) hb
  have hg2 : w3.heap.size ≤ g := Nat.le_trans (hb9.size) (by first | exact hg | (simp at hg; omega))
  clear hb
  (go_wp2_with fail; repeat (any_goals (go_quiet (fail); go_wp2_with fail)))
  exact bodyPost_ret (v := .tuple #[.int .i32 0, .int .i64 0, .iface 69 (.pointer (some ⟨g, 0, none⟩))]) (by simp [results, Tryz.results122, go_sem]) rfl ⟨⟨g, hg2, rfl, hat⟩, (by repeat (first | assumption | exact Below.refl _ _ | apply Below.drew | apply below_drewN | apply balloc | (refine Below.setCell ?_ (by first | omega | (simp <;> omega)) _)))⟩
/-- What escape answers. -/
def EscR (A : Nat → Addr) (E : Nat × Nat × Nat) (i : Nat) (w : World) (e : Ending) (w' : World) : Prop := if E.1 = 0 then EscOk E.2.1 E.2.2 e else EscBad A E.1 i w e w'
theorem escape_calls {A : Nat → Addr} {B : Nat} (s : ByteArray) (p : Int) (b i : Nat) (w : World) (hE : Env A B SJ w) (hs : s.size ≤ 140737488351232) (hsc : ScB s p b w) (hi : i < s.size) :
    Calls Tryz.prog 122 #[.pointer (some ⟨b, 0, none⟩), .int .i64 (i : Int)] w fun e w' => EscR A (escAt s i) i w e w' ∧ Below w.heap.size w w' := by
  have hs' : (s.size : Int) ≤ 140737488351232 := by omega
  have one : ∀ (r n : Nat), escAt s i = (0, r, n) → Calls Tryz.prog 122 #[.pointer (some ⟨b, 0, none⟩), .int .i64 (i : Int)] w (fun e w' => EscOk r n e ∧ w' = w) → Calls Tryz.prog 122 #[.pointer (some ⟨b, 0, none⟩), .int .i64 (i : Int)] w fun e w' => EscR A (escAt s i) i w e w' ∧ Below w.heap.size w w' := by
    intro r n he h
    refine h.mono ?_
    rintro e w' ⟨h1, rfl⟩
    rw [he]
    exact ⟨by unfold EscR; rw [if_pos rfl]; exact h1, Below.refl _ _⟩
  have two : ∀ (k r n : Nat), escAt s i = (k + 1, r, n) → Calls Tryz.prog 122 #[.pointer (some ⟨b, 0, none⟩), .int .i64 (i : Int)] w (fun e w' => EscBad A (k + 1) i w e w' ∧ Below w.heap.size w w') → Calls Tryz.prog 122 #[.pointer (some ⟨b, 0, none⟩), .int .i64 (i : Int)] w fun e w' => EscR A (escAt s i) i w e w' ∧ Below w.heap.size w w' := by
    intro k r n he h
    refine h.mono ?_
    rintro e w' ⟨h1, hb⟩
    rw [he]
    exact ⟨by unfold EscR; rw [if_neg (by simp)]; exact h1, hb⟩
  have hle := hexAt_le s i
  by_cases hin : i + 1 < s.size
  · have hin' : (i : Int) + 1 < (s.size : Int) := by omega
    by_cases c1 : bAt s (i + 1) = 34 ∨ bAt s (i + 1) = 92 ∨ bAt s (i + 1) = 47
    · rcases c1 with h | h | h
      · exact one 34 2 (by unfold escAt; simp only [h]; rfl) (esc_q s p b i w hs' hsc hin' h)
      · exact one 92 2 (by unfold escAt; simp only [h]; rfl) (esc_b s p b i w hs' hsc hin' h)
      · exact one 47 2 (by unfold escAt; simp only [h]; rfl) (esc_s s p b i w hs' hsc hin' h)
    by_cases c2 : bAt s (i + 1) = 98
    · exact one 8 2 (by unfold escAt; simp only [c2]; rfl) (esc_bb s p b i w hs' hsc hin' c2)
    by_cases c3 : bAt s (i + 1) = 102
    · exact one 12 2 (by unfold escAt; simp only [c3]; rfl) (esc_ff s p b i w hs' hsc hin' c3)
    by_cases c4 : bAt s (i + 1) = 110
    · exact one 10 2 (by unfold escAt; simp only [c4]; rfl) (esc_nn s p b i w hs' hsc hin' c4)
    by_cases c5 : bAt s (i + 1) = 114
    · exact one 13 2 (by unfold escAt; simp only [c5]; rfl) (esc_rr s p b i w hs' hsc hin' c5)
    by_cases c6 : bAt s (i + 1) = 116
    · exact one 9 2 (by unfold escAt; simp only [c6]; rfl) (esc_tt s p b i w hs' hsc hin' c6)
    have hno : NoLet (bAt s (i + 1)) := by unfold NoLet; omega
    have base : escAt s i = if 65536 ≤ hexAt s i then (2, 0, 0)
      else if scalarN (hexAt s i) = true then (0, hexAt s i, 6)
      else if hexAt s i < 56320 ∧ 56320 ≤ hexAt s (i + 6) ∧ hexAt s (i + 6) ≤ 57343 then (0, 65536 + (hexAt s i - 55296) * 1024 + (hexAt s (i + 6) - 56320), 12)
      else (1, 0, 0) := by
      conv => lhs; unfold escAt
      simp only
      rw [if_neg c1, if_neg c2, if_neg c3, if_neg c4, if_neg c5, if_neg c6]
    by_cases c7 : hexAt s i < 65536
    · rw [if_neg (by omega)] at base
      by_cases c8 : scalarN (hexAt s i) = true
      · rw [if_pos c8] at base
        exact one _ _ base (esc_six s p b i _ w hs' hsc hin' hno rfl c7 c8)
      · rw [if_neg c8] at base
        by_cases c9 : hexAt s i < 56320 ∧ 56320 ≤ hexAt s (i + 6) ∧ hexAt s (i + 6) ≤ 57343
        · rw [if_pos c9] at base
          exact one _ _ base (esc_pair s p b i _ _ w hE hs' hsc hin' hno rfl c7 c8 (by rw [if_pos (by omega)]) c9.1 c9.2.1 c9.2.2)
        · rw [if_neg c9] at base
          refine two 0 _ _ base (esc_nopair s p b i _ _ w hE hs' hsc hin' hno rfl c7 c8 rfl ?_)
          split
          · exact c9
          · omega
    · rw [if_pos (by omega)] at base
      exact two 1 _ _ base (esc_none s p b i w hE hs' hsc hin' hno c7)
  · have h0 : bAt s (i + 1) = 0 := bAt_ge s (i + 1) (by omega)
    have c7 : ¬ hexAt s i < 65536 := fun h => by have := (hexAt_ok h).1; omega
    have base : escAt s i = (2, 0, 0) := by
      conv => lhs; unfold escAt
      simp only
      rw [h0, if_neg (by decide), if_neg (by decide), if_neg (by decide), if_neg (by decide), if_neg (by decide), if_neg (by decide), if_pos (by omega)]
    exact two 1 _ _ base (esc_end s p b i w hE hs' hsc (by omega) (by omega) c7)

end Go.Proofs.YtibopkodoidjoaaGreatDoor
