/- Plain laws: a text is UTF-8 just if its bytes are the encodings of scalars. No program in sight. -/
import Derived.Test.YtnldhgkmbighkaaDoorTextPlain
namespace Go.Proofs.YtnldhgkmbighkaaDoor
open Go Go.RowKit

/-- The bytes from i on, up to j. -/
def bs (s : ByteArray) (i j : Nat) : List Nat := (List.range (j - i)).map fun k => bAt s (i + k)
theorem bs_len (s : ByteArray) (i j : Nat) : (bs s i j).length = j - i := by unfold bs; simp
theorem bs_self (s : ByteArray) (i : Nat) : bs s i i = [] := by unfold bs; rw [Nat.sub_self]; rfl
theorem bs_append (s : ByteArray) {i j k : Nat} (h1 : i ≤ j) (h2 : j ≤ k) : bs s i j ++ bs s j k = bs s i k := by
  unfold bs
  rw [show k - i = (j - i) + (k - j) by omega, List.range_add, List.map_append, List.map_map]
  congr 1
  apply List.map_congr_left
  intro a _
  show bAt s (j + a) = bAt s (i + (j - i + a))
  rw [show i + (j - i + a) = j + a by omega]
theorem bs_one (s : ByteArray) (i : Nat) : bs s i (i + 1) = [bAt s i] := by
  unfold bs
  rw [show i + 1 - i = 1 by omega]; rfl
theorem bs_cons (s : ByteArray) {i k : Nat} (h : i < k) : bs s i k = bAt s i :: bs s (i + 1) k := by
  rw [← bs_append s (Nat.le_succ i) h, bs_one]; rfl
theorem bs_congr {s t : ByteArray} {i k n : Nat} (h : ∀ j, j < n → bAt t (k + j) = bAt s (i + j)) : bs t k (k + n) = bs s i (i + n) := by
  unfold bs
  rw [show k + n - k = n by omega, show i + n - i = n by omega]
  apply List.map_congr_left
  intro a ha
  exact h a (List.mem_range.1 ha)

/-- The bytes are the encodings of scalars. -/
def VL (l : List Nat) : Prop := ∃ rs : List Nat, (∀ r ∈ rs, scalarN r = true) ∧ l = rs.flatMap encN
theorem VL.nil : VL [] := ⟨[], by simp, rfl⟩
theorem VL.append {l m : List Nat} (h1 : VL l) (h2 : VL m) : VL (l ++ m) := by
  obtain ⟨a, ha, rfl⟩ := h1
  obtain ⟨b, hb, rfl⟩ := h2
  refine ⟨a ++ b, fun r hr => ?_, by rw [List.flatMap_append]⟩
  rcases List.mem_append.1 hr with h | h
  · exact ha r h
  · exact hb r h
theorem VL.enc {r : Nat} (h : scalarN r = true) : VL (encN r) := ⟨[r], by simpa using h, by simp⟩
theorem VL.one {c : Nat} (h : c < 128) : VL [c] := by
  have := VL.enc (r := c) (scalarN_iff.2 (by omega))
  unfold encN at this
  rwa [if_pos h] at this
theorem VL.ascii {l : List Nat} (h : ∀ c ∈ l, c < 128) : VL l := by
  induction l with
  | nil => exact VL.nil
  | cons c l ih => exact VL.append (l := [c]) (VL.one (h c (List.mem_cons_self ..))) (ih fun d hd => h d (List.mem_cons_of_mem _ hd))
theorem encN_pos (r : Nat) : 0 < (encN r).length := by
  rw [encN_len]; repeat' split
  all_goals omega
theorem refF_enc {r : Nat} (h : scalarN r = true) (b : Nat → Nat) (n : Nat) (hb : (List.range (encN r).length).map b = encN r) (hn : (encN r).length ≤ n) : refF b n = (r, (encN r).length) := by
  have hs := scalarN_iff.1 h
  have key : ∀ m, (encN r).length = m → rN (b 0) = m → accB b (m - 1) = r → refF b n = (r, m) := by
    intro m h1 h2 h3
    unfold refF
    rw [h2, h3, if_neg (by omega), if_pos ⟨h, by rw [← hb, h1]⟩]
  by_cases k1 : r < 128
  · have e : encN r = [r] := by unfold encN; rw [if_pos k1]
    rw [e] at hb ⊢
    simp [List.range_succ] at hb
    exact key 1 (by rw [e]; rfl) (by rw [hb]; unfold rN; rw [if_neg (by omega), if_neg (by omega), if_neg (by omega)]) (by show rB (b 0) = r; rw [hb]; unfold rB; rw [if_neg (by omega), if_neg (by omega), if_neg (by omega)])
  by_cases k2 : r < 2048
  · have e : encN r = [192 + r / 64, 128 + r % 64] := by unfold encN; rw [if_neg k1, if_pos k2]
    rw [e] at hb ⊢
    simp [List.range_succ] at hb
    refine key 2 (by rw [e]; rfl) (by rw [hb.1]; unfold rN; rw [if_neg (by omega), if_neg (by omega), if_pos (by omega)]) ?_
    show rB (b 0) * 64 + b (0 + 1) % 64 = r
    rw [hb.1, hb.2]; unfold rB; rw [if_neg (by omega), if_neg (by omega), if_pos (by omega)]; omega
  by_cases k3 : r < 65536
  · have e : encN r = [224 + r / 4096, 128 + r / 64 % 64, 128 + r % 64] := by unfold encN; rw [if_neg k1, if_neg k2, if_pos k3]
    rw [e] at hb ⊢
    simp [List.range_succ] at hb
    refine key 3 (by rw [e]; rfl) (by rw [hb.1]; unfold rN; rw [if_neg (by omega), if_pos (by omega)]) ?_
    show (rB (b 0) * 64 + b (0 + 1) % 64) * 64 + b (1 + 1) % 64 = r
    rw [hb.1, hb.2.1, hb.2.2]; unfold rB; rw [if_neg (by omega), if_pos (by omega)]; omega
  · have e : encN r = [240 + r / 262144, 128 + r / 4096 % 64, 128 + r / 64 % 64, 128 + r % 64] := by unfold encN; rw [if_neg k1, if_neg k2, if_neg k3]
    rw [e] at hb ⊢
    simp [List.range_succ] at hb
    refine key 4 (by rw [e]; rfl) (by rw [hb.1]; unfold rN; rw [if_pos (by omega)]) ?_
    show ((rB (b 0) * 64 + b (0 + 1) % 64) * 64 + b (1 + 1) % 64) * 64 + b (2 + 1) % 64 = r
    rw [hb.1, hb.2.1, hb.2.2.1, hb.2.2.2]; unfold rB; rw [if_pos (by omega)]; omega
theorem vl_brk (s : ByteArray) : ∀ (rs : List Nat) (i : Nat), (∀ r ∈ rs, scalarN r = true) → i ≤ s.size → bs s i s.size = rs.flatMap encN → brkAt s i = s.size
  | [], i, _, hi, h => by
    have := bs_len s i s.size
    rw [h] at this
    simp at this
    rw [brkAt_eq, if_neg (by omega)]; omega
  | r :: rs, i, hr, hi, h => by
    have hl := bs_len s i s.size
    rw [h, List.flatMap_cons, List.length_append] at hl
    have hp := encN_pos r
    have ha := bs_append s (i := i) (j := i + (encN r).length) (k := s.size) (by omega) (by omega)
    rw [h, List.flatMap_cons] at ha
    obtain ⟨h1, h2⟩ := List.append_inj ha (by rw [bs_len]; omega)
    have hre : refAt s i = (r, (encN r).length) := by
      refine refF_enc (hr r (List.mem_cons_self ..)) _ _ ?_ (by omega)
      have h3 := h1
      unfold bs at h3
      rw [show i + (encN r).length - i = (encN r).length by omega] at h3
      exact h3
    have hw : widthAt s i = (encN r).length := by unfold widthAt; rw [← refAt_eq (by omega), hre]
    rw [brkAt_eq, if_pos (by omega), hw, if_neg (by omega)]
    exact vl_brk s rs _ (fun q hq => hr q (List.mem_cons_of_mem _ hq)) (by omega) h2
theorem brk_vl (s : ByteArray) : ∀ (n i : Nat), s.size - i ≤ n → i ≤ s.size → brkAt s i = s.size → VL (bs s i s.size)
  | 0, i, h1, h2, _ => by rw [show i = s.size by omega, bs_self]; exact VL.nil
  | n + 1, i, h1, h2, hb => by
    by_cases h : i < s.size
    · obtain ⟨h0, hb2⟩ := brk_next h hb
      obtain ⟨hs, he, hw, hle, _⟩ := rune_cases h h0
      rw [hw] at h0
      rw [← bs_append s (i := i) (j := i + (refAt s i).2) (k := s.size) (by omega) hle]
      refine VL.append ?_ (brk_vl s n _ (by omega) hle hb2)
      have : bs s i (i + (refAt s i).2) = encN (refAt s i).1 := by
        rw [he]; unfold bs
        rw [show i + (refAt s i).2 - i = (refAt s i).2 by omega]
      rw [this]; exact VL.enc hs
    · rw [show i = s.size by omega, bs_self]; exact VL.nil
/-- A byte behind a scalar's first begins none. -/
theorem cont_no (b : Nat → Nat) (n : Nat) (h1 : 128 ≤ b 0) (h2 : b 0 < 192) : refF b n = (0, 0) := by
  have e : rN (b 0) = 1 := by unfold rN; rw [if_neg (by omega), if_neg (by omega), if_neg (by omega)]
  unfold refF
  rw [e]
  split
  · rfl
  · rw [if_neg]
    rintro ⟨_, h⟩
    have ac : accB b (1 - 1) = b 0 := by
      show rB (b 0) = b 0
      unfold rB; rw [if_neg (by omega), if_neg (by omega), if_neg (by omega)]
    rw [ac] at h
    have hl := congrArg List.length h
    rw [encN_len] at hl
    simp at hl
    repeat' split at hl
    all_goals omega
theorem encN_tail {r : Nat} (h : scalarN r = true) : ∀ j, 0 < j → j < (encN r).length → 128 ≤ (encN r).getD j 0 ∧ (encN r).getD j 0 < 192 := by
  have hs := scalarN_iff.1 h
  intro j h1 h2
  unfold encN at h2 ⊢
  split at h2
  · simp at h2; omega
  · rename_i k1
    rw [if_neg k1]
    split at h2
    · rename_i k2
      rw [if_pos k2]
      simp at h2
      obtain rfl : j = 1 := by omega
      simp; omega
    · rename_i k2
      rw [if_neg k2]
      split at h2
      · rename_i k3
        rw [if_pos k3]
        simp at h2
        rcases (show j = 1 ∨ j = 2 by omega) with rfl | rfl <;> (simp; omega)
      · rename_i k3
        rw [if_neg k3]
        simp at h2
        rcases (show j = 1 ∨ j = 2 ∨ j = 3 by omega) with rfl | rfl | rfl <;> (simp; omega)
/-- Between two places where scalars begin lie whole scalars. -/
theorem seg_vl (s : ByteArray) (j : Nat) (hj : j ≤ s.size) (hbj : brkAt s j = s.size) : ∀ (n i : Nat), j - i ≤ n → i ≤ j → brkAt s i = s.size → VL (bs s i j)
  | 0, i, h1, h2, _ => by rw [show i = j by omega, bs_self]; exact VL.nil
  | n + 1, i, h1, h2, hb => by
    by_cases h : i < j
    · obtain ⟨h0, hb2⟩ := brk_next (show i < s.size by omega) hb
      obtain ⟨hs, he, hw, hle, _⟩ := rune_cases (show i < s.size by omega) h0
      rw [hw] at h0
      have hbs : bs s i (i + (refAt s i).2) = encN (refAt s i).1 := by
        rw [he]; unfold bs
        rw [show i + (refAt s i).2 - i = (refAt s i).2 by omega]
      by_cases hc : i + (refAt s i).2 ≤ j
      · rw [← bs_append s (i := i) (j := i + (refAt s i).2) (k := j) (by omega) hc]
        refine VL.append ?_ (seg_vl s j hj hbj n _ (by omega) hc hb2)
        rw [hbs]; exact VL.enc hs
      · exfalso
        have hlen : (encN (refAt s i).1).length = (refAt s i).2 := by rw [he]; simp
        have ht := encN_tail hs (j - i) (by omega) (by omega)
        have hv : (encN (refAt s i).1).getD (j - i) 0 = bAt s j := by
          rw [he, List.getD_eq_getElem?_getD, List.getElem?_map, List.getElem?_range (by omega)]
          simp [show i + (j - i) = j by omega]
        rw [hv] at ht
        obtain ⟨h3, _⟩ := brk_next (show j < s.size by omega) hbj
        apply h3
        unfold widthAt
        rw [← refAt_eq (by omega)]
        unfold refAt
        rw [cont_no _ _ (by simpa using ht.1) (by simpa using ht.2)]
    · rw [show i = j by omega, bs_self]; exact VL.nil
theorem utfE_brk (s : ByteArray) : utfE s = 0 ↔ brkAt s 0 = s.size := by
  have := brkAt_le s
  unfold utfE
  split <;> omega
theorem utfE_iff (s : ByteArray) : utfE s = 0 ↔ VL (bs s 0 s.size) := by
  rw [utfE_brk]
  constructor
  · exact brk_vl s _ 0 (Nat.le_refl _) (Nat.zero_le _)
  · rintro ⟨rs, hr, h⟩
    exact vl_brk s rs 0 hr (Nat.zero_le _) h
/-- Bytes of a list. -/
def nthN (l : List UInt8) (k : Nat) : Nat := ((l[k]?).map UInt8.toNat).getD 0
theorem bAt_nth (s : ByteArray) (k : Nat) : bAt s k = nthN s.data.toList k := by
  unfold bAt nthN
  by_cases h : k < s.size
  · rw [dif_pos h, List.getElem?_eq_getElem (by simpa using h)]
    rfl
  · rw [dif_neg h, List.getElem?_eq_none (by simpa using h)]
    rfl
theorem bAt_mk (l : List UInt8) (k : Nat) : bAt ⟨l.toArray⟩ k = nthN l k := by rw [bAt_nth]
theorem size_mk (l : List UInt8) : (⟨l.toArray⟩ : ByteArray).size = l.length := by show l.toArray.size = _; simp
theorem nth_left {l m : List UInt8} {k : Nat} (h : k < l.length) : nthN (l ++ m) k = nthN l k := by unfold nthN; rw [List.getElem?_append_left h]
theorem nth_right (l m : List UInt8) (k : Nat) : nthN (l ++ m) (l.length + k) = nthN m k := by unfold nthN; rw [List.getElem?_append_right (by omega), show l.length + k - l.length = k by omega]
theorem bs_list (s : ByteArray) : bs s 0 s.size = s.data.toList.map UInt8.toNat := by
  unfold bs
  apply List.ext_getElem
  · simp
  · intro i h1 h2
    simp at h1
    simp
    rw [← bAt_eq s i h1]; rfl
theorem utfE_mk (l : List UInt8) : utfE ⟨l.toArray⟩ = 0 ↔ VL (l.map UInt8.toNat) := by rw [utfE_iff, bs_list]

end Go.Proofs.YtnldhgkmbighkaaDoor
