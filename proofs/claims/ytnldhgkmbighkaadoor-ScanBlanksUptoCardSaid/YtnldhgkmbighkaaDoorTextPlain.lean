/- Plain laws: a text's runes are its bytes. -/
import Derived.Test.YtnldhgkmbighkaaDoorScanPlain
import Derived.Lib.RuneBytes
namespace Go.Proofs.YtnldhgkmbighkaaDoor
open Go Go.RowKit

theorem encodeRune_enc {r : Nat} (h : scalarN r = true) : Lib.encodeRune (r : Int) = (encN r).map UInt8.ofNat := by
  have hs := scalarN_iff.1 h
  unfold Lib.encodeRune
  have e : ∀ x : Nat, (x : Int).toNat.toUInt8 = UInt8.ofNat x := fun x => rfl
  by_cases h1 : r < 128
  · rw [Lib.encodeRuneZ_one (by omega) (by omega)]
    unfold encN; rw [if_pos h1]; rfl
  by_cases h2 : r < 2048
  · rw [Lib.encodeRuneZ_two (by omega) (by omega)]
    unfold encN; rw [if_neg h1, if_pos h2]
    rw [show (192 + (r : Int) / 64) = ((192 + r / 64 : Nat) : Int) by omega, show (128 + (r : Int) % 64) = ((128 + r % 64 : Nat) : Int) by omega]
    rfl
  by_cases h3 : r < 65536
  · rw [Lib.encodeRuneZ_three (by omega)]
    unfold encN; rw [if_neg h1, if_neg h2, if_pos h3]
    rw [show (224 + (r : Int) / 4096) = ((224 + r / 4096 : Nat) : Int) by omega, show (128 + (r : Int) / 64 % 64) = ((128 + r / 64 % 64 : Nat) : Int) by omega, show (128 + (r : Int) % 64) = ((128 + r % 64 : Nat) : Int) by omega]
    rfl
  · rw [Lib.encodeRuneZ_four (by omega) (by omega)]
    unfold encN; rw [if_neg h1, if_neg h2, if_neg h3]
    rw [show (240 + (r : Int) / 262144) = ((240 + r / 262144 : Nat) : Int) by omega, show (128 + (r : Int) / 4096 % 64) = ((128 + r / 4096 % 64 : Nat) : Int) by omega, show (128 + (r : Int) / 64 % 64) = ((128 + r / 64 % 64 : Nat) : Int) by omega, show (128 + (r : Int) % 64) = ((128 + r % 64 : Nat) : Int) by omega]
    rfl
theorem encN_ge {r : Nat} (h : 128 ≤ r) : ∀ x ∈ encN r, 128 ≤ x := by
  unfold encN
  rw [if_neg (by omega)]
  split
  · intro x hx; simp at hx; omega
  · split
    · intro x hx; simp at hx; omega
    · intro x hx; simp at hx; omega
theorem rune_dec {s : ByteArray} {a pos : Nat} (h : a + pos < s.size) (hv : widthAt s (a + pos) ≠ 0) : Utf8.decode (s.extract a s.size) pos = refAt s (a + pos) := by
  have e1 : (s.extract a s.size).size = s.size - a := by rw [ByteArray.size_extract]; omega
  have e2 : (s.extract (a + pos) s.size).size = s.size - (a + pos) := by rw [ByteArray.size_extract]; omega
  have hd : Utf8.decode (s.extract a s.size) pos = Utf8.decode (s.extract (a + pos) s.size) 0 := by
    rw [Lib.decode_at, Lib.decode_at]
    simp only [get_bAt, bAt_extract]
    rw [e1, e2, show s.size - a - pos = s.size - (a + pos) - 0 by omega]
    simp only [Nat.add_assoc, Nat.zero_add, Nat.add_zero]
  rw [hd, refAt_eq h]
  unfold widthAt at hv
  unfold nextS at hv ⊢
  have hg : Lib.decodeGo (s.extract (a + pos) s.size) = Utf8.decode (s.extract (a + pos) s.size) 0 := by
    show (if (s.extract (a + pos) s.size).size = 0 then _ else _) = _
    rw [if_neg (by omega)]
  rw [hg] at hv ⊢
  split
  · rename_i hc
    rw [if_pos hc] at hv
    exact absurd rfl hv
  · rfl
/-- The scalar at a place where one begins: one byte, or two and more. -/
theorem rune_cases {s : ByteArray} {q : Nat} (h : q < s.size) (hv : widthAt s q ≠ 0) :
    scalarN (refAt s q).1 = true ∧ encN (refAt s q).1 = (List.range (refAt s q).2).map (fun j => bAt s (q + j)) ∧ widthAt s q = (refAt s q).2 ∧ q + (refAt s q).2 ≤ s.size ∧
    (((refAt s q).2 = 1 ∧ (refAt s q).1 = bAt s q ∧ bAt s q < 128) ∨ (2 ≤ (refAt s q).2 ∧ 128 ≤ (refAt s q).1 ∧ ∀ j, j < (refAt s q).2 → 128 ≤ bAt s (q + j))) := by
  have hw : widthAt s q = (refAt s q).2 := by unfold widthAt; rw [refAt_eq h]
  rw [hw] at hv
  have hbd := (refF_bd (fun j => bAt s (q + j)) (s.size - q)).1
  have hdef : refAt s q = refF (fun j => bAt s (q + j)) (s.size - q) := rfl
  have hr := hdef
  unfold refF at hr
  split at hr
  · rw [hr] at hv; exact absurd rfl hv
  · split at hr
    · rename_i h1 h2
      obtain ⟨h2, h3⟩ := h2
      have e1 : (refAt s q).1 = accB (fun j => bAt s (q + j)) (rN (bAt s (q + 0)) - 1) := by rw [hr]
      have e2 : (refAt s q).2 = rN (bAt s (q + 0)) := by rw [hr]
      rw [← e1, ← e2] at h3
      rw [← e1] at h2
      refine ⟨h2, h3, hw, by rw [hdef]; omega, ?_⟩
      have hl := congrArg List.length h3
      rw [encN_len, List.length_map, List.length_range] at hl
      have hb := bAt_lt s q
      by_cases h128 : (refAt s q).1 < 128
      · rw [if_pos h128] at hl
        refine Or.inl ⟨hl.symm, ?_, ?_⟩
        · rw [← hl] at h3
          unfold encN at h3
          rw [if_pos h128] at h3
          simpa using h3
        · have : (refAt s q).1 = bAt s q := by
            rw [← hl] at h3
            unfold encN at h3
            rw [if_pos h128] at h3
            simpa using h3
          omega
      · refine Or.inr ⟨?_, by omega, fun j hj => ?_⟩
        · rw [if_neg h128] at hl
          split at hl
          · omega
          · split at hl <;> omega
        · have hm : bAt s (q + j) ∈ encN (refAt s q).1 := by
            rw [h3]
            exact List.mem_map.2 ⟨j, List.mem_range.2 hj, rfl⟩
          exact encN_ge (by omega) _ hm
    · rw [hr] at hv; exact absurd rfl hv
theorem brk_next {s : ByteArray} {q : Nat} (h : q < s.size) (hb : brkAt s q = s.size) : widthAt s q ≠ 0 ∧ brkAt s (q + (refAt s q).2) = s.size := by
  have hw : widthAt s q = (refAt s q).2 := by unfold widthAt; rw [refAt_eq h]
  rw [brkAt_eq, if_pos h] at hb
  split at hb
  · omega
  · rename_i h0; exact ⟨h0, by rw [← hw]; exact hb⟩
theorem brk_ascii {s : ByteArray} {q : Nat} (hb : brkAt s q = s.size) (h : q < s.size) (ha : bAt s q < 128) : brkAt s (q + 1) = s.size := by
  obtain ⟨h0, h1⟩ := brk_next h hb
  obtain ⟨_, _, _, _, h2 | ⟨_, _, h3⟩⟩ := rune_cases h h0
  · rw [h2.1] at h1; exact h1
  · have := h3 0 (by omega)
    rw [Nat.add_zero] at this
    omega
theorem brk_run {s : ByteArray} : ∀ {k q : Nat}, brkAt s q = s.size → q + k ≤ s.size → (∀ j, j < k → bAt s (q + j) < 128) → brkAt s (q + k) = s.size
  | 0, q, hb, _, _ => hb
  | k + 1, q, hb, hk, ha => by
    have h1 := brk_ascii hb (by omega) (ha 0 (by omega))
    have := brk_run (k := k) h1 (by omega) (fun j hj => by have := ha (j + 1) (by omega); rw [show q + 1 + j = q + (j + 1) by omega]; exact this)
    rw [show q + (k + 1) = q + 1 + k by omega]
    exact this
theorem hexD_ascii {c : Nat} (h : hexD c < 16) : c < 128 := by
  unfold hexD at h
  repeat' split at h
  all_goals omega
theorem hexAt_ascii {s : ByteArray} {i : Nat} (h : hexAt s i < 65536) : ∀ j, j < 6 → bAt s (i + j) < 128 := by
  have h2 := hexAt_ok h
  unfold hexAt at h
  rw [if_pos ⟨h2.2.1, h2.2.2⟩] at h
  have hk := (hexF_ok s (i + 2) 4 h).1
  intro j hj
  rcases (show j = 0 ∨ j = 1 ∨ 2 ≤ j by omega) with rfl | rfl | h3
  · rw [Nat.add_zero]; omega
  · omega
  · have := hexD_ascii (hk (j - 2) (by omega))
    rw [show i + 2 + (j - 2) = i + j by omega] at this
    exact this
theorem escAt_ascii {s : ByteArray} {i : Nat} (h92 : bAt s i = 92) (h : (escAt s i).1 = 0) : ∀ j, j < (escAt s i).2.2 → bAt s (i + j) < 128 := by
  have two : bAt s (i + 1) < 128 → ∀ j, j < 2 → bAt s (i + j) < 128 := fun h1 j hj => by
    rcases (show j = 0 ∨ j = 1 by omega) with rfl | rfl
    · rw [Nat.add_zero]; omega
    · exact h1
  unfold escAt at h ⊢
  simp only at h ⊢
  by_cases h1 : bAt s (i + 1) = 34 ∨ bAt s (i + 1) = 92 ∨ bAt s (i + 1) = 47
  · rw [if_pos h1]; exact two (by omega)
  rw [if_neg h1] at h ⊢
  by_cases h2 : bAt s (i + 1) = 98
  · rw [if_pos h2]; exact two (by omega)
  rw [if_neg h2] at h ⊢
  by_cases h3 : bAt s (i + 1) = 102
  · rw [if_pos h3]; exact two (by omega)
  rw [if_neg h3] at h ⊢
  by_cases h4 : bAt s (i + 1) = 110
  · rw [if_pos h4]; exact two (by omega)
  rw [if_neg h4] at h ⊢
  by_cases h5 : bAt s (i + 1) = 114
  · rw [if_pos h5]; exact two (by omega)
  rw [if_neg h5] at h ⊢
  by_cases h6 : bAt s (i + 1) = 116
  · rw [if_pos h6]; exact two (by omega)
  rw [if_neg h6] at h ⊢
  by_cases h7 : 65536 ≤ hexAt s i
  · rw [if_pos h7] at h; cases h
  rw [if_neg h7] at h ⊢
  have h8 := hexAt_ascii (s := s) (i := i) (by omega)
  by_cases h9 : scalarN (hexAt s i) = true
  · rw [if_pos h9]; exact h8
  rw [if_neg h9] at h ⊢
  by_cases ha : hexAt s i < 56320 ∧ 56320 ≤ hexAt s (i + 6) ∧ hexAt s (i + 6) ≤ 57343
  · rw [if_pos ha]
    have hb := hexAt_ascii (s := s) (i := i + 6) (by omega)
    intro j hj
    rcases Nat.lt_or_ge j 6 with h6 | h6
    · exact h8 j h6
    · have := hb (j - 6) (by simp only at hj; omega)
      rw [show i + 6 + (j - 6) = i + j by omega] at this
      exact this
  · rw [if_neg ha] at h; cases h
theorem qAt_high {s : ByteArray} : ∀ {k q : Nat} (acc : List UInt8), q + k ≤ s.size → (∀ j, j < k → 128 ≤ bAt s (q + j)) → qAt s q acc = qAt s (q + k) (acc ++ ((List.range k).map (fun j => bAt s (q + j))).map UInt8.ofNat)
  | 0, q, acc, _, _ => by simp
  | k + 1, q, acc, hk, ha => by
    have h0 := ha 0 (by omega)
    rw [Nat.add_zero] at h0
    rw [qAt_eq, if_pos (by omega), if_neg (by omega), if_neg (by omega), if_neg (by omega)]
    rw [qAt_high (k := k) (q := q + 1) _ (by omega) (fun j hj => by have := ha (j + 1) (by omega); rw [show q + 1 + j = q + (j + 1) by omega]; exact this)]
    rw [show q + 1 + k = q + (k + 1) by omega]
    congr 1
    rw [List.range_succ_eq_map, List.map_cons, List.map_cons, List.map_map, List.append_assoc, Nat.add_zero]
    congr 1
    simp only [List.singleton_append, List.cons.injEq, List.map_map, Nat.add_zero, true_and]
    apply List.map_congr_left
    intro j _
    simp only [Function.comp]
    rw [show q + 1 + j = q + (j + 1) by omega]
/-- A scalar that is no quote, no backslash, none below 32: its bytes stand. -/
theorem qAt_rune {s : ByteArray} {q : Nat} (acc : List UInt8) (h : q < s.size) (hv : widthAt s q ≠ 0) (h34 : (refAt s q).1 ≠ 34) (h32 : 32 ≤ (refAt s q).1) (h92 : (refAt s q).1 ≠ 92) :
    qAt s q acc = qAt s (q + (refAt s q).2) (acc ++ Lib.encodeRune ((refAt s q).1 : Int)) := by
  obtain ⟨h1, h2, h3, h4, h5⟩ := rune_cases h hv
  rw [encodeRune_enc h1, h2]
  rcases h5 with ⟨h5, h6, h7⟩ | ⟨h5, h6, h7⟩
  · rw [h6] at h34 h32 h92
    rw [h5, qAt_eq, if_pos h, if_neg h34, if_neg (by omega), if_neg h92]
    simp
  · exact qAt_high acc h4 h7
theorem rune_byte {s : ByteArray} {q : Nat} (h : q < s.size) (hv : widthAt s q ≠ 0) (c : Nat) (hc : c < 128) : (refAt s q).1 = c ↔ bAt s q = c := by
  obtain ⟨h1, h2, h3, h4, ⟨h5, h6, h7⟩ | ⟨h5, h6, h7⟩⟩ := rune_cases h hv
  · rw [h6]
  · have := h7 0 (by omega)
    rw [Nat.add_zero] at this
    omega
theorem rune_low {s : ByteArray} {q : Nat} (h : q < s.size) (hv : widthAt s q ≠ 0) : (refAt s q).1 < 32 ↔ bAt s q < 32 := by
  obtain ⟨h1, h2, h3, h4, ⟨h5, h6, h7⟩ | ⟨h5, h6, h7⟩⟩ := rune_cases h hv
  · rw [h6]
  · have := h7 0 (by omega)
    rw [Nat.add_zero] at this
    omega

end Go.Proofs.YtnldhgkmbighkaaDoor
