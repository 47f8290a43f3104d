/- Plain laws: decimal digits of whole numbers. No program in sight. -/
import Derived.Lib.ItoaNum
import Derived.Lib.ParseIntBCases
import Derived.Lib.SlTrimSet
namespace Go.Proofs.YtnldhgkmbighkaaDoor
open Go

def isDig (c : UInt8) : Prop := 48 ≤ c.toNat ∧ c.toNat ≤ 57
instance (c : UInt8) : Decidable (isDig c) := by unfold isDig; infer_instance
/-- What digits tell, behind acc. -/
def dvalA (acc : Nat) (l : List UInt8) : Nat := l.foldl (fun a c => a * 10 + (c.toNat - 48)) acc
theorem dvalA_nil (acc : Nat) : dvalA acc [] = acc := by simp only [dvalA, List.foldl_nil]
theorem dvalA_cons (acc : Nat) (c : UInt8) (l : List UInt8) : dvalA acc (c :: l) = dvalA (acc * 10 + (c.toNat - 48)) l := by simp only [dvalA, List.foldl_cons]
theorem dvalA_append (acc : Nat) (l m : List UInt8) : dvalA acc (l ++ m) = dvalA (dvalA acc l) m := by
  simp only [dvalA, List.foldl_append]
theorem dvalA_ge (l : List UInt8) : ∀ acc, acc ≤ dvalA acc l := by
  induction l with
  | nil => intro acc; exact Nat.le_refl _
  | cons c l ih => intro acc; rw [dvalA_cons]; have := ih (acc * 10 + (c.toNat - 48)); omega
theorem dvalA_len (l : List UInt8) : ∀ acc, acc * 10 ^ l.length ≤ dvalA acc l := by
  induction l with
  | nil => intro acc; rw [dvalA_nil, List.length_nil]; omega
  | cons c l ih =>
    intro acc
    rw [dvalA_cons, List.length_cons, Nat.pow_succ]
    have := ih (acc * 10 + (c.toNat - 48))
    rw [Nat.add_mul] at this
    have e : acc * (10 ^ l.length * 10) = acc * 10 * 10 ^ l.length := by rw [Nat.mul_comm (10 ^ l.length) 10, Nat.mul_assoc]
    rw [e]; omega
theorem dvalA_lt (l : List UInt8) (h : ∀ c ∈ l, isDig c) : ∀ acc, dvalA acc l < (acc + 1) * 10 ^ l.length := by
  induction l with
  | nil => intro acc; rw [dvalA_nil, List.length_nil]; omega
  | cons c l ih =>
    intro acc
    rw [dvalA_cons, List.length_cons, Nat.pow_succ]
    have h1 := ih (fun d hd => h d (List.mem_cons_of_mem _ hd)) (acc * 10 + (c.toNat - 48))
    have h2 : isDig c := h c (List.mem_cons_self ..)
    unfold isDig at h2
    have h3 : (acc * 10 + (c.toNat - 48) + 1) * 10 ^ l.length ≤ ((acc + 1) * 10) * 10 ^ l.length := Nat.mul_le_mul_right _ (by omega)
    have e : (acc + 1) * (10 ^ l.length * 10) = (acc + 1) * 10 * 10 ^ l.length := by rw [Nat.mul_comm (10 ^ l.length) 10, Nat.mul_assoc]
    rw [e]; omega

/-- Digits without a needless nought ahead. -/
def Canon (l : List UInt8) : Prop := (∀ c ∈ l, isDig c) ∧ l ≠ [] ∧ (l.head? ≠ some 48 ∨ l = [48])
theorem digit_ofNat {n : Nat} (h : n < 10) : (UInt8.ofNat (48 + n)).toNat = 48 + n := by
  rw [UInt8.toNat_ofNat']; omega
theorem isDig_ofNat {n : Nat} (h : n < 10) : isDig (UInt8.ofNat (48 + n)) := by
  unfold isDig; rw [digit_ofNat h]; omega
theorem decDigits_spec (u : Nat) : (∀ c ∈ Lib.decDigits u, isDig c) ∧ Lib.decDigits u ≠ [] ∧ dvalA 0 (Lib.decDigits u) = u ∧ (0 < u → (Lib.decDigits u).head? ≠ some 48) := by
  induction u using Nat.strongRecOn with
  | _ u ih =>
    rw [Lib.decDigits]
    split
    · rename_i h
      refine ⟨?_, by simp, ?_, fun h0 => ?_⟩
      · intro c hc
        simp only [List.mem_singleton] at hc
        subst hc
        exact isDig_ofNat h
      · rw [dvalA_cons, dvalA_nil, digit_ofNat h]; omega
      · intro e
        simp only [List.head?_cons, Option.some.injEq] at e
        have := congrArg UInt8.toNat e
        rw [digit_ofNat h] at this
        have h48 : (48 : UInt8).toNat = 48 := rfl
        omega
    · rename_i h
      obtain ⟨h1, h2, h3, h4⟩ := ih (u / 10) (by omega)
      refine ⟨?_, by simp, ?_, fun _ => ?_⟩
      · intro c hc
        rcases List.mem_append.1 hc with hc | hc
        · exact h1 c hc
        · simp only [List.mem_singleton] at hc
          subst hc
          exact isDig_ofNat (by omega)
      · rw [dvalA_append, h3, dvalA_cons, dvalA_nil, digit_ofNat (by omega)]; omega
      · have h5 := h4 (by omega)
        cases hd : Lib.decDigits (u / 10) with
        | nil => exact absurd hd h2
        | cons c l => rw [hd] at h5; simpa using h5
theorem decDigits_canon (u : Nat) : Canon (Lib.decDigits u) := by
  obtain ⟨h1, h2, h3, h4⟩ := decDigits_spec u
  refine ⟨h1, h2, ?_⟩
  by_cases hu : 0 < u
  · exact Or.inl (h4 hu)
  · have : u = 0 := by omega
    subst this
    exact Or.inr (by rw [Lib.decDigits]; rfl)
/-- Canonical digits are the digits of what they tell. -/
theorem canon_unique : ∀ (n : Nat) (l : List UInt8), l.length = n → Canon l → Lib.decDigits (dvalA 0 l) = l := by
  intro n
  induction n with
  | zero => intro l hl hc; exact absurd (List.eq_nil_of_length_eq_zero hl) hc.2.1
  | succ n ih =>
    intro l hl hc
    obtain ⟨m, c, rfl⟩ : ∃ m c, l = m ++ [c] := ⟨l.dropLast, l.getLast hc.2.1, (List.dropLast_concat_getLast hc.2.1).symm⟩
    have hcd : isDig c := hc.1 c (by simp)
    have e : dvalA 0 (m ++ [c]) = dvalA 0 m * 10 + (c.toNat - 48) := by rw [dvalA_append, dvalA_cons, dvalA_nil]
    unfold isDig at hcd
    by_cases hm : m = []
    · subst hm
      rw [e, dvalA_nil, Lib.decDigits, dif_pos (by omega), List.nil_append]
      congr 1
      apply UInt8.toNat_inj.1
      rw [UInt8.toNat_ofNat']; omega
    · have hcm : Canon m := by
        refine ⟨fun d hd => hc.1 d (List.mem_append_left _ hd), hm, Or.inl ?_⟩
        cases m with
        | nil => exact absurd rfl hm
        | cons d m =>
          rcases hc.2.2 with h | h
          · simpa using h
          · simp at h
      have h0 : 0 < dvalA 0 m := by
        cases m with
        | nil => exact absurd rfl hm
        | cons d m =>
          rcases hcm.2.2 with h | h
          · have hd : isDig d := hcm.1 d (List.mem_cons_self ..)
            unfold isDig at hd
            have hne : d.toNat ≠ 48 := fun e => h (by rw [List.head?_cons]; congr 1; exact UInt8.toNat_inj.1 e)
            rw [dvalA_cons]
            have := dvalA_ge m (0 * 10 + (d.toNat - 48))
            omega
          · rw [List.cons.injEq] at h
            obtain ⟨rfl, rfl⟩ := h
            exfalso
            rcases hc.2.2 with h | h
            · simp at h
            · simp at h
      have := ih m (by simpa using hl) hcm
      rw [e, Lib.decDigits, dif_neg (by omega)]
      rw [show (dvalA 0 m * 10 + (c.toNat - 48)) / 10 = dvalA 0 m by omega, this]
      congr 2
      apply UInt8.toNat_inj.1
      rw [UInt8.toNat_ofNat']; omega
theorem canon_pow {c : UInt8} {l : List UInt8} (h : Canon (c :: l)) (hl : l ≠ []) : 10 ^ l.length ≤ dvalA 0 (c :: l) := by
  have hd : isDig c := h.1 c (List.mem_cons_self ..)
  unfold isDig at hd
  have hne : c.toNat ≠ 48 := fun e => by
    rcases h.2.2 with h' | h'
    · exact h' (by rw [List.head?_cons]; congr 1; exact UInt8.toNat_inj.1 e)
    · simp at h'; exact hl h'.2
  rw [dvalA_cons]
  have h1 := dvalA_len l (0 * 10 + (c.toNat - 48))
  have h2 : 1 * 10 ^ l.length ≤ (0 * 10 + (c.toNat - 48)) * 10 ^ l.length := Nat.mul_le_mul_right _ (by omega)
  omega

/-- The library's reader, on digits. -/
theorem parseUintM_digits (l : List UInt8) : ∀ acc, (∀ c ∈ l, isDig c) → acc ≤ 18446744073709551615 →
    Lib.parseUintM 18446744073709551615 acc l = if dvalA acc l ≤ 18446744073709551615 then .ok (dvalA acc l) else .range := by
  induction l with
  | nil => intro acc _ h; rw [Lib.parseUintM, dvalA_nil, if_pos h]
  | cons c l ih =>
    intro acc hd h
    have hc : isDig c := hd c (List.mem_cons_self ..)
    unfold isDig at hc
    rw [Lib.parseUintM, if_pos hc, dvalA_cons]
    have hge := dvalA_ge l (acc * 10 + (c.toNat - 48))
    split
    · rw [if_neg (by omega)]
    · split
      · rw [if_neg (by omega)]
      · exact ih _ (fun d hd' => hd d (List.mem_cons_of_mem _ hd')) (by omega)
theorem parseUintB_digits {l : List UInt8} (hd : ∀ c ∈ l, isDig c) (hn : l ≠ []) :
    Lib.parseUintB 64 l = if dvalA 0 l ≤ 18446744073709551615 then .ok (dvalA 0 l) else .range := by
  unfold Lib.parseUintB
  rw [if_neg hn]
  exact parseUintM_digits l 0 hd (by omega)
/-- ParseInt of canonical digits, a minus ahead or not. -/
theorem parseIntB_pos {l : List UInt8} (h : Canon l) : Lib.parseIntB 64 l = if dvalA 0 l < 9223372036854775808 then .ok (dvalA 0 l : Int) else .range := by
  cases l with
  | nil => exact absurd rfl h.2.1
  | cons c l =>
    have hc : isDig c := h.1 c (List.mem_cons_self ..)
    unfold isDig at hc
    rw [Lib.parseIntB_plain 64 c l (by omega) (by omega), parseUintB_digits h.1 (by simp)]
    by_cases h1 : dvalA 0 (c :: l) < 9223372036854775808
    · rw [if_pos (by omega), if_pos h1]
      simp [Lib.signlessC]; omega
    · rw [if_neg h1]
      by_cases h2 : dvalA 0 (c :: l) ≤ 18446744073709551615
      · rw [if_pos h2]; simp [Lib.signlessC]; omega
      · rw [if_neg h2]; rfl
theorem parseIntB_neg {l : List UInt8} (h : Canon l) : Lib.parseIntB 64 (45 :: l) = if dvalA 0 l ≤ 9223372036854775808 then .ok (-(dvalA 0 l : Int)) else .range := by
  rw [Lib.parseIntB_minus, parseUintB_digits h.1 h.2.1]
  by_cases h1 : dvalA 0 l ≤ 9223372036854775808
  · rw [if_pos (by omega), if_pos h1]
    simp [Lib.signedC]; omega
  · rw [if_neg h1]
    by_cases h2 : dvalA 0 l ≤ 18446744073709551615
    · rw [if_pos h2]; simp [Lib.signedC]; omega
    · rw [if_neg h2]; rfl

theorem dw_nil (p : UInt8 → Bool) (l : List UInt8) : l.dropWhile p = [] ↔ ∀ c ∈ l, p c = true := by
  induction l with
  | nil => simp
  | cons c l ih =>
    rw [List.dropWhile_cons]
    by_cases h : p c = true
    · rw [if_pos h, ih]; simp [h]
    · rw [if_neg h]; simp [h]
theorem trimS_nil_iff (l cs : List UInt8) : Lib.trimS l cs = [] ↔ ∀ c ∈ l, cs.contains c = true := by
  unfold Lib.trimS Lib.trimLeftS Lib.trimRightS
  constructor
  · intro h c hc
    rw [dw_nil] at h
    by_cases hn : l.reverse.dropWhile (cs.contains ·) = []
    · rw [dw_nil] at hn
      exact hn c (List.mem_reverse.2 hc)
    · exfalso
      have h1 := List.head_dropWhile_not (cs.contains ·) hn
      have h2 := h ((l.reverse.dropWhile (cs.contains ·)).head hn) (List.mem_reverse.2 (List.head_mem hn))
      rw [h1] at h2
      cases h2
  · intro h
    have : l.reverse.dropWhile (cs.contains ·) = [] := by
      rw [dw_nil]
      intro c hc
      exact h c (List.mem_reverse.1 hc)
    rw [this]; rfl

end Go.Proofs.YtnldhgkmbighkaaDoor
