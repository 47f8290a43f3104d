/- Plain laws: a text that is one token; what a scan's list holds. No program in sight. -/
import Derived.Test.YtnldhgkmbighkaaDoorQuotePlain
namespace Go.Proofs.YtnldhgkmbighkaaDoor
open Go Go.RowKit

/-- A text that is just one token of a kind. -/
def single (s : ByteArray) (k : Nat) (ts : List Tk) : Bool := match ts with | [T] => T.kind == k && (T.fr == 0 && T.to == s.size) | _ => false
def hasE (s : ByteArray) : Bool := s.data.toList.any fun c => c == 46 || c == 101 || c == 69
/-- The text that JSON tells; its place and the error's number (place none: no place). -/
def unqS (s : ByteArray) : ByteArray × Option Nat × Nat :=
  if (someS s).2.1 = 0 then (if single s 5 (someS s).1 = true then ((((someS s).1.head?).map (·.text)).getD noS, some 0, 0) else (noS, none, 5)) else (noS, some (someS s).2.2, (someS s).2.1)
/-- The tokens of a text, in their places. -/
theorem some_chain {s : ByteArray} (h : (someS s).2.1 = 0) : utfE s = 0 ∧ Chain s 0 (someS s).1 ∧ someS s = ((someS s).1, 0, 0) := by
  by_cases hu : utfE s = 0
  · have hb := (utfE_brk _).1 hu
    have e := someS_eq s
    rw [if_pos hu] at e
    have h2 : someS s = ((someS s).1, 0, 0) := by
      have key : ∀ n i, s.size - i ≤ n → i ≤ s.size → brkAt s i = s.size → (scanAt s i).2.1 = 0 → (scanAt s i).2.2 = 0 := by
        intro n
        induction n with
        | zero =>
          intro i h1 h2 h3 h4
          rw [scanAt_eq s i h3, if_neg (by omega)]
        | succ n ih =>
          intro i h1 h2 h3 h4
          rw [scanAt_eq s i h3] at h4 ⊢
          by_cases hi : i < s.size
          · rw [if_pos hi] at h4 ⊢
            by_cases hbl : blankN (bAt s i) = true
            · rw [if_pos hbl] at h4 ⊢
              exact ih _ (by omega) (by omega) (brk_ascii h3 hi (blank_ascii hbl).2) h4
            rw [if_neg hbl] at h4 ⊢
            by_cases ho : (oneAt s i).1 = 0
            · rw [if_pos ho] at h4 ⊢
              have h5 := oneAt_ok s i hi h3 ho
              exact ih _ (by omega) h5.2.2.1 h5.2.2.2.1 h4
            · rw [if_neg ho] at h4
              exact absurd h4 ho
          · rw [if_neg hi]
      have h3 := key _ 0 (Nat.le_refl _) (Nat.zero_le _) hb (by rw [← e]; exact h)
      rw [← e] at h3
      have : ∀ R : List Tk × Nat × Nat, R.2.1 = 0 → R.2.2 = 0 → R = (R.1, 0, 0) := by
        rintro ⟨a, b, c⟩ h1 h2
        simp only at h1 h2
        rw [h1, h2]
      exact this _ h h3
    refine ⟨hu, (scan_chain _ 0 (Nat.zero_le _) hb).1 ?_, h2⟩
    rw [← e]; exact h2
  · rw [someS_eq, if_neg hu] at h; simp at h
/-- Tokens rise. -/
theorem chain_bd {s : ByteArray} : ∀ (ts : List Tk) (p : Nat), brkAt s p = s.size → p ≤ s.size → Chain s p ts → ∀ T ∈ ts, p ≤ T.fr ∧ T.fr < T.to ∧ T.to ≤ s.size ∧ brkAt s T.fr = s.size ∧ brkAt s T.to = s.size ∧ oneAt s T.fr = (0, 0, T)
  | [], _, _, _, _, T, hT => by cases hT
  | T' :: ts, p, hb, hp, ⟨h1, h2, h3, h4, h5⟩, T, hT => by
    have hbb : brkAt s T'.fr = s.size := by
      refine Low.brk (i := p) ⟨h1, by omega, fun k hk1 hk2 => (blank_ascii (h3 k hk1 hk2)).2⟩ hb
    have hfr := one_fr h2 hbb h4
    rcases List.mem_cons.1 hT with rfl | hT
    · exact ⟨h1, hfr.2.1, hfr.2.2.1, hbb, hfr.2.2.2.1, h4⟩
    · have := chain_bd ts T'.to hfr.2.2.2.1 hfr.2.2.1 h5 T hT
      exact ⟨by omega, this.2⟩

end Go.Proofs.YtnldhgkmbighkaaDoor
