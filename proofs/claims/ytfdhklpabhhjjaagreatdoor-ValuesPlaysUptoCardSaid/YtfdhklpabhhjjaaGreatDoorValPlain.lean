/- Plain laws of values: there and back. -/
import Derived.Test.YtfdhklpabhhjjaaGreatDoorValues3
import Derived.Test.YtfdhklpabhhjjaaGreatDoorNumPlain
namespace Go.Proofs.YtfdhklpabhhjjaaGreatDoor
open Go Go.RowKit

theorem digs_contains (c : UInt8) : digs.contains c = true ↔ isDig c := by
  unfold isDig
  constructor
  · intro h
    have h1 : c ∈ digs := by simpa using h
    simp only [digs, List.mem_cons, List.mem_nil_iff, or_false] at h1
    rcases h1 with rfl | rfl | rfl | rfl | rfl | rfl | rfl | rfl | rfl | rfl <;> decide
  · intro h
    have e : c = UInt8.ofNat c.toNat := by simp
    have h2 : c.toNat = 48 ∨ c.toNat = 49 ∨ c.toNat = 50 ∨ c.toNat = 51 ∨ c.toNat = 52 ∨ c.toNat = 53 ∨ c.toNat = 54 ∨ c.toNat = 55 ∨ c.toNat = 56 ∨ c.toNat = 57 := by omega
    rcases h2 with h2 | h2 | h2 | h2 | h2 | h2 | h2 | h2 | h2 | h2 <;> (rw [e, h2]; decide)
theorem wholeD_iff (d l : List UInt8) : wholeD d l (Lib.trimS d digs) = true ↔ (∀ c ∈ d, isDig c) ∧ d ≠ [] ∧ (d.head? ≠ some 48 ∨ l = [48]) := by
  cases d with
  | nil => simp [wholeD]
  | cons x r =>
    by_cases h : Lib.trimS (x :: r) digs = []
    · have h1 := (trimS_nil_iff _ _).1 h
      have h2 : ∀ c ∈ x :: r, isDig c := fun c hc => (digs_contains c).1 (h1 c hc)
      rw [h]
      simp only [wholeD, Bool.or_eq_true, Bool.not_eq_true', beq_eq_false_iff_ne, beq_iff_eq]
      constructor
      · intro h3
        exact ⟨h2, by simp, h3.imp (fun h e => h (by simpa using e)) id⟩
      · intro h3
        exact h3.2.2.imp (fun h e => h (by simp [e])) id
    · have h1 : ¬ ∀ c ∈ x :: r, isDig c := fun h2 => h ((trimS_nil_iff _ _).2 fun c hc => (digs_contains c).2 (h2 c hc))
      cases hz : Lib.trimS (x :: r) digs with
      | nil => exact absurd hz h
      | cons y z =>
        simp only [wholeD]
        constructor
        · intro h2; cases h2
        · intro h2; exact absurd h2.1 h1
theorem tp_minus (r : List UInt8) : Lib.trimPrefix (45 :: r) [45] = r := by simp [Lib.trimPrefix, Lib.hasPrefix]
theorem tp_other {l : List UInt8} (h : l.head? ≠ some 45) : Lib.trimPrefix l [45] = l := by
  cases l with
  | nil => rfl
  | cons c r =>
    have : ¬ (45 = c) := fun e => h (by simp [e])
    simp [Lib.trimPrefix, Lib.hasPrefix, this]
theorem canon_head {l : List UInt8} (h : Canon l) : ∃ c r, l = c :: r ∧ isDig c := by
  cases l with
  | nil => exact absurd rfl h.2.1
  | cons c r => exact ⟨c, r, rfl, h.1 c (List.mem_cons_self ..)⟩
theorem canon_not45 {l : List UInt8} (h : Canon l) : l.head? ≠ some 45 := by
  obtain ⟨c, r, rfl, hc⟩ := canon_head h
  intro e
  simp only [List.head?_cons, Option.some.injEq] at e
  subst e
  exact absurd hc (by decide)
theorem whole_iff (s : ByteArray) : wholeB s = true ↔ Canon s.data.toList ∨ ∃ r, s.data.toList = 45 :: r ∧ Canon r ∧ r ≠ [48] := by
  unfold wholeB
  rw [wholeD_iff]
  by_cases h : s.data.toList.head? = some 45
  · obtain ⟨r, hr⟩ : ∃ r, s.data.toList = 45 :: r := by
      cases hl : s.data.toList with
      | nil => rw [hl] at h; cases h
      | cons c r => rw [hl] at h; simp only [List.head?_cons, Option.some.injEq] at h; exact ⟨r, by rw [h]⟩
    rw [hr, tp_minus]
    constructor
    · rintro ⟨h1, h2, h3⟩
      refine Or.inr ⟨r, rfl, ⟨h1, h2, ?_⟩, ?_⟩
      · rcases h3 with h3 | h3
        · exact Or.inl h3
        · simp at h3
      · rintro rfl
        rcases h3 with h3 | h3
        · simp at h3
        · simp at h3
    · rintro (h1 | ⟨r', h1, h2, h3⟩)
      · exact absurd rfl (canon_not45 h1)
      · simp only [List.cons.injEq, true_and] at h1
        subst h1
        refine ⟨h2.1, h2.2.1, Or.inl ?_⟩
        rcases h2.2.2 with h4 | h4
        · exact h4
        · exact absurd h4 h3
  · rw [tp_other h]
    constructor
    · rintro ⟨h1, h2, h3⟩
      exact Or.inl ⟨h1, h2, h3⟩
    · rintro (h1 | ⟨r', h1, _, _⟩)
      · exact h1
      · rw [h1] at h; exact absurd rfl h
theorem canon_zero {l : List UInt8} (h : Canon l) (hz : dvalA 0 l = 0) : l = [48] := by
  have := canon_unique _ l rfl h
  rw [hz, Lib.decDigits] at this
  rw [← this]; rfl
theorem ba_eq {s : ByteArray} {l : List UInt8} (h : s.data.toList = l) : s = ⟨l.toArray⟩ := by
  obtain ⟨⟨m⟩⟩ := s
  simp only at h
  rw [h]
theorem vCheck_num (n : Int) : vCheck ⟨2, n, ⟨#[]⟩⟩ = 0 := by kernel_rfl
/-- What is read is the text of what was read. -/
theorem vParse_back {s : ByteArray} {p : Pl} (h : vParse s = (p, 0)) : vCheck p = 0 ∧ vText p = s ∧ -9223372036854775808 ≤ p.num ∧ p.num ≤ 9223372036854775807 ∧ p.text.size ≤ s.size := by
  unfold vParse at h
  by_cases h1 : s.toList = [110, 117, 108, 108]
  · rw [if_pos h1] at h
    obtain rfl := (Prod.mk.inj h).1
    rw [Lib.toList_data] at h1
    exact ⟨by kernel_rfl, by rw [ba_eq h1]; kernel_rfl, by decide, by decide, Nat.zero_le _⟩
  rw [if_neg h1] at h
  by_cases h2 : s.toList = [116, 114, 117, 101]
  · rw [if_pos h2] at h
    obtain rfl := (Prod.mk.inj h).1
    rw [Lib.toList_data] at h2
    exact ⟨by kernel_rfl, by rw [ba_eq h2]; kernel_rfl, by decide, by decide, Nat.zero_le _⟩
  rw [if_neg h2] at h
  by_cases h3 : s.toList = [102, 97, 108, 115, 101]
  · rw [if_pos h3] at h
    obtain rfl := (Prod.mk.inj h).1
    rw [Lib.toList_data] at h3
    exact ⟨by kernel_rfl, by rw [ba_eq h3]; kernel_rfl, by decide, by decide, Nat.zero_le _⟩
  rw [if_neg h3] at h
  cases h4 : Lib.hasPrefix s.data.toList [39] with
  | true =>
    rw [h4, if_pos rfl] at h
    obtain ⟨rfl, he⟩ := Prod.mk.inj h
    obtain ⟨r, hr⟩ : ∃ r, s.data.toList = 39 :: r := by
      cases hl : s.data.toList with
      | nil => rw [hl] at h4; cases h4
      | cons c r =>
        rw [hl] at h4
        have : (39 : UInt8) = c := by simpa [Lib.hasPrefix] using h4
        exact ⟨r, by rw [this]⟩
    have ht : Lib.trimPrefix s.data.toList [39] = r := by rw [hr]; simp [Lib.trimPrefix, Lib.hasPrefix]
    rw [ht] at he ⊢
    refine ⟨he, ?_, by simp, by simp, ?_⟩
    · rw [ba_eq hr]
      show (⟨#[39]⟩ : ByteArray) ++ ⟨r.toArray⟩ = _
      apply ByteArray.ext
      simp
    · have := Lib.size_eq s
      rw [hr] at this
      show r.length ≤ s.size
      rw [this]; simp
  | false =>
    rw [h4, if_neg (by simp)] at h
    cases h5 : wholeB s with
    | false => rw [h5, if_neg (by simp)] at h; simp at h
    | true =>
      rw [h5, if_pos rfl] at h
      cases h6 : Lib.parseIntB 64 s.data.toList
      case ok v =>
        rw [h6] at h
        obtain rfl := (Prod.mk.inj h).1
        rcases (whole_iff s).1 h5 with hc | ⟨r, hr, hc, hne⟩
        · rw [parseIntB_pos hc] at h6
          split at h6
          · rename_i hlt
            obtain rfl := Lib.NumEnd.ok.inj h6
            refine ⟨vCheck_num _, ?_, by simp only; omega, by simp only; omega, Nat.zero_le _⟩
            show (⟨(Lib.itoa _).toArray⟩ : ByteArray) = s
            rw [Lib.itoa, if_neg (by show ¬ ((dvalA 0 s.data.toList : Int) < 0); omega), Int.toNat_natCast, canon_unique _ _ rfl hc]
          · cases h6
        · rw [hr, parseIntB_neg hc] at h6
          split at h6
          · rename_i hlt
            obtain rfl := Lib.NumEnd.ok.inj h6
            have hp : 0 < dvalA 0 r := Nat.pos_of_ne_zero fun hz => hne (canon_zero hc hz)
            refine ⟨vCheck_num _, ?_, by simp only; omega, by simp only; omega, Nat.zero_le _⟩
            show (⟨(Lib.itoa _).toArray⟩ : ByteArray) = s
            rw [Lib.itoa, if_pos (by show -(dvalA 0 r : Int) < 0; omega), Int.natAbs_neg, Int.natAbs_natCast, canon_unique _ _ rfl hc, ← ba_eq hr]
          · cases h6
      all_goals (rw [h6] at h; simp at h)
/-- A good value comes back from its text. -/
theorem vText_back {p : Pl} (h : vCheck p = 0) (h0 : -9223372036854775808 ≤ p.num) (h1 : p.num ≤ 9223372036854775807) : vParse (vText p) = (p, 0) := by
  obtain ⟨k, n, t⟩ := p
  rcases good_cases h with ⟨rfl, rfl, rfl⟩ | ⟨rfl, rfl, rfl⟩ | ⟨rfl, rfl, rfl⟩ | ⟨rfl, rfl⟩ | ⟨rfl, rfl, h2⟩
  · kernel_rfl
  · kernel_rfl
  · kernel_rfl
  · simp only at h0 h1
    have key : ∀ l c r, l = c :: r → (isDig c ∨ c = 45) → wholeB ⟨l.toArray⟩ = true → Lib.parseIntB 64 l = .ok n → vParse ⟨l.toArray⟩ = (⟨2, n, ⟨#[]⟩⟩, 0) := by
      intro l c r hl hc hw hp
      have hcn : c ≠ 110 ∧ c ≠ 116 ∧ c ≠ 102 ∧ c ≠ 39 := by
        rcases hc with hc | rfl
        · refine ⟨?_, ?_, ?_, ?_⟩ <;> (rintro rfl; exact absurd hc (by decide))
        · decide
      have hd : (⟨l.toArray⟩ : ByteArray).toList = l := by rw [Lib.toList_data]
      have hp39 : Lib.hasPrefix (⟨l.toArray⟩ : ByteArray).data.toList [39] = false := by
        show Lib.hasPrefix l [39] = false
        rw [hl]
        have : ¬ ((39 : UInt8) = c) := fun e => hcn.2.2.2 e.symm
        simp [Lib.hasPrefix, List.isPrefixOf, this]
      unfold vParse
      rw [hd, if_neg (by rw [hl]; simp [hcn.1]), if_neg (by rw [hl]; simp [hcn.2.1]), if_neg (by rw [hl]; simp [hcn.2.2.1]), hp39, if_neg (by simp), hw, if_pos rfl]
      show (match Lib.parseIntB 64 l with | .ok v => ((⟨2, v, ⟨#[]⟩⟩ : Pl), 0) | _ => (⟨0, 0, ⟨#[]⟩⟩, 4)) = _
      rw [hp]
    show vParse ⟨(Lib.itoa n).toArray⟩ = _
    by_cases hn : n < 0
    · have hc := decDigits_canon n.natAbs
      have hv := (decDigits_spec n.natAbs).2.2.1
      have e : Lib.itoa n = 45 :: Lib.decDigits n.natAbs := by rw [Lib.itoa, if_pos hn]
      refine key _ 45 _ e (Or.inr rfl) ?_ ?_
      · rw [whole_iff]
        refine Or.inr ⟨_, e, hc, fun e2 => ?_⟩
        rw [e2] at hv
        simp [dvalA] at hv
        omega
      · rw [e, parseIntB_neg hc, hv, if_pos (by omega)]
        congr 1; omega
    · have hc := decDigits_canon n.toNat
      have hv := (decDigits_spec n.toNat).2.2.1
      have e : Lib.itoa n = Lib.decDigits n.toNat := by rw [Lib.itoa, if_neg hn]
      obtain ⟨c, r, hcr, hcd⟩ := canon_head hc
      refine key _ c r (e.trans hcr) (Or.inl hcd) ?_ ?_
      · rw [whole_iff]
        exact Or.inl (show Canon (Lib.itoa n) by rw [e]; exact hc)
      · rw [e, parseIntB_pos hc, hv, if_pos (by omega)]
        congr 1; omega
  · show vParse (⟨#[39]⟩ ++ t) = _
    have hd : (⟨#[39]⟩ ++ t : ByteArray).data.toList = 39 :: t.data.toList := by simp
    have hd2 : (⟨#[39]⟩ ++ t : ByteArray).toList = 39 :: t.data.toList := by rw [Lib.toList_data, hd]
    unfold vParse
    rw [hd2, hd, if_neg (by simp), if_neg (by simp), if_neg (by simp), if_pos (by simp [Lib.hasPrefix])]
    have ht : Lib.trimPrefix (39 :: t.data.toList) [39] = t.data.toList := by simp [Lib.trimPrefix, Lib.hasPrefix]
    rw [ht, h2]

end Go.Proofs.YtfdhklpabhhjjaaGreatDoor
