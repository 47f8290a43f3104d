/- Plain laws: a token depends on its own bytes alone (a number on the byte behind it too); what a scan answers, as a chain. No program in sight. -/
import Derived.Test.YtnldhgkmbighkaaDoorUtf
import Derived.Test.YtnldhgkmbighkaaDoorScanPlain2
namespace Go.Proofs.YtnldhgkmbighkaaDoor
open Go Go.RowKit

/-- n bytes of t at k are those of s at i. -/
def Agr (s t : ByteArray) (i k n : Nat) : Prop := ∀ j, j < n → bAt t (k + j) = bAt s (i + j)
/-- No number goes on with this byte. -/
def stopB (c : Nat) : Prop := isD c = false ∧ c ≠ 46 ∧ c ≠ 101 ∧ c ≠ 69
structure Loc (s t : ByteArray) (i k n : Nat) : Prop where
  ag : Agr s t i k n
  nx : bAt t (k + n) = bAt s (i + n) ∨ stopB (bAt t (k + n))
theorem Loc.tst {s t : ByteArray} {i k n a : Nat} (h : Loc s t i k n) (ha : a ≤ n) (p : Nat → Prop) (hp : ¬ p (bAt s (i + a))) (hst : ∀ c, stopB c → ¬ p c) : ¬ p (bAt t (k + a)) := by
  by_cases hlt : a < n
  · rw [h.ag a hlt]; exact hp
  · obtain rfl : a = n := by omega
    rcases h.nx with hx | hx
    · rw [hx]; exact hp
    · exact hst _ hx
theorem Loc.noD {s t : ByteArray} {i k n a : Nat} (h : Loc s t i k n) (ha : a ≤ n) (hs : isD (bAt s (i + a)) = false) : isD (bAt t (k + a)) = false := by
  have := h.tst ha (fun c => isD c = true) (by rw [hs]; simp) (fun c hc => by rw [hc.1]; simp)
  simpa using this
theorem dig_loc {s t : ByteArray} {i k n : Nat} (h : Loc s t i k n) : ∀ m a, a + m ≤ n → digAt s (i + a) = i + (a + m) → digAt t (k + a) = k + (a + m)
  | 0, a, ha, hd => by
    rw [Nat.add_zero] at hd ⊢
    exact digAt_none.2 (h.noD ha (digAt_none.1 hd))
  | m + 1, a, ha, hd => by
    have hD : isD (bAt s (i + a)) = true := by
      cases hx : isD (bAt s (i + a)) with
      | true => rfl
      | false => have := digAt_none.2 hx; omega
    rw [digAt_eq, if_pos hD] at hd
    rw [digAt_eq, h.ag a (by omega), if_pos hD]
    have := dig_loc h m (a + 1) (by omega) (by rw [show i + (a + 1) = i + a + 1 by omega, hd]; omega)
    rw [show k + a + 1 = k + (a + 1) by omega, this]; omega
theorem frac_loc {s t : ByteArray} {i k n a b : Nat} (h : Loc s t i k n) (hb : b ≤ n) (hf : fracAt s (i + a) = (true, i + b)) : fracAt t (k + a) = (true, k + b) := by
  unfold fracAt at hf ⊢
  by_cases h46 : bAt s (i + a) = 46
  · rw [if_pos h46] at hf
    by_cases hd : digAt s (i + a + 1) = i + a + 1
    · rw [if_pos hd] at hf; simp at hf
    · rw [if_neg hd] at hf
      simp only [Prod.mk.injEq, true_and] at hf
      have h1 := digAt_ge s (i + a + 1)
      have h2 := dig_loc h (b - (a + 1)) (a + 1) (by omega) (by rw [show i + (a + 1) = i + a + 1 by omega, hf]; omega)
      rw [show k + (a + 1) = k + a + 1 by omega] at h2
      rw [h.ag a (by omega), if_pos h46, h2, if_neg (by omega)]
      congr 1; omega
  · rw [if_neg h46] at hf
    simp only [Prod.mk.injEq, true_and] at hf
    obtain rfl : a = b := by omega
    rw [if_neg (h.tst hb (fun c => c = 46) h46 (fun c hc => hc.2.1))]
theorem exp_loc {s t : ByteArray} {i k n a b : Nat} (h : Loc s t i k n) (hb : b ≤ n) (hf : expAt s (i + a) = (true, i + b)) : expAt t (k + a) = (true, k + b) := by
  unfold expAt at hf ⊢
  by_cases h46 : bAt s (i + a) = 101 ∨ bAt s (i + a) = 69
  · rw [if_pos h46] at hf
    by_cases hd : digAt s (signAt s (i + a)) = signAt s (i + a)
    · rw [if_pos hd] at hf; simp at hf
    · rw [if_neg hd] at hf
      simp only [Prod.mk.injEq, true_and] at hf
      have h1 := digAt_ge s (signAt s (i + a))
      unfold signAt at hd hf h1
      by_cases hs : bAt s (i + a + 1) = 43 ∨ bAt s (i + a + 1) = 45
      · rw [if_pos hs] at hd hf h1
        have e1 : bAt t (k + a + 1) = bAt s (i + a + 1) := h.ag (a + 1) (by omega)
        have h2 := dig_loc h (b - (a + 2)) (a + 2) (by omega) (by rw [show i + (a + 2) = i + a + 2 by omega, hf]; omega)
        rw [show k + (a + 2) = k + a + 2 by omega] at h2
        rw [h.ag a (by omega), if_pos h46]
        unfold signAt
        rw [e1, if_pos hs, h2, if_neg (by omega)]
        congr 1; omega
      · rw [if_neg hs] at hd hf h1
        have e1 : bAt t (k + a + 1) = bAt s (i + a + 1) := h.ag (a + 1) (by omega)
        have h2 := dig_loc h (b - (a + 1)) (a + 1) (by omega) (by rw [show i + (a + 1) = i + a + 1 by omega, hf]; omega)
        rw [show k + (a + 1) = k + a + 1 by omega] at h2
        rw [h.ag a (by omega), if_pos h46]
        unfold signAt
        rw [e1, if_neg hs, h2, if_neg (by omega)]
        congr 1; omega
  · rw [if_neg h46] at hf
    simp only [Prod.mk.injEq, true_and] at hf
    obtain rfl : a = b := by omega
    rw [if_neg (h.tst hb (fun c => c = 101 ∨ c = 69) h46 (fun c hc => by rintro (e | e); exact hc.2.2.1 e; exact hc.2.2.2 e))]
theorem head_loc {s t : ByteArray} {i k n a b : Nat} (h : Loc s t i k n) (ha : a < n) (hb : b ≤ n) (hf : headAt s (i + a) = i + b) (hab : a ≤ b) : headAt t (k + a) = k + b := by
  unfold headAt at hf ⊢
  rw [h.ag a ha]
  by_cases h48 : bAt s (i + a) = 48
  · rw [if_pos h48] at hf ⊢; omega
  · rw [if_neg h48] at hf ⊢
    have := dig_loc h (b - a) a (by omega) (by rw [hf]; omega)
    rw [this]; omega
theorem num_loc {s t : ByteArray} {i k n : Nat} (hi : i < s.size) (h : Loc s t i k n) (hf : numAt s i = (true, i + n)) : numAt t k = (true, k + n) := by
  have hn : 0 < n := by
    have := (numAt_bd s i hi).2.2 (by rw [hf])
    rw [hf] at this; simp only at this; omega
  have e0 : bAt t k = bAt s i := h.ag 0 hn
  obtain ⟨a0, hm, hm', ha0⟩ : ∃ a0, minAt s i = i + a0 ∧ minAt t k = k + a0 ∧ a0 ≤ 1 := by
    unfold minAt
    rw [e0]
    by_cases h45 : bAt s i = 45
    · exact ⟨1, by rw [if_pos h45], by rw [if_pos h45], by omega⟩
    · exact ⟨0, by rw [if_neg h45]; rfl, by rw [if_neg h45]; rfl, by omega⟩
  unfold numAt at hf ⊢
  rw [hm] at hf
  rw [hm']
  by_cases hD : isD (bAt s (i + a0)) = true
  · rw [if_pos hD] at hf
    have hh := headAt_bd s (i + a0) hD
    obtain ⟨a1, e1⟩ : ∃ a1, headAt s (i + a0) = i + a1 := ⟨headAt s (i + a0) - i, by omega⟩
    rw [e1] at hf hh
    have hfr := fracAt_bd s (i + a1) hh.2
    cases hx : (fracAt s (i + a1)).1 with
    | false =>
      rw [hx, if_neg (by simp)] at hf
      rw [hf] at hx; simp at hx
    | true =>
      rw [hx, if_pos rfl] at hf
      obtain ⟨a2, e2⟩ : ∃ a2, (fracAt s (i + a1)).2 = i + a2 := ⟨(fracAt s (i + a1)).2 - i, by omega⟩
      have hfe : fracAt s (i + a1) = (true, i + a2) := by rw [← hx, ← e2]
      rw [e2] at hf hfr
      have hxp := expAt_bd s (i + a2) hfr.2
      rw [hf] at hxp
      simp only at hxp
      have g1 := head_loc h (a := a0) (b := a1) (by omega) (by omega) e1 (by omega)
      have g2 := frac_loc h (a := a1) (b := a2) (by omega) hfe
      have g3 := exp_loc h (a := a2) (b := n) (Nat.le_refl _) hf
      rw [h.ag a0 (by omega), if_pos hD, g1, g2, if_pos rfl, g3]
  · rw [if_neg hD] at hf; simp at hf
theorem hexF_loc {s t : ByteArray} {i k : Nat} : ∀ m, Agr s t i k m → hexF t k m = hexF s i m
  | 0, _ => rfl
  | m + 1, h => by
    rw [hexF, hexF, hexF_loc m (fun j hj => h j (by omega)), h m (by omega)]
theorem Agr.sub {s t : ByteArray} {i k n : Nat} (h : Agr s t i k n) (a : Nat) {m : Nat} (hm : a + m ≤ n) : Agr s t (i + a) (k + a) m := fun j hj => by
  have := h (a + j) (by omega)
  rw [Nat.add_assoc, Nat.add_assoc]; exact this
theorem hexAt_loc {s t : ByteArray} {i k : Nat} (h : Agr s t i k 6) : hexAt t k = hexAt s i := by
  unfold hexAt
  have e0 : bAt t k = bAt s i := h 0 (by omega)
  rw [e0, h 1 (by omega), hexF_loc 4 (h.sub 2 (by omega))]
theorem esc_loc {s t : ByteArray} {i k x z : Nat} (hE : escAt s i = (0, x, z)) (h92 : bAt s i = 92) (h : Agr s t i k z) : escAt t k = (0, x, z) := by
  have hok := escAt_ok h92 (by rw [hE])
  rw [hE] at hok
  simp only at hok
  have e1 : bAt t (k + 1) = bAt s (i + 1) := h 1 (by omega)
  unfold escAt at hE ⊢
  simp only at hE ⊢
  rw [e1]
  by_cases a1 : bAt s (i + 1) = 34 ∨ bAt s (i + 1) = 92 ∨ bAt s (i + 1) = 47
  · rw [if_pos a1] at hE ⊢; exact hE
  rw [if_neg a1] at hE ⊢
  by_cases a2 : bAt s (i + 1) = 98
  · rw [if_pos a2] at hE ⊢; exact hE
  rw [if_neg a2] at hE ⊢
  by_cases a3 : bAt s (i + 1) = 102
  · rw [if_pos a3] at hE ⊢; exact hE
  rw [if_neg a3] at hE ⊢
  by_cases a4 : bAt s (i + 1) = 110
  · rw [if_pos a4] at hE ⊢; exact hE
  rw [if_neg a4] at hE ⊢
  by_cases a5 : bAt s (i + 1) = 114
  · rw [if_pos a5] at hE ⊢; exact hE
  rw [if_neg a5] at hE ⊢
  by_cases a6 : bAt s (i + 1) = 116
  · rw [if_pos a6] at hE ⊢; exact hE
  rw [if_neg a6] at hE ⊢
  by_cases a7 : 65536 ≤ hexAt s i
  · rw [if_pos a7] at hE; simp at hE
  rw [if_neg a7] at hE
  have hz : 6 ≤ z := by
    split at hE
    · simp only [Prod.mk.injEq] at hE; omega
    · split at hE
      · simp only [Prod.mk.injEq] at hE; omega
      · simp at hE
  rw [hexAt_loc (fun j hj => h j (by omega)), if_neg a7]
  by_cases a8 : scalarN (hexAt s i) = true
  · rw [if_pos a8] at hE ⊢; exact hE
  rw [if_neg a8] at hE ⊢
  by_cases a9 : hexAt s i < 56320 ∧ 56320 ≤ hexAt s (i + 6) ∧ hexAt s (i + 6) ≤ 57343
  · rw [if_pos a9] at hE
    have hz2 : z = 12 := by simp only [Prod.mk.injEq] at hE; omega
    subst hz2
    rw [hexAt_loc (h.sub 6 (by omega)), if_pos a9]; exact hE
  · rw [if_neg a9] at hE; simp at hE
theorem q_loc {s t : ByteArray} {i k n : Nat} (h : Agr s t i k n) : ∀ m a acc b x, n - a ≤ m → a ≤ n → b ≤ n → qAt s (i + a) acc = (0, i + b, x) → qAt t (k + a) acc = (0, k + b, x) := by
  intro m
  induction m with
  | zero =>
    intro a acc b x h1 h2 h3 hq
    have hlt : i + a < s.size := by
      rw [qAt_eq] at hq
      by_cases hx : i + a < s.size
      · exact hx
      · rw [if_neg hx] at hq; simp at hq
    have := (qAt_bd s _ (i + a) acc (Nat.le_refl _) (by omega)).2.2.2 (by rw [hq])
    rw [hq] at this
    simp only at this
    omega
  | succ m ih =>
    intro a acc b x h1 h2 h3 hq
    have hlt : i + a < s.size := by
      rw [qAt_eq] at hq
      by_cases hx : i + a < s.size
      · exact hx
      · rw [if_neg hx] at hq; simp at hq
    have hbd := (qAt_bd s _ (i + a) acc (Nat.le_refl _) (by omega)).2.2.2 (by rw [hq])
    rw [hq] at hbd
    simp only at hbd
    have e0 := h a (by omega)
    rw [qAt_eq, if_pos hlt] at hq
    have hne : bAt s (i + a) ≠ 0 := by
      intro h0
      rw [h0] at hq
      simp at hq
    have hlt' : k + a < t.size := lt_of_bAt (by rw [e0]; exact hne)
    rw [qAt_eq, if_pos hlt', e0]
    by_cases h34 : bAt s (i + a) = 34
    · rw [if_pos h34] at hq ⊢
      simp only [Prod.mk.injEq, true_and] at hq
      obtain ⟨hq1, rfl⟩ := hq
      congr 2; omega
    rw [if_neg h34] at hq ⊢
    by_cases h32 : bAt s (i + a) < 32
    · rw [if_pos h32] at hq; simp at hq
    rw [if_neg h32] at hq ⊢
    by_cases h92 : bAt s (i + a) = 92
    · rw [if_pos h92] at hq ⊢
      cases hE : escAt s (i + a) with
      | mk e xz =>
        obtain ⟨r, z⟩ := xz
        rw [hE] at hq
        by_cases he : e = 0
        · subst he
          rw [if_pos rfl] at hq
          simp only at hq
          have hok := escAt_ok h92 (by rw [hE])
          rw [hE] at hok
          simp only at hok
          have hb2 := (qAt_bd s _ (i + a + z) (acc ++ (encN r).map UInt8.ofNat) (Nat.le_refl _) (by omega)).2.2.2 (by rw [hq])
          rw [hq] at hb2
          simp only at hb2
          rw [esc_loc hE h92 (h.sub a (by omega)), if_pos rfl]
          simp only
          rw [show k + a + z = k + (a + z) by omega]
          exact ih (a + z) _ b x (by omega) (by omega) h3 (by rw [show i + (a + z) = i + a + z by omega]; exact hq)
        · rw [if_neg he] at hq
          simp only [Prod.mk.injEq] at hq
          exact absurd hq.1 he
    · rw [if_neg h92] at hq ⊢
      have hb2 := (qAt_bd s _ (i + a + 1) (acc ++ [UInt8.ofNat (bAt s (i + a))]) (Nat.le_refl _) (by omega)).2.2.2 (by rw [hq])
      rw [hq] at hb2
      simp only at hb2
      rw [show k + a + 1 = k + (a + 1) by omega]
      exact ih (a + 1) _ b x (by omega) (by omega) h3 (by rw [show i + (a + 1) = i + a + 1 by omega]; exact hq)
/-- A token at another place, in another text. -/
theorem one_loc {s t : ByteArray} {i k n : Nat} {T : Tk} (hi : i < s.size) (hO : oneAt s i = (0, 0, T)) (hn : T.to = i + n) (ha : Agr s t i k n) (hx : T.kind = 4 → bAt t (k + n) = bAt s (i + n) ∨ stopB (bAt t (k + n))) :
    oneAt t k = (0, 0, ⟨T.kind, k, k + n, T.text⟩) := by
  unfold oneAt at hO
  simp only at hO
  have z0 : 0 < n → bAt t k = bAt s i := fun h => ha 0 h
  by_cases h1 : signK (bAt s i) ≠ 0
  · rw [if_pos h1] at hO
    simp only [Prod.mk.injEq, true_and] at hO
    subst hO
    simp only at hn ⊢
    obtain rfl : n = 1 := by omega
    unfold oneAt
    simp only
    rw [z0 (by omega), if_pos h1]
  rw [if_neg h1] at hO
  by_cases h2 : bAt s i = 110
  · rw [if_pos h2] at hO
    by_cases hp : bAt s (i + 1) = 117 ∧ bAt s (i + 2) = 108 ∧ bAt s (i + 3) = 108
    · rw [if_pos hp] at hO
      simp only [Prod.mk.injEq, true_and] at hO
      subst hO
      simp only at hn ⊢
      obtain rfl : n = 4 := by omega
      unfold oneAt
      simp only
      rw [z0 (by omega), if_neg h1, if_pos h2, ha 1 (by omega), ha 2 (by omega), ha 3 (by omega), if_pos hp]
    · rw [if_neg hp] at hO; simp at hO
  rw [if_neg h2] at hO
  by_cases h3 : bAt s i = 116
  · rw [if_pos h3] at hO
    by_cases hp : bAt s (i + 1) = 114 ∧ bAt s (i + 2) = 117 ∧ bAt s (i + 3) = 101
    · rw [if_pos hp] at hO
      simp only [Prod.mk.injEq, true_and] at hO
      subst hO
      simp only at hn ⊢
      obtain rfl : n = 4 := by omega
      unfold oneAt
      simp only
      rw [z0 (by omega), if_neg h1, if_neg h2, if_pos h3, ha 1 (by omega), ha 2 (by omega), ha 3 (by omega), if_pos hp]
    · rw [if_neg hp] at hO; simp at hO
  rw [if_neg h3] at hO
  by_cases h4 : bAt s i = 102
  · rw [if_pos h4] at hO
    by_cases hp : bAt s (i + 1) = 97 ∧ bAt s (i + 2) = 108 ∧ bAt s (i + 3) = 115 ∧ bAt s (i + 4) = 101
    · rw [if_pos hp] at hO
      simp only [Prod.mk.injEq, true_and] at hO
      subst hO
      simp only at hn ⊢
      obtain rfl : n = 5 := by omega
      unfold oneAt
      simp only
      rw [z0 (by omega), if_neg h1, if_neg h2, if_neg h3, if_pos h4, ha 1 (by omega), ha 2 (by omega), ha 3 (by omega), ha 4 (by omega), if_pos hp]
    · rw [if_neg hp] at hO; simp at hO
  rw [if_neg h4] at hO
  by_cases h5 : bAt s i = 45 ∨ isD (bAt s i) = true
  · rw [if_pos h5] at hO
    cases hN : numAt s i with
    | mk b e =>
      rw [hN] at hO
      cases b with
      | false => simp at hO
      | true =>
        rw [if_pos rfl] at hO
        simp only [Prod.mk.injEq, true_and] at hO
        subst hO
        simp only at hn ⊢
        subst hn
        have hnn : 0 < n := by
          have := (numAt_bd s i hi).2.2 (by rw [hN])
          rw [hN] at this; simp only at this; omega
        have := num_loc hi ⟨ha, hx rfl⟩ hN
        unfold oneAt
        simp only
        rw [z0 hnn, if_neg h1, if_neg h2, if_neg h3, if_neg h4, if_pos h5, this, if_pos rfl]
  rw [if_neg h5] at hO
  by_cases h6 : bAt s i = 34
  · rw [if_pos h6] at hO
    cases hQ : qAt s (i + 1) [] with
    | mk e r =>
      obtain ⟨p, x⟩ := r
      rw [hQ] at hO
      by_cases he : e = 0
      · subst he
        rw [if_pos rfl] at hO
        simp only [Prod.mk.injEq, true_and] at hO
        subst hO
        simp only at hn ⊢
        subst hn
        have hb := (qAt_bd s _ (i + 1) [] (Nat.le_refl _) (by omega)).2.2.2 (by rw [hQ])
        rw [hQ] at hb
        simp only at hb
        have := q_loc ha n 1 [] n x (by omega) (by omega) (Nat.le_refl _) hQ
        unfold oneAt
        simp only
        rw [z0 (by omega), if_neg h1, if_neg h2, if_neg h3, if_neg h4, if_neg h5, if_pos h6, this, if_pos rfl]
      · rw [if_neg he] at hO
        simp only [Prod.mk.injEq] at hO
        exact absurd hO.1 he
  · rw [if_neg h6] at hO; simp at hO

/-! ### Chains -/
/-- Blanks alone from p to k. -/
def Blk (t : ByteArray) (p k : Nat) : Prop := ∀ j, p ≤ j → j < k → blankN (bAt t j) = true
/-- From p on, t is these tokens with blanks between. -/
def Chain (t : ByteArray) : Nat → List Tk → Prop
  | p, [] => p ≤ t.size ∧ Blk t p t.size
  | p, T :: r => p ≤ T.fr ∧ T.fr < t.size ∧ Blk t p T.fr ∧ oneAt t T.fr = (0, 0, T) ∧ Chain t T.to r
theorem blk_at {t : ByteArray} {k : Nat} : ∀ {n p : Nat}, k - p ≤ n → p ≤ k → k ≤ t.size → Blk t p k → (k < t.size → blankN (bAt t k) = false) → blkAt t p = k
  | 0, p, h1, h2, h3, hb, hk => by
    obtain rfl : p = k := by omega
    rw [blkAt_eq]
    by_cases h : p < t.size
    · rw [hk h]; simp
    · rw [if_neg (fun hx => h hx.1)]
  | n + 1, p, h1, h2, h3, hb, hk => by
    by_cases he : p = k
    · subst he
      rw [blkAt_eq]
      by_cases h : p < t.size
      · rw [hk h]; simp
      · rw [if_neg (fun hx => h hx.1)]
    · rw [blkAt_eq, if_pos ⟨by omega, hb p (Nat.le_refl _) (by omega)⟩]
      exact blk_at (n := n) (by omega) (by omega) h3 (fun j hj hj2 => hb j (by omega) hj2) hk
theorem blk_run (t : ByteArray) : ∀ (n p : Nat), t.size - p ≤ n → Blk t p (blkAt t p)
  | 0, p, h1 => by
    rw [blkAt_eq, if_neg (by omega)]
    intro j h2 h3; omega
  | n + 1, p, h1 => by
    rw [blkAt_eq]
    by_cases h : p < t.size ∧ blankN (bAt t p) = true
    · rw [if_pos h]
      intro j h2 h3
      by_cases hj : j = p
      · rw [hj]; exact h.2
      · exact blk_run t n (p + 1) (by omega) j (by omega) h3
    · rw [if_neg h]
      intro j h2 h3; omega
theorem one_fr {s : ByteArray} {i : Nat} (hi : i < s.size) (hb : brkAt s i = s.size) {T : Tk} (h : oneAt s i = (0, 0, T)) : T.fr = i ∧ i < T.to ∧ T.to ≤ s.size ∧ brkAt s T.to = s.size ∧ T.text.size ≤ T.to - i ∧ 1 ≤ T.kind ∧ T.kind ≤ 11 := by
  have := oneAt_ok s i hi hb (by rw [h])
  rw [h] at this
  exact this
theorem oneAt_form (s : ByteArray) (i : Nat) (h : (oneAt s i).1 = 0) : oneAt s i = (0, 0, (oneAt s i).2.2) := by
  have key : ∀ O : Nat × Nat × Tk, (O.1 = 0 → O.2.1 = 0) → O.1 = 0 → O = (0, 0, O.2.2) := by
    rintro ⟨a, b, c⟩ h1 h2
    simp only at h1 h2
    rw [h2, h1 h2]
  refine key _ ?_ h
  unfold oneAt
  simp only
  repeat' split
  all_goals simp_all
theorem one_notblank {s : ByteArray} {i : Nat} (h : (oneAt s i).1 = 0) : blankN (bAt s i) = false := by
  cases hb : blankN (bAt s i) with
  | false => rfl
  | true =>
    exfalso
    have hc : bAt s i = 32 ∨ bAt s i = 9 ∨ bAt s i = 10 ∨ bAt s i = 13 := by
      simp only [blankN, Bool.or_eq_true, beq_iff_eq] at hb; omega
    unfold oneAt at h
    rcases hc with e | e | e | e <;> (rw [e] at h; simp [signK, isD] at h)
theorem scan_chain {s : ByteArray} : ∀ (ts : List Tk) (p : Nat), p ≤ s.size → brkAt s p = s.size → (scanAt s p = (ts, 0, 0) ↔ Chain s p ts)
  | [], p, hp, hb => by
    have hl := blkAt_low s p hp
    rw [scan_step s p hp hb]
    constructor
    · intro h
      by_cases hlt : blkAt s p < s.size
      · rw [if_pos hlt] at h
        by_cases ho : (oneAt s (blkAt s p)).1 = 0
        · rw [if_pos ho] at h; simp at h
        · rw [if_neg ho] at h
          simp only [Prod.mk.injEq] at h
          exact absurd h.2.1 ho
      · refine ⟨hp, ?_⟩
        have := blk_run s _ p (Nat.le_refl _)
        rw [show blkAt s p = s.size by have := hl.2.1; omega] at this
        exact this
    · rintro ⟨_, h⟩
      have := blk_at (n := s.size - p) (by omega) hp (Nat.le_refl _) h (fun h => by omega)
      rw [this, if_neg (by omega)]
  | T :: ts, p, hp, hb => by
    have hl := blkAt_low s p hp
    rw [scan_step s p hp hb]
    constructor
    · intro h
      by_cases hlt : blkAt s p < s.size
      · rw [if_pos hlt] at h
        by_cases ho : (oneAt s (blkAt s p)).1 = 0
        · rw [if_pos ho] at h
          have hbb := hl.brk hb
          have hform := oneAt_form s _ ho
          have hfr := one_fr hlt hbb hform
          simp only [Prod.mk.injEq, List.cons.injEq] at h
          obtain ⟨⟨rfl, h1⟩, h2⟩ := h
          have h3 : scanAt s (oneAt s (blkAt s p)).2.2.to = (ts, 0, 0) := by
            rw [← h1, show ((0, 0) : Nat × Nat) = (scanAt s (oneAt s (blkAt s p)).2.2.to).2 from h2.symm]
          refine ⟨by rw [hfr.1]; exact hl.1, by rw [hfr.1]; exact hlt, by rw [hfr.1]; exact blk_run s _ p (Nat.le_refl _), by rw [hfr.1]; exact hform, ?_⟩
          exact (scan_chain ts _ hfr.2.2.1 hfr.2.2.2.1).1 h3
        · rw [if_neg ho] at h; simp at h
      · rw [if_neg hlt] at h; simp at h
    · rintro ⟨h1, h2, h3, h4, h5⟩
      have hk := one_notblank (s := s) (i := T.fr) (by rw [h4])
      have hbk := blk_at (n := T.fr - p) (by omega) h1 (by omega) h3 (fun _ => hk)
      have hbb := hl.brk hb
      rw [hbk] at hbb ⊢
      have hfr := one_fr h2 hbb h4
      rw [if_pos h2, h4, if_pos rfl]
      simp only
      rw [(scan_chain ts _ hfr.2.2.1 hfr.2.2.2.1).2 h5]

end Go.Proofs.YtnldhgkmbighkaaDoor
