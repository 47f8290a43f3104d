/- Package scan: Number. -/
import Derived.Test.YtnldhgkmbighkaaDoorOnly
import Derived.Test.YtnldhgkmbighkaaDoorDigPlain
namespace Go.Proofs.YtnldhgkmbighkaaDoor
open Go Go.RowKit

/-- The whole number that a number of JSON tells, and the error's number. -/
def numS (s : ByteArray) : Int × Nat :=
  if (someS s).2.1 = 0 ∧ single s 4 (someS s).1 = true then (if hasE s = true then (0, 4) else if (wholeV s.data.toList).2 = true then ((wholeV s.data.toList).1, 0) else (0, 4)) else (0, 2)
abbrev SKN : List Nat := [1, 2, 4, 5, 20, 21]
theorem single_bytes {s : ByteArray} {k : Nat} (h0 : (someS s).2.1 = 0) (h : single s k (someS s).1 = true) : ∃ T, (someS s).1 = [T] ∧ T.kind = k ∧ T.fr = 0 ∧ T.to = s.size ∧ oneAt s 0 = (0, 0, T) ∧ 0 < s.size := by
  obtain ⟨hu, hch, _⟩ := some_chain h0
  have hbd := chain_bd _ 0 ((utfE_brk _).1 hu) (Nat.zero_le _) hch
  unfold single at h
  split at h
  · rename_i T hT
    simp only [Bool.and_eq_true, beq_iff_eq] at h
    have := hbd T (by rw [hT]; simp)
    rw [h.2.1] at this
    exact ⟨T, hT, h.1, h.2.1, h.2.2, this.2.2.2.2.2, by omega⟩
  · cases h
theorem one_kind4 {s : ByteArray} {T : Tk} (h : oneAt s 0 = (0, 0, T)) (hk : T.kind = 4) : numAt s 0 = (true, T.to) := by
  unfold oneAt at h
  simp only at h
  by_cases h1 : signK (bAt s 0) ≠ 0
  · rw [if_pos h1] at h
    simp only [Prod.mk.injEq, true_and] at h
    subst h
    simp only at hk
    unfold signK at hk
    repeat' split at hk
    all_goals omega
  rw [if_neg h1] at h
  by_cases h2 : bAt s 0 = 110
  · rw [if_pos h2] at h
    split at h <;> (simp only [Prod.mk.injEq, true_and] at h; first | (subst h; simp at hk) | (simp at h))
  rw [if_neg h2] at h
  by_cases h3 : bAt s 0 = 116
  · rw [if_pos h3] at h
    split at h <;> (simp only [Prod.mk.injEq, true_and] at h; first | (subst h; simp at hk) | (simp at h))
  rw [if_neg h3] at h
  by_cases h4 : bAt s 0 = 102
  · rw [if_pos h4] at h
    split at h <;> (simp only [Prod.mk.injEq, true_and] at h; first | (subst h; simp at hk) | (simp at h))
  rw [if_neg h4] at h
  by_cases h5 : bAt s 0 = 45 ∨ isD (bAt s 0) = true
  · rw [if_pos h5] at h
    cases hN : numAt s 0 with
    | mk b e =>
      rw [hN] at h
      cases b with
      | true => rw [if_pos rfl] at h; simp only [Prod.mk.injEq, true_and] at h; subst h; rfl
      | false => simp at h
  rw [if_neg h5] at h
  by_cases h6 : bAt s 0 = 34
  · rw [if_pos h6] at h
    split at h
    · simp only [Prod.mk.injEq, true_and] at h; subst h; simp at hk
    · rename_i hx
      simp only [Prod.mk.injEq] at h
      exact absurd h.1 hx
  · rw [if_neg h6] at h; simp at h
theorem num_ascii {s : ByteArray} (h : numAt s 0 = (true, s.size)) : ∀ (j : Nat) b, s.data.toList[j]? = some b → b.toNat < 128 := by
  intro j b hj
  have hl := numAt_low s 0 (Nat.zero_le _)
  rw [h] at hl
  have hjl : j < s.size := by
    have : s.data.toList.length = s.size := by rw [Array.length_toList]; rfl
    rcases Nat.lt_or_ge j s.data.toList.length with h | h
    · omega
    · rw [List.getElem?_eq_none h] at hj; cases hj
  have h2 := hl.2.2 j (Nat.zero_le _) hjl
  obtain ⟨c, hc, hn⟩ := bAt_list s j hjl
  rw [hj] at hc
  cases hc
  omega
theorem hasE_any (s : ByteArray) : Lib.containsAny s.data.toList [46, 101, 69] = hasE s := by
  unfold Lib.containsAny hasE
  generalize s.data.toList = l
  induction l with
  | nil => rfl
  | cons b l ih =>
    have hge := Lib.indexAny_ge [46, 101, 69] l
    rw [List.any_cons, ← ih, Lib.indexAny]
    have hc : ([46, 101, 69] : List UInt8).contains b = (b == 46 || b == 101 || b == 69) := by rw [Bool.eq_iff_iff]; simp [or_assoc]
    cases hb : (b == 46 || b == 101 || b == 69) with
    | true => rw [if_pos (hc.trans hb)]; rfl
    | false =>
      rw [if_neg (by rw [hc, hb]; simp)]
      by_cases h0 : Lib.indexAny l [46, 101, 69] = -1
      · rw [if_pos (by simp [h0]), h0]; rfl
      · rw [if_neg (by simpa using h0), decide_eq_true (by omega), decide_eq_true (by omega)]; rfl
/-- What Number answers. -/
def errN (A : Nat → Addr) (k : Nat) : Value := if k = 0 then .nilIface else .iface 203 (.pointer (some (A k)))
set_option maxHeartbeats 2000000 in
set_option maxRecDepth 100000 in
theorem Number_calls {A : Nat → Addr} {B : Nat} (s : ByteArray) (w : World) (hE : Env A B SKN w) (hs : s.size ≤ 1073741824) :
    Calls Tryd.prog 31 #[.string s] w fun e w' => e = .returned (.tuple #[.int .i64 (numS s).1, errN A (numS s).2]) ∧ Below w.heap.size w w' := by
  have C := Lib.hid (fun w hE => only_calls (A := A) (B := B) s 4 w hE (by omega))
  obtain ⟨N, hN⟩ : ∃ N, N = numS s := ⟨_, rfl⟩
  rw [← hN]
  replace hN := Lib.hid hN
  have e2 := hE.e2
  have e4 := hE.e4
  have l2 := hE.l2
  have l4 := hE.l4
  replace hs := Lib.hid hs
  go_enter Tryd.func31, Tryd.ntmps31
  (go_wp2_with fail; repeat (any_goals (go_quiet (fail); go_wp2_with fail)))
  refine (C.out _ ((hE.sub (by decide)).next (by repeat (first | assumption | exact Below.refl _ _ | apply Below.drew | apply below_drewN | apply balloc | (refine Below.setCell ?_ (by first | omega | (simp <;> omega)) _))))).mono ?_
  rintro e w1 ⟨hr, hb⟩
  have hb1 : Below w.heap.size w w1 := bcall (by repeat (first | assumption | exact Below.refl _ _ | apply Below.drew | apply below_drewN | apply balloc | (refine Below.setCell ?_ (by first | omega | (simp <;> omega)) _))) hb
  have hE1 := hE.next hb1
  have hz1 := hb1.size
  have y2 := hE1.e2
  have y4 := hE1.e4
  have k2 := hE1.l2
  have k4 := hE1.l4
  clear hb e2 e4
  rcases hr with ⟨h0, h1, T, h2, rfl⟩ | ⟨h0, h1, rfl⟩ | ⟨h0, g, hg, rfl, hat⟩
  · obtain ⟨T', hT', hk, _, hto, hone, hpos⟩ := single_bytes h0 h1
    rw [h2] at hT'
    obtain rfl : T = T' := by simpa using hT'
    have hnum := one_kind4 hone hk
    rw [hto] at hnum
    have hasc := Lib.hid (num_ascii hnum)
    have hNe := hN.out
    unfold numS at hNe
    rw [if_pos ⟨h0, h1⟩] at hNe
    clear hN
    have D := Lib.hid (fun w => (Tryd.strings_ContainsAny_laid s ⟨#[46, 101, 69]⟩ w (by have := hs.out; omega) (by decide) hasc.out (by
      intro j b hj
      match j, hj with
      | 0, hj => simp at hj; subst hj; decide
      | 1, hj => simp at hj; subst hj; decide
      | 2, hj => simp at hj; subst hj; decide)))
    have hany : Hid (Lib.containsAny s.data.toList (⟨#[46, 101, 69]⟩ : ByteArray).data.toList = hasE s) := Lib.hid (hasE_any s)
    have hPI := Lib.hid (fun v h w hE => ParseInt_ok (A := A) (B := B) (S := SKN) s w (by have := hs.out; omega) hE v h)
    have hPB := Lib.hid (fun h w hE => ParseInt_bad (A := A) (B := B) (S := SKN) s w (by have := hs.out; omega) hE h)
    replace h0 := Lib.hid h0
    replace h1 := Lib.hid h1
    replace h2 := Lib.hid h2
    replace hk := Lib.hid hk
    replace hto := Lib.hid hto
    replace hone := Lib.hid hone
    replace hnum := Lib.hid hnum
    replace hT' := Lib.hid hT'
    replace hpos := Lib.hid hpos
    unfold tkV
    cases hh : hasE s with
    | true =>
      rw [hh] at hany
      rw [if_pos hh] at hNe
      have hN := Lib.hid hNe
      clear hNe
      replace hh := Lib.hid hh
      (go_wp2_with fail; repeat (any_goals (go_quiet (fail); go_wp2_with fail)))
      refine (D.out _).mono ?_
      rintro e w2 ⟨rfl, hb⟩
      have hb2 : Below w.heap.size w w2 := bcall (by repeat (first | assumption | exact Below.refl _ _ | apply Below.drew | apply below_drewN | apply balloc | (refine Below.setCell ?_ (by first | omega | (simp <;> omega)) _))) hb
      have z4 := (hE.next hb2).e4
      rw [hany.out]
      clear hb
      (go_wp2_with fail; repeat (any_goals (go_quiet (fail); go_wp2_with fail)))
      all_goals
        go_ret2
        refine ⟨?_, (by repeat (first | assumption | exact Below.refl _ _ | apply Below.drew | apply below_drewN | apply balloc | (refine Below.setCell ?_ (by first | omega | (simp <;> omega)) _)))⟩
        rw [hN.out]; rfl
    | false =>
      rw [hh] at hany
      rw [if_neg (by rw [hh]; simp)] at hNe
      replace hh := Lib.hid hh
      (go_wp2_with fail; repeat (any_goals (go_quiet (fail); go_wp2_with fail)))
      refine (D.out _).mono ?_
      rintro e w2 ⟨rfl, hb⟩
      have hb2 : Below w.heap.size w w2 := bcall (by repeat (first | assumption | exact Below.refl _ _ | apply Below.drew | apply below_drewN | apply balloc | (refine Below.setCell ?_ (by first | omega | (simp <;> omega)) _))) hb
      have hE2 := hE.next hb2
      rw [hany.out]
      clear hb
      (go_wp2_with fail; repeat (any_goals (go_quiet (fail); go_wp2_with fail)))
      cases hp : Lib.parseIntB 64 s.data.toList
      case ok v =>
        have hv : wholeV s.data.toList = (v, true) := by unfold wholeV; rw [hp]
        rw [hv, if_pos rfl] at hNe
        have hN := Lib.hid hNe
        clear hNe
        refine (hPI.out v hp _ hE2).mono ?_
        rintro e w3 ⟨rfl, hb⟩
        have hb3 : Below w.heap.size w w3 := bcall (by repeat (first | assumption | exact Below.refl _ _ | apply Below.drew | apply below_drewN | apply balloc | (refine Below.setCell ?_ (by first | omega | (simp <;> omega)) _))) hb
        clear hb
        (go_wp2_with fail; repeat (any_goals (go_quiet (fail); go_wp2_with fail)))
        go_ret2
        refine ⟨?_, (by repeat (first | assumption | exact Below.refl _ _ | apply Below.drew | apply below_drewN | apply balloc | (refine Below.setCell ?_ (by first | omega | (simp <;> omega)) _)))⟩
        rw [hN.out]; rfl
      all_goals
        have hv : wholeV s.data.toList = (0, false) := by unfold wholeV; rw [hp]
        rw [hv, if_neg (by simp)] at hNe
        have hN := Lib.hid hNe
        clear hNe
        refine (hPB.out (by rw [hp]; simp) _ hE2).mono ?_
        rintro e w3 ⟨⟨n, a, rfl⟩, hb⟩
        have hb3 : Below w.heap.size w w3 := bcall (by repeat (first | assumption | exact Below.refl _ _ | apply Below.drew | apply below_drewN | apply balloc | (refine Below.setCell ?_ (by first | omega | (simp <;> omega)) _))) hb
        have z4 := (hE.next hb3).e4
        clear hb
        (go_wp2_with fail; repeat (any_goals (go_quiet (fail); go_wp2_with fail)))
        go_ret2
        refine ⟨?_, (by repeat (first | assumption | exact Below.refl _ _ | apply Below.drew | apply below_drewN | apply balloc | (refine Below.setCell ?_ (by first | omega | (simp <;> omega)) _)))⟩
        rw [hN.out]; rfl
  · have hN2 : Hid (N = (0, 2)) := Lib.hid (by rw [hN.out]; unfold numS; rw [if_neg (by rw [h1]; simp)])
    replace h0 := Lib.hid h0
    replace h1 := Lib.hid h1
    unfold zTk
    (go_wp2_with fail; repeat (any_goals (go_quiet (fail); go_wp2_with fail)))
    all_goals
      go_ret2
      refine ⟨?_, (by repeat (first | assumption | exact Below.refl _ _ | apply Below.drew | apply below_drewN | apply balloc | (refine Below.setCell ?_ (by first | omega | (simp <;> omega)) _)))⟩
      rw [hN2.out]; rfl
  · have hN2 : Hid (N = (0, 2)) := Lib.hid (by rw [hN.out]; unfold numS; rw [if_neg (fun h => h0 h.1)])
    replace h0 := Lib.hid h0
    replace hat := Lib.hid hat
    replace hg := Lib.hid hg
    unfold zTk
    (go_wp2_with fail; repeat (any_goals (go_quiet (fail); go_wp2_with fail)))
    all_goals
      go_ret2
      refine ⟨?_, (by repeat (first | assumption | exact Below.refl _ _ | apply Below.drew | apply below_drewN | apply balloc | (refine Below.setCell ?_ (by first | omega | (simp <;> omega)) _)))⟩
      rw [hN2.out]; rfl

end Go.Proofs.YtnldhgkmbighkaaDoor
