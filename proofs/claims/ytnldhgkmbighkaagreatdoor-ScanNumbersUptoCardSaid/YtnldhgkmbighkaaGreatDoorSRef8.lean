/- The reference of chapter 17: whole, Unquote, Number. -/
import Derived.Test.YtnldhgkmbighkaaGreatDoorNumber
import Derived.Test.YtnldhgkmbighkaaGreatDoorNumScan
namespace Go.Proofs.YtnldhgkmbighkaaGreatDoor
open Go Go.RowKit

set_option maxHeartbeats 2000000 in
set_option maxRecDepth 100000 in
theorem rWhole_calls {base : Nat} {v : Value} (s : ByteArray) (ts : List Tk) (k : Nat) (w : World) (ho : OwnT w base v ts) (hs : s.size ≤ 3518437208882) :
    Calls Tryz.prog 56 #[.string s, v, .int .i64 (k : Int)] w fun e w' => e = .returned (.bool (single s k ts)) ∧ Below w.heap.size w w' := by
  by_cases hone : ∃ T, ts = [T]
  · obtain ⟨T, rfl⟩ := hone
    rcases ho.form with ⟨h, _⟩ | ⟨g, cap, rfl, hbg, hgl, hnl, hcm⟩
    · cases h
    obtain ⟨y0, y1, y2, y3⟩ := ho.at (j := 0) (T := T) rfl
    simp only [List.length_singleton] at hnl ho ⊢
    unfold maxLen at hcm
    replace ho := Lib.hid ho
    replace hs := Lib.hid hs
    have hsg : single s k [T] = (T.kind == k && (T.fr == 0 && T.to == s.size)) := rfl
    rw [hsg]
    clear hsg
    by_cases hk : T.kind = k
    · have hk' : ((T.kind : Int) == (k : Int)) = true := by simp; omega
      have hk2 : (T.kind == k) = true := by simp; omega
      rw [hk2, Bool.true_and]
      replace hk2 := Lib.hid hk2
      replace hk := Lib.hid hk
      by_cases hf : T.fr = 0
      · have hf' : ((T.fr : Int) == 0) = true := by simp; omega
        have hf2 : (T.fr == 0) = true := by simp; omega
        rw [hf2, Bool.true_and]
        replace hf2 := Lib.hid hf2
        replace hf := Lib.hid hf
        by_cases hz : T.to = s.size
        · have hz' : ((T.to : Int) == (s.size : Int)) = true := by simp; omega
          have hz2 : (T.to == s.size) = true := by simp; omega
          rw [hz2]
          replace hz2 := Lib.hid hz2
          replace hz := Lib.hid hz
          go_enter Tryz.func56, Tryz.ntmps56
          (go_wp2_with fail; repeat (any_goals (go_quiet (fail); go_wp2_with fail)))
          go_ret
          exact ⟨rfl, (by repeat (first | assumption | exact Below.refl _ _ | apply Below.drew | apply below_drewN | apply balloc | (refine Below.setCell ?_ (by first | omega | (simp <;> omega)) _)))⟩
        · have hz' : ((T.to : Int) == (s.size : Int)) = false := by simp; omega
          have hz2 : (T.to == s.size) = false := by simp; omega
          rw [hz2]
          replace hz2 := Lib.hid hz2
          replace hz := Lib.hid hz
          go_enter Tryz.func56, Tryz.ntmps56
          (go_wp2_with fail; repeat (any_goals (go_quiet (fail); go_wp2_with fail)))
          go_ret
          exact ⟨rfl, (by repeat (first | assumption | exact Below.refl _ _ | apply Below.drew | apply below_drewN | apply balloc | (refine Below.setCell ?_ (by first | omega | (simp <;> omega)) _)))⟩
      · have hf' : ((T.fr : Int) == 0) = false := by simp; omega
        have hf2 : (T.fr == 0) = false := by simp; omega
        rw [hf2, Bool.false_and]
        replace hf2 := Lib.hid hf2
        replace hf := Lib.hid hf
        go_enter Tryz.func56, Tryz.ntmps56
        (go_wp2_with fail; repeat (any_goals (go_quiet (fail); go_wp2_with fail)))
        go_ret
        exact ⟨rfl, (by repeat (first | assumption | exact Below.refl _ _ | apply Below.drew | apply below_drewN | apply balloc | (refine Below.setCell ?_ (by first | omega | (simp <;> omega)) _)))⟩
    · have hk' : ((T.kind : Int) == (k : Int)) = false := by simp; omega
      have hk2 : (T.kind == k) = false := by simp; omega
      rw [hk2, Bool.false_and]
      replace hk2 := Lib.hid hk2
      replace hk := Lib.hid hk
      go_enter Tryz.func56, Tryz.ntmps56
      (go_wp2_with fail; repeat (any_goals (go_quiet (fail); go_wp2_with fail)))
      go_ret
      exact ⟨rfl, (by repeat (first | assumption | exact Below.refl _ _ | apply Below.drew | apply below_drewN | apply balloc | (refine Below.setCell ?_ (by first | omega | (simp <;> omega)) _)))⟩
  · have hsf : single s k ts = false := by
      unfold single
      split
      · rename_i T; first | exact absurd ⟨T, rfl⟩ hone | exact absurd ⟨T, by assumption⟩ hone
      · rfl
    rw [hsf]
    replace hsf := Lib.hid hsf
    rcases ho.form with ⟨h, rfl⟩ | ⟨g, cap, rfl, hbg, hgl, hnl, hcm⟩
    · replace ho := Lib.hid ho
      replace h := Lib.hid h
      replace hone := Lib.hid hone
      go_enter Tryz.func56, Tryz.ntmps56
      (go_wp2_with fail; repeat (any_goals (go_quiet (fail); go_wp2_with fail)))
      go_ret
      exact ⟨rfl, (by repeat (first | assumption | exact Below.refl _ _ | apply Below.drew | apply below_drewN | apply balloc | (refine Below.setCell ?_ (by first | omega | (simp <;> omega)) _)))⟩
    · have hne : ((ts.length : Int) == 1) = false := by
        simp
        intro h
        apply hone
        match hl : ts, h with
        | [T], _ => exact ⟨T, rfl⟩
      replace ho := Lib.hid ho
      replace hone := Lib.hid hone
      replace hsf := Lib.hid hsf
      generalize ts.length = n at *
      go_enter Tryz.func56, Tryz.ntmps56
      (go_wp2_with fail; repeat (any_goals (go_quiet (fail); go_wp2_with fail)))
      go_ret
      exact ⟨rfl, (by repeat (first | assumption | exact Below.refl _ _ | apply Below.drew | apply below_drewN | apply balloc | (refine Below.setCell ?_ (by first | omega | (simp <;> omega)) _)))⟩
theorem rWhole_calls2 {base : Nat} {v : Value} (s : ByteArray) (ts : List Tk) (k : Nat) (K : Int) (b : Bool) (w : World) (hK : (k : Int) = K) (hb : single s k ts = b) (ho : OwnT w base v ts) (hs : s.size ≤ 3518437208882) :
    Calls Tryz.prog 56 #[.string s, v, .int .i64 K] w fun e w' => e = .returned (.bool b) ∧ Below w.heap.size w w' := by rw [← hK, ← hb]; exact rWhole_calls s ts k w ho hs
/-- What Unquote answers: the text, the place, the error's number. -/
def rUnqV (R : ByteArray × Option Nat × Nat) : Value := .tuple #[.string R.1, .int .i64 (match R.2.1 with | some p => (p : Int) | none => -1), .int .i64 (R.2.2 : Int)]
set_option maxHeartbeats 2000000 in
set_option maxRecDepth 100000 in
theorem rUnquote_calls (s : ByteArray) (w : World) (hs : s.size ≤ 3518437208882) :
    Calls Tryz.prog 28 #[.string s] w fun e w' => e = .returned (rUnqV (unqS s)) ∧ Below w.heap.size w w' := by
  have C := Lib.hid (fun w => rScan_calls s w hs)
  obtain ⟨U, hU⟩ : ∃ U, U = unqS s := ⟨_, rfl⟩
  rw [← hU]
  have hform : (someS s).2.1 = 0 → single s 5 (someS s).1 = true → ∃ T, (someS s).1 = [T] := fun h0 h1 => by
    obtain ⟨T, h, _⟩ := single_bytes h0 h1
    exact ⟨T, h⟩
  unfold unqS at hU
  generalize someS s = R at *
  replace hs := Lib.hid hs
  unfold rScanR at C
  by_cases h0 : R.2.1 = 0
  · rw [if_pos h0] at hU
    cases h1 : single s 5 R.1 with
    | true =>
      obtain ⟨T, hT⟩ := hform h0 h1
      rw [h1, if_pos rfl, hT] at hU
      have hU2 : Hid (U = (T.text, some 0, 0)) := Lib.hid hU
      replace hU := Lib.hid hU
      have hlen : (0 : Int) < (R.1.length : Int) := by rw [hT]; simp
      replace hT := Lib.hid hT
      clear hform
      go_enter Tryz.func28, Tryz.ntmps28
      (go_wp2_with fail; repeat (any_goals (go_quiet (fail); go_wp2_with fail)))
      refine (C.out _).mono ?_
      rintro e w1 ⟨⟨v, rfl, ho, _⟩, hb⟩
      rw [if_pos h0] at ho ⊢
      have hb1 : Below w.heap.size w w1 := bcall (by repeat (first | assumption | exact Below.refl _ _ | apply Below.drew | apply below_drewN | apply balloc | (refine Below.setCell ?_ (by first | omega | (simp <;> omega)) _))) hb
      clear hb
      rw [h0]
      rcases ho.form with ⟨h, _⟩ | ⟨g, cap, rfl, hbg, hgl, hnl, hcm⟩
      · rw [hT.out] at h; cases h
      unfold maxLen at hcm
      replace ho := Lib.hid ho
      replace h0 := Lib.hid h0
      replace h1 := Lib.hid h1
      clear C
      (go_wp2_with fail; repeat (any_goals (go_quiet (fail); go_wp2_with fail)))
      refine (rWhole_calls2 s R.1 5 5 true _ rfl h1.out ho.out hs.out).mono ?_
      rintro e w2 ⟨rfl, hb⟩
      have hb2 : Below w.heap.size w w2 := bcall (by repeat (first | assumption | exact Below.refl _ _ | apply Below.drew | apply below_drewN | apply balloc | (refine Below.setCell ?_ (by first | omega | (simp <;> omega)) _))) hb
      obtain ⟨y0, y1, y2, y3⟩ := (ho.out.next hb).at (j := 0) (T := T) (by rw [hT.out]; rfl)
      clear hb
      (go_wp2_with fail; repeat (any_goals (go_quiet (fail); go_wp2_with fail)))
      go_ret3
      refine ⟨?_, (by repeat (first | assumption | exact Below.refl _ _ | apply Below.drew | apply below_drewN | apply balloc | (refine Below.setCell ?_ (by first | omega | (simp <;> omega)) _)))⟩
      rw [hU2.out]; rfl
    | false =>
      rw [h1, if_neg (by simp)] at hU
      have hU2 : Hid (U = (noS, none, 5)) := Lib.hid hU
      replace hU := Lib.hid hU
      clear hform
      go_enter Tryz.func28, Tryz.ntmps28
      (go_wp2_with fail; repeat (any_goals (go_quiet (fail); go_wp2_with fail)))
      refine (C.out _).mono ?_
      rintro e w1 ⟨⟨v, rfl, ho, _⟩, hb⟩
      rw [if_pos h0] at ho ⊢
      have hb1 : Below w.heap.size w w1 := bcall (by repeat (first | assumption | exact Below.refl _ _ | apply Below.drew | apply below_drewN | apply balloc | (refine Below.setCell ?_ (by first | omega | (simp <;> omega)) _))) hb
      clear hb
      rw [h0]
      replace ho := Lib.hid ho
      replace h0 := Lib.hid h0
      replace h1 := Lib.hid h1
      clear C
      (go_wp2_with fail; repeat (any_goals (go_quiet (fail); go_wp2_with fail)))
      refine (rWhole_calls2 s R.1 5 5 false _ rfl h1.out ho.out hs.out).mono ?_
      rintro e w2 ⟨rfl, hb⟩
      have hb2 : Below w.heap.size w w2 := bcall (by repeat (first | assumption | exact Below.refl _ _ | apply Below.drew | apply below_drewN | apply balloc | (refine Below.setCell ?_ (by first | omega | (simp <;> omega)) _))) hb
      clear hb
      (go_wp2_with fail; repeat (any_goals (go_quiet (fail); go_wp2_with fail)))
      go_ret3
      refine ⟨?_, (by repeat (first | assumption | exact Below.refl _ _ | apply Below.drew | apply below_drewN | apply balloc | (refine Below.setCell ?_ (by first | omega | (simp <;> omega)) _)))⟩
      rw [hU2.out]; rfl
  · rw [if_neg h0] at hU
    have hU2 : Hid (U = (noS, some R.2.2, R.2.1)) := Lib.hid hU
    replace hU := Lib.hid hU
    have hne2 : ((R.2.1 : Int) != 0) = true := by simp; omega
    clear hform
    go_enter Tryz.func28, Tryz.ntmps28
    (go_wp2_with fail; repeat (any_goals (go_quiet (fail); go_wp2_with fail)))
    refine (C.out _).mono ?_
    rintro e w1 ⟨⟨v, rfl, ho, _⟩, hb⟩
    rw [if_neg h0]
    clear ho
    have hb1 : Below w.heap.size w w1 := bcall (by repeat (first | assumption | exact Below.refl _ _ | apply Below.drew | apply below_drewN | apply balloc | (refine Below.setCell ?_ (by first | omega | (simp <;> omega)) _))) hb
    clear hb C
    replace h0 := Lib.hid h0
    (go_wp2_with fail; repeat (any_goals (go_quiet (fail); go_wp2_with fail)))
    go_ret3
    refine ⟨?_, (by repeat (first | assumption | exact Below.refl _ _ | apply Below.drew | apply below_drewN | apply balloc | (refine Below.setCell ?_ (by first | omega | (simp <;> omega)) _)))⟩
    rw [hU2.out]; rfl

set_option maxHeartbeats 2000000 in
set_option maxRecDepth 100000 in
theorem rNumber17_calls (s : ByteArray) (w : World) (hs : s.size ≤ 3518437208882) :
    Calls Tryz.prog 30 #[.string s] w fun e w' => e = .returned (.tuple #[.int .i64 (numS s).1, .int .i64 ((numS s).2 : Int)]) ∧ Below w.heap.size w w' := by
  have hs' : (s.size : Int) ≤ 3518437208882 := by omega
  have C := Lib.hid (fun w => rScan_calls s w hs)
  obtain ⟨N, hN⟩ : ∃ N, N = numS s := ⟨_, rfl⟩
  rw [← hN]
  unfold numS at hN
  have hform : (someS s).2.1 = 0 → single s 4 (someS s).1 = true → numAt s 0 = (true, s.size) ∧ 0 < s.size := fun h0 h1 => by
    obtain ⟨T, h, hk, _, hto, hone, hp⟩ := single_bytes h0 h1
    have := one_kind4 hone hk
    rw [hto] at this
    exact ⟨this, hp⟩
  generalize someS s = R at *
  replace hs := Lib.hid hs
  unfold rScanR at C
  by_cases h0 : R.2.1 = 0
  · cases h1 : single s 4 R.1 with
    | true =>
      obtain ⟨hnum, hp⟩ := hform h0 h1
      rw [if_pos ⟨h0, h1⟩] at hN
      clear hform
      cases hh : hasE s with
      | true =>
        rw [hh, if_pos rfl] at hN
        have hat : Hid (∃ j, j < s.size ∧ (bAt s j = 46 ∨ bAt s j = 101 ∨ bAt s j = 69)) := Lib.hid (by
          unfold hasE at hh
          rw [List.any_eq_true] at hh
          obtain ⟨c, hc, he⟩ := hh
          obtain ⟨j, hj⟩ := List.mem_iff_getElem?.1 hc
          have hjl : j < s.size := by
            have : s.data.toList.length = s.size := by rw [Array.length_toList]; rfl
            rcases Nat.lt_or_ge j s.data.toList.length with h | h
            · omega
            · rw [List.getElem?_eq_none h] at hj; cases hj
          obtain ⟨d, hd, hn⟩ := bAt_list s j hjl
          rw [hj] at hd
          cases hd
          refine ⟨j, hjl, ?_⟩
          simp only [Bool.or_eq_true, beq_iff_eq] at he
          rcases he with (rfl | rfl) | rfl
          · exact Or.inl hn.symm
          · exact Or.inr (Or.inl hn.symm)
          · exact Or.inr (Or.inr hn.symm))
        replace hN := Lib.hid hN
        replace hh := Lib.hid hh
        replace hnum := Lib.hid hnum
        go_enter Tryz.func30, Tryz.ntmps30
        (go_wp2_with fail; repeat (any_goals (go_quiet (fail); go_wp2_with fail)))
        refine (C.out _).mono ?_
        rintro e w1 ⟨⟨v, rfl, ho, _⟩, hb⟩
        have hb1 : Below w.heap.size w w1 := bcall (by repeat (first | assumption | exact Below.refl _ _ | apply Below.drew | apply below_drewN | apply balloc | (refine Below.setCell ?_ (by first | omega | (simp <;> omega)) _))) hb
        clear hb C
        rw [if_pos h0] at ho ⊢
        rw [h0]
        replace h0 := Lib.hid h0
        replace h1 := Lib.hid h1
        (go_wp2_with fail; repeat (any_goals (go_quiet (fail); go_wp2_with fail)))
        refine (rWhole_calls2 s R.1 4 4 true _ rfl h1.out ho hs.out).mono ?_
        rintro e w2 ⟨rfl, hb⟩
        have hb2 : Below w.heap.size w w2 := bcall (by repeat (first | assumption | exact Below.refl _ _ | apply Below.drew | apply below_drewN | apply balloc | (refine Below.setCell ?_ (by first | omega | (simp <;> omega)) _))) hb
        clear hb ho hb1
        (go_wp2_with fail; repeat (any_goals (go_quiet (fail); go_wp2_with fail)))
        go_loopg [7] (s.size + 1) (fun kq v7 wr => ∃ k : Nat, v7 = .int .i64 (k : Int) ∧ Hid (k ≤ s.size ∧ kq + k = s.size + 1 ∧ ∃ j, k ≤ j ∧ j < s.size ∧ (bAt s j = 46 ∨ bAt s j = 101 ∨ bAt s j = 69)) ∧ Below w.heap.size w wr)
        case atStart => exact ⟨0, rfl, Lib.hid ⟨Nat.zero_le _, by omega, by obtain ⟨j, h1, h2⟩ := hat.out; exact ⟨j, Nat.zero_le _, h1, h2⟩⟩, (by repeat (first | assumption | exact Below.refl _ _ | apply Below.drew | apply below_drewN | apply balloc | (refine Below.setCell ?_ (by first | omega | (simp <;> omega)) _)))⟩
        case round =>
          obtain ⟨k, rfl, H, hB⟩ := hrel
          have hx := byte_at s k
          have hlt : (k : Int) < (s.size : Int) := by obtain ⟨_, _, j, h1, h2, _⟩ := H.out; omega
          by_cases c1 : bAt s k = 46
          · have c1' : ((bAt s k : Int) == 46) = true := by simp; omega
            replace c1 := Lib.hid c1
            (go_wp2_with fail; repeat (any_goals (go_quiet (fail); go_wp2_with fail)))
            go_ret2
            exact ⟨by rw [hN.out]; rfl, (by repeat (first | assumption | exact Below.refl _ _ | apply Below.drew | apply below_drewN | apply balloc | (refine Below.setCell ?_ (by first | omega | (simp <;> omega)) _)))⟩
          · have c1' : ((bAt s k : Int) == 46) = false := by simp; omega
            by_cases c2 : bAt s k = 101
            · have c2' : ((bAt s k : Int) == 101) = true := by simp; omega
              replace c1 := Lib.hid c1
              replace c2 := Lib.hid c2
              (go_wp2_with fail; repeat (any_goals (go_quiet (fail); go_wp2_with fail)))
              go_ret2
              exact ⟨by rw [hN.out]; rfl, (by repeat (first | assumption | exact Below.refl _ _ | apply Below.drew | apply below_drewN | apply balloc | (refine Below.setCell ?_ (by first | omega | (simp <;> omega)) _)))⟩
            · have c2' : ((bAt s k : Int) == 101) = false := by simp; omega
              by_cases c3 : bAt s k = 69
              · have c3' : ((bAt s k : Int) == 69) = true := by simp; omega
                replace c1 := Lib.hid c1
                replace c2 := Lib.hid c2
                replace c3 := Lib.hid c3
                (go_wp2_with fail; repeat (any_goals (go_quiet (fail); go_wp2_with fail)))
                go_ret2
                exact ⟨by rw [hN.out]; rfl, (by repeat (first | assumption | exact Below.refl _ _ | apply Below.drew | apply below_drewN | apply balloc | (refine Below.setCell ?_ (by first | omega | (simp <;> omega)) _)))⟩
              · have c3' : ((bAt s k : Int) == 69) = false := by simp; omega
                have hq : Hid (k + 1 ≤ s.size ∧ ∃ j, k + 1 ≤ j ∧ j < s.size ∧ (bAt s j = 46 ∨ bAt s j = 101 ∨ bAt s j = 69)) := Lib.hid (by
                  obtain ⟨_, _, j, h1, h2, h3⟩ := H.out
                  have : j ≠ k := by rintro rfl; rcases h3 with h | h | h; exact c1 h; exact c2 h; exact c3 h
                  exact ⟨by omega, j, by omega, h2, h3⟩)
                replace c1 := Lib.hid c1
                replace c2 := Lib.hid c2
                replace c3 := Lib.hid c3
                (go_wp2_with fail; repeat (any_goals (go_quiet (fail); go_wp2_with fail)))
                go_roundg (s.size + 1 - (k + 1))
                case measure => have := H.out.2.1; have := H.out.1; omega
                case rel => exact ⟨k + 1, by go_num, Lib.hid ⟨hq.out.1, by have := H.out.2.1; have := hq.out.1; omega, hq.out.2⟩, by assumption⟩
      | false =>
        rw [hh, if_neg (by simp)] at hN
        have hno := Lib.hid (fun j => hasE_at hh j)
        have hdg := num_digits hh hnum
        have W := Lib.hid (fun w => Whole_num s w (by have := hs.out; omega) hdg)
        have hN2 : Hid (((wholeV s.data.toList).2 = true → N = ((wholeV s.data.toList).1, 0)) ∧ ((wholeV s.data.toList).2 = false → N = (0, 4))) := Lib.hid ⟨fun h => by rw [hN, if_pos h], fun h => by rw [hN, if_neg (by rw [h]; simp)]⟩
        replace hdg := Lib.hid hdg
        replace hN := Lib.hid hN
        replace hh := Lib.hid hh
        replace hnum := Lib.hid hnum
        go_enter Tryz.func30, Tryz.ntmps30
        (go_wp2_with fail; repeat (any_goals (go_quiet (fail); go_wp2_with fail)))
        refine (C.out _).mono ?_
        rintro e w1 ⟨⟨v, rfl, ho, _⟩, hb⟩
        have hb1 : Below w.heap.size w w1 := bcall (by repeat (first | assumption | exact Below.refl _ _ | apply Below.drew | apply below_drewN | apply balloc | (refine Below.setCell ?_ (by first | omega | (simp <;> omega)) _))) hb
        clear hb C
        rw [if_pos h0] at ho ⊢
        rw [h0]
        replace h0 := Lib.hid h0
        replace h1 := Lib.hid h1
        (go_wp2_with fail; repeat (any_goals (go_quiet (fail); go_wp2_with fail)))
        refine (rWhole_calls2 s R.1 4 4 true _ rfl h1.out ho hs.out).mono ?_
        rintro e w2 ⟨rfl, hb⟩
        have hb2 : Below w.heap.size w w2 := bcall (by repeat (first | assumption | exact Below.refl _ _ | apply Below.drew | apply below_drewN | apply balloc | (refine Below.setCell ?_ (by first | omega | (simp <;> omega)) _))) hb
        clear hb ho hb1
        (go_wp2_with fail; repeat (any_goals (go_quiet (fail); go_wp2_with fail)))
        go_loopg [7] (s.size + 1) (fun kq v7 wr => ∃ k : Nat, k ≤ s.size ∧ v7 = .int .i64 (k : Int) ∧ Hid (kq + k = s.size + 1) ∧ Below w.heap.size w wr)
        case atStart => exact ⟨0, Nat.zero_le _, rfl, Lib.hid (by omega), (by repeat (first | assumption | exact Below.refl _ _ | apply Below.drew | apply below_drewN | apply balloc | (refine Below.setCell ?_ (by first | omega | (simp <;> omega)) _)))⟩
        case round =>
          obtain ⟨k, hk, rfl, H, hB⟩ := hrel
          have hx := byte_at s k
          by_cases hlt : k < s.size
          · have hlt' : (k : Int) < (s.size : Int) := by omega
            obtain ⟨c1, c2, c3⟩ := hno.out k
            have c1' : ((bAt s k : Int) == 46) = false := by simp; omega
            have c2' : ((bAt s k : Int) == 101) = false := by simp; omega
            have c3' : ((bAt s k : Int) == 69) = false := by simp; omega
            replace c1 := Lib.hid c1
            replace c2 := Lib.hid c2
            replace c3 := Lib.hid c3
            (go_wp2_with fail; repeat (any_goals (go_quiet (fail); go_wp2_with fail)))
            go_roundg (s.size + 1 - (k + 1))
            case measure => have := H.out; omega
            case rel => exact ⟨k + 1, by omega, by go_num, Lib.hid (by have := H.out; omega), by assumption⟩
          · have hlt' : ¬ (k : Int) < (s.size : Int) := by omega
            cases hv : (wholeV s.data.toList).2 with
            | true =>
              have W2 : Hid (∀ w, Calls Tryz.prog 59 #[.string s] w fun e w' => e = .returned (.tuple #[.int .i64 (wholeV s.data.toList).1, .bool true]) ∧ Below w.heap.size w w') := Lib.hid (fun w => by have := W.out w; rwa [hv] at this)
              have hN3 := Lib.hid (hN2.out.1 hv)
              replace hv := Lib.hid hv
              generalize (wholeV s.data.toList).1 = x at *
              (go_wp2_with fail; repeat (any_goals (go_quiet (fail); go_wp2_with fail)))
              refine (W2.out _).mono ?_
              rintro e w3 ⟨rfl, hb⟩
              have hb3 : Below w.heap.size w w3 := bcall hB hb
              clear hb
              (go_wp2_with fail; repeat (any_goals (go_quiet (fail); go_wp2_with fail)))
              go_ret2
              exact ⟨by rw [hN3.out]; rfl, hb3⟩
            | false =>
              have W2 : Hid (∀ w, Calls Tryz.prog 59 #[.string s] w fun e w' => e = .returned (.tuple #[.int .i64 (wholeV s.data.toList).1, .bool false]) ∧ Below w.heap.size w w') := Lib.hid (fun w => by have := W.out w; rwa [hv] at this)
              have hN3 := Lib.hid (hN2.out.2 hv)
              replace hv := Lib.hid hv
              generalize (wholeV s.data.toList).1 = x at *
              (go_wp2_with fail; repeat (any_goals (go_quiet (fail); go_wp2_with fail)))
              refine (W2.out _).mono ?_
              rintro e w3 ⟨rfl, hb⟩
              have hb3 : Below w.heap.size w w3 := bcall hB hb
              clear hb
              (go_wp2_with fail; repeat (any_goals (go_quiet (fail); go_wp2_with fail)))
              go_ret2
              exact ⟨by rw [hN3.out]; rfl, hb3⟩
    | false =>
      rw [if_neg (by rw [h1]; simp)] at hN
      replace hN := Lib.hid hN
      clear hform
      go_enter Tryz.func30, Tryz.ntmps30
      (go_wp2_with fail; repeat (any_goals (go_quiet (fail); go_wp2_with fail)))
      refine (C.out _).mono ?_
      rintro e w1 ⟨⟨v, rfl, ho, _⟩, hb⟩
      have hb1 : Below w.heap.size w w1 := bcall (by repeat (first | assumption | exact Below.refl _ _ | apply Below.drew | apply below_drewN | apply balloc | (refine Below.setCell ?_ (by first | omega | (simp <;> omega)) _))) hb
      clear hb C
      rw [if_pos h0] at ho ⊢
      rw [h0]
      replace h0 := Lib.hid h0
      replace h1 := Lib.hid h1
      (go_wp2_with fail; repeat (any_goals (go_quiet (fail); go_wp2_with fail)))
      refine (rWhole_calls2 s R.1 4 4 false _ rfl h1.out ho hs.out).mono ?_
      rintro e w2 ⟨rfl, hb⟩
      have hb2 : Below w.heap.size w w2 := bcall (by repeat (first | assumption | exact Below.refl _ _ | apply Below.drew | apply below_drewN | apply balloc | (refine Below.setCell ?_ (by first | omega | (simp <;> omega)) _))) hb
      clear hb ho hb1
      (go_wp2_with fail; repeat (any_goals (go_quiet (fail); go_wp2_with fail)))
      go_ret2
      exact ⟨by rw [hN.out]; rfl, hb2⟩
  · rw [if_neg (fun h => h0 h.1)] at hN
    replace hN := Lib.hid hN
    have hne2 : ((R.2.1 : Int) != 0) = true := by simp; omega
    clear hform
    go_enter Tryz.func30, Tryz.ntmps30
    (go_wp2_with fail; repeat (any_goals (go_quiet (fail); go_wp2_with fail)))
    refine (C.out _).mono ?_
    rintro e w1 ⟨⟨v, rfl, ho, _⟩, hb⟩
    have hb1 : Below w.heap.size w w1 := bcall (by repeat (first | assumption | exact Below.refl _ _ | apply Below.drew | apply below_drewN | apply balloc | (refine Below.setCell ?_ (by first | omega | (simp <;> omega)) _))) hb
    clear hb C
    rw [if_neg h0]
    clear ho
    replace h0 := Lib.hid h0
    (go_wp2_with fail; repeat (any_goals (go_quiet (fail); go_wp2_with fail)))
    go_ret2
    exact ⟨by rw [hN.out]; rfl, hb1⟩

end Go.Proofs.YtnldhgkmbighkaaGreatDoor
