/- The reference of chapter 17: number. -/
import Derived.Test.YtnldhgkmbighkaaDoorSRefPlain
namespace Go.Proofs.YtnldhgkmbighkaaDoor
open Go Go.RowKit

theorem rDigits_calls' (s : ByteArray) (i : Nat) (w : World) (hs : s.size ≤ 140737488351232) (hi : i ≤ s.size) :
    Calls Tryd.prog 78 #[.string s, .int .i64 (i : Int)] w fun e w' => e = .returned (.int .i64 (digAt s i : Nat)) ∧ w = w' := (rDigits_calls s i w hs hi).mono fun _ _ ⟨h, hw⟩ => ⟨h, hw.symm⟩
theorem rDigit_calls' (c : Nat) (w : World) : Calls Tryd.prog 58 #[.int .u8 (c : Int)] w fun e w' => e = .returned (.bool (isD c)) ∧ w = w' := (rDigit_calls c w).mono fun _ _ ⟨h, hw⟩ => ⟨h, hw.symm⟩
def rNumV (N : Bool × Nat) : Value := if N.1 = true then .tuple #[.int .i64 (N.2 : Int), .int .i64 (-1)] else .tuple #[.int .i64 0, .int .i64 (N.2 : Int)]
theorem rFrac_no {s : ByteArray} {i : Nat} (h : bAt s i ≠ 46) : fracAt s i = (true, i) := by unfold fracAt; rw [if_neg h]
theorem rFrac_bad {s : ByteArray} {i : Nat} (h : bAt s i = 46) (h2 : digAt s (i + 1) = i + 1) : fracAt s i = (false, i + 1) := by unfold fracAt; rw [if_pos h, if_pos h2]
theorem rFrac_ok {s : ByteArray} {i : Nat} (h : bAt s i = 46) (h2 : digAt s (i + 1) ≠ i + 1) : fracAt s i = (true, digAt s (i + 1)) := by unfold fracAt; rw [if_pos h, if_neg h2]
theorem rNumV_bad {N : Bool × Nat} {i : Nat} (h : N = (false, i)) : rNumV N = .tuple #[.int .i64 0, .int .i64 (i : Int)] := by subst h; unfold rNumV; rw [if_neg (by simp)]
theorem rNumV_ok {N : Bool × Nat} {i : Nat} (h : N = (true, i)) : rNumV N = .tuple #[.int .i64 (i : Int), .int .i64 (-1)] := by subst h; unfold rNumV; rw [if_pos rfl]
set_option maxHeartbeats 4000000 in
set_option maxRecDepth 100000 in
theorem rNumber_calls (s : ByteArray) (p : Nat) (w : World) (hs : s.size ≤ 140737488351232) (hp : p < s.size) :
    Calls Tryd.prog 59 #[.string s, .int .i64 (p : Int)] w fun e w' => e = .returned (rNumV (numAt s p)) ∧ w = w' := by
  have hs' : (s.size : Int) ≤ 140737488351232 := by omega
  have hx := byte_at s p
  obtain ⟨N, hN⟩ : ∃ N, N = numAt s p := ⟨_, rfl⟩
  rw [← hN]
  replace hN := Lib.hid hN
  have ha := minAt_bd s p hp
  have D := Lib.hid (fun i w hi => rDigits_calls' s i w hs hi)
  have D1 := Lib.hid (fun c w => rDigit_calls' c w)
  go_enter Tryd.func59, Tryd.ntmps59
  go_upto_if 9 with fail
  go_cut [1] (fun v wx => v = .int .i64 (minAt s p : Nat) ∧ w = wx)
  case first =>
    by_cases h45 : bAt s p = 45
    · have h45' : ((bAt s p : Int) == 45) = true := by simp; omega
      have em : minAt s p = p + 1 := by unfold minAt; rw [if_pos h45]
      replace h45 := Lib.hid h45
      replace em := Lib.hid em
      clear ha
      go_wp2_with fail
      go_meet
      exact ⟨by (rw [em.out]) <;> go_num, rfl⟩
    · have h45' : ((bAt s p : Int) == 45) = false := by simp; omega
      have em : minAt s p = p := by unfold minAt; rw [if_neg h45]
      replace h45 := Lib.hid h45
      replace em := Lib.hid em
      clear ha
      go_wp2_with fail
      go_meet
      exact ⟨by (rw [em.out]) <;> go_num, rfl⟩
  case rest =>
    obtain ⟨rfl, rfl⟩ := hcut
    clear hx
    obtain ⟨ha0, ha1, _⟩ := ha
    have hNe : numAt s p = if isD (bAt s (minAt s p)) = true then
      (if (fracAt s (headAt s (minAt s p))).1 = true then expAt s (fracAt s (headAt s (minAt s p))).2 else fracAt s (headAt s (minAt s p)))
      else (false, minAt s p) := rfl
    rw [hNe] at hN
    clear hNe
    replace hN := Lib.hid hN.out
    generalize minAt s p = a at *
    have hx := byte_at s a
    cases hd : isD (bAt s a) with
    | false =>
      have hNe : N = (false, a) := by rw [hN.out, if_neg (by rw [hd]; simp)]
      have D2 := Lib.hid (D1.out (bAt s a))
      rw [hd] at D2
      replace hd := Lib.hid hd
      by_cases hal : a < s.size
      · have hne : ((a : Int) == (s.size : Int)) = false := by simp; omega
        go_wp2_with fail
        refine (D2.out _).mono ?_
        rintro e w1 ⟨rfl, rfl⟩
        go_wp2_with fail
        go_ret2
        exact ⟨by rw [rNumV_bad hNe]; rfl, rfl⟩
      · have hne : ((a : Int) == (s.size : Int)) = true := by simp; omega
        go_wp2_with fail
        go_ret2
        exact ⟨by rw [rNumV_bad hNe]; rfl, rfl⟩
    | true =>
      have hN2 := Lib.hid (show N = _ by rw [hN.out, if_pos hd])
      have hal : a < s.size := lt_of_bAt (s := s) (i := a) (by have := isD_iff.1 hd; omega)
      have hne : ((a : Int) == (s.size : Int)) = false := by simp; omega
      have hh := headAt_bd s a hd
      have D2 := Lib.hid (D1.out (bAt s a))
      rw [hd] at D2
      replace hd := Lib.hid hd
      go_wp2_with fail
      refine (D2.out _).mono ?_
      rintro e w1 ⟨rfl, rfl⟩
      go_upto_if 27 with fail
      go_cut [1] (fun v wx => v = .int .i64 (headAt s a : Nat) ∧ w = wx)
      case first =>
        by_cases h48 : bAt s a = 48
        · have h48' : ((bAt s a : Int) == 48) = true := by simp; omega
          have em : headAt s a = a + 1 := by unfold headAt; rw [if_pos h48]
          replace h48 := Lib.hid h48
          replace em := Lib.hid em
          clear hh
          go_wp2_with fail
          go_meet
          exact ⟨by (rw [em.out]) <;> go_num, rfl⟩
        · have h48' : ((bAt s a : Int) == 48) = false := by simp; omega
          have em : headAt s a = digAt s a := by unfold headAt; rw [if_neg h48]
          replace h48 := Lib.hid h48
          replace em := Lib.hid em
          clear hh
          go_wp2_with fail
          refine (D.out a _ ha1).mono ?_
          rintro e w1 ⟨rfl, rfl⟩
          go_wp2_with fail
          go_meet
          exact ⟨by rw [em.out], rfl⟩
      case rest =>
        obtain ⟨rfl, rfl⟩ := hcut
        clear hx hN
        obtain ⟨hh0, hh1⟩ := hh
        have hf := fracAt_bd s (headAt s a) hh1
        generalize headAt s a = t at *
        have hx := byte_at s t
        go_upto_region 8 with fail
        go_cut [42] (fun v wx => v = .bool ((bAt s t : Int) == 46) ∧ w = wx)
        case first =>
          by_cases htl : t < s.size
          · go_wp2_with fail
            go_meet
            exact ⟨by simp, rfl⟩
          · have h0 : bAt s t = 0 := bAt_ge s t (by omega)
            replace h0 := Lib.hid h0
            go_wp2_with fail
            go_meet
            exact ⟨by rw [h0.out]; rfl, rfl⟩
        case rest =>
          obtain ⟨rfl, rfl⟩ := hcut
          go_upto_if 42 with fail
          go_cut [1] (fun v wx => v = .int .i64 ((fracAt s t).2 : Nat) ∧ w = wx ∧ (fracAt s t).1 = true)
          case first =>
            by_cases h46 : bAt s t = 46
            · have h46' : ((bAt s t : Int) == 46) = true := by simp; omega
              have htl := lt_of_bAt (s := s) (i := t) (by omega)
              by_cases hdt : digAt s (t + 1) = t + 1
              · have hNe : N = (false, t + 1) := by rw [hN2.out, rFrac_bad h46 hdt, if_neg (by simp)]
                replace h46 := Lib.hid h46
                have hdt' : ((digAt s (t + 1) : Nat) : Int) = (t : Int) + 1 := by omega
                replace hdt := Lib.hid hdt
                have D2 := Lib.hid (fun w => rDigits_calls' s (t + 1) w hs htl)
                clear hf
                go_wp2_with fail
                refine (D2.out _).mono ?_
                rintro e w1 ⟨rfl, rfl⟩
                go_wp2_with fail
                go_ret2
                exact ⟨by rw [rNumV_bad hNe]; rfl, rfl⟩
              · have em := rFrac_ok h46 hdt
                replace h46 := Lib.hid h46
                have hdt' : (((digAt s (t + 1) : Nat) : Int) == (t : Int) + 1) = false := by simp; omega
                replace hdt := Lib.hid hdt
                have D2 := Lib.hid (fun w => rDigits_calls' s (t + 1) w hs htl)
                replace em := Lib.hid em
                clear hf
                go_wp2_with fail
                refine (D2.out _).mono ?_
                rintro e w1 ⟨rfl, rfl⟩
                go_wp2_with fail
                refine (D2.out _).mono ?_
                rintro e w1 ⟨rfl, rfl⟩
                go_wp2_with fail
                go_meet
                exact ⟨by rw [em.out], rfl, by rw [em.out]⟩
            · have h46' : ((bAt s t : Int) == 46) = false := by simp; omega
              have em := rFrac_no h46
              replace h46 := Lib.hid h46
              replace em := Lib.hid em
              clear hf
              go_wp2_with fail
              go_meet
              exact ⟨by rw [em.out], rfl, by rw [em.out]⟩
          case rest =>
            obtain ⟨rfl, rfl, hft⟩ := hcut
            have hN3 := Lib.hid (show N = expAt s (fracAt s t).2 by rw [hN2.out, if_pos hft])
            clear hx hN2 hft
            obtain ⟨hf0, hf1⟩ := hf
            generalize (fracAt s t).2 = u at *
            have hx := byte_at s u
            go_upto_region 12 with fail
            go_cut [71] (fun v wx => v = .bool (bAt s u == 101 || bAt s u == 69) ∧ w = wx)
            case first =>
              by_cases hul : u < s.size
              · by_cases h1 : bAt s u = 101
                · have h1' : ((bAt s u : Int) == 101) = true := by simp; omega
                  replace h1 := Lib.hid h1
                  go_wp2_with fail
                  go_meet
                  exact ⟨by rw [h1.out]; rfl, rfl⟩
                · have h1' : ((bAt s u : Int) == 101) = false := by simp; omega
                  replace h1 := Lib.hid h1
                  by_cases h2 : bAt s u = 69
                  · have h2' : ((bAt s u : Int) == 69) = true := by simp; omega
                    replace h2 := Lib.hid h2
                    go_wp2_with fail
                    go_meet
                    exact ⟨by rw [h2.out]; rfl, rfl⟩
                  · have h2' : ((bAt s u : Int) == 69) = false := by simp; omega
                    replace h2 := Lib.hid h2
                    go_wp2_with fail
                    go_meet
                    exact ⟨by rw [show (bAt s u == 101) = false by simpa using h1.out, show (bAt s u == 69) = false by simpa using h2.out]; rfl, rfl⟩
              · have h0 : bAt s u = 0 := bAt_ge s u (by omega)
                replace h0 := Lib.hid h0
                go_wp2_with fail
                go_meet
                exact ⟨by rw [h0.out]; rfl, rfl⟩
            case rest =>
              obtain ⟨hv, rfl⟩ := hcut
              by_cases hE1 : bAt s u = 101 ∨ bAt s u = 69
              · rw [show (bAt s u == 101 || bAt s u == 69) = true by simpa using hE1] at hv
                subst hv
                have hul := lt_of_bAt (s := s) (i := u) (by omega)
                have hsg := signAt_bd s u hul
                have hN4 := Lib.hid (show N = if digAt s (signAt s u) = signAt s u then (false, signAt s u) else (true, digAt s (signAt s u)) by rw [hN3.out, expAt, if_pos hE1])
                replace hE1 := Lib.hid hE1
                clear hx hN3
                have hx := byte_at s (u + 1)
                go_upto_region 14 with fail
                go_cut [89] (fun v wx => v = .bool (bAt s (u + 1) == 43 || bAt s (u + 1) == 45) ∧ w = wx)
                case first =>
                  clear hsg
                  by_cases hul1 : u + 1 < s.size
                  · have hul2 : (u : Int) + 1 < (s.size : Int) := by omega
                    by_cases h1 : bAt s (u + 1) = 43
                    · have h1' : ((bAt s (u + 1) : Int) == 43) = true := by simp; omega
                      replace h1 := Lib.hid h1
                      go_wp2_with fail
                      go_meet
                      exact ⟨by rw [h1.out]; rfl, rfl⟩
                    · have h1' : ((bAt s (u + 1) : Int) == 43) = false := by simp; omega
                      replace h1 := Lib.hid h1
                      by_cases h2 : bAt s (u + 1) = 45
                      · have h2' : ((bAt s (u + 1) : Int) == 45) = true := by simp; omega
                        replace h2 := Lib.hid h2
                        go_wp2_with fail
                        go_meet
                        exact ⟨by rw [h2.out]; rfl, rfl⟩
                      · have h2' : ((bAt s (u + 1) : Int) == 45) = false := by simp; omega
                        replace h2 := Lib.hid h2
                        go_wp2_with fail
                        go_meet
                        exact ⟨by rw [show (bAt s (u + 1) == 43) = false by simpa using h1.out, show (bAt s (u + 1) == 45) = false by simpa using h2.out]; rfl, rfl⟩
                  · have hul2 : (s.size : Int) ≤ (u : Int) + 1 := by omega
                    have h0 : bAt s (u + 1) = 0 := bAt_ge s (u + 1) (by omega)
                    replace h0 := Lib.hid h0
                    go_wp2_with fail
                    go_meet
                    exact ⟨by rw [h0.out]; rfl, rfl⟩
                case rest =>
                  obtain ⟨hv, rfl⟩ := hcut
                  replace hv := Lib.hid hv
                  clear hx
                  go_upto_if 89 with fail
                  go_cut [1] (fun v wx => v = .int .i64 (signAt s u : Nat) ∧ w = wx)
                  case first =>
                    by_cases h1 : bAt s (u + 1) = 43 ∨ bAt s (u + 1) = 45
                    · have hv := hv.out
                      rw [show (bAt s (u + 1) == 43 || bAt s (u + 1) == 45) = true by simpa using h1] at hv
                      subst hv
                      have em : signAt s u = u + 2 := by unfold signAt; rw [if_pos h1]
                      replace h1 := Lib.hid h1
                      replace em := Lib.hid em
                      clear hsg
                      go_wp2_with fail
                      go_meet
                      exact ⟨by rw [em.out]; simp [Value.int.injEq] <;> omega, rfl⟩
                    · have hv := hv.out
                      rw [show (bAt s (u + 1) == 43 || bAt s (u + 1) == 45) = false by simpa using h1] at hv
                      subst hv
                      have em : signAt s u = u + 1 := by unfold signAt; rw [if_neg h1]
                      replace h1 := Lib.hid h1
                      replace em := Lib.hid em
                      clear hsg
                      go_wp2_with fail
                      go_meet
                      exact ⟨by (rw [em.out]) <;> go_num, rfl⟩
                  case rest =>
                    obtain ⟨rfl, rfl⟩ := hcut
                    obtain ⟨hsg0, hsg1⟩ := hsg
                    generalize signAt s u = v at *
                    have D2 := Lib.hid (fun w => rDigits_calls' s v w hs hsg1)
                    by_cases hdt : digAt s v = v
                    · have hNe : N = (false, v) := by rw [hN4.out, if_pos hdt]
                      have hdt' : ((digAt s v : Nat) : Int) = (v : Int) := by omega
                      replace hdt := Lib.hid hdt
                      clear hN4
                      go_wp2_with fail
                      refine (D2.out _).mono ?_
                      rintro e w1 ⟨rfl, rfl⟩
                      go_wp2_with fail
                      go_ret2
                      exact ⟨by rw [rNumV_bad hNe]; rfl, rfl⟩
                    · have hNe : N = (true, digAt s v) := by rw [hN4.out, if_neg hdt]
                      have hdt' : (((digAt s v : Nat) : Int) == (v : Int)) = false := by simp; omega
                      replace hdt := Lib.hid hdt
                      replace hNe := Lib.hid hNe
                      clear hN4
                      go_wp2_with fail
                      refine (D2.out _).mono ?_
                      rintro e w1 ⟨rfl, rfl⟩
                      go_wp2_with fail
                      refine (D2.out _).mono ?_
                      rintro e w1 ⟨rfl, rfl⟩
                      go_wp2_with fail
                      go_ret2
                      exact ⟨by rw [rNumV_ok hNe.out]; rfl, rfl⟩
              · rw [show (bAt s u == 101 || bAt s u == 69) = false by simpa using hE1] at hv
                subst hv
                have hNe : N = (true, u) := by rw [hN3.out, expAt, if_neg hE1]
                replace hE1 := Lib.hid hE1
                replace hNe := Lib.hid hNe
                clear hx hN3
                go_wp2_with fail
                go_ret2
                exact ⟨by rw [rNumV_ok hNe.out]; rfl, rfl⟩

end Go.Proofs.YtnldhgkmbighkaaDoor
