/- Package scan: the walk of number. -/
import Derived.Test.YtnldhgkmbighkaaDoorScan3
namespace Go.Proofs.YtnldhgkmbighkaaDoor
open Go Go.RowKit

theorem digits_calls' (s : ByteArray) (i : Nat) (w : World) (hs : s.size ≤ 140737488351232) (hi : i ≤ s.size) :
    Calls Tryd.prog 94 #[.string s, .int .i64 (i : Int)] w fun e w' => e = .returned (.int .i64 (digAt s i : Nat)) ∧ w = w' := (digits_calls s i w hs hi).mono fun _ _ ⟨h, hw⟩ => ⟨h, hw.symm⟩
/-- What number answers. -/
def NumBad (A : Nat → Addr) (i : Nat) (w : World) (e : Ending) (w' : World) : Prop :=
  ∃ g, w.heap.size ≤ g ∧ e = .returned (.tuple #[.int .i64 0, .iface 34 (.pointer (some ⟨g, 0, none⟩))]) ∧ AtB (i : Int) (.iface 203 (.pointer (some (A 2)))) g w'
def NumR (A : Nat → Addr) (N : Bool × Nat) (w : World) (e : Ending) (w' : World) : Prop := if N.1 = true then e = .returned (.tuple #[.int .i64 (N.2 : Int), .nilIface]) else NumBad A N.2 w e w'
theorem fracAt_no {s : ByteArray} {i : Nat} (h : bAt s i ≠ 46) : fracAt s i = (true, i) := by unfold fracAt; rw [if_neg h]
theorem fracAt_bad {s : ByteArray} {i : Nat} (h : bAt s i = 46) (h2 : digAt s (i + 1) = i + 1) : fracAt s i = (false, i + 1) := by unfold fracAt; rw [if_pos h, if_pos h2]
theorem fracAt_ok {s : ByteArray} {i : Nat} (h : bAt s i = 46) (h2 : digAt s (i + 1) ≠ i + 1) : fracAt s i = (true, digAt s (i + 1)) := by unfold fracAt; rw [if_pos h, if_neg h2]
theorem numR_bad {A : Nat → Addr} {N : Bool × Nat} {i : Nat} {w w' : World} {e : Ending} (h : N = (false, i)) : NumR A N w e w' ↔ NumBad A i w e w' := by
  subst h; unfold NumR; rw [if_neg (by simp)]
theorem numR_ok {A : Nat → Addr} {N : Bool × Nat} {i : Nat} {w w' : World} {e : Ending} (h : N = (true, i)) : NumR A N w e w' ↔ e = .returned (.tuple #[.int .i64 (i : Int), .nilIface]) := by
  subst h; unfold NumR; rw [if_pos rfl]
set_option maxHeartbeats 4000000 in
set_option maxRecDepth 100000 in
theorem number_calls {A : Nat → Addr} {B : Nat} (s : ByteArray) (p : Nat) (b : Nat) (w : World) (hE : Env A B SJ w) (hs : s.size ≤ 140737488351232) (hsc : ScB s (p : Int) b w) (hp : p < s.size) :
    Calls Tryd.prog 76 #[.pointer (some ⟨b, 0, none⟩)] w fun e w' => NumR A (numAt s p) w e w' ∧ Below w.heap.size w w' := by
  have x0 := hsc.s
  have x1 := hsc.at
  have e2 := hE.e2
  have hs' : (s.size : Int) ≤ 140737488351232 := by omega
  have hx := byte_at s p
  obtain ⟨N, hN⟩ : ∃ N, N = numAt s p := ⟨_, rfl⟩
  rw [← hN]
  replace hN := Lib.hid hN
  replace hsc := Lib.hid hsc
  have ha := minAt_bd s p hp
  have D := Lib.hid (fun i w hi => digits_calls' s i w hs hi)
  go_enter Tryd.func76, Tryd.ntmps76
  go_upto_if 16 with fail
  go_cut [4] (fun v wx => v = .int .i64 (minAt s p : Nat) ∧ w = wx)
  case first =>
    by_cases h45 : bAt s p = 45
    · have h45' : ((bAt s p : Int) == 45) = true := by simp; omega
      have em : minAt s p = p + 1 := by unfold minAt; rw [if_pos h45]
      replace h45 := Lib.hid h45
      replace em := Lib.hid em
      clear ha
      go_wp2_with fail
      go_meet
      exact ⟨by (rw [em.out]) <;> go_num, rfl⟩
    · have h45' : ((bAt s p : Int) == 45) = false := by simp; omega
      have em : minAt s p = p := by unfold minAt; rw [if_neg h45]
      replace h45 := Lib.hid h45
      replace em := Lib.hid em
      clear ha
      go_wp2_with fail
      go_meet
      exact ⟨by (rw [em.out]) <;> go_num, rfl⟩
  case rest =>
    obtain ⟨rfl, rfl⟩ := hcut
    clear hx
    obtain ⟨ha0, ha1, _⟩ := ha
    have hNe : numAt s p = if isD (bAt s (minAt s p)) = true then
      (if (fracAt s (headAt s (minAt s p))).1 = true then expAt s (fracAt s (headAt s (minAt s p))).2 else fracAt s (headAt s (minAt s p)))
      else (false, minAt s p) := rfl
    rw [hNe] at hN
    clear hNe
    replace hN := Lib.hid hN.out
    generalize minAt s p = a at *
    go_wp2_with fail
    refine (D.out a _ ha1).mono ?_
    rintro e w1 ⟨rfl, rfl⟩
    cases hd : isD (bAt s a) with
    | false =>
      have hda := digAt_none.2 hd
      have hNe : N = (false, a) := by rw [hN.out, if_neg (by rw [hd]; simp)]
      replace hd := Lib.hid hd
      go_wp2_with fail
      refine (fault_calls _ _ _ _).mono ?_
      rintro e w2 ⟨g, hg, rfl, hat, hb⟩
      go_wp2_with fail
      go_ret2
      exact ⟨(numR_bad hNe).2 ⟨g, hg, rfl, hat⟩, hb⟩
    | true =>
      have hda : ((digAt s a : Int) == (a : Int)) = false := by
        have : digAt s a ≠ a := fun h => by have := digAt_none.1 h; rw [hd] at this; cases this
        simp; omega
      have hN2 := Lib.hid (show N = _ by rw [hN.out, if_pos hd])
      have hal : (a : Int) < (s.size : Int) := by
        have := lt_of_bAt (s := s) (i := a) (by have := isD_iff.1 hd; omega)
        omega
      have hh := headAt_bd s a hd
      replace hd := Lib.hid hd
      have hx := byte_at s a
      go_upto_if 37 with fail
      go_cut [5] (fun v wx => v = .int .i64 (headAt s a : Nat) ∧ w = wx)
      case first =>
        by_cases h48 : bAt s a = 48
        · have h48' : ((bAt s a : Int) == 48) = true := by simp; omega
          have em : headAt s a = a + 1 := by unfold headAt; rw [if_pos h48]
          replace h48 := Lib.hid h48
          replace em := Lib.hid em
          clear hh
          go_wp2_with fail
          go_meet
          exact ⟨by (rw [em.out]) <;> go_num, rfl⟩
        · have h48' : ((bAt s a : Int) == 48) = false := by simp; omega
          have em : headAt s a = digAt s a := by unfold headAt; rw [if_neg h48]
          replace h48 := Lib.hid h48
          replace em := Lib.hid em
          clear hh
          go_wp2_with fail
          go_meet
          exact ⟨by rw [em.out], rfl⟩
      case rest =>
        obtain ⟨rfl, rfl⟩ := hcut
        clear hx hN
        obtain ⟨hh0, hh1⟩ := hh
        have hf := fracAt_bd s (headAt s a) hh1
        generalize headAt s a = t at *
        have hx := byte_at s t
        go_upto_region 9 with fail
        go_cut [55] (fun v wx => v = .bool ((bAt s t : Int) == 46) ∧ w = wx)
        case first =>
          by_cases htl : t < s.size
          · go_wp2_with fail
            go_meet
            exact ⟨by simp, rfl⟩
          · have h0 : bAt s t = 0 := bAt_ge s t (by omega)
            replace h0 := Lib.hid h0
            go_wp2_with fail
            go_meet
            exact ⟨by rw [h0.out]; rfl, rfl⟩
        case rest =>
          obtain ⟨rfl, rfl⟩ := hcut
          go_upto_if 55 with fail
          go_cut [5] (fun v wx => v = .int .i64 ((fracAt s t).2 : Nat) ∧ w = wx ∧ (fracAt s t).1 = true)
          case first =>
            by_cases h46 : bAt s t = 46
            · have h46' : ((bAt s t : Int) == 46) = true := by simp; omega
              have htl := lt_of_bAt (s := s) (i := t) (by omega)
              by_cases hdt : digAt s (t + 1) = t + 1
              · have hNe : N = (false, t + 1) := by rw [hN2.out, fracAt_bad h46 hdt, if_neg (by simp)]
                replace h46 := Lib.hid h46
                have hdt' : ((digAt s (t + 1) : Nat) : Int) = (t : Int) + 1 := by omega
                replace hdt := Lib.hid hdt
                have D2 := Lib.hid (fun w => digits_calls' s (t + 1) w hs htl)
                clear hf
                go_wp2_with fail
                refine (D2.out _).mono ?_
                rintro e w1 ⟨rfl, rfl⟩
                go_wp2_with fail
                refine (fault_calls _ _ _ _).mono ?_
                rintro e w2 ⟨g, hg, rfl, hat, hb⟩
                go_wp2_with fail
                go_ret2
                exact ⟨(numR_bad hNe).2 ⟨g, hg, rfl, by simpa using hat⟩, hb⟩
              · have em := fracAt_ok h46 hdt
                replace h46 := Lib.hid h46
                have hdt' : (((digAt s (t + 1) : Nat) : Int) == (t : Int) + 1) = false := by simp; omega
                replace hdt := Lib.hid hdt
                have D2 := Lib.hid (fun w => digits_calls' s (t + 1) w hs htl)
                replace em := Lib.hid em
                clear hf
                go_wp2_with fail
                refine (D2.out _).mono ?_
                rintro e w1 ⟨rfl, rfl⟩
                go_wp2_with fail
                go_meet
                exact ⟨by rw [em.out], rfl, by rw [em.out]⟩
            · have h46' : ((bAt s t : Int) == 46) = false := by simp; omega
              have em := fracAt_no h46
              replace h46 := Lib.hid h46
              replace em := Lib.hid em
              clear hf
              go_wp2_with fail
              go_meet
              exact ⟨by rw [em.out], rfl, by rw [em.out]⟩
          case rest =>
            obtain ⟨rfl, rfl, hft⟩ := hcut
            have hN3 := Lib.hid (show N = expAt s (fracAt s t).2 by rw [hN2.out, if_pos hft])
            clear hx hN2 hft
            obtain ⟨hf0, hf1⟩ := hf
            generalize (fracAt s t).2 = u at *
            have hx := byte_at s u
            go_upto_region 14 with fail
            go_cut [94] (fun v wx => v = .bool (bAt s u == 101 || bAt s u == 69) ∧ w = wx)
            case first =>
              by_cases hul : u < s.size
              · by_cases h1 : bAt s u = 101
                · have h1' : ((bAt s u : Int) == 101) = true := by simp; omega
                  replace h1 := Lib.hid h1
                  go_wp2_with fail
                  go_meet
                  exact ⟨by rw [h1.out]; rfl, rfl⟩
                · have h1' : ((bAt s u : Int) == 101) = false := by simp; omega
                  replace h1 := Lib.hid h1
                  by_cases h2 : bAt s u = 69
                  · have h2' : ((bAt s u : Int) == 69) = true := by simp; omega
                    replace h2 := Lib.hid h2
                    go_wp2_with fail
                    go_meet
                    exact ⟨by rw [h2.out]; rfl, rfl⟩
                  · have h2' : ((bAt s u : Int) == 69) = false := by simp; omega
                    replace h2 := Lib.hid h2
                    go_wp2_with fail
                    go_meet
                    exact ⟨by rw [show (bAt s u == 101) = false by simpa using h1.out, show (bAt s u == 69) = false by simpa using h2.out]; rfl, rfl⟩
              · have h0 : bAt s u = 0 := bAt_ge s u (by omega)
                replace h0 := Lib.hid h0
                go_wp2_with fail
                go_meet
                exact ⟨by rw [h0.out]; rfl, rfl⟩
            case rest =>
              obtain ⟨hv, rfl⟩ := hcut
              by_cases hE1 : bAt s u = 101 ∨ bAt s u = 69
              · rw [show (bAt s u == 101 || bAt s u == 69) = true by simpa using hE1] at hv
                subst hv
                have hul := lt_of_bAt (s := s) (i := u) (by omega)
                have hsg := signAt_bd s u hul
                have hN4 := Lib.hid (show N = if digAt s (signAt s u) = signAt s u then (false, signAt s u) else (true, digAt s (signAt s u)) by rw [hN3.out, expAt, if_pos hE1])
                replace hE1 := Lib.hid hE1
                clear hx hN3
                have hx := byte_at s (u + 1)
                go_upto_region 16 with fail
                go_cut [121] (fun v wx => v = .bool (bAt s (u + 1) == 43 || bAt s (u + 1) == 45) ∧ w = wx)
                case first =>
                  clear hsg
                  by_cases hul1 : u + 1 < s.size
                  · have hul2 : (u : Int) + 1 < (s.size : Int) := by omega
                    by_cases h1 : bAt s (u + 1) = 43
                    · have h1' : ((bAt s (u + 1) : Int) == 43) = true := by simp; omega
                      replace h1 := Lib.hid h1
                      go_wp2_with fail
                      go_meet
                      exact ⟨by rw [h1.out]; rfl, rfl⟩
                    · have h1' : ((bAt s (u + 1) : Int) == 43) = false := by simp; omega
                      replace h1 := Lib.hid h1
                      by_cases h2 : bAt s (u + 1) = 45
                      · have h2' : ((bAt s (u + 1) : Int) == 45) = true := by simp; omega
                        replace h2 := Lib.hid h2
                        go_wp2_with fail
                        go_meet
                        exact ⟨by rw [h2.out]; rfl, rfl⟩
                      · have h2' : ((bAt s (u + 1) : Int) == 45) = false := by simp; omega
                        replace h2 := Lib.hid h2
                        go_wp2_with fail
                        go_meet
                        exact ⟨by rw [show (bAt s (u + 1) == 43) = false by simpa using h1.out, show (bAt s (u + 1) == 45) = false by simpa using h2.out]; rfl, rfl⟩
                  · have hul2 : (s.size : Int) ≤ (u : Int) + 1 := by omega
                    have h0 : bAt s (u + 1) = 0 := bAt_ge s (u + 1) (by omega)
                    replace h0 := Lib.hid h0
                    go_wp2_with fail
                    go_meet
                    exact ⟨by rw [h0.out]; rfl, rfl⟩
                case rest =>
                  obtain ⟨hv, rfl⟩ := hcut
                  replace hv := Lib.hid hv
                  clear hx
                  go_upto_if 121 with fail
                  go_cut [4] (fun v wx => v = .int .i64 (signAt s u : Nat) ∧ w = wx)
                  case first =>
                    by_cases h1 : bAt s (u + 1) = 43 ∨ bAt s (u + 1) = 45
                    · have hv := hv.out
                      rw [show (bAt s (u + 1) == 43 || bAt s (u + 1) == 45) = true by simpa using h1] at hv
                      subst hv
                      have em : signAt s u = u + 2 := by unfold signAt; rw [if_pos h1]
                      replace h1 := Lib.hid h1
                      replace em := Lib.hid em
                      clear hsg
                      go_wp2_with fail
                      go_meet
                      exact ⟨by rw [em.out]; simp [Value.int.injEq] <;> omega, rfl⟩
                    · have hv := hv.out
                      rw [show (bAt s (u + 1) == 43 || bAt s (u + 1) == 45) = false by simpa using h1] at hv
                      subst hv
                      have em : signAt s u = u + 1 := by unfold signAt; rw [if_neg h1]
                      replace h1 := Lib.hid h1
                      replace em := Lib.hid em
                      clear hsg
                      go_wp2_with fail
                      go_meet
                      exact ⟨by (rw [em.out]) <;> go_num, rfl⟩
                  case rest =>
                    obtain ⟨rfl, rfl⟩ := hcut
                    obtain ⟨hsg0, hsg1⟩ := hsg
                    generalize signAt s u = v at *
                    have D2 := Lib.hid (fun w => digits_calls' s v w hs hsg1)
                    by_cases hdt : digAt s v = v
                    · have hNe : N = (false, v) := by rw [hN4.out, if_pos hdt]
                      have hdt' : ((digAt s v : Nat) : Int) = (v : Int) := by omega
                      replace hdt := Lib.hid hdt
                      clear hN4
                      go_wp2_with fail
                      refine (D2.out _).mono ?_
                      rintro e w1 ⟨rfl, rfl⟩
                      go_wp2_with fail
                      refine (fault_calls _ _ _ _).mono ?_
                      rintro e w2 ⟨g, hg, rfl, hat, hb⟩
                      go_wp2_with fail
                      go_ret2
                      exact ⟨(numR_bad hNe).2 ⟨g, hg, rfl, hat⟩, hb⟩
                    · have hNe : N = (true, digAt s v) := by rw [hN4.out, if_neg hdt]
                      have hdt' : (((digAt s v : Nat) : Int) == (v : Int)) = false := by simp; omega
                      replace hdt := Lib.hid hdt
                      replace hNe := Lib.hid hNe
                      clear hN4
                      go_wp2_with fail
                      refine (D2.out _).mono ?_
                      rintro e w1 ⟨rfl, rfl⟩
                      go_wp2_with fail
                      go_ret2
                      exact ⟨(numR_ok hNe.out).2 rfl, Below.refl _ _⟩
              · rw [show (bAt s u == 101 || bAt s u == 69) = false by simpa using hE1] at hv
                subst hv
                have hNe : N = (true, u) := by rw [hN3.out, expAt, if_neg hE1]
                replace hE1 := Lib.hid hE1
                replace hNe := Lib.hid hNe
                clear hx hN3
                go_wp2_with fail
                go_ret2
                exact ⟨(numR_ok hNe.out).2 rfl, Below.refl _ _⟩

end Go.Proofs.YtnldhgkmbighkaaDoor
