/- The reference of chapter 17: hex. -/
import Derived.Test.YtnldhgkmbighkaaDoorSRef2
namespace Go.Proofs.YtnldhgkmbighkaaDoor
open Go Go.RowKit

theorem starts_u (s : ByteArray) (i : Nat) : startsS s i ⟨#[92, 117]⟩ = true ↔ bAt s i = 92 ∧ bAt s (i + 1) = 117 := by
  rw [startsS_iff]
  constructor
  · rintro ⟨_, h⟩
    exact ⟨h 0 (by decide), h 1 (by decide)⟩
  · rintro ⟨h0, h1⟩
    have := lt_of_bAt (s := s) (i := i + 1) (by omega)
    refine ⟨by show i + 2 ≤ s.size; omega, fun j hj => ?_⟩
    rcases (show j = 0 ∨ j = 1 by have : j < 2 := hj; omega) with rfl | rfl
    · exact h0
    · exact h1
def rHexV (h : Nat) : Value := if h < 65536 then .int .i32 (h : Int) else .int .i32 (-1)
theorem starts_calls' (s : ByteArray) (i : Nat) (t : ByteArray) (w : World) (hs : s.size ≤ 140737488351232) (ht : t.size ≤ 100) (hi : i ≤ 140737488351300) :
    Calls Tryd.prog 57 #[.string s, .int .i64 (i : Int), .string t] w fun e w' => e = .returned (.bool (startsS s i t)) ∧ w = w' := (starts_calls s i t w hs ht hi).mono fun _ _ ⟨h, hw⟩ => ⟨h, hw.symm⟩
set_option maxHeartbeats 4000000 in
set_option maxRecDepth 100000 in
theorem rHex_calls (s : ByteArray) (i : Nat) (w : World) (hs : s.size ≤ 140737488351232) (hi : i ≤ 140737488351300) :
    Calls Tryd.prog 98 #[.string s, .int .i64 (i : Int)] w fun e w' => e = .returned (rHexV (hexAt s i)) ∧ w = w' := by
  have hs' : (s.size : Int) ≤ 140737488351232 := by omega
  have hi' : (i : Int) ≤ 140737488351300 := by omega
  have S := Lib.hid (fun w => starts_calls' s i ⟨#[92, 117]⟩ w hs (by decide) hi)
  have D1 := Lib.hid (fun c w => rDigit_calls' c w)
  obtain ⟨r, hr⟩ : ∃ r, r = hexAt s i := ⟨_, rfl⟩
  rw [← hr]
  cases hst : startsS s i ⟨#[92, 117]⟩ with
  | false =>
    have hend : Hid (¬ r < 65536) := Lib.hid (fun h => by
      have := hexAt_ok (s := s) (i := i) (by omega)
      have h2 := (starts_u s i).2 this.2
      rw [hst] at h2; cases h2)
    rw [hst] at S
    replace hr := Lib.hid hr
    replace hst := Lib.hid hst
    go_enter Tryd.func98, Tryd.ntmps98
    go_wp2_with fail
    refine (S.out _).mono ?_
    rintro e w1 ⟨rfl, rfl⟩
    go_wp2_with fail
    go_ret
    exact ⟨by rw [rHexV, if_neg hend.out]; rfl, rfl⟩
  | true =>
    have hu := (starts_u s i).1 hst
    rw [hst] at S
    replace hst := Lib.hid hst
    by_cases h6 : i + 6 ≤ s.size
    · have h6' : (i : Int) + 6 ≤ (s.size : Int) := by omega
      have hrF : Hid (r = hexF s (i + 2) 4) := Lib.hid (by rw [hr, hexAt, if_pos hu])
      replace hr := Lib.hid hr
      replace hu := Lib.hid hu
      replace hs := Lib.hid hs
      replace hi := Lib.hid hi
      go_enter Tryd.func98, Tryd.ntmps98
      go_wp2_with fail
      refine (S.out _).mono ?_
      rintro e w1 ⟨rfl, rfl⟩
      go_wp2_with fail
      go_loop [5, 6] (fun v5 v6 => ∃ j : Nat, j ≤ 4 ∧ v6 = .int .i64 ((i + 2 + j : Nat) : Int) ∧ v5 = .int .i32 ((hexF s (i + 2) j : Nat) : Int) ∧ hexF s (i + 2) j < 65536) (fun _ v6 => i + 6 - (intOf v6).toNat)
      case atStart => exact ⟨0, by decide, by go_num, rfl, by show (0 : Nat) < 65536; decide⟩
      case round =>
        obtain ⟨j, hj, rfl, rfl, hlt⟩ := hrel
        by_cases h4 : j < 4
        · have hx := byte_at s (i + 2 + j)
          have hc := bAt_lt s (i + 2 + j)
          have hn : hexF s (i + 2) (j + 1) = if hexF s (i + 2) j < 65536 ∧ hexD (bAt s (i + 2 + j)) < 16 then hexF s (i + 2) j * 16 + hexD (bAt s (i + 2 + j)) else 65536 := rfl
          have D2 := Lib.hid (D1.out (bAt s (i + 2 + j)))
          have hb := hexF_ok s (i + 2) j hlt
          have h12 : hexF s (i + 2) j < 4096 := by
            have : 16 ^ j ≤ 16 ^ 3 := Nat.pow_le_pow_right (by decide) (by omega)
            have := hb.2
            omega
          have hr4 : Hid (hexD (bAt s (i + 2 + j)) = 16 → ¬ r < 65536) := Lib.hid (fun h16 h => by
            rw [hrF.out] at h
            have := (hexF_ok s (i + 2) 4 h).1 j h4
            omega)
          clear hb hrF
          generalize bAt s (i + 2 + j) = c at *
          generalize hexF s (i + 2) j = n at *
          by_cases hA : isD c = true
          · have hA2 := isD_iff.1 hA
            have hd : hexD c = c - 48 := by unfold hexD; rw [if_pos hA2]
            rw [hd, if_pos ⟨hlt, by omega⟩] at hn
            rw [hA] at D2
            replace hn := Lib.hid hn
            replace hA := Lib.hid hA
            replace hd := Lib.hid hd
            obtain ⟨hA3, hA4⟩ := hA2
            go_wp2_with fail
            refine (D2.out _).mono ?_
            rintro e w1 ⟨rfl, rfl⟩
            go_wp2_with fail
            go_round
            case rel => exact ⟨j + 1, by omega, by go_num, by rw [hn.out]; simp; omega, by rw [hn.out]; omega⟩
            case measure => simp [intOf]; omega
          · have hA1 : isD c = false := by rw [Bool.eq_false_iff]; exact hA
            have hA2 : ¬ (48 ≤ c ∧ c ≤ 57) := fun h => hA (isD_iff.2 h)
            rw [hA1] at D2
            replace hA := Lib.hid hA
            replace hA1 := Lib.hid hA1
            by_cases hB : 97 ≤ c ∧ c ≤ 102
            · have hd : hexD c = c - 87 := by unfold hexD; rw [if_neg hA2, if_pos hB]
              rw [hd, if_pos ⟨hlt, by omega⟩] at hn
              replace hn := Lib.hid hn
              replace hd := Lib.hid hd
              replace hA2 := Lib.hid hA2
              obtain ⟨hB1, hB2⟩ := hB
              go_wp2_with fail
              refine (D2.out _).mono ?_
              rintro e w1 ⟨rfl, rfl⟩
              go_wp2_with fail
              go_round
              case rel => exact ⟨j + 1, by omega, by go_num, by rw [hn.out]; simp; omega, by rw [hn.out]; omega⟩
              case measure => simp [intOf]; omega
            · by_cases hC : 65 ≤ c ∧ c ≤ 70
              · have hd : hexD c = c - 55 := by unfold hexD; rw [if_neg hA2, if_neg hB, if_pos hC]
                rw [hd, if_pos ⟨hlt, by omega⟩] at hn
                replace hn := Lib.hid hn
                replace hd := Lib.hid hd
                replace hA2 := Lib.hid hA2
                replace hB := Lib.hid hB
                obtain ⟨hC1, hC2⟩ := hC
                go_wp2_with fail
                refine (D2.out _).mono ?_
                rintro e w1 ⟨rfl, rfl⟩
                go_wp2_with fail
                go_round
                case rel => exact ⟨j + 1, by omega, by go_num, by rw [hn.out]; simp; omega, by rw [hn.out]; omega⟩
                case measure => simp [intOf]; omega
              · have hd : hexD c = 16 := by unfold hexD; rw [if_neg hA2, if_neg hB, if_neg hC]
                have hend := Lib.hid (hr4.out hd)
                replace hd := Lib.hid hd
                replace hn := Lib.hid hn
                replace hA2 := Lib.hid hA2
                have hB' : c < 97 ∨ 102 < c := by omega
                have hC' : c < 65 ∨ 70 < c := by omega
                replace hB := Lib.hid hB
                replace hC := Lib.hid hC
                rcases hB' with hB' | hB' <;> rcases hC' with hC' | hC' <;>
                · first
                  | (exfalso; omega)
                  | (go_wp2_with fail
                     refine (D2.out _).mono ?_
                     rintro e w1 ⟨rfl, rfl⟩
                     go_wp2_with fail
                     go_ret
                     exact ⟨by rw [rHexV, if_neg hend.out]; rfl, rfl⟩)
        · obtain rfl : j = 4 := by omega
          have hlt2 : r < 65536 := by rw [hrF.out]; exact hlt
          have hre : hexF s (i + 2) 4 = r := hrF.out.symm
          go_wp2_with fail
          go_ret
          exact ⟨by rw [rHexV, if_pos hlt2, hrF.out]; rfl, rfl⟩
    · have h6' : ¬ (i : Int) + 6 ≤ (s.size : Int) := by omega
      have hend : Hid (¬ r < 65536) := Lib.hid (fun h => by
        have := hexAt_ok (s := s) (i := i) (by omega)
        omega)
      replace hr := Lib.hid hr
      replace hu := Lib.hid hu
      go_enter Tryd.func98, Tryd.ntmps98
      go_wp2_with fail
      refine (S.out _).mono ?_
      rintro e w1 ⟨rfl, rfl⟩
      go_wp2_with fail
      go_ret
      exact ⟨by rw [rHexV, if_neg hend.out]; rfl, rfl⟩

end Go.Proofs.YtnldhgkmbighkaaDoor
