/- The reference's UTF-8: first, decode, Breaks, Utf8. -/
import Derived.Test.YtnldhgkmbighkaaDoorRef1
namespace Go.Proofs.YtnldhgkmbighkaaDoor
open Go Go.RowKit

theorem accB_bd (b : Nat → Nat) (hb : ∀ i, b i < 256) : ∀ j, accB b j + 1 ≤ (rB (b 0) + 1) * 64 ^ j
  | 0 => by simp [accB]
  | j + 1 => by
    have := accB_bd b hb j
    rw [accB, Nat.pow_succ]
    have h3 : b (j + 1) % 64 < 64 := Nat.mod_lt _ (by decide)
    have h4 : (accB b j + 1) * 64 ≤ (rB (b 0) + 1) * 64 ^ j * 64 := Nat.mul_le_mul_right _ this
    rw [← Nat.mul_assoc]
    omega
theorem rN_cases (b : Nat) (h : b < 256) : (b < 192 ∧ rN b = 1 ∧ rB b = b) ∨ (192 ≤ b ∧ b < 224 ∧ rN b = 2 ∧ rB b = b - 192) ∨ (224 ≤ b ∧ b < 240 ∧ rN b = 3 ∧ rB b = b - 224) ∨ (240 ≤ b ∧ rN b = 4 ∧ rB b = b - 240) := by
  unfold rN rB
  repeat' split
  all_goals omega
theorem accB_bd2 (b : Nat → Nat) (hb : ∀ i, b i < 256) (j : Nat) (hj : j < rN (b 0)) : accB b j ≤ 4194303 := by
  have h := accB_bd b hb j
  rcases rN_cases (b 0) (hb 0) with ⟨h1, h2, h3⟩ | ⟨h0, h1, h2, h3⟩ | ⟨h0, h1, h2, h3⟩ | ⟨h1, h2, h3⟩
  all_goals
    rw [h2] at hj
    rw [h3] at h
    have := hb 0
    rcases (show j = 0 ∨ j = 1 ∨ j = 2 ∨ j = 3 by omega) with rfl | rfl | rfl | rfl
    all_goals simp at h
    all_goals omega
theorem scalarN_le {r : Nat} (h : scalarN r = true) : r ≤ 1114111 := by
  simp [scalarN] at h; omega
def firR (s : ByteArray) (i n : Int) (r : Nat) : Int × Int := if scalarN r = true ∧ (encS r).toList = (s.extract i.toNat (i + n).toNat).toList then ((r : Int), n) else (0, 0)
set_option maxHeartbeats 1000000 in
set_option maxRecDepth 100000 in
theorem first_1 (s : ByteArray) (i : Int) (x : Int) (c acc : Nat → Nat) (w : World) (hs : (s.size : Int) ≤ 140737488351232) (h0 : 0 ≤ i) (h1 : i < (s.size : Int)) (hx : ∀ h, ((s[i.toNat]'h).toNat : Int) = x)
    (hc0 : 0 ≤ x) (hc : x < 192) (hn : i + 1 ≤ (s.size : Int))
    (hcx : ∀ (j : Nat) (_ : j < 1) (h), ((s[(i + (j : Int)).toNat]'h).toNat : Int) = (c j : Int)) (hcl : ∀ j, c j < 256)
    (ha0 : (acc 0 : Int) = x) (haS : ∀ j, j + 1 < 1 → acc (j + 1) = acc j * 64 + c (j + 1) % 64) (hab : ∀ j, j < 1 → acc j ≤ 4194303) :
    Calls Tryd.prog 70 #[.string s, .int .i64 i] w fun e w' => e = .returned (.tuple #[.int .i32 (firR s i 1 (acc (1 - 1))).1, .int .i64 (firR s i 1 (acc (1 - 1))).2]) ∧ Below w.heap.size w w' := by
  obtain ⟨R, hR⟩ : ∃ R, R = firR s i 1 (acc (1 - 1)) := ⟨_, rfl⟩
  rw [← hR]
  replace hR := Lib.hid hR
  replace hcx := Lib.hid hcx
  replace hcl := Lib.hid hcl
  replace ha0 := Lib.hid ha0
  replace haS := Lib.hid haS
  replace hab := Lib.hid hab
  go_enter Tryd.func70, Tryd.ntmps70
  (go_wp2_with fail; repeat (any_goals (go_quiet (fail); go_wp2_with fail)))
  go_loopg [8, 9] 4 (fun kq v8 v9 w' => ∃ j : Nat, 1 ≤ j ∧ j ≤ 1 ∧ kq + j = 5 ∧ v9 = .int .i64 (j : Int) ∧ v8 = .int .i32 ((acc (j - 1) : Nat) : Int) ∧ Below w.heap.size w w')
  case atStart => exact ⟨1, by decide, by decide, by decide, rfl, by rw [ha0.out], Below.refl _ _⟩
  case round =>
    obtain ⟨j, hj1, hjn, hkq, rfl, rfl, hB⟩ := hrel
    have b1 := hab.out (j - 1) (by omega)
    by_cases hjl : j < 1
    · try (exfalso; omega)
      all_goals
        have hz := hcx.out j hjl
        have hy := hcl.out j
        have b2 := hab.out j hjl
        have hS := haS.out (j - 1) (by omega)
        rw [show j - 1 + 1 = j by omega] at hS
        (go_wp2_with fail; repeat (any_goals (go_quiet (fail); go_wp2_with fail)))
        go_roundg (4 - j)
        case measure => omega
        case rel => exact ⟨j + 1, by omega, by omega, by omega, by simp, by simp [hS], by assumption⟩
    · obtain rfl : j = 1 := by omega
      clear hjl hj1 hjn hkq
      have S1 := Lib.hid (fun w => Scalar_calls (acc (1 - 1)) w (by omega))
      generalize acc (1 - 1) = r at *
      by_cases hsc : scalarN r = true
      · have hr2 := scalarN_le hsc
        have E1 := fun w => Encode_calls (r : Int) w (by omega) (by omega)
        rw [Int.toNat_natCast] at E1
        have E1 := Lib.hid E1
        clear hr2
        generalize hes : encS r = es at *
        replace hes := Lib.hid hes
        (go_wp2_with fail; repeat (any_goals (go_quiet (fail); go_wp2_with fail)))
        refine (S1.out _).mono ?_
        rintro e w2 ⟨rfl, rfl⟩
        (go_wp2_with fail; repeat (any_goals (go_quiet (fail); go_wp2_with fail)))
        have hs1 : i ≤ i + 1 := by omega
        have hs2 : 0 ≤ i + 1 := by omega
        have hs3 : IntKind.i64.wrap (i + 1) = i + 1 := by simp [IntKind.wrap, IntKind.signed, IntKind.bits]; omega
        go_region_held3 (fun w' => Below w.heap.size w w') (exact (by repeat (first | assumption | exact Below.refl _ _ | apply Below.drew | apply below_drewN | apply balloc | (refine Below.setCell ?_ (by first | omega | (simp <;> omega)) _)))) (first | (go_at_call 91; refine (E1.out _).mono ?_; rintro e w8 ⟨rfl, hb⟩; have hb8 : Below w.heap.size w w8 := bcall (by repeat (first | assumption | exact Below.refl _ _ | apply Below.drew | apply below_drewN | apply balloc | (refine Below.setCell ?_ (by first | omega | (simp <;> omega)) _))) hb; clear hb))
        (go_wp2_with fail; repeat (any_goals (go_quiet (fail); go_wp2_with fail)))
        · have hne : ¬ (encS r).toList = (s.extract i.toNat (i + 1).toNat).toList := by
            rename_i h
            rw [hes.out]
            intro he
            rw [he] at h
            simp at h
          have hR := hR.out
          rw [firR, if_neg (fun h => hne h.2)] at hR
          subst hR
          go_ret2
          exact ⟨rfl, (by repeat (first | assumption | exact Below.refl _ _ | apply Below.drew | apply below_drewN | apply balloc | (refine Below.setCell ?_ (by first | omega | (simp <;> omega)) _)))⟩
        · have he : (encS r).toList = (s.extract i.toNat (i + 1).toNat).toList := by
            rename_i h
            rw [hes.out]
            simpa using h
          have hR := hR.out
          rw [firR, if_pos ⟨hsc, he⟩] at hR
          subst hR
          go_ret2
          exact ⟨rfl, (by repeat (first | assumption | exact Below.refl _ _ | apply Below.drew | apply below_drewN | apply balloc | (refine Below.setCell ?_ (by first | omega | (simp <;> omega)) _)))⟩
      · (go_wp2_with fail; repeat (any_goals (go_quiet (fail); go_wp2_with fail)))
        refine (S1.out _).mono ?_
        rintro e w2 ⟨rfl, rfl⟩
        (go_wp2_with fail; repeat (any_goals (go_quiet (fail); go_wp2_with fail)))
        have hR := hR.out
        rw [firR, if_neg (fun h => hsc h.1)] at hR
        subst hR
        go_ret2
        exact ⟨rfl, (by repeat (first | assumption | exact Below.refl _ _ | apply Below.drew | apply below_drewN | apply balloc | (refine Below.setCell ?_ (by first | omega | (simp <;> omega)) _)))⟩
set_option maxHeartbeats 1000000 in
set_option maxRecDepth 100000 in
theorem first_2 (s : ByteArray) (i : Int) (x : Int) (c acc : Nat → Nat) (w : World) (hs : (s.size : Int) ≤ 140737488351232) (h0 : 0 ≤ i) (h1 : i < (s.size : Int)) (hx : ∀ h, ((s[i.toNat]'h).toNat : Int) = x)
    (hc0 : 192 ≤ x) (hc : x < 224) (hn : i + 2 ≤ (s.size : Int))
    (hcx : ∀ (j : Nat) (_ : j < 2) (h), ((s[(i + (j : Int)).toNat]'h).toNat : Int) = (c j : Int)) (hcl : ∀ j, c j < 256)
    (ha0 : (acc 0 : Int) = x - 192) (haS : ∀ j, j + 1 < 2 → acc (j + 1) = acc j * 64 + c (j + 1) % 64) (hab : ∀ j, j < 2 → acc j ≤ 4194303) :
    Calls Tryd.prog 70 #[.string s, .int .i64 i] w fun e w' => e = .returned (.tuple #[.int .i32 (firR s i 2 (acc (2 - 1))).1, .int .i64 (firR s i 2 (acc (2 - 1))).2]) ∧ Below w.heap.size w w' := by
  obtain ⟨R, hR⟩ : ∃ R, R = firR s i 2 (acc (2 - 1)) := ⟨_, rfl⟩
  rw [← hR]
  replace hR := Lib.hid hR
  replace hcx := Lib.hid hcx
  replace hcl := Lib.hid hcl
  replace ha0 := Lib.hid ha0
  replace haS := Lib.hid haS
  replace hab := Lib.hid hab
  go_enter Tryd.func70, Tryd.ntmps70
  (go_wp2_with fail; repeat (any_goals (go_quiet (fail); go_wp2_with fail)))
  go_loopg [8, 9] 4 (fun kq v8 v9 w' => ∃ j : Nat, 1 ≤ j ∧ j ≤ 2 ∧ kq + j = 5 ∧ v9 = .int .i64 (j : Int) ∧ v8 = .int .i32 ((acc (j - 1) : Nat) : Int) ∧ Below w.heap.size w w')
  case atStart => exact ⟨1, by decide, by decide, by decide, rfl, by rw [ha0.out], Below.refl _ _⟩
  case round =>
    obtain ⟨j, hj1, hjn, hkq, rfl, rfl, hB⟩ := hrel
    have b1 := hab.out (j - 1) (by omega)
    by_cases hjl : j < 2
    · try (exfalso; omega)
      all_goals
        have hz := hcx.out j hjl
        have hy := hcl.out j
        have b2 := hab.out j hjl
        have hS := haS.out (j - 1) (by omega)
        rw [show j - 1 + 1 = j by omega] at hS
        (go_wp2_with fail; repeat (any_goals (go_quiet (fail); go_wp2_with fail)))
        go_roundg (4 - j)
        case measure => omega
        case rel => exact ⟨j + 1, by omega, by omega, by omega, by simp, by simp [hS], by assumption⟩
    · obtain rfl : j = 2 := by omega
      clear hjl hj1 hjn hkq
      have S1 := Lib.hid (fun w => Scalar_calls (acc (2 - 1)) w (by omega))
      generalize acc (2 - 1) = r at *
      by_cases hsc : scalarN r = true
      · have hr2 := scalarN_le hsc
        have E1 := fun w => Encode_calls (r : Int) w (by omega) (by omega)
        rw [Int.toNat_natCast] at E1
        have E1 := Lib.hid E1
        clear hr2
        generalize hes : encS r = es at *
        replace hes := Lib.hid hes
        (go_wp2_with fail; repeat (any_goals (go_quiet (fail); go_wp2_with fail)))
        refine (S1.out _).mono ?_
        rintro e w2 ⟨rfl, rfl⟩
        (go_wp2_with fail; repeat (any_goals (go_quiet (fail); go_wp2_with fail)))
        have hs1 : i ≤ i + 2 := by omega
        have hs2 : 0 ≤ i + 2 := by omega
        have hs3 : IntKind.i64.wrap (i + 2) = i + 2 := by simp [IntKind.wrap, IntKind.signed, IntKind.bits]; omega
        go_region_held3 (fun w' => Below w.heap.size w w') (exact (by repeat (first | assumption | exact Below.refl _ _ | apply Below.drew | apply below_drewN | apply balloc | (refine Below.setCell ?_ (by first | omega | (simp <;> omega)) _)))) (first | (go_at_call 91; refine (E1.out _).mono ?_; rintro e w8 ⟨rfl, hb⟩; have hb8 : Below w.heap.size w w8 := bcall (by repeat (first | assumption | exact Below.refl _ _ | apply Below.drew | apply below_drewN | apply balloc | (refine Below.setCell ?_ (by first | omega | (simp <;> omega)) _))) hb; clear hb))
        (go_wp2_with fail; repeat (any_goals (go_quiet (fail); go_wp2_with fail)))
        · have hne : ¬ (encS r).toList = (s.extract i.toNat (i + 2).toNat).toList := by
            rename_i h
            rw [hes.out]
            intro he
            rw [he] at h
            simp at h
          have hR := hR.out
          rw [firR, if_neg (fun h => hne h.2)] at hR
          subst hR
          go_ret2
          exact ⟨rfl, (by repeat (first | assumption | exact Below.refl _ _ | apply Below.drew | apply below_drewN | apply balloc | (refine Below.setCell ?_ (by first | omega | (simp <;> omega)) _)))⟩
        · have he : (encS r).toList = (s.extract i.toNat (i + 2).toNat).toList := by
            rename_i h
            rw [hes.out]
            simpa using h
          have hR := hR.out
          rw [firR, if_pos ⟨hsc, he⟩] at hR
          subst hR
          go_ret2
          exact ⟨rfl, (by repeat (first | assumption | exact Below.refl _ _ | apply Below.drew | apply below_drewN | apply balloc | (refine Below.setCell ?_ (by first | omega | (simp <;> omega)) _)))⟩
      · (go_wp2_with fail; repeat (any_goals (go_quiet (fail); go_wp2_with fail)))
        refine (S1.out _).mono ?_
        rintro e w2 ⟨rfl, rfl⟩
        (go_wp2_with fail; repeat (any_goals (go_quiet (fail); go_wp2_with fail)))
        have hR := hR.out
        rw [firR, if_neg (fun h => hsc h.1)] at hR
        subst hR
        go_ret2
        exact ⟨rfl, (by repeat (first | assumption | exact Below.refl _ _ | apply Below.drew | apply below_drewN | apply balloc | (refine Below.setCell ?_ (by first | omega | (simp <;> omega)) _)))⟩
set_option maxHeartbeats 1000000 in
set_option maxRecDepth 100000 in
theorem first_3 (s : ByteArray) (i : Int) (x : Int) (c acc : Nat → Nat) (w : World) (hs : (s.size : Int) ≤ 140737488351232) (h0 : 0 ≤ i) (h1 : i < (s.size : Int)) (hx : ∀ h, ((s[i.toNat]'h).toNat : Int) = x)
    (hc0 : 224 ≤ x) (hc : x < 240) (hn : i + 3 ≤ (s.size : Int))
    (hcx : ∀ (j : Nat) (_ : j < 3) (h), ((s[(i + (j : Int)).toNat]'h).toNat : Int) = (c j : Int)) (hcl : ∀ j, c j < 256)
    (ha0 : (acc 0 : Int) = x - 224) (haS : ∀ j, j + 1 < 3 → acc (j + 1) = acc j * 64 + c (j + 1) % 64) (hab : ∀ j, j < 3 → acc j ≤ 4194303) :
    Calls Tryd.prog 70 #[.string s, .int .i64 i] w fun e w' => e = .returned (.tuple #[.int .i32 (firR s i 3 (acc (3 - 1))).1, .int .i64 (firR s i 3 (acc (3 - 1))).2]) ∧ Below w.heap.size w w' := by
  obtain ⟨R, hR⟩ : ∃ R, R = firR s i 3 (acc (3 - 1)) := ⟨_, rfl⟩
  rw [← hR]
  replace hR := Lib.hid hR
  replace hcx := Lib.hid hcx
  replace hcl := Lib.hid hcl
  replace ha0 := Lib.hid ha0
  replace haS := Lib.hid haS
  replace hab := Lib.hid hab
  go_enter Tryd.func70, Tryd.ntmps70
  (go_wp2_with fail; repeat (any_goals (go_quiet (fail); go_wp2_with fail)))
  go_loopg [8, 9] 4 (fun kq v8 v9 w' => ∃ j : Nat, 1 ≤ j ∧ j ≤ 3 ∧ kq + j = 5 ∧ v9 = .int .i64 (j : Int) ∧ v8 = .int .i32 ((acc (j - 1) : Nat) : Int) ∧ Below w.heap.size w w')
  case atStart => exact ⟨1, by decide, by decide, by decide, rfl, by rw [ha0.out], Below.refl _ _⟩
  case round =>
    obtain ⟨j, hj1, hjn, hkq, rfl, rfl, hB⟩ := hrel
    have b1 := hab.out (j - 1) (by omega)
    by_cases hjl : j < 3
    · try (exfalso; omega)
      all_goals
        have hz := hcx.out j hjl
        have hy := hcl.out j
        have b2 := hab.out j hjl
        have hS := haS.out (j - 1) (by omega)
        rw [show j - 1 + 1 = j by omega] at hS
        (go_wp2_with fail; repeat (any_goals (go_quiet (fail); go_wp2_with fail)))
        go_roundg (4 - j)
        case measure => omega
        case rel => exact ⟨j + 1, by omega, by omega, by omega, by simp, by simp [hS], by assumption⟩
    · obtain rfl : j = 3 := by omega
      clear hjl hj1 hjn hkq
      have S1 := Lib.hid (fun w => Scalar_calls (acc (3 - 1)) w (by omega))
      generalize acc (3 - 1) = r at *
      by_cases hsc : scalarN r = true
      · have hr2 := scalarN_le hsc
        have E1 := fun w => Encode_calls (r : Int) w (by omega) (by omega)
        rw [Int.toNat_natCast] at E1
        have E1 := Lib.hid E1
        clear hr2
        generalize hes : encS r = es at *
        replace hes := Lib.hid hes
        (go_wp2_with fail; repeat (any_goals (go_quiet (fail); go_wp2_with fail)))
        refine (S1.out _).mono ?_
        rintro e w2 ⟨rfl, rfl⟩
        (go_wp2_with fail; repeat (any_goals (go_quiet (fail); go_wp2_with fail)))
        have hs1 : i ≤ i + 3 := by omega
        have hs2 : 0 ≤ i + 3 := by omega
        have hs3 : IntKind.i64.wrap (i + 3) = i + 3 := by simp [IntKind.wrap, IntKind.signed, IntKind.bits]; omega
        go_region_held3 (fun w' => Below w.heap.size w w') (exact (by repeat (first | assumption | exact Below.refl _ _ | apply Below.drew | apply below_drewN | apply balloc | (refine Below.setCell ?_ (by first | omega | (simp <;> omega)) _)))) (first | (go_at_call 91; refine (E1.out _).mono ?_; rintro e w8 ⟨rfl, hb⟩; have hb8 : Below w.heap.size w w8 := bcall (by repeat (first | assumption | exact Below.refl _ _ | apply Below.drew | apply below_drewN | apply balloc | (refine Below.setCell ?_ (by first | omega | (simp <;> omega)) _))) hb; clear hb))
        (go_wp2_with fail; repeat (any_goals (go_quiet (fail); go_wp2_with fail)))
        · have hne : ¬ (encS r).toList = (s.extract i.toNat (i + 3).toNat).toList := by
            rename_i h
            rw [hes.out]
            intro he
            rw [he] at h
            simp at h
          have hR := hR.out
          rw [firR, if_neg (fun h => hne h.2)] at hR
          subst hR
          go_ret2
          exact ⟨rfl, (by repeat (first | assumption | exact Below.refl _ _ | apply Below.drew | apply below_drewN | apply balloc | (refine Below.setCell ?_ (by first | omega | (simp <;> omega)) _)))⟩
        · have he : (encS r).toList = (s.extract i.toNat (i + 3).toNat).toList := by
            rename_i h
            rw [hes.out]
            simpa using h
          have hR := hR.out
          rw [firR, if_pos ⟨hsc, he⟩] at hR
          subst hR
          go_ret2
          exact ⟨rfl, (by repeat (first | assumption | exact Below.refl _ _ | apply Below.drew | apply below_drewN | apply balloc | (refine Below.setCell ?_ (by first | omega | (simp <;> omega)) _)))⟩
      · (go_wp2_with fail; repeat (any_goals (go_quiet (fail); go_wp2_with fail)))
        refine (S1.out _).mono ?_
        rintro e w2 ⟨rfl, rfl⟩
        (go_wp2_with fail; repeat (any_goals (go_quiet (fail); go_wp2_with fail)))
        have hR := hR.out
        rw [firR, if_neg (fun h => hsc h.1)] at hR
        subst hR
        go_ret2
        exact ⟨rfl, (by repeat (first | assumption | exact Below.refl _ _ | apply Below.drew | apply below_drewN | apply balloc | (refine Below.setCell ?_ (by first | omega | (simp <;> omega)) _)))⟩
set_option maxHeartbeats 1000000 in
set_option maxRecDepth 100000 in
theorem first_4 (s : ByteArray) (i : Int) (x : Int) (c acc : Nat → Nat) (w : World) (hs : (s.size : Int) ≤ 140737488351232) (h0 : 0 ≤ i) (h1 : i < (s.size : Int)) (hx : ∀ h, ((s[i.toNat]'h).toNat : Int) = x)
    (hc0 : 240 ≤ x) (hc : x < 256) (hn : i + 4 ≤ (s.size : Int))
    (hcx : ∀ (j : Nat) (_ : j < 4) (h), ((s[(i + (j : Int)).toNat]'h).toNat : Int) = (c j : Int)) (hcl : ∀ j, c j < 256)
    (ha0 : (acc 0 : Int) = x - 240) (haS : ∀ j, j + 1 < 4 → acc (j + 1) = acc j * 64 + c (j + 1) % 64) (hab : ∀ j, j < 4 → acc j ≤ 4194303) :
    Calls Tryd.prog 70 #[.string s, .int .i64 i] w fun e w' => e = .returned (.tuple #[.int .i32 (firR s i 4 (acc (4 - 1))).1, .int .i64 (firR s i 4 (acc (4 - 1))).2]) ∧ Below w.heap.size w w' := by
  obtain ⟨R, hR⟩ : ∃ R, R = firR s i 4 (acc (4 - 1)) := ⟨_, rfl⟩
  rw [← hR]
  replace hR := Lib.hid hR
  replace hcx := Lib.hid hcx
  replace hcl := Lib.hid hcl
  replace ha0 := Lib.hid ha0
  replace haS := Lib.hid haS
  replace hab := Lib.hid hab
  go_enter Tryd.func70, Tryd.ntmps70
  (go_wp2_with fail; repeat (any_goals (go_quiet (fail); go_wp2_with fail)))
  go_loopg [8, 9] 4 (fun kq v8 v9 w' => ∃ j : Nat, 1 ≤ j ∧ j ≤ 4 ∧ kq + j = 5 ∧ v9 = .int .i64 (j : Int) ∧ v8 = .int .i32 ((acc (j - 1) : Nat) : Int) ∧ Below w.heap.size w w')
  case atStart => exact ⟨1, by decide, by decide, by decide, rfl, by rw [ha0.out], Below.refl _ _⟩
  case round =>
    obtain ⟨j, hj1, hjn, hkq, rfl, rfl, hB⟩ := hrel
    have b1 := hab.out (j - 1) (by omega)
    by_cases hjl : j < 4
    · try (exfalso; omega)
      all_goals
        have hz := hcx.out j hjl
        have hy := hcl.out j
        have b2 := hab.out j hjl
        have hS := haS.out (j - 1) (by omega)
        rw [show j - 1 + 1 = j by omega] at hS
        (go_wp2_with fail; repeat (any_goals (go_quiet (fail); go_wp2_with fail)))
        go_roundg (4 - j)
        case measure => omega
        case rel => exact ⟨j + 1, by omega, by omega, by omega, by simp, by simp [hS], by assumption⟩
    · obtain rfl : j = 4 := by omega
      clear hjl hj1 hjn hkq
      have S1 := Lib.hid (fun w => Scalar_calls (acc (4 - 1)) w (by omega))
      generalize acc (4 - 1) = r at *
      by_cases hsc : scalarN r = true
      · have hr2 := scalarN_le hsc
        have E1 := fun w => Encode_calls (r : Int) w (by omega) (by omega)
        rw [Int.toNat_natCast] at E1
        have E1 := Lib.hid E1
        clear hr2
        generalize hes : encS r = es at *
        replace hes := Lib.hid hes
        (go_wp2_with fail; repeat (any_goals (go_quiet (fail); go_wp2_with fail)))
        refine (S1.out _).mono ?_
        rintro e w2 ⟨rfl, rfl⟩
        (go_wp2_with fail; repeat (any_goals (go_quiet (fail); go_wp2_with fail)))
        have hs1 : i ≤ i + 4 := by omega
        have hs2 : 0 ≤ i + 4 := by omega
        have hs3 : IntKind.i64.wrap (i + 4) = i + 4 := by simp [IntKind.wrap, IntKind.signed, IntKind.bits]; omega
        go_region_held3 (fun w' => Below w.heap.size w w') (exact (by repeat (first | assumption | exact Below.refl _ _ | apply Below.drew | apply below_drewN | apply balloc | (refine Below.setCell ?_ (by first | omega | (simp <;> omega)) _)))) (first | (go_at_call 91; refine (E1.out _).mono ?_; rintro e w8 ⟨rfl, hb⟩; have hb8 : Below w.heap.size w w8 := bcall (by repeat (first | assumption | exact Below.refl _ _ | apply Below.drew | apply below_drewN | apply balloc | (refine Below.setCell ?_ (by first | omega | (simp <;> omega)) _))) hb; clear hb))
        (go_wp2_with fail; repeat (any_goals (go_quiet (fail); go_wp2_with fail)))
        · have hne : ¬ (encS r).toList = (s.extract i.toNat (i + 4).toNat).toList := by
            rename_i h
            rw [hes.out]
            intro he
            rw [he] at h
            simp at h
          have hR := hR.out
          rw [firR, if_neg (fun h => hne h.2)] at hR
          subst hR
          go_ret2
          exact ⟨rfl, (by repeat (first | assumption | exact Below.refl _ _ | apply Below.drew | apply below_drewN | apply balloc | (refine Below.setCell ?_ (by first | omega | (simp <;> omega)) _)))⟩
        · have he : (encS r).toList = (s.extract i.toNat (i + 4).toNat).toList := by
            rename_i h
            rw [hes.out]
            simpa using h
          have hR := hR.out
          rw [firR, if_pos ⟨hsc, he⟩] at hR
          subst hR
          go_ret2
          exact ⟨rfl, (by repeat (first | assumption | exact Below.refl _ _ | apply Below.drew | apply below_drewN | apply balloc | (refine Below.setCell ?_ (by first | omega | (simp <;> omega)) _)))⟩
      · (go_wp2_with fail; repeat (any_goals (go_quiet (fail); go_wp2_with fail)))
        refine (S1.out _).mono ?_
        rintro e w2 ⟨rfl, rfl⟩
        (go_wp2_with fail; repeat (any_goals (go_quiet (fail); go_wp2_with fail)))
        have hR := hR.out
        rw [firR, if_neg (fun h => hsc h.1)] at hR
        subst hR
        go_ret2
        exact ⟨rfl, (by repeat (first | assumption | exact Below.refl _ _ | apply Below.drew | apply below_drewN | apply balloc | (refine Below.setCell ?_ (by first | omega | (simp <;> omega)) _)))⟩
set_option maxHeartbeats 1000000 in
set_option maxRecDepth 100000 in
theorem fshort_2 (s : ByteArray) (i : Int) (x : Int) (w : World) (hs : (s.size : Int) ≤ 140737488351232) (h0 : 0 ≤ i) (h1 : i < (s.size : Int)) (hx : ∀ h, ((s[i.toNat]'h).toNat : Int) = x)
    (hc0 : 192 ≤ x) (hc : x < 224) (hn : (s.size : Int) < i + 2) :
    Calls Tryd.prog 70 #[.string s, .int .i64 i] w fun e w' => e = .returned (.tuple #[.int .i32 0, .int .i64 0]) ∧ Below w.heap.size w w' := by
  go_enter Tryd.func70, Tryd.ntmps70
  (go_wp2_with fail; repeat (any_goals (go_quiet (fail); go_wp2_with fail)))
  go_ret2
  exact ⟨rfl, (by repeat (first | assumption | exact Below.refl _ _ | apply Below.drew | apply below_drewN | apply balloc | (refine Below.setCell ?_ (by first | omega | (simp <;> omega)) _)))⟩
set_option maxHeartbeats 1000000 in
set_option maxRecDepth 100000 in
theorem fshort_3 (s : ByteArray) (i : Int) (x : Int) (w : World) (hs : (s.size : Int) ≤ 140737488351232) (h0 : 0 ≤ i) (h1 : i < (s.size : Int)) (hx : ∀ h, ((s[i.toNat]'h).toNat : Int) = x)
    (hc0 : 224 ≤ x) (hc : x < 240) (hn : (s.size : Int) < i + 3) :
    Calls Tryd.prog 70 #[.string s, .int .i64 i] w fun e w' => e = .returned (.tuple #[.int .i32 0, .int .i64 0]) ∧ Below w.heap.size w w' := by
  go_enter Tryd.func70, Tryd.ntmps70
  (go_wp2_with fail; repeat (any_goals (go_quiet (fail); go_wp2_with fail)))
  go_ret2
  exact ⟨rfl, (by repeat (first | assumption | exact Below.refl _ _ | apply Below.drew | apply below_drewN | apply balloc | (refine Below.setCell ?_ (by first | omega | (simp <;> omega)) _)))⟩
set_option maxHeartbeats 1000000 in
set_option maxRecDepth 100000 in
theorem fshort_4 (s : ByteArray) (i : Int) (x : Int) (w : World) (hs : (s.size : Int) ≤ 140737488351232) (h0 : 0 ≤ i) (h1 : i < (s.size : Int)) (hx : ∀ h, ((s[i.toNat]'h).toNat : Int) = x)
    (hc0 : 240 ≤ x) (hc : x < 256) (hn : (s.size : Int) < i + 4) :
    Calls Tryd.prog 70 #[.string s, .int .i64 i] w fun e w' => e = .returned (.tuple #[.int .i32 0, .int .i64 0]) ∧ Below w.heap.size w w' := by
  go_enter Tryd.func70, Tryd.ntmps70
  (go_wp2_with fail; repeat (any_goals (go_quiet (fail); go_wp2_with fail)))
  go_ret2
  exact ⟨rfl, (by repeat (first | assumption | exact Below.refl _ _ | apply Below.drew | apply below_drewN | apply balloc | (refine Below.setCell ?_ (by first | omega | (simp <;> omega)) _)))⟩

theorem encN_lt {r : Nat} (h : r ≤ 1114111) : ∀ x ∈ encN r, x < 256 := by
  unfold encN
  repeat' split
  all_goals
    intro x hx
    simp only [List.mem_cons, List.mem_nil_iff, or_false] at hx
    omega
theorem encS_list {r : Nat} : (encS r).toList = (encN r).map UInt8.ofNat := Lib.toList_data _
theorem extract_list (s : ByteArray) (a n : Nat) (h : a + n ≤ s.size) : (s.extract a (a + n)).toList.map UInt8.toNat = (List.range n).map (fun j => bAt s (a + j)) := by
  apply List.ext_getElem?
  intro j
  rw [Lib.toList_data, ByteArray.data_extract]
  have hl : s.data.size = s.size := rfl
  rw [List.getElem?_map, List.getElem?_map]
  by_cases hj : j < n
  · rw [List.getElem?_range hj]
    have h1 : a + j < s.size := by omega
    have h2 : j < (s.data.extract a (a + n)).toList.length := by simp; omega
    rw [List.getElem?_eq_getElem h2]
    simp only [Option.map_some, Option.some.injEq]
    rw [Array.getElem_toList, Array.getElem_extract]
    unfold bAt
    rw [dif_pos h1]
    rfl
  · rw [List.getElem?_eq_none (by simp; omega), List.getElem?_eq_none (by simp; omega)]
    rfl
theorem list_toNat_inj {l m : List UInt8} (h : l.map UInt8.toNat = m.map UInt8.toNat) : l = m :=
  List.map_inj_right (fun _ _ e => UInt8.toNat_inj.1 e) |>.1 h
theorem firR_eq (s : ByteArray) (a n r : Nat) (h : a + n ≤ s.size) :
    firR s (a : Int) (n : Int) r = if scalarN r = true ∧ encN r = (List.range n).map (fun j => bAt s (a + j)) then ((r : Int), (n : Int)) else (0, 0) := by
  unfold firR
  rw [show ((a : Int)).toNat = a by omega, show ((a : Int) + (n : Int)).toNat = a + n by omega]
  by_cases hs : scalarN r = true
  · have e : (encS r).toList = (s.extract a (a + n)).toList ↔ encN r = (List.range n).map (fun j => bAt s (a + j)) := by
      rw [encS_list, ← extract_list s a n h]
      have k : ((encN r).map UInt8.ofNat).map UInt8.toNat = encN r := by
        rw [List.map_map]
        conv => rhs; rw [← List.map_id (encN r)]
        refine List.map_congr_left fun x hx => ?_
        have := encN_lt (scalarN_le hs) x hx
        simp only [Function.comp, UInt8.toNat_ofNat', id]
        exact Nat.mod_eq_of_lt this
      constructor
      · intro h; rw [← h, k]
      · intro h; exact list_toNat_inj (by rw [k, h])
    simp only [e]
  · rw [if_neg (fun h => hs h.1), if_neg (fun h => hs h.1)]
theorem refF_pos {b : Nat → Nat} {n m : Nat} (hm : rN (b 0) = m) (h : ¬ n < m) : refF b n = if scalarN (accB b (m - 1)) = true ∧ encN (accB b (m - 1)) = (List.range m).map b then (accB b (m - 1), m) else (0, 0) := by
  unfold refF; rw [hm, if_neg h]
def castP (p : Nat × Nat) : Int × Int := ((p.1 : Int), (p.2 : Int))
theorem pair_cast {c : Prop} [Decidable c] (r n : Nat) : (if c then ((r : Int), (n : Int)) else ((0 : Int), (0 : Int))) = castP (if c then (r, n) else (0, 0)) := by
  split <;> rfl
theorem first_calls (s : ByteArray) (a : Nat) (w : World) (hs : s.size ≤ 140737488351232) (ha : a < s.size) :
    Calls Tryd.prog 70 #[.string s, .int .i64 (a : Int)] w fun e w' => e = .returned (.tuple #[.int .i32 (refF (fun j => bAt s (a + j)) (s.size - a)).1, .int .i64 (refF (fun j => bAt s (a + j)) (s.size - a)).2]) ∧ Below w.heap.size w w' := by
  have hx : ∀ h, ((s[(a : Int).toNat]'h).toNat : Int) = (bAt s a : Int) := fun h => by
    have : (a : Int).toNat = a := by omega
    simp only [this]
    rw [bAt_eq]
  have hq : ∀ (j : Nat) (h), ((s[((a : Int) + (j : Int)).toNat]'h).toNat : Int) = (bAt s (a + j) : Int) := fun j h => by
    have : (((a : Int) + (j : Int)).toNat) = a + j := by omega
    simp only [this]
    rw [bAt_eq]
  have hbd : ∀ j, j < rN (bAt s (a + 0)) → accB (fun j => bAt s (a + j)) j ≤ 4194303 := fun j hj => accB_bd2 _ (fun _ => bAt_lt _ _) j hj
  have h256 := bAt_lt s a
  rcases rN_cases (bAt s (a + 0)) (bAt_lt _ _) with ⟨h1, h2, h3⟩ | ⟨h0, h1, h2, h3⟩ | ⟨h0, h1, h2, h3⟩ | ⟨h1, h2, h3⟩
  all_goals rw [Nat.add_zero] at *
  · have e := refF_pos (b := fun j => bAt s (a + j)) (n := s.size - a) (m := 1) (by show rN (bAt s (a + 0)) = 1; rw [Nat.add_zero]; exact h2) (by omega)
    have f := firR_eq s a 1 (accB (fun j => bAt s (a + j)) (1 - 1)) (by omega)
    rw [pair_cast, ← e] at f
    have g := first_1 s (a : Int) (bAt s a : Int) (fun j => bAt s (a + j)) (accB (fun j => bAt s (a + j))) w (by omega) (by omega) (by omega) hx (by omega) (by omega) (by omega)
        (fun j _ h => hq j h) (fun j => bAt_lt _ _) (by show ((rB (bAt s (a + 0)) : Nat) : Int) = _; rw [Nat.add_zero]; omega) (fun j _ => rfl) (fun j hj => hbd j (by rw [h2]; exact hj))
    rw [show ((1 : Nat) : Int) = (1 : Int) from rfl] at f
    rw [f] at g
    exact g
  · by_cases hn : s.size - a < 2
    · have e : refF (fun j => bAt s (a + j)) (s.size - a) = (0, 0) := by unfold refF; rw [if_pos (by show s.size - a < rN (bAt s (a + 0)); rw [Nat.add_zero, h2]; exact hn)]
      rw [e]
      exact fshort_2 s (a : Int) (bAt s a : Int) w (by omega) (by omega) (by omega) hx (by omega) (by omega) (by omega)
    · have e := refF_pos (b := fun j => bAt s (a + j)) (m := 2) (by show rN (bAt s (a + 0)) = 2; rw [Nat.add_zero]; exact h2) hn
      have f := firR_eq s a 2 (accB (fun j => bAt s (a + j)) (2 - 1)) (by omega)
      rw [pair_cast, ← e] at f
      have g := first_2 s (a : Int) (bAt s a : Int) (fun j => bAt s (a + j)) (accB (fun j => bAt s (a + j))) w (by omega) (by omega) (by omega) hx (by omega) (by omega) (by omega)
        (fun j _ h => hq j h) (fun j => bAt_lt _ _) (by show ((rB (bAt s (a + 0)) : Nat) : Int) = _; rw [Nat.add_zero]; omega) (fun j _ => rfl) (fun j hj => hbd j (by rw [h2]; exact hj))
      rw [show ((2 : Nat) : Int) = (2 : Int) from rfl] at f
      rw [f] at g
      exact g
  · by_cases hn : s.size - a < 3
    · have e : refF (fun j => bAt s (a + j)) (s.size - a) = (0, 0) := by unfold refF; rw [if_pos (by show s.size - a < rN (bAt s (a + 0)); rw [Nat.add_zero, h2]; exact hn)]
      rw [e]
      exact fshort_3 s (a : Int) (bAt s a : Int) w (by omega) (by omega) (by omega) hx (by omega) (by omega) (by omega)
    · have e := refF_pos (b := fun j => bAt s (a + j)) (m := 3) (by show rN (bAt s (a + 0)) = 3; rw [Nat.add_zero]; exact h2) hn
      have f := firR_eq s a 3 (accB (fun j => bAt s (a + j)) (3 - 1)) (by omega)
      rw [pair_cast, ← e] at f
      have g := first_3 s (a : Int) (bAt s a : Int) (fun j => bAt s (a + j)) (accB (fun j => bAt s (a + j))) w (by omega) (by omega) (by omega) hx (by omega) (by omega) (by omega)
        (fun j _ h => hq j h) (fun j => bAt_lt _ _) (by show ((rB (bAt s (a + 0)) : Nat) : Int) = _; rw [Nat.add_zero]; omega) (fun j _ => rfl) (fun j hj => hbd j (by rw [h2]; exact hj))
      rw [show ((3 : Nat) : Int) = (3 : Int) from rfl] at f
      rw [f] at g
      exact g
  · by_cases hn : s.size - a < 4
    · have e : refF (fun j => bAt s (a + j)) (s.size - a) = (0, 0) := by unfold refF; rw [if_pos (by show s.size - a < rN (bAt s (a + 0)); rw [Nat.add_zero, h2]; exact hn)]
      rw [e]
      exact fshort_4 s (a : Int) (bAt s a : Int) w (by omega) (by omega) (by omega) hx (by omega) (by omega) (by omega)
    · have e := refF_pos (b := fun j => bAt s (a + j)) (m := 4) (by show rN (bAt s (a + 0)) = 4; rw [Nat.add_zero]; exact h2) hn
      have f := firR_eq s a 4 (accB (fun j => bAt s (a + j)) (4 - 1)) (by omega)
      rw [pair_cast, ← e] at f
      have g := first_4 s (a : Int) (bAt s a : Int) (fun j => bAt s (a + j)) (accB (fun j => bAt s (a + j))) w (by omega) (by omega) (by omega) hx (by omega) (by omega) (by omega)
        (fun j _ h => hq j h) (fun j => bAt_lt _ _) (by show ((rB (bAt s (a + 0)) : Nat) : Int) = _; rw [Nat.add_zero]; omega) (fun j _ => rfl) (fun j hj => hbd j (by rw [h2]; exact hj))
      rw [show ((4 : Nat) : Int) = (4 : Int) from rfl] at f
      rw [f] at g
      exact g

end Go.Proofs.YtnldhgkmbighkaaDoor
