/- ScanNumbers: the walk. -/
import Derived.Test.YtnldhgkmbighkaaGreatDoorFixed17
import Derived.Test.YtnldhgkmbighkaaGreatDoorSRef8
import Derived.Test.YtnldhgkmbighkaaGreatDoorDec
namespace Go.Proofs.YtnldhgkmbighkaaGreatDoor
open Go Go.RowKit

theorem itoa_form (n : Int) : ∃ A l, Lib.itoa n = A ++ l ∧ (A = [] ∨ A = [45]) ∧ Canon l := by
  by_cases hn : n < 0
  · exact ⟨[45], Lib.decDigits n.natAbs, by rw [Lib.itoa, if_pos hn]; rfl, Or.inr rfl, decDigits_canon _⟩
  · exact ⟨[], Lib.decDigits n.toNat, by rw [Lib.itoa, if_neg hn]; rfl, Or.inl rfl, decDigits_canon _⟩
theorem itoa_whole (n : Int) (h0 : -9223372036854775808 ≤ n) (h1 : n ≤ 9223372036854775807) : wholeV (Lib.itoa n) = (n, true) := by
  unfold wholeV
  by_cases hn : n < 0
  · have hc := decDigits_canon n.natAbs
    have hv := (decDigits_spec n.natAbs).2.2.1
    rw [Lib.itoa, if_pos hn, parseIntB_neg hc, hv, if_pos (by omega)]
    show ((-(n.natAbs : Int), true) : Int × Bool) = (n, true)
    congr 1; omega
  · have hc := decDigits_canon n.toNat
    have hv := (decDigits_spec n.toNat).2.2.1
    rw [Lib.itoa, if_neg hn, parseIntB_pos hc, hv, if_pos (by omega)]
    show (((n.toNat : Int), true) : Int × Bool) = (n, true)
    congr 1; omega
theorem canon_ascii {A l Z : List UInt8} (hA : A = [] ∨ A = [45]) (hc : Canon l) (hZ : ∀ c ∈ Z, c.toNat < 128) : utfE ⟨(A ++ (l ++ Z)).toArray⟩ = 0 := by
  rw [utfE_mk]
  refine VL.ascii fun c hc2 => ?_
  obtain ⟨d, hd, rfl⟩ := List.mem_map.1 hc2
  rcases List.mem_append.1 hd with h | h
  · rcases hA with rfl | rfl
    · cases h
    · simp at h; subst h; decide
  · rcases List.mem_append.1 h with h | h
    · have := hc.1 d h; unfold isDig at this; omega
    · exact hZ d h
theorem canon_ne {A l Z : List UInt8} (hc : Canon l) : 0 < (⟨(A ++ (l ++ Z)).toArray⟩ : ByteArray).size := by
  rw [size_mk, List.length_append, List.length_append]
  have := List.length_pos_iff.2 hc.2.1
  omega
theorem numS_itoa (n : Int) (h0 : -9223372036854775808 ≤ n) (h1 : n ≤ 9223372036854775807) : numS ⟨(Lib.itoa n).toArray⟩ = (n, 0) := by
  have hw := itoa_whole n h0 h1
  obtain ⟨A, l, he, hA, hc⟩ := itoa_form n
  rw [he] at hw ⊢
  have hnum := num_whole hA hc
  have hu := canon_ascii (Z := []) hA hc (by simp)
  have hp := canon_ne (A := A) (l := l) (Z := []) hc
  rw [List.append_nil] at hu hp
  have hs := num_scan hp hu (by rw [hnum, size_mk])
  have hE : hasE ⟨(A ++ l).toArray⟩ = false := by
    unfold hasE
    rw [List.any_eq_false]
    intro c hcm
    have : isDig c ∨ c = 45 := by
      rcases List.mem_append.1 (by simpa using hcm) with h | h
      · rcases hA with rfl | rfl
        · cases h
        · simp at h; exact Or.inr h
      · exact Or.inl (hc.1 c h)
    rcases this with h | rfl
    · simp only [Bool.or_eq_true, beq_iff_eq, not_or]
      refine ⟨⟨?_, ?_⟩, ?_⟩ <;> (rintro rfl; revert h; decide)
    · decide
  unfold numS
  rw [hs]
  simp only
  rw [if_pos ⟨trivial, by unfold single; simp⟩, hE, if_neg (by simp)]
  show (if (wholeV (A ++ l)).2 = true then ((wholeV (A ++ l)).1, 0) else (0, 4)) = _
  rw [hw, if_pos rfl]
theorem numS_bad {A l Z : List UInt8} (hA : A = [] ∨ A = [45]) (hc : Canon l) (hZ : ∀ c ∈ Z, c.toNat < 128) (hnum : numAt ⟨(A ++ (l ++ Z)).toArray⟩ 0 = (true, (A ++ (l ++ Z)).length)) (hE : Z.any (fun c => c == 46 || c == 101 || c == 69) = true) : numS ⟨(A ++ (l ++ Z)).toArray⟩ = (0, 4) := by
  have hu := canon_ascii hA hc hZ
  have hp := canon_ne (A := A) (Z := Z) hc
  have hs := num_scan hp hu (by rw [hnum, size_mk])
  have hE2 : hasE ⟨(A ++ (l ++ Z)).toArray⟩ = true := by
    unfold hasE
    show (A ++ (l ++ Z)).any _ = true
    rw [List.any_append, List.any_append, hE]
    simp
  unfold numS
  rw [hs]
  simp only
  rw [if_pos ⟨trivial, by unfold single; simp⟩, hE2, if_pos rfl]
theorem app_mk (l m : List UInt8) : (⟨l.toArray⟩ : ByteArray) ++ ⟨m.toArray⟩ = ⟨(l ++ m).toArray⟩ := by
  apply ByteArray.ext
  simp
theorem numS_dot (n : Int) : numS ((⟨(Lib.itoa n).toArray⟩ : ByteArray) ++ ⟨#[46, 48]⟩) = (0, 4) := by
  obtain ⟨A, l, he, hA, hc⟩ := itoa_form n
  rw [he]
  have e := app_mk (A ++ l) [46, 48]
  rw [List.append_assoc] at e
  show numS ((⟨(A ++ l).toArray⟩ : ByteArray) ++ ⟨[46, 48].toArray⟩) = _
  rw [e]
  exact numS_bad hA hc (by decide) (num_dot0 hA hc) (by decide)
theorem numS_e (n : Int) : numS ((⟨(Lib.itoa n).toArray⟩ : ByteArray) ++ ⟨#[101, 48]⟩) = (0, 4) := by
  obtain ⟨A, l, he, hA, hc⟩ := itoa_form n
  rw [he]
  have e := app_mk (A ++ l) [101, 48]
  rw [List.append_assoc] at e
  show numS ((⟨(A ++ l).toArray⟩ : ByteArray) ++ ⟨[101, 48].toArray⟩) = _
  rw [e]
  exact numS_bad hA hc (by decide) (num_e0 hA hc) (by decide)
theorem numS_le (s : ByteArray) : (numS s).2 ≤ 19 := by
  unfold numS
  split
  · split
    · decide
    · split
      · exact Nat.zero_le _
      · decide
  · decide
theorem errN_eq (A : Nat → Addr) (k : Nat) : errN A k = errV A k := by
  unfold errN
  cases k with
  | zero => rfl
  | succ k => rw [if_neg (by omega)]; rfl
theorem itoa_sz (n : Int) (h0 : -9223372036854775808 ≤ n) (h1 : n ≤ 9223372036854775807) : (⟨(Lib.itoa n).toArray⟩ : ByteArray).size ≤ 20 := by
  rw [size_mk]
  have key : ∀ u : Nat, u ≤ 9223372036854775808 → (Lib.decDigits u).length ≤ 19 := by
    intro u hu
    have hc := decDigits_canon u
    obtain ⟨hd, hne, hv, hp⟩ := decDigits_spec u
    rcases Nat.lt_or_ge 19 (Lib.decDigits u).length with h | h
    · exfalso
      by_cases h0 : u = 0
      · subst h0; rw [Lib.decDigits] at h; simp at h
      · obtain ⟨c, r, he, hcd⟩ := canon_head hc
        have hc0 : 0 < c.toNat - 48 := by
          have h48 := hp (by omega)
          rw [he] at h48
          simp at h48
          unfold isDig at hcd
          have : c.toNat ≠ 48 := fun e => h48 (UInt8.toNat_inj.1 e)
          omega
        have hl := dvalA_len r (0 * 10 + (c.toNat - 48))
        rw [he] at hv h
        rw [dvalA_cons] at hv
        simp at h
        have h2 : 10 ^ 19 ≤ 10 ^ r.length := Nat.pow_le_pow_right (by decide) (by omega)
        have h3 : 1 * 10 ^ r.length ≤ (0 * 10 + (c.toNat - 48)) * 10 ^ r.length := Nat.mul_le_mul_right _ (by omega)
        have h4 : (10 : Nat) ^ 19 = 10000000000000000000 := by decide
        omega
    · exact h
  by_cases hn : n < 0
  · rw [Lib.itoa, if_pos hn, List.length_cons]
    have := key n.natAbs (by omega)
    omega
  · rw [Lib.itoa, if_neg hn]
    have := key n.toNat (by omega)
    omega
set_option maxHeartbeats 4000000 in
set_option maxRecDepth 100000 in
theorem ScanNumbers_calls {A : Nat → Addr} {B : Nat} (s : ByteArray) (n : Int) (w : World) (hs : s.size ≤ 1048576) (h0 : -9223372036854775808 ≤ n) (h1 : n ≤ 9223372036854775807) (hE : Env A B SVN w) :
    Calls Tryz.prog 6 #[.string s, .int .i64 n] w fun e w' => e = .returned (.bool true) ∧ Below w.heap.size w w' := by
  have N1 := Lib.hid (fun w hE => Number_calls (A := A) (B := B) s w hE (by omega))
  have R1 := Lib.hid (fun w => rNumber17_calls s w (by omega))
  have K1 := Lib.hid (fun w hE => Num_calls (A := A) (B := B) (numS s).2 w (numS_le s) hE)
  rw [errN_eq] at N1
  generalize numS s = r at *
  have D := Lib.hid (fun w => Decimal_calls n w h0 h1)
  have hz := itoa_sz n h0 h1
  have N2 := Lib.hid (fun w hE => Number_calls (A := A) (B := B) ⟨(Lib.itoa n).toArray⟩ w hE (by omega))
  rw [numS_itoa n h0 h1] at N2
  have N3 := Lib.hid (fun w hE => Number_calls (A := A) (B := B) ((⟨(Lib.itoa n).toArray⟩ : ByteArray) ++ ⟨#[46, 48]⟩) w hE (by rw [ByteArray.size_append]; have : (⟨#[46, 48]⟩ : ByteArray).size = 2 := rfl; omega))
  rw [numS_dot n] at N3
  have N4 := Lib.hid (fun w hE => Number_calls (A := A) (B := B) ((⟨(Lib.itoa n).toArray⟩ : ByteArray) ++ ⟨#[101, 48]⟩) w hE (by rw [ByteArray.size_append]; have : (⟨#[101, 48]⟩ : ByteArray).size = 2 := rfl; omega))
  rw [numS_e n] at N4
  replace N2 : Hid (∀ w, Env A B SKN w → Calls Tryz.prog 29 #[.string ⟨(Lib.itoa n).toArray⟩] w fun e w' => e = .returned (.tuple #[.int .i64 n, .nilIface]) ∧ Below w.heap.size w w') := N2
  replace N3 : Hid (∀ w, Env A B SKN w → Calls Tryz.prog 29 #[.string ((⟨(Lib.itoa n).toArray⟩ : ByteArray) ++ ⟨#[46, 48]⟩)] w fun e w' => e = .returned (.tuple #[.int .i64 0, .iface 240 (.pointer (some (A 4)))]) ∧ Below w.heap.size w w') := N3
  replace N4 : Hid (∀ w, Env A B SKN w → Calls Tryz.prog 29 #[.string ((⟨(Lib.itoa n).toArray⟩ : ByteArray) ++ ⟨#[101, 48]⟩)] w fun e w' => e = .returned (.tuple #[.int .i64 0, .iface 240 (.pointer (some (A 4)))]) ∧ Below w.heap.size w w') := N4
  replace hz : Hid ((⟨(Lib.itoa n).toArray⟩ : ByteArray).size ≤ 20) := Lib.hid hz
  have hzI : ((⟨(Lib.itoa n).toArray⟩ : ByteArray).size : Int) ≤ 20 := by have := hz.out; omega
  generalize (⟨(Lib.itoa n).toArray⟩ : ByteArray) = d at *
  obtain ⟨x, k⟩ := r
  simp only at N1 R1 K1
  replace hs := Lib.hid hs
  go_enter Tryz.func6, Tryz.ntmps6
  (go_wp2_with fail; repeat (any_goals (go_quiet (fail); go_wp2_with fail)))
  refine (fixed17 _ (hE.next (by repeat (first | assumption | exact Below.refl _ _ | apply Below.drew | apply below_drewN | apply balloc | (refine Below.setCell ?_ (by first | omega | (simp <;> omega)) _))))).mono ?_
  rintro e w1 ⟨rfl, hb⟩
  have hb1 : Below w.heap.size w w1 := bcall (by repeat (first | assumption | exact Below.refl _ _ | apply Below.drew | apply below_drewN | apply balloc | (refine Below.setCell ?_ (by first | omega | (simp <;> omega)) _))) hb
  clear hb
  (go_wp2_with fail; repeat (any_goals (go_quiet (fail); go_wp2_with fail)))
  refine (N1.out _ ((hE.next hb1).sub (by decide))).mono ?_
  rintro e w2 ⟨rfl, hb⟩
  have hb2 : Below w.heap.size w w2 := bcall hb1 hb
  clear hb
  (go_wp2_with fail; repeat (any_goals (go_quiet (fail); go_wp2_with fail)))
  refine (R1.out _).mono ?_
  rintro e w3 ⟨rfl, hb⟩
  have hb3 : Below w.heap.size w w3 := bcall hb2 hb
  clear hb
  (go_wp2_with fail; repeat (any_goals (go_quiet (fail); go_wp2_with fail)))
  refine (K1.out _ (hE.next (by repeat (first | assumption | exact Below.refl _ _ | apply Below.drew | apply below_drewN | apply balloc | (refine Below.setCell ?_ (by first | omega | (simp <;> omega)) _))))).mono ?_
  rintro e w4 ⟨rfl, hb⟩
  have hb4 : Below w.heap.size w w4 := bcall (by repeat (first | assumption | exact Below.refl _ _ | apply Below.drew | apply below_drewN | apply balloc | (refine Below.setCell ?_ (by first | omega | (simp <;> omega)) _))) hb
  clear hb
  (go_wp2_with fail; repeat (any_goals (go_quiet (fail); go_wp2_with fail)))
  refine (D.out _).mono ?_
  rintro e w5 ⟨rfl, hb⟩
  have hb5 : Below w.heap.size w w5 := bcall (by repeat (first | assumption | exact Below.refl _ _ | apply Below.drew | apply below_drewN | apply balloc | (refine Below.setCell ?_ (by first | omega | (simp <;> omega)) _))) hb
  clear hb
  (go_wp2_with fail; repeat (any_goals (go_quiet (fail); go_wp2_with fail)))
  refine (N2.out _ ((hE.next hb5).sub (by decide))).mono ?_
  rintro e w6 ⟨rfl, hb⟩
  have hb6 : Below w.heap.size w w6 := bcall hb5 hb
  clear hb
  (go_wp2_with fail; repeat (any_goals (go_quiet (fail); go_wp2_with fail)))
  refine (N3.out _ ((hE.next hb6).sub (by decide))).mono ?_
  rintro e w7 ⟨rfl, hb⟩
  have hb7 : Below w.heap.size w w7 := bcall hb6 hb
  clear hb
  (go_wp2_with fail; repeat (any_goals (go_quiet (fail); go_wp2_with fail)))
  refine (N4.out _ ((hE.next hb7).sub (by decide))).mono ?_
  rintro e w8 ⟨rfl, hb⟩
  have hb8 : Below w.heap.size w w8 := bcall hb7 hb
  clear hb
  (go_wp2_with fail; repeat (any_goals (go_quiet (fail); go_wp2_with fail)))
  refine (Num_err 4 _ (by decide) (by decide) (hE.next (by repeat (first | assumption | exact Below.refl _ _ | apply Below.drew | apply below_drewN | apply balloc | (refine Below.setCell ?_ (by first | omega | (simp <;> omega)) _))))).mono ?_
  rintro e w9 ⟨rfl, hb⟩
  have hb9 : Below w.heap.size w w9 := bcall (by repeat (first | assumption | exact Below.refl _ _ | apply Below.drew | apply below_drewN | apply balloc | (refine Below.setCell ?_ (by first | omega | (simp <;> omega)) _))) hb
  clear hb
  (go_wp2_with fail; repeat (any_goals (go_quiet (fail); go_wp2_with fail)))
  refine (Num_err 4 _ (by decide) (by decide) (hE.next (by repeat (first | assumption | exact Below.refl _ _ | apply Below.drew | apply below_drewN | apply balloc | (refine Below.setCell ?_ (by first | omega | (simp <;> omega)) _))))).mono ?_
  rintro e w10 ⟨rfl, hb⟩
  have hb10 : Below w.heap.size w w10 := bcall (by repeat (first | assumption | exact Below.refl _ _ | apply Below.drew | apply below_drewN | apply balloc | (refine Below.setCell ?_ (by first | omega | (simp <;> omega)) _))) hb
  clear hb
  (go_wp2_with fail; repeat (any_goals (go_quiet (fail); go_wp2_with fail)))
  go_ret
  exact ⟨rfl, (by repeat (first | assumption | exact Below.refl _ _ | apply Below.drew | apply below_drewN | apply balloc | (refine Below.setCell ?_ (by first | omega | (simp <;> omega)) _)))⟩

end Go.Proofs.YtnldhgkmbighkaaGreatDoor
