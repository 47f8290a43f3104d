/- ScanPlays: the walk. -/
import Derived.Test.YtnldhgkmbighkaaGreatDoorFixed17
import Derived.Test.YtnldhgkmbighkaaGreatDoorSRef8
namespace Go.Proofs.YtnldhgkmbighkaaGreatDoor
open Go Go.RowKit

theorem some_err {s : ByteArray} (h : (someS s).2.1 ≠ 0) : 1 ≤ (someS s).2.1 ∧ (someS s).2.1 ≤ 19 := by
  refine ⟨by omega, ?_⟩
  rw [someS_eq] at h ⊢
  by_cases hu : utfE s = 0
  · rw [if_pos hu] at h ⊢
    have hb := (utfE_brk _).1 hu
    have key : ∀ n i, s.size - i ≤ n → i ≤ s.size → brkAt s i = s.size → (scanAt s i).2.1 ≤ 2 := by
      intro n
      induction n with
      | zero =>
        intro i h1 h2 h3
        rw [scanAt_eq s i h3, if_neg (by omega)]
        exact Nat.zero_le _
      | succ n ih =>
        intro i h1 h2 h3
        rw [scanAt_eq s i h3]
        by_cases hi : i < s.size
        · rw [if_pos hi]
          by_cases hbl : blankN (bAt s i) = true
          · rw [if_pos hbl]
            exact ih _ (by omega) (by omega) (brk_ascii h3 hi (blank_ascii hbl).2)
          rw [if_neg hbl]
          by_cases ho : (oneAt s i).1 = 0
          · rw [if_pos ho]
            have h5 := oneAt_ok s i hi h3 ho
            exact ih _ (by omega) h5.2.2.1 h5.2.2.2.1
          · rw [if_neg ho]
            have := (oneAt_bad s i hi ho).1
            show (oneAt s i).1 ≤ 2
            omega
        · rw [if_neg hi]
          exact Nat.zero_le _
    have := key _ 0 (Nat.le_refl _) (Nat.zero_le _) hb
    omega
  · rw [if_neg hu]; show (1 : Nat) ≤ 19; omega
set_option maxHeartbeats 4000000 in
set_option maxRecDepth 100000 in
theorem ScanPlays_calls {A : Nat → Addr} {B : Nat} (s : ByteArray) (w : World) (hs : s.size ≤ 1048576) (hE : Env A B SVN w) :
    Calls Tryz.prog 5 #[.string s] w fun e w' => e = .returned (.bool true) ∧ Below w.heap.size w w' := by
  have S := Lib.hid (fun w hE => Scan_calls (A := A) (B := B) s w hE (by omega))
  have RS := Lib.hid (fun w => rScan_calls s w (by omega))
  have U := Lib.hid (fun w hE => Unquote_calls (A := A) (B := B) s w hE (by omega))
  have RU := Lib.hid (fun w => rUnquote_calls s w (by omega))
  have her := @some_err s
  unfold UnqR at U
  unfold unqS at RU
  generalize someS s = R at *
  replace hs := Lib.hid hs
  go_enter Tryz.func5, Tryz.ntmps5
  (go_wp2_with fail; repeat (any_goals (go_quiet (fail); go_wp2_with fail)))
  refine (fixed17 _ (hE.next (by repeat (first | assumption | exact Below.refl _ _ | apply Below.drew | apply below_drewN | apply balloc | (refine Below.setCell ?_ (by first | omega | (simp <;> omega)) _))))).mono ?_
  rintro e w1 ⟨rfl, hb⟩
  have hb1 : Below w.heap.size w w1 := bcall (by repeat (first | assumption | exact Below.refl _ _ | apply Below.drew | apply below_drewN | apply balloc | (refine Below.setCell ?_ (by first | omega | (simp <;> omega)) _))) hb
  clear hb
  (go_wp2_with fail; repeat (any_goals (go_quiet (fail); go_wp2_with fail)))
  refine (S.out _ ((hE.next hb1).sub (by decide))).mono ?_
  rintro e w2 ⟨hr, hb⟩
  have hb2 : Below w.heap.size w w2 := bcall hb1 hb
  clear hb S
  unfold ScanR at hr
  by_cases h0 : R.2.1 = 0
  · rw [if_pos h0] at hr
    obtain ⟨v1, rfl, ho1⟩ := hr
    have ho1 : OwnT w2 w1.heap.size v1 R.1 := ho1
    replace ho1 := Lib.hid ho1
    (go_wp2_with fail; repeat (any_goals (go_quiet (fail); go_wp2_with fail)))
    refine (RS.out _).mono ?_
    rintro e w3 ⟨⟨v2, rfl, ho2, _⟩, hb⟩
    rw [if_pos h0] at ho2 ⊢
    rw [h0]
    have hb3 : Below w.heap.size w w3 := bcall hb2 hb
    replace ho1 := Lib.hid (ho1.out.next hb)
    replace ho2 := Lib.hid ho2
    clear hb RS hb1 hb2
    replace h0 := Lib.hid h0
    clear her
    (go_wp2_with fail; repeat (any_goals (go_quiet (fail); go_wp2_with fail)))
    refine (same_true _ ho1.out ho2.out).mono ?_
    rintro e w4 ⟨rfl, hb⟩
    have hb4 : Below w.heap.size w w4 := bcall (by repeat (first | assumption | exact Below.refl _ _ | apply Below.drew | apply below_drewN | apply balloc | (refine Below.setCell ?_ (by first | omega | (simp <;> omega)) _))) hb
    clear hb hb3
    (go_wp2_with fail; repeat (any_goals (go_quiet (fail); go_wp2_with fail)))
    refine (wrong_nil 0 _).mono ?_
    rintro e w5 ⟨rfl, hb⟩
    have hb5 : Below w.heap.size w w5 := bcall (by repeat (first | assumption | exact Below.refl _ _ | apply Below.drew | apply below_drewN | apply balloc | (refine Below.setCell ?_ (by first | omega | (simp <;> omega)) _))) hb
    clear hb hb4
    (go_wp2_with fail; repeat (any_goals (go_quiet (fail); go_wp2_with fail)))
    refine (U.out _ ((hE.next hb5).sub (by decide))).mono ?_
    rintro e w6 ⟨hr, hb⟩
    have hb6 : Below w.heap.size w w6 := bcall (by repeat (first | assumption | exact Below.refl _ _ | apply Below.drew | apply below_drewN | apply balloc | (refine Below.setCell ?_ (by first | omega | (simp <;> omega)) _))) hb
    clear hb hb5 U
    have RU2 := RU.out
    rw [if_pos h0.out] at RU2
    rcases hr with ⟨_, h1, T, hT, rfl⟩ | ⟨_, h1, rfl⟩ | ⟨h, _⟩
    · rw [h1, if_pos rfl, hT] at RU2
      replace RU : Hid (∀ w, Calls Tryz.prog 28 #[.string s] w fun e w' => e = .returned (.tuple #[.string T.text, .int .i64 0, .int .i64 0]) ∧ Below w.heap.size w w') := Lib.hid RU2
      clear RU2
      replace h1 := Lib.hid h1
      replace hT := Lib.hid hT
      (go_wp2_with fail; repeat (any_goals (go_quiet (fail); go_wp2_with fail)))
      refine (RU.out _).mono ?_
      rintro e w7 ⟨rfl, hb⟩
      have hb7 : Below w.heap.size w w7 := bcall (by repeat (first | assumption | exact Below.refl _ _ | apply Below.drew | apply below_drewN | apply balloc | (refine Below.setCell ?_ (by first | omega | (simp <;> omega)) _))) hb
      clear hb hb6
      (go_wp2_with fail; repeat (any_goals (go_quiet (fail); go_wp2_with fail)))
      refine (wrong_nil 0 _).mono ?_
      rintro e w8 ⟨rfl, hb⟩
      have hb8 : Below w.heap.size w w8 := bcall (by repeat (first | assumption | exact Below.refl _ _ | apply Below.drew | apply below_drewN | apply balloc | (refine Below.setCell ?_ (by first | omega | (simp <;> omega)) _))) hb
      clear hb hb7
      (go_wp2_with fail; repeat (any_goals (go_quiet (fail); go_wp2_with fail)))
      go_ret
      exact ⟨rfl, (by repeat (first | assumption | exact Below.refl _ _ | apply Below.drew | apply below_drewN | apply balloc | (refine Below.setCell ?_ (by first | omega | (simp <;> omega)) _)))⟩
    · rw [h1, if_neg (by simp)] at RU2
      replace RU : Hid (∀ w, Calls Tryz.prog 28 #[.string s] w fun e w' => e = .returned (.tuple #[.string ⟨#[]⟩, .int .i64 (-1), .int .i64 5]) ∧ Below w.heap.size w w') := Lib.hid RU2
      clear RU2
      replace h1 := Lib.hid h1
      (go_wp2_with fail; repeat (any_goals (go_quiet (fail); go_wp2_with fail)))
      refine (RU.out _).mono ?_
      rintro e w7 ⟨rfl, hb⟩
      have hb7 : Below w.heap.size w w7 := bcall (by repeat (first | assumption | exact Below.refl _ _ | apply Below.drew | apply below_drewN | apply balloc | (refine Below.setCell ?_ (by first | omega | (simp <;> omega)) _))) hb
      clear hb hb6
      (go_wp2_with fail; repeat (any_goals (go_quiet (fail); go_wp2_with fail)))
      refine (wrong_num 5 (-1) _ (by decide) (by decide) (hE.next hb7) (by decide)).mono ?_
      rintro e w8 ⟨rfl, hb⟩
      have hb8 : Below w.heap.size w w8 := bcall (by repeat (first | assumption | exact Below.refl _ _ | apply Below.drew | apply below_drewN | apply balloc | (refine Below.setCell ?_ (by first | omega | (simp <;> omega)) _))) hb
      clear hb hb7
      (go_wp2_with fail; repeat (any_goals (go_quiet (fail); go_wp2_with fail)))
      go_ret
      exact ⟨rfl, (by repeat (first | assumption | exact Below.refl _ _ | apply Below.drew | apply below_drewN | apply balloc | (refine Below.setCell ?_ (by first | omega | (simp <;> omega)) _)))⟩
    · exact absurd h0.out h
  · rw [if_neg h0] at hr
    obtain ⟨g, hg, rfl, hat⟩ := hr
    obtain ⟨k1, k19⟩ := her h0
    clear her hg
    replace hat := Lib.hid hat
    (go_wp2_with fail; repeat (any_goals (go_quiet (fail); go_wp2_with fail)))
    refine (RS.out _).mono ?_
    rintro e w3 ⟨⟨v2, rfl, _, hv2⟩, hb⟩
    rw [if_neg h0]
    have := hv2 h0
    subst this
    have hb3 : Below w.heap.size w w3 := bcall hb2 hb
    replace hat := Lib.hid (box_next hat.out hb)
    clear hb RS hb1 hb2 hv2
    have RU2 := RU.out
    rw [if_neg h0] at RU2
    obtain ⟨ts, k, p⟩ := R
    simp only at h0 k1 k19 hat U RU2 ⊢
    replace RU : Hid (∀ w, Calls Tryz.prog 28 #[.string s] w fun e w' => e = .returned (.tuple #[.string ⟨#[]⟩, .int .i64 (p : Int), .int .i64 (k : Int)]) ∧ Below w.heap.size w w') := Lib.hid RU2
    clear RU2
    replace h0 := Lib.hid h0
    replace k1 := Lib.hid k1
    replace k19 := Lib.hid k19
    (go_wp2_with fail; repeat (any_goals (go_quiet (fail); go_wp2_with fail)))
    refine (same_true (b1 := 0) (b2 := 0) (ts := []) _ (OwnT.nil _ _) (OwnT.nil _ _)).mono ?_
    rintro e w4 ⟨rfl, hb⟩
    have hb4 : Below w.heap.size w w4 := bcall (by repeat (first | assumption | exact Below.refl _ _ | apply Below.drew | apply below_drewN | apply balloc | (refine Below.setCell ?_ (by first | omega | (simp <;> omega)) _))) hb
    replace hat := Lib.hid (box_next hat.out hb)
    clear hb hb3
    (go_wp2_with fail; repeat (any_goals (go_quiet (fail); go_wp2_with fail)))
    refine (wrong_at k p g _ k1.out k19.out (hE.next hb4) hat.out).mono ?_
    rintro e w5 ⟨rfl, hb⟩
    have hb5 : Below w.heap.size w w5 := bcall (by repeat (first | assumption | exact Below.refl _ _ | apply Below.drew | apply below_drewN | apply balloc | (refine Below.setCell ?_ (by first | omega | (simp <;> omega)) _))) hb
    clear hb hb4 hat
    (go_wp2_with fail; repeat (any_goals (go_quiet (fail); go_wp2_with fail)))
    refine (U.out _ ((hE.next hb5).sub (by decide))).mono ?_
    rintro e w6 ⟨hr, hb⟩
    have hb6 : Below w.heap.size w w6 := bcall (by repeat (first | assumption | exact Below.refl _ _ | apply Below.drew | apply below_drewN | apply balloc | (refine Below.setCell ?_ (by first | omega | (simp <;> omega)) _))) hb
    clear hb hb5 U
    rcases hr with ⟨h, _⟩ | ⟨h, _⟩ | ⟨_, g2, _, rfl, hat⟩
    · exact absurd h h0.out
    · exact absurd h h0.out
    replace hat := Lib.hid hat
    (go_wp2_with fail; repeat (any_goals (go_quiet (fail); go_wp2_with fail)))
    refine (RU.out _).mono ?_
    rintro e w7 ⟨rfl, hb⟩
    have hb7 : Below w.heap.size w w7 := bcall (by repeat (first | assumption | exact Below.refl _ _ | apply Below.drew | apply below_drewN | apply balloc | (refine Below.setCell ?_ (by first | omega | (simp <;> omega)) _))) hb
    replace hat := Lib.hid (box_next hat.out hb)
    clear hb hb6
    (go_wp2_with fail; repeat (any_goals (go_quiet (fail); go_wp2_with fail)))
    refine (wrong_at k p g2 _ k1.out k19.out (hE.next hb7) hat.out).mono ?_
    rintro e w8 ⟨rfl, hb⟩
    have hb8 : Below w.heap.size w w8 := bcall (by repeat (first | assumption | exact Below.refl _ _ | apply Below.drew | apply below_drewN | apply balloc | (refine Below.setCell ?_ (by first | omega | (simp <;> omega)) _))) hb
    clear hb hb7
    (go_wp2_with fail; repeat (any_goals (go_quiet (fail); go_wp2_with fail)))
    go_ret
    exact ⟨rfl, (by repeat (first | assumption | exact Below.refl _ _ | apply Below.drew | apply below_drewN | apply balloc | (refine Below.setCell ?_ (by first | omega | (simp <;> omega)) _)))⟩

end Go.Proofs.YtnldhgkmbighkaaGreatDoor
