/- The reference of chapter 17: escape. -/
import Derived.Test.YtnldhgkmbighkaaDoorSRef3
namespace Go.Proofs.YtnldhgkmbighkaaDoor
open Go Go.RowKit

/-- What escape answers. -/
def rEscV (E : Nat × Nat × Nat) (i : Nat) : Value := if E.1 = 0 then .tuple #[.string (encS E.2.1), .int .i64 ((i + E.2.2 : Nat) : Int), .int .i64 0] else .tuple #[.string ⟨#[]⟩, .int .i64 0, .int .i64 (E.1 : Int)]
theorem rEscV_ok {E : Nat × Nat × Nat} {i x z : Nat} (h : E = (0, x, z)) : rEscV E i = .tuple #[.string (encS x), .int .i64 ((i + z : Nat) : Int), .int .i64 0] := by subst h; unfold rEscV; rw [if_pos rfl]
theorem rEscV_bad {E : Nat × Nat × Nat} {i k x z : Nat} (h : E = (k + 1, x, z)) : rEscV E i = .tuple #[.string ⟨#[]⟩, .int .i64 0, .int .i64 ((k + 1 : Nat) : Int)] := by subst h; unfold rEscV; rw [if_neg (by simp)]
def escNo (c : Nat) : Prop := c ≠ 34 ∧ c ≠ 92 ∧ c ≠ 47 ∧ c ≠ 98 ∧ c ≠ 102 ∧ c ≠ 110 ∧ c ≠ 114 ∧ c ≠ 116
theorem escAt_hex {s : ByteArray} {i : Nat} (h : escNo (bAt s (i + 1))) : escAt s i = if 65536 ≤ hexAt s i then (2, 0, 0)
  else if scalarN (hexAt s i) = true then (0, hexAt s i, 6)
  else if hexAt s i < 56320 ∧ 56320 ≤ hexAt s (i + 6) ∧ hexAt s (i + 6) ≤ 57343 then (0, 65536 + (hexAt s i - 55296) * 1024 + (hexAt s (i + 6) - 56320), 12)
  else (1, 0, 0) := by
  obtain ⟨h1, h2, h3, h4, h5, h6, h7, h8⟩ := h
  unfold escAt
  simp only
  rw [if_neg (by omega), if_neg h4, if_neg h5, if_neg h6, if_neg h7, if_neg h8]
theorem esc34 {s : ByteArray} {i : Nat} (h : bAt s (i + 1) = 34) : escAt s i = (0, 34, 2) := by unfold escAt; simp only; rw [h]; rfl
theorem esc92 {s : ByteArray} {i : Nat} (h : bAt s (i + 1) = 92) : escAt s i = (0, 92, 2) := by unfold escAt; simp only; rw [h]; rfl
theorem esc47 {s : ByteArray} {i : Nat} (h : bAt s (i + 1) = 47) : escAt s i = (0, 47, 2) := by unfold escAt; simp only; rw [h]; rfl
theorem esc98 {s : ByteArray} {i : Nat} (h : bAt s (i + 1) = 98) : escAt s i = (0, 8, 2) := by unfold escAt; simp only; rw [h]; rfl
theorem esc102 {s : ByteArray} {i : Nat} (h : bAt s (i + 1) = 102) : escAt s i = (0, 12, 2) := by unfold escAt; simp only; rw [h]; rfl
theorem esc110 {s : ByteArray} {i : Nat} (h : bAt s (i + 1) = 110) : escAt s i = (0, 10, 2) := by unfold escAt; simp only; rw [h]; rfl
theorem esc114 {s : ByteArray} {i : Nat} (h : bAt s (i + 1) = 114) : escAt s i = (0, 13, 2) := by unfold escAt; simp only; rw [h]; rfl
theorem esc116 {s : ByteArray} {i : Nat} (h : bAt s (i + 1) = 116) : escAt s i = (0, 9, 2) := by unfold escAt; simp only; rw [h]; rfl
theorem rHex_calls2 (s : ByteArray) (i : Nat) (w : World) (hs : s.size ≤ 140737488351232) (hi : i ≤ 140737488351300) :
    Calls Tryd.prog 98 #[.string s, .int .i64 (i : Int)] w fun e w' => e = .returned (.int .i32 (if hexAt s i < 65536 then (hexAt s i : Int) else -1)) ∧ w = w' := by
  refine (rHex_calls s i w hs hi).mono fun e w' ⟨h1, h2⟩ => ⟨?_, h2⟩
  rw [h1, rHexV]
  split <;> rfl
/-- The letters, by place. -/
def escF (j : Nat) : Nat := match j with | 0 => 34 | 1 => 92 | 2 => 47 | 3 => 98 | 4 => 102 | 5 => 110 | 6 => 114 | _ => 116
set_option maxHeartbeats 4000000 in
set_option maxRecDepth 100000 in
theorem rEscape_calls (s : ByteArray) (i : Nat) (w : World) (hs : s.size ≤ 140737488351232) (hi : i < s.size) :
    Calls Tryd.prog 79 #[.string s, .int .i64 (i : Int)] w fun e w' => e = .returned (rEscV (escAt s i) i) ∧ Below w.heap.size w w' := by
  have hs' : (s.size : Int) ≤ 140737488351232 := by omega
  have hi' : (i : Int) < (s.size : Int) := by omega
  have hx := byte_at s (i + 1)
  have H := Lib.hid (fun i w hi => rHex_calls2 s i w hs hi)
  obtain ⟨E, hEe⟩ : ∃ E, E = escAt s i := ⟨_, rfl⟩
  rw [← hEe]
  replace hEe := Lib.hid hEe
  replace hs := Lib.hid hs
  replace hi := Lib.hid hi
  go_enter Tryd.func79, Tryd.ntmps79
  go_upto_if 16 with fail
  go_cut [] (fun wx => escNo (bAt s (i + 1)) ∧ Below w.heap.size w wx)
  case first =>
    by_cases h1 : i + 1 < s.size
    · have h1' : (i : Int) + 1 < (s.size : Int) := by omega
      replace h1 := Lib.hid h1
      go_wp2_with fail
      go_loopw [9] (fun v wr => ∃ k : Nat, k ≤ 8 ∧ v = .int .i64 (k : Int) ∧ Hid (∀ j, j < k → bAt s (i + 1) ≠ escF j) ∧ Below w.heap.size w wr) (fun v _ => 8 - (intOf v).toNat)
      case atStart => exact ⟨0, by decide, rfl, Lib.hid (fun j hj => by omega), (by repeat (first | assumption | exact Below.refl _ _ | apply Below.drew | apply below_drewN | apply balloc | (refine Below.setCell ?_ (by first | omega | (simp <;> omega)) _)))⟩
      case round =>
        obtain ⟨k, hk, rfl, hno, hB⟩ := hrel
        rcases (show k = 0 ∨ k = 1 ∨ k = 2 ∨ k = 3 ∨ k = 4 ∨ k = 5 ∨ k = 6 ∨ k = 7 ∨ k = 8 by omega) with rfl | rfl | rfl | rfl | rfl | rfl | rfl | rfl | rfl
        · have hv : ∀ h, (((⟨#[34, 92, 47, 98, 102, 110, 114, 116]⟩ : ByteArray)[0]'h).toNat : Int) = 34 := fun _ => rfl
          by_cases hm : bAt s (i + 1) = 34
          · have hm' : ((bAt s (i + 1) : Int) == 34) = true := by simp; omega
            have he := rEscV_ok (i := i) (hEe.out.trans (esc34 hm))
            replace hm := Lib.hid hm
            replace he := Lib.hid he
            (go_wp2_with fail; repeat (any_goals (go_quiet (fail); go_wp2_with fail)))
            go_ret3
            exact ⟨by rw [he.out]; rfl, (by repeat (first | assumption | exact Below.refl _ _ | apply Below.drew | apply below_drewN | apply balloc | (refine Below.setCell ?_ (by first | omega | (simp <;> omega)) _)))⟩
          · have hm' : ((bAt s (i + 1) : Int) == 34) = false := by simp; omega
            replace hm := Lib.hid hm
            (go_wp2_with fail; repeat (any_goals (go_quiet (fail); go_wp2_with fail)))
            go_roundw
            case rel => exact ⟨0 + 1, by omega, rfl, Lib.hid (fun j hj => by
              rcases (show j < 0 ∨ j = 0 by omega) with h | h
              · exact hno.out j h
              · subst h; exact hm.out), (by repeat (first | assumption | exact Below.refl _ _ | apply Below.drew | apply below_drewN | apply balloc | (refine Below.setCell ?_ (by first | omega | (simp <;> omega)) _)))⟩
            case measure => simp [intOf]
        · have hv : ∀ h, (((⟨#[34, 92, 47, 98, 102, 110, 114, 116]⟩ : ByteArray)[1]'h).toNat : Int) = 92 := fun _ => rfl
          by_cases hm : bAt s (i + 1) = 92
          · have hm' : ((bAt s (i + 1) : Int) == 92) = true := by simp; omega
            have he := rEscV_ok (i := i) (hEe.out.trans (esc92 hm))
            replace hm := Lib.hid hm
            replace he := Lib.hid he
            (go_wp2_with fail; repeat (any_goals (go_quiet (fail); go_wp2_with fail)))
            go_ret3
            exact ⟨by rw [he.out]; rfl, (by repeat (first | assumption | exact Below.refl _ _ | apply Below.drew | apply below_drewN | apply balloc | (refine Below.setCell ?_ (by first | omega | (simp <;> omega)) _)))⟩
          · have hm' : ((bAt s (i + 1) : Int) == 92) = false := by simp; omega
            replace hm := Lib.hid hm
            (go_wp2_with fail; repeat (any_goals (go_quiet (fail); go_wp2_with fail)))
            go_roundw
            case rel => exact ⟨1 + 1, by omega, rfl, Lib.hid (fun j hj => by
              rcases (show j < 1 ∨ j = 1 by omega) with h | h
              · exact hno.out j h
              · subst h; exact hm.out), (by repeat (first | assumption | exact Below.refl _ _ | apply Below.drew | apply below_drewN | apply balloc | (refine Below.setCell ?_ (by first | omega | (simp <;> omega)) _)))⟩
            case measure => simp [intOf]
        · have hv : ∀ h, (((⟨#[34, 92, 47, 98, 102, 110, 114, 116]⟩ : ByteArray)[2]'h).toNat : Int) = 47 := fun _ => rfl
          by_cases hm : bAt s (i + 1) = 47
          · have hm' : ((bAt s (i + 1) : Int) == 47) = true := by simp; omega
            have he := rEscV_ok (i := i) (hEe.out.trans (esc47 hm))
            replace hm := Lib.hid hm
            replace he := Lib.hid he
            (go_wp2_with fail; repeat (any_goals (go_quiet (fail); go_wp2_with fail)))
            go_ret3
            exact ⟨by rw [he.out]; rfl, (by repeat (first | assumption | exact Below.refl _ _ | apply Below.drew | apply below_drewN | apply balloc | (refine Below.setCell ?_ (by first | omega | (simp <;> omega)) _)))⟩
          · have hm' : ((bAt s (i + 1) : Int) == 47) = false := by simp; omega
            replace hm := Lib.hid hm
            (go_wp2_with fail; repeat (any_goals (go_quiet (fail); go_wp2_with fail)))
            go_roundw
            case rel => exact ⟨2 + 1, by omega, rfl, Lib.hid (fun j hj => by
              rcases (show j < 2 ∨ j = 2 by omega) with h | h
              · exact hno.out j h
              · subst h; exact hm.out), (by repeat (first | assumption | exact Below.refl _ _ | apply Below.drew | apply below_drewN | apply balloc | (refine Below.setCell ?_ (by first | omega | (simp <;> omega)) _)))⟩
            case measure => simp [intOf]
        · have hv : ∀ h, (((⟨#[34, 92, 47, 98, 102, 110, 114, 116]⟩ : ByteArray)[3]'h).toNat : Int) = 98 := fun _ => rfl
          by_cases hm : bAt s (i + 1) = 98
          · have hm' : ((bAt s (i + 1) : Int) == 98) = true := by simp; omega
            have he := rEscV_ok (i := i) (hEe.out.trans (esc98 hm))
            replace hm := Lib.hid hm
            replace he := Lib.hid he
            (go_wp2_with fail; repeat (any_goals (go_quiet (fail); go_wp2_with fail)))
            go_ret3
            exact ⟨by rw [he.out]; rfl, (by repeat (first | assumption | exact Below.refl _ _ | apply Below.drew | apply below_drewN | apply balloc | (refine Below.setCell ?_ (by first | omega | (simp <;> omega)) _)))⟩
          · have hm' : ((bAt s (i + 1) : Int) == 98) = false := by simp; omega
            replace hm := Lib.hid hm
            (go_wp2_with fail; repeat (any_goals (go_quiet (fail); go_wp2_with fail)))
            go_roundw
            case rel => exact ⟨3 + 1, by omega, rfl, Lib.hid (fun j hj => by
              rcases (show j < 3 ∨ j = 3 by omega) with h | h
              · exact hno.out j h
              · subst h; exact hm.out), (by repeat (first | assumption | exact Below.refl _ _ | apply Below.drew | apply below_drewN | apply balloc | (refine Below.setCell ?_ (by first | omega | (simp <;> omega)) _)))⟩
            case measure => simp [intOf]
        · have hv : ∀ h, (((⟨#[34, 92, 47, 98, 102, 110, 114, 116]⟩ : ByteArray)[4]'h).toNat : Int) = 102 := fun _ => rfl
          by_cases hm : bAt s (i + 1) = 102
          · have hm' : ((bAt s (i + 1) : Int) == 102) = true := by simp; omega
            have he := rEscV_ok (i := i) (hEe.out.trans (esc102 hm))
            replace hm := Lib.hid hm
            replace he := Lib.hid he
            (go_wp2_with fail; repeat (any_goals (go_quiet (fail); go_wp2_with fail)))
            go_ret3
            exact ⟨by rw [he.out]; rfl, (by repeat (first | assumption | exact Below.refl _ _ | apply Below.drew | apply below_drewN | apply balloc | (refine Below.setCell ?_ (by first | omega | (simp <;> omega)) _)))⟩
          · have hm' : ((bAt s (i + 1) : Int) == 102) = false := by simp; omega
            replace hm := Lib.hid hm
            (go_wp2_with fail; repeat (any_goals (go_quiet (fail); go_wp2_with fail)))
            go_roundw
            case rel => exact ⟨4 + 1, by omega, rfl, Lib.hid (fun j hj => by
              rcases (show j < 4 ∨ j = 4 by omega) with h | h
              · exact hno.out j h
              · subst h; exact hm.out), (by repeat (first | assumption | exact Below.refl _ _ | apply Below.drew | apply below_drewN | apply balloc | (refine Below.setCell ?_ (by first | omega | (simp <;> omega)) _)))⟩
            case measure => simp [intOf]
        · have hv : ∀ h, (((⟨#[34, 92, 47, 98, 102, 110, 114, 116]⟩ : ByteArray)[5]'h).toNat : Int) = 110 := fun _ => rfl
          by_cases hm : bAt s (i + 1) = 110
          · have hm' : ((bAt s (i + 1) : Int) == 110) = true := by simp; omega
            have he := rEscV_ok (i := i) (hEe.out.trans (esc110 hm))
            replace hm := Lib.hid hm
            replace he := Lib.hid he
            (go_wp2_with fail; repeat (any_goals (go_quiet (fail); go_wp2_with fail)))
            go_ret3
            exact ⟨by rw [he.out]; rfl, (by repeat (first | assumption | exact Below.refl _ _ | apply Below.drew | apply below_drewN | apply balloc | (refine Below.setCell ?_ (by first | omega | (simp <;> omega)) _)))⟩
          · have hm' : ((bAt s (i + 1) : Int) == 110) = false := by simp; omega
            replace hm := Lib.hid hm
            (go_wp2_with fail; repeat (any_goals (go_quiet (fail); go_wp2_with fail)))
            go_roundw
            case rel => exact ⟨5 + 1, by omega, rfl, Lib.hid (fun j hj => by
              rcases (show j < 5 ∨ j = 5 by omega) with h | h
              · exact hno.out j h
              · subst h; exact hm.out), (by repeat (first | assumption | exact Below.refl _ _ | apply Below.drew | apply below_drewN | apply balloc | (refine Below.setCell ?_ (by first | omega | (simp <;> omega)) _)))⟩
            case measure => simp [intOf]
        · have hv : ∀ h, (((⟨#[34, 92, 47, 98, 102, 110, 114, 116]⟩ : ByteArray)[6]'h).toNat : Int) = 114 := fun _ => rfl
          by_cases hm : bAt s (i + 1) = 114
          · have hm' : ((bAt s (i + 1) : Int) == 114) = true := by simp; omega
            have he := rEscV_ok (i := i) (hEe.out.trans (esc114 hm))
            replace hm := Lib.hid hm
            replace he := Lib.hid he
            (go_wp2_with fail; repeat (any_goals (go_quiet (fail); go_wp2_with fail)))
            go_ret3
            exact ⟨by rw [he.out]; rfl, (by repeat (first | assumption | exact Below.refl _ _ | apply Below.drew | apply below_drewN | apply balloc | (refine Below.setCell ?_ (by first | omega | (simp <;> omega)) _)))⟩
          · have hm' : ((bAt s (i + 1) : Int) == 114) = false := by simp; omega
            replace hm := Lib.hid hm
            (go_wp2_with fail; repeat (any_goals (go_quiet (fail); go_wp2_with fail)))
            go_roundw
            case rel => exact ⟨6 + 1, by omega, rfl, Lib.hid (fun j hj => by
              rcases (show j < 6 ∨ j = 6 by omega) with h | h
              · exact hno.out j h
              · subst h; exact hm.out), (by repeat (first | assumption | exact Below.refl _ _ | apply Below.drew | apply below_drewN | apply balloc | (refine Below.setCell ?_ (by first | omega | (simp <;> omega)) _)))⟩
            case measure => simp [intOf]
        · have hv : ∀ h, (((⟨#[34, 92, 47, 98, 102, 110, 114, 116]⟩ : ByteArray)[7]'h).toNat : Int) = 116 := fun _ => rfl
          by_cases hm : bAt s (i + 1) = 116
          · have hm' : ((bAt s (i + 1) : Int) == 116) = true := by simp; omega
            have he := rEscV_ok (i := i) (hEe.out.trans (esc116 hm))
            replace hm := Lib.hid hm
            replace he := Lib.hid he
            (go_wp2_with fail; repeat (any_goals (go_quiet (fail); go_wp2_with fail)))
            go_ret3
            exact ⟨by rw [he.out]; rfl, (by repeat (first | assumption | exact Below.refl _ _ | apply Below.drew | apply below_drewN | apply balloc | (refine Below.setCell ?_ (by first | omega | (simp <;> omega)) _)))⟩
          · have hm' : ((bAt s (i + 1) : Int) == 116) = false := by simp; omega
            replace hm := Lib.hid hm
            (go_wp2_with fail; repeat (any_goals (go_quiet (fail); go_wp2_with fail)))
            go_roundw
            case rel => exact ⟨7 + 1, by omega, rfl, Lib.hid (fun j hj => by
              rcases (show j < 7 ∨ j = 7 by omega) with h | h
              · exact hno.out j h
              · subst h; exact hm.out), (by repeat (first | assumption | exact Below.refl _ _ | apply Below.drew | apply below_drewN | apply balloc | (refine Below.setCell ?_ (by first | omega | (simp <;> omega)) _)))⟩
            case measure => simp [intOf]
        · (go_wp2_with fail; repeat (any_goals (go_quiet (fail); go_wp2_with fail)))
          go_meet
          have h := hno.out
          exact ⟨⟨h 0 (by omega), h 1 (by omega), h 2 (by omega), h 3 (by omega), h 4 (by omega), h 5 (by omega), h 6 (by omega), h 7 (by omega)⟩, (by repeat (first | assumption | exact Below.refl _ _ | apply Below.drew | apply below_drewN | apply balloc | (refine Below.setCell ?_ (by first | omega | (simp <;> omega)) _)))⟩
    · have h1' : ¬ (i : Int) + 1 < (s.size : Int) := by omega
      have h0 : bAt s (i + 1) = 0 := bAt_ge s (i + 1) (by omega)
      replace h1 := Lib.hid h1
      replace h0 := Lib.hid h0
      go_wp2_with fail
      go_meet
      exact ⟨by rw [h0.out]; unfold escNo; decide, (by repeat (first | assumption | exact Below.refl _ _ | apply Below.drew | apply below_drewN | apply balloc | (refine Below.setCell ?_ (by first | omega | (simp <;> omega)) _)))⟩
  case rest =>
    rename_i wx
    obtain ⟨hno, hB⟩ := hcut
    have hE := hEe.out.trans (escAt_hex hno)
    clear hx hno
    have H1 := Lib.hid (fun w => H.out i w (by have := hs.out; have := hi.out; omega))
    have H2 := Lib.hid (fun w => H.out (i + 6) w (by have := hs.out; have := hi.out; omega))
    clear H
    generalize hexAt s i = h at *
    generalize hexAt s (i + 6) = l at *
    obtain ⟨r, hr⟩ : ∃ r : Int, r = (h : Int) := ⟨_, rfl⟩
    obtain ⟨q, hq⟩ : ∃ q : Int, q = (l : Int) := ⟨_, rfl⟩
    have r0 : 0 ≤ r := by omega
    by_cases c1 : h < 65536
    · replace H1 : Hid (∀ w, Calls Tryd.prog 98 #[.string s, .int .i64 (i : Int)] w fun e w' => e = .returned (.int .i32 r) ∧ w = w') := Lib.hid (fun w => by have := H1.out w; rwa [if_pos c1, ← hr] at this)
      rw [if_neg (by omega)] at hE
      have c1' : r < 65536 := by omega
      replace c1 := Lib.hid c1
      by_cases c2 : h < 55296
      · have c2' : r < 55296 := by omega
        rw [if_pos (scalarN_iff.2 (Or.inl c2))] at hE
        have he := rEscV_ok (i := i) hE
        have hv : Hid (r.toNat = h) := Lib.hid (by omega)
        have C := Lib.hid (fun w => Encode_calls r w r0 (by omega))
        replace c2 := Lib.hid c2
        replace he := Lib.hid he
        replace hE := Lib.hid hE
        replace hr := Lib.hid hr
        replace hq := Lib.hid hq
        (go_wp2_with fail; repeat (any_goals (go_quiet (fail); go_wp2_with fail)))
        refine (H1.out _).mono ?_
        rintro e w1 ⟨rfl, rfl⟩
        (go_wp2_with fail; repeat (any_goals (go_quiet (fail); go_wp2_with fail)))
        refine (C.out _).mono ?_
        rintro e w2 ⟨rfl, hb⟩
        have hb2 := hB.trans (hb.mono hB.size)
        (go_wp2_with fail; repeat (any_goals (go_quiet (fail); go_wp2_with fail)))
        go_ret3
        exact ⟨by rw [he.out, hv.out]; rfl, hb2⟩
      · by_cases c3 : 57344 ≤ h
        · have c3' : 57344 ≤ r := by omega
          rw [if_pos (scalarN_iff.2 (Or.inr ⟨c3, by have := c1.out; omega⟩))] at hE
          have he := rEscV_ok (i := i) hE
          have hv : Hid (r.toNat = h) := Lib.hid (by omega)
          have C := Lib.hid (fun w => Encode_calls r w r0 (by omega))
          replace c2 := Lib.hid c2
          replace c3 := Lib.hid c3
          replace he := Lib.hid he
          replace hE := Lib.hid hE
          replace hr := Lib.hid hr
          replace hq := Lib.hid hq
          (go_wp2_with fail; repeat (any_goals (go_quiet (fail); go_wp2_with fail)))
          refine (H1.out _).mono ?_
          rintro e w1 ⟨rfl, rfl⟩
          (go_wp2_with fail; repeat (any_goals (go_quiet (fail); go_wp2_with fail)))
          refine (C.out _).mono ?_
          rintro e w2 ⟨rfl, hb⟩
          have hb2 := hB.trans (hb.mono hB.size)
          (go_wp2_with fail; repeat (any_goals (go_quiet (fail); go_wp2_with fail)))
          go_ret3
          exact ⟨by rw [he.out, hv.out]; rfl, hb2⟩
        · rw [if_neg (fun hx => by have := scalarN_iff.1 hx; omega)] at hE
          by_cases c4 : 56320 ≤ h
          · have c4' : 56320 ≤ r := by omega
            have c3' : r ≤ 57343 := by omega
            rw [if_neg (by omega)] at hE
            have he := rEscV_bad (i := i) hE
            replace c2 := Lib.hid c2
            replace c3 := Lib.hid c3
            replace c4 := Lib.hid c4
            replace he := Lib.hid he
            replace hE := Lib.hid hE
            replace hr := Lib.hid hr
            replace hq := Lib.hid hq
            (go_wp2_with fail; repeat (any_goals (go_quiet (fail); go_wp2_with fail)))
            refine (H1.out _).mono ?_
            rintro e w1 ⟨rfl, rfl⟩
            (go_wp2_with fail; repeat (any_goals (go_quiet (fail); go_wp2_with fail)))
            go_ret3
            exact ⟨by rw [he.out]; rfl, (by repeat (first | assumption | exact Below.refl _ _ | apply Below.drew | apply below_drewN | apply balloc | (refine Below.setCell ?_ (by first | omega | (simp <;> omega)) _)))⟩
          · have c4' : ¬ 56320 ≤ r := by omega
            have c2' : 55296 ≤ r := by omega
            have c3' : r ≤ 56319 := by omega
            by_cases c5 : 56320 ≤ l ∧ l ≤ 57343
            · obtain ⟨d1, d2⟩ := c5
              replace H2 : Hid (∀ w, Calls Tryd.prog 98 #[.string s, .int .i64 ((i : Int) + 6)] w fun e w' => e = .returned (.int .i32 q) ∧ w = w') := Lib.hid (fun w => by have := H2.out w; rwa [if_pos (show l < 65536 by omega), ← hq] at this)
              have d1' : 56320 ≤ q := by omega
              have d2' : q ≤ 57343 := by omega
              rw [if_pos ⟨by omega, d1, d2⟩] at hE
              have he := rEscV_ok (i := i) hE
              have hv : Hid ((65536 + (r - 55296) * 1024 + q - 56320).toNat = 65536 + (h - 55296) * 1024 + (l - 56320)) := Lib.hid (by omega)
              have C := Lib.hid (fun w => Encode_calls (65536 + (r - 55296) * 1024 + q - 56320) w (by omega) (by omega))
              replace c2 := Lib.hid c2
              replace c3 := Lib.hid c3
              replace c4 := Lib.hid c4
              replace d1 := Lib.hid d1
              replace d2 := Lib.hid d2
              replace he := Lib.hid he
              replace hE := Lib.hid hE
              replace hr := Lib.hid hr
              replace hq := Lib.hid hq
              (go_wp2_with fail; repeat (any_goals (go_quiet (fail); go_wp2_with fail)))
              refine (H1.out _).mono ?_
              rintro e w1 ⟨rfl, rfl⟩
              (go_wp2_with fail; repeat (any_goals (go_quiet (fail); go_wp2_with fail)))
              refine (H2.out _).mono ?_
              rintro e w1 ⟨rfl, rfl⟩
              (go_wp2_with fail; repeat (any_goals (go_quiet (fail); go_wp2_with fail)))
              refine (C.out _).mono ?_
              rintro e w2 ⟨rfl, hb⟩
              have hb2 := hB.trans (hb.mono hB.size)
              (go_wp2_with fail; repeat (any_goals (go_quiet (fail); go_wp2_with fail)))
              go_ret3
              exact ⟨by rw [he.out, hv.out]; rfl, hb2⟩
            · rw [if_neg (fun hx => c5 hx.2)] at hE
              have he := rEscV_bad (i := i) hE
              obtain ⟨q2, hq2⟩ : ∃ q2 : Int, q2 = if l < 65536 then (l : Int) else -1 := ⟨_, rfl⟩
              replace H2 : Hid (∀ w, Calls Tryd.prog 98 #[.string s, .int .i64 ((i : Int) + 6)] w fun e w' => e = .returned (.int .i32 q2) ∧ w = w') := Lib.hid (fun w => by have := H2.out w; rwa [← hq2] at this)
              have hcase : q2 < 56320 ∨ (56320 ≤ q2 ∧ 57343 < q2) := by
                rw [hq2]; split <;> omega
              replace hq2 := Lib.hid hq2
              replace c2 := Lib.hid c2
              replace c3 := Lib.hid c3
              replace c4 := Lib.hid c4
              replace c5 := Lib.hid c5
              replace he := Lib.hid he
              replace hE := Lib.hid hE
              replace hr := Lib.hid hr
              replace hq := Lib.hid hq
              rcases hcase with k1 | ⟨k1, k2⟩
              · (go_wp2_with fail; repeat (any_goals (go_quiet (fail); go_wp2_with fail)))
                refine (H1.out _).mono ?_
                rintro e w1 ⟨rfl, rfl⟩
                (go_wp2_with fail; repeat (any_goals (go_quiet (fail); go_wp2_with fail)))
                refine (H2.out _).mono ?_
                rintro e w1 ⟨rfl, rfl⟩
                (go_wp2_with fail; repeat (any_goals (go_quiet (fail); go_wp2_with fail)))
                go_ret3
                exact ⟨by rw [he.out]; rfl, (by repeat (first | assumption | exact Below.refl _ _ | apply Below.drew | apply below_drewN | apply balloc | (refine Below.setCell ?_ (by first | omega | (simp <;> omega)) _)))⟩
              · (go_wp2_with fail; repeat (any_goals (go_quiet (fail); go_wp2_with fail)))
                refine (H1.out _).mono ?_
                rintro e w1 ⟨rfl, rfl⟩
                (go_wp2_with fail; repeat (any_goals (go_quiet (fail); go_wp2_with fail)))
                refine (H2.out _).mono ?_
                rintro e w1 ⟨rfl, rfl⟩
                (go_wp2_with fail; repeat (any_goals (go_quiet (fail); go_wp2_with fail)))
                go_ret3
                exact ⟨by rw [he.out]; rfl, (by repeat (first | assumption | exact Below.refl _ _ | apply Below.drew | apply below_drewN | apply balloc | (refine Below.setCell ?_ (by first | omega | (simp <;> omega)) _)))⟩
    · replace H1 : Hid (∀ w, Calls Tryd.prog 98 #[.string s, .int .i64 (i : Int)] w fun e w' => e = .returned (.int .i32 (-1)) ∧ w = w') := Lib.hid (fun w => by have := H1.out w; rwa [if_neg c1] at this)
      rw [if_pos (by omega)] at hE
      have he := rEscV_bad (i := i) hE
      replace he := Lib.hid he
      replace hE := Lib.hid hE
      replace hr := Lib.hid hr
      replace hq := Lib.hid hq
      replace c1 := Lib.hid c1
      (go_wp2_with fail; repeat (any_goals (go_quiet (fail); go_wp2_with fail)))
      refine (H1.out _).mono ?_
      rintro e w1 ⟨rfl, rfl⟩
      (go_wp2_with fail; repeat (any_goals (go_quiet (fail); go_wp2_with fail)))
      go_ret3
      exact ⟨by rw [he.out]; rfl, (by repeat (first | assumption | exact Below.refl _ _ | apply Below.drew | apply below_drewN | apply balloc | (refine Below.setCell ?_ (by first | omega | (simp <;> omega)) _)))⟩

end Go.Proofs.YtnldhgkmbighkaaDoor
