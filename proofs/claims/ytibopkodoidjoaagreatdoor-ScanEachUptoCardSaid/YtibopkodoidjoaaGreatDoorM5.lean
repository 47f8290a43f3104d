/- Lemmas of the proof, put together: SRef4, Bytes, SRef5, SRef6, Utf, Loc, QuotePlain, Single. -/
import Derived.Test.YtibopkodoidjoaaGreatDoorM4
import Derived.Test.YtibopkodoidjoaaGreatDoorM1
import Derived.Lib.AppendStr
import Derived.Laws.BytesArg
import Derived.Test.YtibopkodoidjoaaGreatDoorM3
import Derived.Test.YtibopkodoidjoaaGreatDoorM2

/- The reference of chapter 17: escape. -/
namespace Go.Proofs.YtibopkodoidjoaaGreatDoor
open Go Go.RowKit

/-- What escape answers. -/
def rEscV (E : Nat × Nat × Nat) (i : Nat) : Value := if E.1 = 0 then .tuple #[.string (encS E.2.1), .int .i64 ((i + E.2.2 : Nat) : Int), .int .i64 0] else .tuple #[.string ⟨#[]⟩, .int .i64 0, .int .i64 (E.1 : Int)]
theorem rEscV_ok {E : Nat × Nat × Nat} {i x z : Nat} (h : E = (0, x, z)) : rEscV E i = .tuple #[.string (encS x), .int .i64 ((i + z : Nat) : Int), .int .i64 0] := by subst h; unfold rEscV; rw [if_pos rfl]
theorem rEscV_bad {E : Nat × Nat × Nat} {i k x z : Nat} (h : E = (k + 1, x, z)) : rEscV E i = .tuple #[.string ⟨#[]⟩, .int .i64 0, .int .i64 ((k + 1 : Nat) : Int)] := by subst h; unfold rEscV; rw [if_neg (by simp)]
def escNo (c : Nat) : Prop := c ≠ 34 ∧ c ≠ 92 ∧ c ≠ 47 ∧ c ≠ 98 ∧ c ≠ 102 ∧ c ≠ 110 ∧ c ≠ 114 ∧ c ≠ 116
theorem escAt_hex {s : ByteArray} {i : Nat} (h : escNo (bAt s (i + 1))) : escAt s i = if 65536 ≤ hexAt s i then (2, 0, 0)
  else if scalarN (hexAt s i) = true then (0, hexAt s i, 6)
  else if hexAt s i < 56320 ∧ 56320 ≤ hexAt s (i + 6) ∧ hexAt s (i + 6) ≤ 57343 then (0, 65536 + (hexAt s i - 55296) * 1024 + (hexAt s (i + 6) - 56320), 12)
  else (1, 0, 0) := by
  obtain ⟨h1, h2, h3, h4, h5, h6, h7, h8⟩ := h
  unfold escAt
  simp only
  rw [if_neg (by omega), if_neg h4, if_neg h5, if_neg h6, if_neg h7, if_neg h8]
theorem esc34 {s : ByteArray} {i : Nat} (h : bAt s (i + 1) = 34) : escAt s i = (0, 34, 2) := by unfold escAt; simp only; rw [h]; rfl
theorem esc92 {s : ByteArray} {i : Nat} (h : bAt s (i + 1) = 92) : escAt s i = (0, 92, 2) := by unfold escAt; simp only; rw [h]; rfl
theorem esc47 {s : ByteArray} {i : Nat} (h : bAt s (i + 1) = 47) : escAt s i = (0, 47, 2) := by unfold escAt; simp only; rw [h]; rfl
theorem esc98 {s : ByteArray} {i : Nat} (h : bAt s (i + 1) = 98) : escAt s i = (0, 8, 2) := by unfold escAt; simp only; rw [h]; rfl
theorem esc102 {s : ByteArray} {i : Nat} (h : bAt s (i + 1) = 102) : escAt s i = (0, 12, 2) := by unfold escAt; simp only; rw [h]; rfl
theorem esc110 {s : ByteArray} {i : Nat} (h : bAt s (i + 1) = 110) : escAt s i = (0, 10, 2) := by unfold escAt; simp only; rw [h]; rfl
theorem esc114 {s : ByteArray} {i : Nat} (h : bAt s (i + 1) = 114) : escAt s i = (0, 13, 2) := by unfold escAt; simp only; rw [h]; rfl
theorem esc116 {s : ByteArray} {i : Nat} (h : bAt s (i + 1) = 116) : escAt s i = (0, 9, 2) := by unfold escAt; simp only; rw [h]; rfl
theorem rHex_calls2 (s : ByteArray) (i : Nat) (w : World) (hs : s.size ≤ 140737488351232) (hi : i ≤ 140737488351300) :
    Calls Tryz.prog 116 #[.string s, .int .i64 (i : Int)] w fun e w' => e = .returned (.int .i32 (if hexAt s i < 65536 then (hexAt s i : Int) else -1)) ∧ w = w' := by
  refine (rHex_calls s i w hs hi).mono fun e w' ⟨h1, h2⟩ => ⟨?_, h2⟩
  rw [h1, rHexV]
  split <;> rfl
/-- The letters, by place. -/
def escF (j : Nat) : Nat := match j with | 0 => 34 | 1 => 92 | 2 => 47 | 3 => 98 | 4 => 102 | 5 => 110 | 6 => 114 | _ => 116
set_option maxHeartbeats 4000000 in
set_option maxRecDepth 100000 in
theorem rEscape_calls (s : ByteArray) (i : Nat) (w : World) (hs : s.size ≤ 140737488351232) (hi : i < s.size) :
    Calls Tryz.prog 95 #[.string s, .int .i64 (i : Int)] w fun e w' => e = .returned (rEscV (escAt s i) i) ∧ Below w.heap.size w w' := by
  have hs' : (s.size : Int) ≤ 140737488351232 := by omega
  have hi' : (i : Int) < (s.size : Int) := by omega
  have hx := byte_at s (i + 1)
  have H := Lib.hid (fun i w hi => rHex_calls2 s i w hs hi)
  obtain ⟨E, hEe⟩ : ∃ E, E = escAt s i := ⟨_, rfl⟩
  rw [← hEe]
  replace hEe := Lib.hid hEe
  replace hs := Lib.hid hs
  replace hi := Lib.hid hi
  go_enter Tryz.func95, Tryz.ntmps95
  go_upto_if 16 with fail
  go_cut [] (fun wx => escNo (bAt s (i + 1)) ∧ Below w.heap.size w wx)
  case first =>
    by_cases h1 : i + 1 < s.size
    · have h1' : (i : Int) + 1 < (s.size : Int) := by omega
      replace h1 := Lib.hid h1
      go_wp2_with fail
      go_loopw [9] (fun v wr => ∃ k : Nat, k ≤ 8 ∧ v = .int .i64 (k : Int) ∧ Hid (∀ j, j < k → bAt s (i + 1) ≠ escF j) ∧ Below w.heap.size w wr) (fun v _ => 8 - (intOf v).toNat)
      case atStart => exact ⟨0, by decide, rfl, Lib.hid (fun j hj => by omega), (by repeat (first | assumption | exact Below.refl _ _ | apply Below.drew | apply below_drewN | apply balloc | (refine Below.setCell ?_ (by first | omega | (simp <;> omega)) _)))⟩
      case round =>
        obtain ⟨k, hk, rfl, hno, hB⟩ := hrel
        rcases (show k = 0 ∨ k = 1 ∨ k = 2 ∨ k = 3 ∨ k = 4 ∨ k = 5 ∨ k = 6 ∨ k = 7 ∨ k = 8 by omega) with rfl | rfl | rfl | rfl | rfl | rfl | rfl | rfl | rfl
        · have hv : ∀ h, (((⟨#[34, 92, 47, 98, 102, 110, 114, 116]⟩ : ByteArray)[0]'h).toNat : Int) = 34 := fun _ => rfl
          by_cases hm : bAt s (i + 1) = 34
          · have hm' : ((bAt s (i + 1) : Int) == 34) = true := by simp; omega
            have he := rEscV_ok (i := i) (hEe.out.trans (esc34 hm))
            replace hm := Lib.hid hm
            replace he := Lib.hid he
            (go_wp2_with fail; repeat (any_goals (go_quiet (fail); go_wp2_with fail)))
            go_ret3
            exact ⟨by rw [he.out]; rfl, (by repeat (first | assumption | exact Below.refl _ _ | apply Below.drew | apply below_drewN | apply balloc | (refine Below.setCell ?_ (by first | omega | (simp <;> omega)) _)))⟩
          · have hm' : ((bAt s (i + 1) : Int) == 34) = false := by simp; omega
            replace hm := Lib.hid hm
            (go_wp2_with fail; repeat (any_goals (go_quiet (fail); go_wp2_with fail)))
            go_roundw
            case rel => exact ⟨0 + 1, by omega, rfl, Lib.hid (fun j hj => by
              rcases (show j < 0 ∨ j = 0 by omega) with h | h
              · exact hno.out j h
              · subst h; exact hm.out), (by repeat (first | assumption | exact Below.refl _ _ | apply Below.drew | apply below_drewN | apply balloc | (refine Below.setCell ?_ (by first | omega | (simp <;> omega)) _)))⟩
            case measure => simp [intOf]
        · have hv : ∀ h, (((⟨#[34, 92, 47, 98, 102, 110, 114, 116]⟩ : ByteArray)[1]'h).toNat : Int) = 92 := fun _ => rfl
          by_cases hm : bAt s (i + 1) = 92
          · have hm' : ((bAt s (i + 1) : Int) == 92) = true := by simp; omega
            have he := rEscV_ok (i := i) (hEe.out.trans (esc92 hm))
            replace hm := Lib.hid hm
            replace he := Lib.hid he
            (go_wp2_with fail; repeat (any_goals (go_quiet (fail); go_wp2_with fail)))
            go_ret3
            exact ⟨by rw [he.out]; rfl, (by repeat (first | assumption | exact Below.refl _ _ | apply Below.drew | apply below_drewN | apply balloc | (refine Below.setCell ?_ (by first | omega | (simp <;> omega)) _)))⟩
          · have hm' : ((bAt s (i + 1) : Int) == 92) = false := by simp; omega
            replace hm := Lib.hid hm
            (go_wp2_with fail; repeat (any_goals (go_quiet (fail); go_wp2_with fail)))
            go_roundw
            case rel => exact ⟨1 + 1, by omega, rfl, Lib.hid (fun j hj => by
              rcases (show j < 1 ∨ j = 1 by omega) with h | h
              · exact hno.out j h
              · subst h; exact hm.out), (by repeat (first | assumption | exact Below.refl _ _ | apply Below.drew | apply below_drewN | apply balloc | (refine Below.setCell ?_ (by first | omega | (simp <;> omega)) _)))⟩
            case measure => simp [intOf]
        · have hv : ∀ h, (((⟨#[34, 92, 47, 98, 102, 110, 114, 116]⟩ : ByteArray)[2]'h).toNat : Int) = 47 := fun _ => rfl
          by_cases hm : bAt s (i + 1) = 47
          · have hm' : ((bAt s (i + 1) : Int) == 47) = true := by simp; omega
            have he := rEscV_ok (i := i) (hEe.out.trans (esc47 hm))
            replace hm := Lib.hid hm
            replace he := Lib.hid he
            (go_wp2_with fail; repeat (any_goals (go_quiet (fail); go_wp2_with fail)))
            go_ret3
            exact ⟨by rw [he.out]; rfl, (by repeat (first | assumption | exact Below.refl _ _ | apply Below.drew | apply below_drewN | apply balloc | (refine Below.setCell ?_ (by first | omega | (simp <;> omega)) _)))⟩
          · have hm' : ((bAt s (i + 1) : Int) == 47) = false := by simp; omega
            replace hm := Lib.hid hm
            (go_wp2_with fail; repeat (any_goals (go_quiet (fail); go_wp2_with fail)))
            go_roundw
            case rel => exact ⟨2 + 1, by omega, rfl, Lib.hid (fun j hj => by
              rcases (show j < 2 ∨ j = 2 by omega) with h | h
              · exact hno.out j h
              · subst h; exact hm.out), (by repeat (first | assumption | exact Below.refl _ _ | apply Below.drew | apply below_drewN | apply balloc | (refine Below.setCell ?_ (by first | omega | (simp <;> omega)) _)))⟩
            case measure => simp [intOf]
        · have hv : ∀ h, (((⟨#[34, 92, 47, 98, 102, 110, 114, 116]⟩ : ByteArray)[3]'h).toNat : Int) = 98 := fun _ => rfl
          by_cases hm : bAt s (i + 1) = 98
          · have hm' : ((bAt s (i + 1) : Int) == 98) = true := by simp; omega
            have he := rEscV_ok (i := i) (hEe.out.trans (esc98 hm))
            replace hm := Lib.hid hm
            replace he := Lib.hid he
            (go_wp2_with fail; repeat (any_goals (go_quiet (fail); go_wp2_with fail)))
            go_ret3
            exact ⟨by rw [he.out]; rfl, (by repeat (first | assumption | exact Below.refl _ _ | apply Below.drew | apply below_drewN | apply balloc | (refine Below.setCell ?_ (by first | omega | (simp <;> omega)) _)))⟩
          · have hm' : ((bAt s (i + 1) : Int) == 98) = false := by simp; omega
            replace hm := Lib.hid hm
            (go_wp2_with fail; repeat (any_goals (go_quiet (fail); go_wp2_with fail)))
            go_roundw
            case rel => exact ⟨3 + 1, by omega, rfl, Lib.hid (fun j hj => by
              rcases (show j < 3 ∨ j = 3 by omega) with h | h
              · exact hno.out j h
              · subst h; exact hm.out), (by repeat (first | assumption | exact Below.refl _ _ | apply Below.drew | apply below_drewN | apply balloc | (refine Below.setCell ?_ (by first | omega | (simp <;> omega)) _)))⟩
            case measure => simp [intOf]
        · have hv : ∀ h, (((⟨#[34, 92, 47, 98, 102, 110, 114, 116]⟩ : ByteArray)[4]'h).toNat : Int) = 102 := fun _ => rfl
          by_cases hm : bAt s (i + 1) = 102
          · have hm' : ((bAt s (i + 1) : Int) == 102) = true := by simp; omega
            have he := rEscV_ok (i := i) (hEe.out.trans (esc102 hm))
            replace hm := Lib.hid hm
            replace he := Lib.hid he
            (go_wp2_with fail; repeat (any_goals (go_quiet (fail); go_wp2_with fail)))
            go_ret3
            exact ⟨by rw [he.out]; rfl, (by repeat (first | assumption | exact Below.refl _ _ | apply Below.drew | apply below_drewN | apply balloc | (refine Below.setCell ?_ (by first | omega | (simp <;> omega)) _)))⟩
          · have hm' : ((bAt s (i + 1) : Int) == 102) = false := by simp; omega
            replace hm := Lib.hid hm
            (go_wp2_with fail; repeat (any_goals (go_quiet (fail); go_wp2_with fail)))
            go_roundw
            case rel => exact ⟨4 + 1, by omega, rfl, Lib.hid (fun j hj => by
              rcases (show j < 4 ∨ j = 4 by omega) with h | h
              · exact hno.out j h
              · subst h; exact hm.out), (by repeat (first | assumption | exact Below.refl _ _ | apply Below.drew | apply below_drewN | apply balloc | (refine Below.setCell ?_ (by first | omega | (simp <;> omega)) _)))⟩
            case measure => simp [intOf]
        · have hv : ∀ h, (((⟨#[34, 92, 47, 98, 102, 110, 114, 116]⟩ : ByteArray)[5]'h).toNat : Int) = 110 := fun _ => rfl
          by_cases hm : bAt s (i + 1) = 110
          · have hm' : ((bAt s (i + 1) : Int) == 110) = true := by simp; omega
            have he := rEscV_ok (i := i) (hEe.out.trans (esc110 hm))
            replace hm := Lib.hid hm
            replace he := Lib.hid he
            (go_wp2_with fail; repeat (any_goals (go_quiet (fail); go_wp2_with fail)))
            go_ret3
            exact ⟨by rw [he.out]; rfl, (by repeat (first | assumption | exact Below.refl _ _ | apply Below.drew | apply below_drewN | apply balloc | (refine Below.setCell ?_ (by first | omega | (simp <;> omega)) _)))⟩
          · have hm' : ((bAt s (i + 1) : Int) == 110) = false := by simp; omega
            replace hm := Lib.hid hm
            (go_wp2_with fail; repeat (any_goals (go_quiet (fail); go_wp2_with fail)))
            go_roundw
            case rel => exact ⟨5 + 1, by omega, rfl, Lib.hid (fun j hj => by
              rcases (show j < 5 ∨ j = 5 by omega) with h | h
              · exact hno.out j h
              · subst h; exact hm.out), (by repeat (first | assumption | exact Below.refl _ _ | apply Below.drew | apply below_drewN | apply balloc | (refine Below.setCell ?_ (by first | omega | (simp <;> omega)) _)))⟩
            case measure => simp [intOf]
        · have hv : ∀ h, (((⟨#[34, 92, 47, 98, 102, 110, 114, 116]⟩ : ByteArray)[6]'h).toNat : Int) = 114 := fun _ => rfl
          by_cases hm : bAt s (i + 1) = 114
          · have hm' : ((bAt s (i + 1) : Int) == 114) = true := by simp; omega
            have he := rEscV_ok (i := i) (hEe.out.trans (esc114 hm))
            replace hm := Lib.hid hm
            replace he := Lib.hid he
            (go_wp2_with fail; repeat (any_goals (go_quiet (fail); go_wp2_with fail)))
            go_ret3
            exact ⟨by rw [he.out]; rfl, (by repeat (first | assumption | exact Below.refl _ _ | apply Below.drew | apply below_drewN | apply balloc | (refine Below.setCell ?_ (by first | omega | (simp <;> omega)) _)))⟩
          · have hm' : ((bAt s (i + 1) : Int) == 114) = false := by simp; omega
            replace hm := Lib.hid hm
            (go_wp2_with fail; repeat (any_goals (go_quiet (fail); go_wp2_with fail)))
            go_roundw
            case rel => exact ⟨6 + 1, by omega, rfl, Lib.hid (fun j hj => by
              rcases (show j < 6 ∨ j = 6 by omega) with h | h
              · exact hno.out j h
              · subst h; exact hm.out), (by repeat (first | assumption | exact Below.refl _ _ | apply Below.drew | apply below_drewN | apply balloc | (refine Below.setCell ?_ (by first | omega | (simp <;> omega)) _)))⟩
            case measure => simp [intOf]
        · have hv : ∀ h, (((⟨#[34, 92, 47, 98, 102, 110, 114, 116]⟩ : ByteArray)[7]'h).toNat : Int) = 116 := fun _ => rfl
          by_cases hm : bAt s (i + 1) = 116
          · have hm' : ((bAt s (i + 1) : Int) == 116) = true := by simp; omega
            have he := rEscV_ok (i := i) (hEe.out.trans (esc116 hm))
            replace hm := Lib.hid hm
            replace he := Lib.hid he
            (go_wp2_with fail; repeat (any_goals (go_quiet (fail); go_wp2_with fail)))
            go_ret3
            exact ⟨by rw [he.out]; rfl, (by repeat (first | assumption | exact Below.refl _ _ | apply Below.drew | apply below_drewN | apply balloc | (refine Below.setCell ?_ (by first | omega | (simp <;> omega)) _)))⟩
          · have hm' : ((bAt s (i + 1) : Int) == 116) = false := by simp; omega
            replace hm := Lib.hid hm
            (go_wp2_with fail; repeat (any_goals (go_quiet (fail); go_wp2_with fail)))
            go_roundw
            case rel => exact ⟨7 + 1, by omega, rfl, Lib.hid (fun j hj => by
              rcases (show j < 7 ∨ j = 7 by omega) with h | h
              · exact hno.out j h
              · subst h; exact hm.out), (by repeat (first | assumption | exact Below.refl _ _ | apply Below.drew | apply below_drewN | apply balloc | (refine Below.setCell ?_ (by first | omega | (simp <;> omega)) _)))⟩
            case measure => simp [intOf]
        · (go_wp2_with fail; repeat (any_goals (go_quiet (fail); go_wp2_with fail)))
          go_meet
          have h := hno.out
          exact ⟨⟨h 0 (by omega), h 1 (by omega), h 2 (by omega), h 3 (by omega), h 4 (by omega), h 5 (by omega), h 6 (by omega), h 7 (by omega)⟩, (by repeat (first | assumption | exact Below.refl _ _ | apply Below.drew | apply below_drewN | apply balloc | (refine Below.setCell ?_ (by first | omega | (simp <;> omega)) _)))⟩
    · have h1' : ¬ (i : Int) + 1 < (s.size : Int) := by omega
      have h0 : bAt s (i + 1) = 0 := bAt_ge s (i + 1) (by omega)
      replace h1 := Lib.hid h1
      replace h0 := Lib.hid h0
      go_wp2_with fail
      go_meet
      exact ⟨by rw [h0.out]; unfold escNo; decide, (by repeat (first | assumption | exact Below.refl _ _ | apply Below.drew | apply below_drewN | apply balloc | (refine Below.setCell ?_ (by first | omega | (simp <;> omega)) _)))⟩
  case rest =>
    rename_i wx
    obtain ⟨hno, hB⟩ := hcut
    have hE := hEe.out.trans (escAt_hex hno)
    clear hx hno
    have H1 := Lib.hid (fun w => H.out i w (by have := hs.out; have := hi.out; omega))
    have H2 := Lib.hid (fun w => H.out (i + 6) w (by have := hs.out; have := hi.out; omega))
    clear H
    generalize hexAt s i = h at *
    generalize hexAt s (i + 6) = l at *
    obtain ⟨r, hr⟩ : ∃ r : Int, r = (h : Int) := ⟨_, rfl⟩
    obtain ⟨q, hq⟩ : ∃ q : Int, q = (l : Int) := ⟨_, rfl⟩
    have r0 : 0 ≤ r := by omega
    by_cases c1 : h < 65536
    · replace H1 : Hid (∀ w, Calls Tryz.prog 116 #[.string s, .int .i64 (i : Int)] w fun e w' => e = .returned (.int .i32 r) ∧ w = w') := Lib.hid (fun w => by have := H1.out w; rwa [if_pos c1, ← hr] at this)
      rw [if_neg (by omega)] at hE
      have c1' : r < 65536 := by omega
      replace c1 := Lib.hid c1
      by_cases c2 : h < 55296
      · have c2' : r < 55296 := by omega
        rw [if_pos (scalarN_iff.2 (Or.inl c2))] at hE
        have he := rEscV_ok (i := i) hE
        have hv : Hid (r.toNat = h) := Lib.hid (by omega)
        have C := Lib.hid (fun w => Encode_calls r w r0 (by omega))
        replace c2 := Lib.hid c2
        replace he := Lib.hid he
        replace hE := Lib.hid hE
        replace hr := Lib.hid hr
        replace hq := Lib.hid hq
        (go_wp2_with fail; repeat (any_goals (go_quiet (fail); go_wp2_with fail)))
        refine (H1.out _).mono ?_
        rintro e w1 ⟨rfl, rfl⟩
        (go_wp2_with fail; repeat (any_goals (go_quiet (fail); go_wp2_with fail)))
        refine (C.out _).mono ?_
        rintro e w2 ⟨rfl, hb⟩
        have hb2 := hB.trans (hb.mono hB.size)
        (go_wp2_with fail; repeat (any_goals (go_quiet (fail); go_wp2_with fail)))
        go_ret3
        exact ⟨by rw [he.out, hv.out]; rfl, hb2⟩
      · by_cases c3 : 57344 ≤ h
        · have c3' : 57344 ≤ r := by omega
          rw [if_pos (scalarN_iff.2 (Or.inr ⟨c3, by have := c1.out; omega⟩))] at hE
          have he := rEscV_ok (i := i) hE
          have hv : Hid (r.toNat = h) := Lib.hid (by omega)
          have C := Lib.hid (fun w => Encode_calls r w r0 (by omega))
          replace c2 := Lib.hid c2
          replace c3 := Lib.hid c3
          replace he := Lib.hid he
          replace hE := Lib.hid hE
          replace hr := Lib.hid hr
          replace hq := Lib.hid hq
          (go_wp2_with fail; repeat (any_goals (go_quiet (fail); go_wp2_with fail)))
          refine (H1.out _).mono ?_
          rintro e w1 ⟨rfl, rfl⟩
          (go_wp2_with fail; repeat (any_goals (go_quiet (fail); go_wp2_with fail)))
          refine (C.out _).mono ?_
          rintro e w2 ⟨rfl, hb⟩
          have hb2 := hB.trans (hb.mono hB.size)
          (go_wp2_with fail; repeat (any_goals (go_quiet (fail); go_wp2_with fail)))
          go_ret3
          exact ⟨by rw [he.out, hv.out]; rfl, hb2⟩
        · rw [if_neg (fun hx => by have := scalarN_iff.1 hx; omega)] at hE
          by_cases c4 : 56320 ≤ h
          · have c4' : 56320 ≤ r := by omega
            have c3' : r ≤ 57343 := by omega
            rw [if_neg (by omega)] at hE
            have he := rEscV_bad (i := i) hE
            replace c2 := Lib.hid c2
            replace c3 := Lib.hid c3
            replace c4 := Lib.hid c4
            replace he := Lib.hid he
            replace hE := Lib.hid hE
            replace hr := Lib.hid hr
            replace hq := Lib.hid hq
            (go_wp2_with fail; repeat (any_goals (go_quiet (fail); go_wp2_with fail)))
            refine (H1.out _).mono ?_
            rintro e w1 ⟨rfl, rfl⟩
            (go_wp2_with fail; repeat (any_goals (go_quiet (fail); go_wp2_with fail)))
            go_ret3
            exact ⟨by rw [he.out]; rfl, (by repeat (first | assumption | exact Below.refl _ _ | apply Below.drew | apply below_drewN | apply balloc | (refine Below.setCell ?_ (by first | omega | (simp <;> omega)) _)))⟩
          · have c4' : ¬ 56320 ≤ r := by omega
            have c2' : 55296 ≤ r := by omega
            have c3' : r ≤ 56319 := by omega
            by_cases c5 : 56320 ≤ l ∧ l ≤ 57343
            · obtain ⟨d1, d2⟩ := c5
              replace H2 : Hid (∀ w, Calls Tryz.prog 116 #[.string s, .int .i64 ((i : Int) + 6)] w fun e w' => e = .returned (.int .i32 q) ∧ w = w') := Lib.hid (fun w => by have := H2.out w; rwa [if_pos (show l < 65536 by omega), ← hq] at this)
              have d1' : 56320 ≤ q := by omega
              have d2' : q ≤ 57343 := by omega
              rw [if_pos ⟨by omega, d1, d2⟩] at hE
              have he := rEscV_ok (i := i) hE
              have hv : Hid ((65536 + (r - 55296) * 1024 + q - 56320).toNat = 65536 + (h - 55296) * 1024 + (l - 56320)) := Lib.hid (by omega)
              have C := Lib.hid (fun w => Encode_calls (65536 + (r - 55296) * 1024 + q - 56320) w (by omega) (by omega))
              replace c2 := Lib.hid c2
              replace c3 := Lib.hid c3
              replace c4 := Lib.hid c4
              replace d1 := Lib.hid d1
              replace d2 := Lib.hid d2
              replace he := Lib.hid he
              replace hE := Lib.hid hE
              replace hr := Lib.hid hr
              replace hq := Lib.hid hq
              (go_wp2_with fail; repeat (any_goals (go_quiet (fail); go_wp2_with fail)))
              refine (H1.out _).mono ?_
              rintro e w1 ⟨rfl, rfl⟩
              (go_wp2_with fail; repeat (any_goals (go_quiet (fail); go_wp2_with fail)))
              refine (H2.out _).mono ?_
              rintro e w1 ⟨rfl, rfl⟩
              (go_wp2_with fail; repeat (any_goals (go_quiet (fail); go_wp2_with fail)))
              refine (C.out _).mono ?_
              rintro e w2 ⟨rfl, hb⟩
              have hb2 := hB.trans (hb.mono hB.size)
              (go_wp2_with fail; repeat (any_goals (go_quiet (fail); go_wp2_with fail)))
              go_ret3
              exact ⟨by rw [he.out, hv.out]; rfl, hb2⟩
            · rw [if_neg (fun hx => c5 hx.2)] at hE
              have he := rEscV_bad (i := i) hE
              obtain ⟨q2, hq2⟩ : ∃ q2 : Int, q2 = if l < 65536 then (l : Int) else -1 := ⟨_, rfl⟩
              replace H2 : Hid (∀ w, Calls Tryz.prog 116 #[.string s, .int .i64 ((i : Int) + 6)] w fun e w' => e = .returned (.int .i32 q2) ∧ w = w') := Lib.hid (fun w => by have := H2.out w; rwa [← hq2] at this)
              have hcase : q2 < 56320 ∨ (56320 ≤ q2 ∧ 57343 < q2) := by
                rw [hq2]; split <;> omega
              replace hq2 := Lib.hid hq2
              replace c2 := Lib.hid c2
              replace c3 := Lib.hid c3
              replace c4 := Lib.hid c4
              replace c5 := Lib.hid c5
              replace he := Lib.hid he
              replace hE := Lib.hid hE
              replace hr := Lib.hid hr
              replace hq := Lib.hid hq
              rcases hcase with k1 | ⟨k1, k2⟩
              · (go_wp2_with fail; repeat (any_goals (go_quiet (fail); go_wp2_with fail)))
                refine (H1.out _).mono ?_
                rintro e w1 ⟨rfl, rfl⟩
                (go_wp2_with fail; repeat (any_goals (go_quiet (fail); go_wp2_with fail)))
                refine (H2.out _).mono ?_
                rintro e w1 ⟨rfl, rfl⟩
                (go_wp2_with fail; repeat (any_goals (go_quiet (fail); go_wp2_with fail)))
                go_ret3
                exact ⟨by rw [he.out]; rfl, (by repeat (first | assumption | exact Below.refl _ _ | apply Below.drew | apply below_drewN | apply balloc | (refine Below.setCell ?_ (by first | omega | (simp <;> omega)) _)))⟩
              · (go_wp2_with fail; repeat (any_goals (go_quiet (fail); go_wp2_with fail)))
                refine (H1.out _).mono ?_
                rintro e w1 ⟨rfl, rfl⟩
                (go_wp2_with fail; repeat (any_goals (go_quiet (fail); go_wp2_with fail)))
                refine (H2.out _).mono ?_
                rintro e w1 ⟨rfl, rfl⟩
                (go_wp2_with fail; repeat (any_goals (go_quiet (fail); go_wp2_with fail)))
                go_ret3
                exact ⟨by rw [he.out]; rfl, (by repeat (first | assumption | exact Below.refl _ _ | apply Below.drew | apply below_drewN | apply balloc | (refine Below.setCell ?_ (by first | omega | (simp <;> omega)) _)))⟩
    · replace H1 : Hid (∀ w, Calls Tryz.prog 116 #[.string s, .int .i64 (i : Int)] w fun e w' => e = .returned (.int .i32 (-1)) ∧ w = w') := Lib.hid (fun w => by have := H1.out w; rwa [if_neg c1] at this)
      rw [if_pos (by omega)] at hE
      have he := rEscV_bad (i := i) hE
      replace he := Lib.hid he
      replace hE := Lib.hid hE
      replace hr := Lib.hid hr
      replace hq := Lib.hid hq
      replace c1 := Lib.hid c1
      (go_wp2_with fail; repeat (any_goals (go_quiet (fail); go_wp2_with fail)))
      refine (H1.out _).mono ?_
      rintro e w1 ⟨rfl, rfl⟩
      (go_wp2_with fail; repeat (any_goals (go_quiet (fail); go_wp2_with fail)))
      go_ret3
      exact ⟨by rw [he.out]; rfl, (by repeat (first | assumption | exact Below.refl _ _ | apply Below.drew | apply below_drewN | apply balloc | (refine Below.setCell ?_ (by first | omega | (simp <;> omega)) _)))⟩

end Go.Proofs.YtibopkodoidjoaaGreatDoor

/- Lists of bytes that a call makes: append and string(..). -/
namespace Go.Proofs.YtibopkodoidjoaaGreatDoor
open Go Go.RowKit

def u8c (l : List UInt8) : List Value := l.map fun b => Value.int .u8 (b.toNat : Int)
theorem u8c_append (l m : List UInt8) : u8c (l ++ m) = u8c l ++ u8c m := List.map_append
theorem u8c_len (l : List UInt8) : (u8c l).length = l.length := List.length_map ..
/-- v is a list of bytes of the call's own, in a block from base on. -/
def OwnB (w : World) (base : Nat) (v : Value) (l : List UInt8) : Prop := w.ownsRow base 5 1 v l.length (u8c l)
theorem OwnB.nil (w : World) (base : Nat) : OwnB w base (.slice none 0 0) [] := World.ownsRow_nil _ _ _ _
theorem OwnB.next {w w' : World} {base : Nat} {v : Value} {l : List UInt8} (h : OwnB w base v l) (hb : Below w.heap.size w w') : OwnB w' base v l := own_next h hb
theorem OwnB.lit {w : World} {base : Nat} (l : List UInt8) (cs : Array Value) (hcs : cs = (u8c l).toArray) (hb : base ≤ w.heap.size) (hm : l.length ≤ maxLen) {k c : Nat} (hk : k = l.length) (hc : c = l.length) : OwnB (w.alloc (.cells cs 5 (0, 0))) base (.slice (some ⟨w.heap.size, 0, none⟩) k c) l := by
  subst hcs hk hc
  refine ⟨by rw [u8c_len]; omega, Or.inr ⟨w.heap.size, l.length, (u8c l).toArray, rfl, hb, heap_alloc_new w _, Nat.le_refl _, hm, by simp [u8c], ?_⟩⟩
  rw [Nat.mul_one]
  exact List.take_of_length_le (by simp [u8c])
theorem OwnB.lt {w : World} {base : Nat} {v : Value} {l : List UInt8} (h : OwnB w base v l) : ∀ k, v.ownBlock = some k → base ≤ k := fun k hk => (World.ownsRow.lt h k hk).1
theorem infoU8 : (Tryz.prog.info? 5).map (fun i => (i.zero, i.size, i.bytes)) = some (some (.int .u8 0), 1, 1) := by kernel_rfl
section
variable {ops : Array Oper} {rest : List Oper} {o : Oper} {a : Act} {Q : Exit → Act → World → Prop} {w : World}
/-- append(b, s...) of a text. -/
theorem app_str (hgd : o.guard = none) (sl x : Operand) (ho : o.op = .call { callee := .builtin .append, args := #[sl, x], argTypes := #[104, 9] }) (base : Nat) (v : Value) (l : List UInt8) (hs : a.eval sl = v) (hown : OwnB w base v l)
    (s : ByteArray) (hx : a.eval x = .string s) (hlen : l.length + s.size ≤ 140737488355328) (hbase : base ≤ w.heap.size)
    (h : ∀ v' w', OwnB w' base v' (l ++ s.data.toList) → w.grownBy w' v.ownBlock → wpList Tryz.prog ops Q rest (a.put o.dst v') w') : wpList Tryz.prog ops Q (o :: rest) a w := by
  obtain ⟨i0, hi, hi2⟩ := Option.map_eq_some_iff.1 infoU8
  simp only [Prod.mk.injEq] at hi2
  refine Lib.wpList_append_own_string _ hgd sl x 104 9 ho base 5 i0 Tryz.underlying104 Tryz.underlying9 hi hi2.1 hi2.2.1 hi2.2.2 v l.length (u8c l) hs hown s hx (by unfold maxLen; omega) hlen hbase ?_
  intro v' w' h1 h2 _
  refine h v' w' ?_ h2
  unfold OwnB
  rw [u8c_append, List.length_append]
  have : s.data.toList.length = s.size := by rw [Array.length_toList]; rfl
  rw [this]
  exact h1
/-- append(b, c, ..): the new bytes lie in a block of their own. -/
theorem app_lit (hgd : o.guard = none) (sl x : Operand) (ho : o.op = .call { callee := .builtin .append, args := #[sl, x], argTypes := #[104, 104] }) (base : Nat) (v : Value) (l : List UInt8) (hs : a.eval sl = v) (hown : OwnB w base v l)
    (g k c : Nat) (cs : Array Value) (t : TypeId) (fr : Nat × Nat) (news : List UInt8) (hx : a.eval x = .slice (some ⟨g, 0, none⟩) k c) (hg : w.heap[g]? = some (.cells cs t fr)) (hcs : cs = (u8c news).toArray) (hk : news.length = k)
    (hlen : l.length + k ≤ 140737488355328) (hbase : base ≤ w.heap.size)
    (h : ∀ v' w', OwnB w' base v' (l ++ news) → w.grownBy w' v.ownBlock → wpList Tryz.prog ops Q rest (a.put o.dst v') w') : wpList Tryz.prog ops Q (o :: rest) a w := by
  obtain ⟨i0, hi, hi2⟩ := Option.map_eq_some_iff.1 infoU8
  simp only [Prod.mk.injEq] at hi2
  refine wpList_append_own _ hgd sl x 104 ho base 5 i0 (.int .u8 0) 1 1 Tryz.underlying104 hi hi2.1 hi2.2.1 hi2.2.2 rfl (by decide) v l.length (u8c l) hs hown ⟨g, 0, none⟩ k c (u8c news) hx (by rw [u8c_len]; omega) ?_ ?_ (by unfold maxLen; omega) (by omega) hbase ?_
  · intro j u hj
    have : (⟨g, 0, none⟩ : Addr).add j = ⟨g, j, none⟩ := by simp only [Addr.add, Nat.zero_add]; split <;> simp_all
    rw [this]
    refine cellB hg j ?_
    rw [hcs, List.getElem?_toArray]
    exact hj
  · intro u hu
    obtain ⟨b, _, rfl⟩ := List.mem_map.1 hu
    rfl
  · intro v' w' h1 h2 _
    refine h v' w' ?_ h2
    unfold OwnB
    rw [u8c_append, List.length_append, hk]
    exact h1
end
theorem conv_own {w : World} {base : Nat} {v : Value} {l : List UInt8} (h : OwnB w base v l) : (convert 104 9 v).run Tryz.prog w = .ok (.string ⟨l.toArray⟩) w := by
  obtain ⟨h1, ⟨rfl, h3⟩ | ⟨g, cap, cur, rfl, hbg, hg, hn, hc, hz, ht⟩⟩ := h
  · have : l = [] := List.eq_nil_of_length_eq_zero h3
    subst this
    exact run_convert_bytes_nil w _ 5 Tryz.underlying104 Tryz.underlying5 0 0 _ Tryz.underlying9
  · have := run_convert_bytes_arg w 104 5 Tryz.underlying104 Tryz.underlying5 g 0 l.length cap (l.map fun b => (b.toNat : Int)) (List.length_map ..) (fun i hi => by
      rw [Nat.zero_add]
      refine cellB hg i ?_
      have h2 : (cur.toList.take (l.length * 1))[i]? = (u8c l)[i]? := by rw [ht]
      rw [Nat.mul_one, List.getElem?_take_of_lt hi, Array.getElem?_toList] at h2
      rw [h2]
      unfold u8c
      simp [List.getElem?_eq_getElem hi]) _ Tryz.underlying9
    rw [this]
    have e : (l.map fun b => (b.toNat : Int)).map (fun n => UInt8.ofNat n.toNat) = l := by
      rw [List.map_map]
      conv => rhs; rw [← List.map_id l]
      apply List.map_congr_left
      intro b _
      show UInt8.ofNat ((b.toNat : Int).toNat) = b
      simp
    unfold strOfNums
    rw [e]
theorem below_own {w w1 w2 : World} {base : Nat} {v : Value} {l : List UInt8} (h1 : Below base w w1) (ho : OwnB w1 base v l) (hg : w1.grownBy w2 v.ownBlock) (hb : base ≤ w1.heap.size) : Below base w w2 := h1.grown hg hb (fun k hk => ho.lt k hk)

end Go.Proofs.YtibopkodoidjoaaGreatDoor

/- The reference of chapter 17: quoted. -/
namespace Go.Proofs.YtibopkodoidjoaaGreatDoor
open Go Go.RowKit

/-- What quoted answers. -/
def rQV (R : Nat × Nat × List UInt8) : Value := if R.1 = 0 then .tuple #[.string ⟨R.2.2.toArray⟩, .int .i64 (R.2.1 : Int), .int .i64 0, .int .i64 0] else .tuple #[.string ⟨#[]⟩, .int .i64 0, .int .i64 (R.1 : Int), .int .i64 (R.2.1 : Int)]
theorem rQV_ok {R : Nat × Nat × List UInt8} {p : Nat} {l : List UInt8} (h : R = (0, p, l)) : rQV R = .tuple #[.string ⟨l.toArray⟩, .int .i64 (p : Int), .int .i64 0, .int .i64 0] := by subst h; unfold rQV; rw [if_pos rfl]
theorem rQV_bad {R : Nat × Nat × List UInt8} {k p : Nat} {l : List UInt8} (h : R = (k + 1, p, l)) : rQV R = .tuple #[.string ⟨#[]⟩, .int .i64 0, .int .i64 ((k + 1 : Nat) : Int), .int .i64 (p : Int)] := by subst h; unfold rQV; rw [if_neg (by simp)]
set_option maxHeartbeats 4000000 in
set_option maxRecDepth 100000 in
theorem rQuoted_calls (s : ByteArray) (i : Nat) (w : World) (hs : s.size ≤ 35184372088830) (hi : i < s.size) :
    Calls Tryz.prog 79 #[.string s, .int .i64 (i : Int)] w fun e w' => e = .returned (rQV (qAt s (i + 1) [])) ∧ Below w.heap.size w w' := by
  have hs' : (s.size : Int) ≤ 35184372088830 := by omega
  have hi' : (i : Int) < (s.size : Int) := by omega
  have C := Lib.hid (fun i w hi => rEscape_calls s i w (by omega) hi)
  obtain ⟨R, hR⟩ : ∃ R, R = qAt s (i + 1) [] := ⟨_, rfl⟩
  rw [← hR]
  replace hR := Lib.hid hR
  replace hs := Lib.hid hs
  replace hi := Lib.hid hi
  go_enter Tryz.func79, Tryz.ntmps79
  (go_wp2_with fail; repeat (any_goals (go_quiet (fail); go_wp2_with fail)))
  go_loopg [1, 8] (s.size + 1) (fun kq v1 v8 w' => ∃ (k : Nat) (l : List UInt8), v1 = .int .i64 (k : Int) ∧ Hid (qAt s k l = R ∧ k ≤ s.size ∧ l.length ≤ k ∧ kq + k ≥ s.size + 1 ∧ OwnB w' w.heap.size v8 l) ∧ Below w.heap.size w w')
  case atStart => exact ⟨i + 1, [], by go_num, Lib.hid ⟨hR.out.symm, hi.out, Nat.zero_le _, by omega, OwnB.nil _ _⟩, (by repeat (first | assumption | exact Below.refl _ _ | apply Below.drew | apply below_drewN | apply balloc | (refine Below.setCell ?_ (by first | omega | (simp <;> omega)) _)))⟩
  case round =>
    obtain ⟨k, l, rfl, H, hB⟩ := hrel
    have hk := H.out.2.1
    have hx := byte_at s k
    have hq := Lib.hid (qAt_eq s k l)
    by_cases hlt : k < s.size
    · have hlt' : (k : Int) < (s.size : Int) := by omega
      have hq2 := hq.out
      rw [if_pos hlt, H.out.1] at hq2
      clear hq
      have hB8 := bAt_lt s k
      by_cases h34 : bAt s k = 34
      · have h34' : ((bAt s k : Int) == 34) = true := by simp; omega
        rw [if_pos h34] at hq2
        have he := Lib.hid (rQV_ok hq2)
        have hcv := conv_own H.out.2.2.2.2
        replace h34 := Lib.hid h34
        replace hq2 := Lib.hid hq2
        replace hlt := Lib.hid hlt
        (go_wp2_with fail; repeat (any_goals (go_quiet (fail); go_wp2_with fail)))
        refine bodyPost_ret (v := .tuple #[.string ⟨l.toArray⟩, .int .i64 ((k : Int) + 1), .int .i64 0, .int .i64 0]) (by simp [results, Tryz.results79, go_sem]) rfl ⟨by rw [he.out]; rfl, (by repeat (first | assumption | exact Below.refl _ _ | apply Below.drew | apply below_drewN | apply balloc | (refine Below.setCell ?_ (by first | omega | (simp <;> omega)) _)))⟩
      · have h34' : ((bAt s k : Int) == 34) = false := by simp; omega
        rw [if_neg h34] at hq2
        replace h34 := Lib.hid h34
        by_cases h32 : bAt s k < 32
        · have h32' : (bAt s k : Int) < 32 := by omega
          rw [if_pos h32] at hq2
          have he := Lib.hid (rQV_bad hq2)
          replace h32 := Lib.hid h32
          replace hq2 := Lib.hid hq2
          replace hlt := Lib.hid hlt
          (go_wp2_with fail; repeat (any_goals (go_quiet (fail); go_wp2_with fail)))
          refine bodyPost_ret (v := .tuple #[.string ⟨#[]⟩, .int .i64 0, .int .i64 2, .int .i64 (k : Int)]) (by simp [results, Tryz.results79, go_sem]) rfl ⟨by rw [he.out]; rfl, (by repeat (first | assumption | exact Below.refl _ _ | apply Below.drew | apply below_drewN | apply balloc | (refine Below.setCell ?_ (by first | omega | (simp <;> omega)) _)))⟩
        · have h32' : ¬ (bAt s k : Int) < 32 := by omega
          rw [if_neg h32] at hq2
          replace h32 := Lib.hid h32
          by_cases h92 : bAt s k = 92
          · have h92' : ((bAt s k : Int) == 92) = true := by simp; omega
            rw [if_pos h92] at hq2
            have D := Lib.hid (fun w => C.out k w hlt)
            clear C
            cases hE : escAt s k with
            | mk e xz =>
              obtain ⟨x, z⟩ := xz
              rw [hE] at hq2
              cases e with
              | zero =>
                rw [if_pos rfl] at hq2
                simp only at hq2
                have hok := escAt_ok h92 (by rw [hE])
                have hen := enc_esc s k h92 (by rw [hE])
                rw [← encN_len] at hen
                rw [hE] at hok hen
                simp only at hok hen
                have hV : rEscV (escAt s k) k = .tuple #[.string (encS x), .int .i64 ((k + z : Nat) : Int), .int .i64 0] := rEscV_ok hE
                replace D : Hid (∀ w, Calls Tryz.prog 95 #[.string s, .int .i64 (k : Int)] w fun e w' => e = .returned (.tuple #[.string (encS x), .int .i64 ((k + z : Nat) : Int), .int .i64 0]) ∧ Below w.heap.size w w') := Lib.hid (fun w => by have := D.out w; rwa [hV] at this)
                have hel : Hid ((encS x).size = (encN x).length) := Lib.hid (by show ((encN x).map UInt8.ofNat).toArray.size = _; simp)
                replace h92 := Lib.hid h92
                replace hq2 := Lib.hid hq2
                replace hlt := Lib.hid hlt
                replace hE := Lib.hid hE
                replace hV := Lib.hid hV
                replace hok := Lib.hid hok
                replace hen := Lib.hid hen
                (go_wp2_with fail; repeat (any_goals (go_quiet (fail); go_wp2_with fail)))
                refine (D.out _).mono ?_
                rintro e w1 ⟨rfl, hb⟩
                have ho1 := Lib.hid (H.out.2.2.2.2.next hb)
                have hb1 := hB.trans (hb.mono hB.size)
                clear hb
                go_wp2_with (at_builtin; refine app_str rfl _ _ rfl w.heap.size _ l rfl ho1.out (encS x) rfl (by have := H.out.2.2.1; have := hel.out; have := hen.out; have := hok.out; have := hs.out; omega) hb1.size ?_; intro v' w2 ho2 hg)
                have hb2 := below_own hb1 ho1.out hg hb1.size
                replace ho2 := Lib.hid ho2
                clear hg
                (go_wp2_with fail; repeat (any_goals (go_quiet (fail); go_wp2_with fail)))
                go_roundg (s.size + 1 - (k + z))
                case measure => have := H.out.2.2.2.1; have := hok.out; omega
                case rel =>
                  have h3 := H.out.2.2.1
                  have h4 := H.out.2.2.2.1
                  have h5 := hen.out
                  have h6 := hok.out
                  refine ⟨k + z, l ++ (encN x).map UInt8.ofNat, rfl, Lib.hid ⟨hq2.out.symm, h6.1, by rw [List.length_append, List.length_map]; omega, by omega, ho2.out⟩, by assumption⟩
              | succ e =>
                rw [if_neg (by simp)] at hq2
                simp only at hq2
                have he := Lib.hid (rQV_bad hq2)
                have hV : rEscV (escAt s k) k = .tuple #[.string ⟨#[]⟩, .int .i64 0, .int .i64 ((e + 1 : Nat) : Int)] := rEscV_bad hE
                replace D : Hid (∀ w, Calls Tryz.prog 95 #[.string s, .int .i64 (k : Int)] w fun r w' => r = .returned (.tuple #[.string ⟨#[]⟩, .int .i64 0, .int .i64 ((e + 1 : Nat) : Int)]) ∧ Below w.heap.size w w') := Lib.hid (fun w => by have := D.out w; rwa [hV] at this)
                have hne : (((e + 1 : Nat) : Int) == 0) = false := by simp; omega
                have hne2 : (((e + 1 : Nat) : Int) != 0) = true := by simp; omega
                replace h92 := Lib.hid h92
                replace hq2 := Lib.hid hq2
                replace hlt := Lib.hid hlt
                replace hE := Lib.hid hE
                replace hV := Lib.hid hV
                generalize ((e + 1 : Nat) : Int) = e1 at *
                (go_wp2_with fail; repeat (any_goals (go_quiet (fail); go_wp2_with fail)))
                refine (D.out _).mono ?_
                rintro e w1 ⟨rfl, hb⟩
                have hb1 := hB.trans (hb.mono hB.size)
                clear hb
                (go_wp2_with fail; repeat (any_goals (go_quiet (fail); go_wp2_with fail)))
                refine bodyPost_ret (v := .tuple #[.string ⟨#[]⟩, .int .i64 0, .int .i64 e1, .int .i64 (k : Int)]) (by simp [results, Tryz.results79, go_sem]) rfl ⟨by rw [he.out], hb1⟩
          · have h92' : ((bAt s k : Int) == 92) = false := by simp; omega
            rw [if_neg h92] at hq2
            replace h92 := Lib.hid h92
            replace hq2 := Lib.hid hq2
            replace hlt := Lib.hid hlt
            have ho1 := Lib.hid H.out.2.2.2.2
            have hz := hB.size
            go_wp2_with (at_builtin; refine app_lit rfl _ _ rfl w.heap.size _ l rfl (World.ownsRow.alloc ho1.out _) _ 1 1 _ _ _ [UInt8.ofNat (bAt s k)] rfl (heap_alloc_new _ _) ?c1 rfl (by have := H.out.2.2.1; have := hs.out; omega) (by simp; omega) ?_)
            case c1 => simp [u8c]; omega
            intro v' w2 ho2 hg
            have hb2 := below_own (hB.alloc hz _) (World.ownsRow.alloc ho1.out _) hg (by simp; omega)
            replace ho2 := Lib.hid ho2
            clear hg
            (go_wp2_with fail; repeat (any_goals (go_quiet (fail); go_wp2_with fail)))
            go_roundg (s.size + 1 - (k + 1))
            case measure => have := H.out.2.2.2.1; omega
            case rel =>
              have h3 := H.out.2.2.1
              have h4 := H.out.2.2.2.1
              refine ⟨k + 1, l ++ [UInt8.ofNat (bAt s k)], by go_num, Lib.hid ⟨hq2.out.symm, hlt.out, by rw [List.length_append, List.length_singleton]; omega, by omega, ho2.out⟩, by assumption⟩
    · have hlt' : ¬ (k : Int) < (s.size : Int) := by omega
      have hq2 := hq.out
      rw [if_neg hlt, H.out.1] at hq2
      have he := Lib.hid (rQV_bad hq2)
      have hke : Hid (k = s.size) := Lib.hid (by omega)
      replace hq2 := Lib.hid hq2
      clear hq
      replace hlt := Lib.hid hlt
      (go_wp2_with fail; repeat (any_goals (go_quiet (fail); go_wp2_with fail)))
      refine bodyPost_ret (v := .tuple #[.string ⟨#[]⟩, .int .i64 0, .int .i64 2, .int .i64 (k : Int)]) (by simp [results, Tryz.results79, go_sem]) rfl ⟨by rw [he.out, hke.out]; rfl, (by repeat (first | assumption | exact Below.refl _ _ | apply Below.drew | apply below_drewN | apply balloc | (refine Below.setCell ?_ (by first | omega | (simp <;> omega)) _)))⟩

end Go.Proofs.YtibopkodoidjoaaGreatDoor

/- The reference of chapter 17: one. -/
namespace Go.Proofs.YtibopkodoidjoaaGreatDoor
open Go Go.RowKit

/-- What one answers. -/
def rOneV (O : Nat × Nat × Tk) : Value := if O.1 = 0 then .tuple #[tkV O.2.2, .int .i64 0, .int .i64 0] else .tuple #[.agg #[.int .i64 0, .int .i64 0, .int .i64 0, .string ⟨#[]⟩], .int .i64 (O.1 : Int), .int .i64 (O.2.1 : Int)]
theorem rOneV_ok {O : Nat × Nat × Tk} {p : Nat} {T : Tk} (h : O = (0, p, T)) : rOneV O = .tuple #[tkV T, .int .i64 0, .int .i64 0] := by subst h; unfold rOneV; rw [if_pos rfl]
theorem rOneV_bad {O : Nat × Nat × Tk} {k p : Nat} {T : Tk} (h : O = (k + 1, p, T)) : rOneV O = .tuple #[.agg #[.int .i64 0, .int .i64 0, .int .i64 0, .string ⟨#[]⟩], .int .i64 ((k + 1 : Nat) : Int), .int .i64 (p : Int)] := by subst h; unfold rOneV; rw [if_neg (by simp)]
def signF (j : Nat) : Nat := match j with | 0 => 123 | 1 => 125 | 2 => 91 | 3 => 93 | 4 => 58 | _ => 44
def wordF (j : Nat) : ByteArray := match j with | 0 => ⟨#[110, 117, 108, 108]⟩ | 1 => ⟨#[116, 114, 117, 101]⟩ | _ => ⟨#[102, 97, 108, 115, 101]⟩
theorem one_sign {s : ByteArray} {i k : Nat} (h : signK (bAt s i) = k + 1) : oneAt s i = (0, 0, ⟨k + 1, i, i + 1, noS⟩) := by
  unfold oneAt; simp only; rw [if_pos (by omega), h]
theorem starts_null (s : ByteArray) (i : Nat) : startsS s i (wordF 0) = true ↔ bAt s i = 110 ∧ bAt s (i + 1) = 117 ∧ bAt s (i + 2) = 108 ∧ bAt s (i + 3) = 108 := by
  rw [startsS_iff]
  constructor
  · rintro ⟨_, h⟩
    exact ⟨h 0 (by decide), h 1 (by decide), h 2 (by decide), h 3 (by decide)⟩
  · rintro ⟨h0, h1, h2, h3⟩
    have := lt_of_bAt (s := s) (i := i + 3) (by omega)
    refine ⟨by show i + 4 ≤ s.size; omega, fun j hj => ?_⟩
    rcases (show j = 0 ∨ j = 1 ∨ j = 2 ∨ j = 3 by have : j < 4 := hj; omega) with rfl | rfl | rfl | rfl
    · exact h0
    · exact h1
    · exact h2
    · exact h3
theorem starts_true (s : ByteArray) (i : Nat) : startsS s i (wordF 1) = true ↔ bAt s i = 116 ∧ bAt s (i + 1) = 114 ∧ bAt s (i + 2) = 117 ∧ bAt s (i + 3) = 101 := by
  rw [startsS_iff]
  constructor
  · rintro ⟨_, h⟩
    exact ⟨h 0 (by decide), h 1 (by decide), h 2 (by decide), h 3 (by decide)⟩
  · rintro ⟨h0, h1, h2, h3⟩
    have := lt_of_bAt (s := s) (i := i + 3) (by omega)
    refine ⟨by show i + 4 ≤ s.size; omega, fun j hj => ?_⟩
    rcases (show j = 0 ∨ j = 1 ∨ j = 2 ∨ j = 3 by have : j < 4 := hj; omega) with rfl | rfl | rfl | rfl
    · exact h0
    · exact h1
    · exact h2
    · exact h3
theorem starts_false (s : ByteArray) (i : Nat) : startsS s i (wordF 2) = true ↔ bAt s i = 102 ∧ bAt s (i + 1) = 97 ∧ bAt s (i + 2) = 108 ∧ bAt s (i + 3) = 115 ∧ bAt s (i + 4) = 101 := by
  rw [startsS_iff]
  constructor
  · rintro ⟨_, h⟩
    exact ⟨h 0 (by decide), h 1 (by decide), h 2 (by decide), h 3 (by decide), h 4 (by decide)⟩
  · rintro ⟨h0, h1, h2, h3, h4⟩
    have := lt_of_bAt (s := s) (i := i + 4) (by omega)
    refine ⟨by show i + 5 ≤ s.size; omega, fun j hj => ?_⟩
    rcases (show j = 0 ∨ j = 1 ∨ j = 2 ∨ j = 3 ∨ j = 4 by have : j < 5 := hj; omega) with rfl | rfl | rfl | rfl | rfl
    · exact h0
    · exact h1
    · exact h2
    · exact h3
    · exact h4
theorem one_null {s : ByteArray} {i : Nat} (h : startsS s i (wordF 0) = true) : oneAt s i = (0, 0, ⟨1, i, i + 4, noS⟩) := by
  obtain ⟨h0, h1, h2, h3⟩ := (starts_null s i).1 h
  unfold oneAt; simp only; rw [h0, h1, h2, h3]; simp [signK]
theorem one_true {s : ByteArray} {i : Nat} (h : startsS s i (wordF 1) = true) : oneAt s i = (0, 0, ⟨2, i, i + 4, noS⟩) := by
  obtain ⟨h0, h1, h2, h3⟩ := (starts_true s i).1 h
  unfold oneAt; simp only; rw [h0, h1, h2, h3]; simp [signK]
theorem one_false {s : ByteArray} {i : Nat} (h : startsS s i (wordF 2) = true) : oneAt s i = (0, 0, ⟨3, i, i + 5, noS⟩) := by
  obtain ⟨h0, h1, h2, h3, h4⟩ := (starts_false s i).1 h
  unfold oneAt; simp only; rw [h0, h1, h2, h3, h4]; simp [signK]
theorem signK_none {c : Nat} (h : ∀ j, j < 6 → c ≠ signF j) : signK c = 0 := by
  have h0 : c ≠ 123 := h 0 (by omega)
  have h1 : c ≠ 125 := h 1 (by omega)
  have h2 : c ≠ 91 := h 2 (by omega)
  have h3 : c ≠ 93 := h 3 (by omega)
  have h4 : c ≠ 58 := h 4 (by omega)
  have h5 : c ≠ 44 := h 5 (by omega)
  unfold signK
  rw [if_neg h0, if_neg h1, if_neg h2, if_neg h3, if_neg h4, if_neg h5]
/-- Behind signs and words: a number, a text, or none. -/
theorem one_rest {s : ByteArray} {i : Nat} (hk : signK (bAt s i) = 0) (hw : ∀ j, j < 3 → startsS s i (wordF j) = false) : oneAt s i =
    if bAt s i = 45 ∨ isD (bAt s i) = true then (if (numAt s i).1 = true then (0, 0, ⟨4, i, (numAt s i).2, noS⟩) else (2, (numAt s i).2, ⟨0, 0, 0, noS⟩))
    else if bAt s i = 34 then (if (qAt s (i + 1) []).1 = 0 then (0, 0, ⟨5, i, (qAt s (i + 1) []).2.1, ⟨(qAt s (i + 1) []).2.2.toArray⟩⟩) else ((qAt s (i + 1) []).1, (qAt s (i + 1) []).2.1, ⟨0, 0, 0, noS⟩))
    else (2, i, ⟨0, 0, 0, noS⟩) := by
  have w0 : ¬ (startsS s i (wordF 0) = true) := by rw [hw 0 (by omega)]; simp
  have w1 : ¬ (startsS s i (wordF 1) = true) := by rw [hw 1 (by omega)]; simp
  have w2 : ¬ (startsS s i (wordF 2) = true) := by rw [hw 2 (by omega)]; simp
  rw [starts_null] at w0
  rw [starts_true] at w1
  rw [starts_false] at w2
  have nd : ∀ c, isD c = true → 48 ≤ c ∧ c ≤ 57 := fun c h => isD_iff.1 h
  unfold oneAt
  simp only
  rw [if_neg (by omega)]
  by_cases c1 : bAt s i = 110
  · rw [if_pos c1, if_neg (fun h => w0 ⟨c1, h⟩), if_neg (by rintro (h | h); omega; have := nd _ h; omega), if_neg (by omega)]
  rw [if_neg c1]
  by_cases c2 : bAt s i = 116
  · rw [if_pos c2, if_neg (fun h => w1 ⟨c2, h⟩), if_neg (by rintro (h | h); omega; have := nd _ h; omega), if_neg (by omega)]
  rw [if_neg c2]
  by_cases c3 : bAt s i = 102
  · rw [if_pos c3, if_neg (fun h => w2 ⟨c3, h⟩), if_neg (by rintro (h | h); omega; have := nd _ h; omega), if_neg (by omega)]
  rw [if_neg c3]
def tkZ : Obj := .cells #[.int .i64 0, .int .i64 0, .int .i64 0, .string ⟨#[]⟩] 59 (0, 0)
def kindsO : Obj := .cells #[.int .i64 6, .int .i64 7, .int .i64 8, .int .i64 9, .int .i64 10, .int .i64 11] 3 (0, 0)
def wordsO : Obj := .cells #[.string ⟨#[110, 117, 108, 108]⟩, .string ⟨#[116, 114, 117, 101]⟩, .string ⟨#[102, 97, 108, 115, 101]⟩] 9 (0, 0)
theorem rQuoted_calls2 (s : ByteArray) (i : Nat) (w : World) (hs : s.size ≤ 35184372088830) (hi : i < s.size) (R : Value) (hR : rQV (qAt s (i + 1) []) = R) :
    Calls Tryz.prog 79 #[.string s, .int .i64 (i : Int)] w fun e w' => e = .returned R ∧ Below w.heap.size w w' := by rw [← hR]; exact rQuoted_calls s i w hs hi
theorem rNumber_calls2 (s : ByteArray) (i : Nat) (w : World) (hs : s.size ≤ 35184372088830) (hi : i < s.size) (R : Value) (hR : rNumV (numAt s i) = R) :
    Calls Tryz.prog 78 #[.string s, .int .i64 (i : Int)] w fun e w' => e = .returned R ∧ w = w' := by rw [← hR]; exact rNumber_calls s i w (by omega) hi
theorem rDigit_calls2 (c : Nat) (b : Bool) (w : World) (h : isD c = b) : Calls Tryz.prog 77 #[.int .u8 (c : Int)] w fun e w' => e = .returned (.bool b) ∧ w = w' := by rw [← h]; exact rDigit_calls' c w
set_option maxHeartbeats 8000000 in
set_option maxRecDepth 100000 in
theorem rOne_calls (s : ByteArray) (i : Nat) (w : World) (hs : s.size ≤ 35184372088830) (hi : i < s.size) :
    Calls Tryz.prog 50 #[.string s, .int .i64 (i : Int)] w fun e w' => e = .returned (rOneV (oneAt s i)) ∧ Below w.heap.size w w' := by
  have hs' : (s.size : Int) ≤ 35184372088830 := by omega
  have hi' : (i : Int) < (s.size : Int) := by omega
  have hx := byte_at s i
  obtain ⟨O, hO⟩ : ∃ O, O = oneAt s i := ⟨_, rfl⟩
  rw [← hO]
  replace hO := Lib.hid hO
  replace hs := Lib.hid hs
  replace hi := Lib.hid hi
  go_enter Tryz.func50, Tryz.ntmps50
  (go_wp2_with fail; repeat (any_goals (go_quiet (fail); go_wp2_with fail)))
  go_loopw [9] (fun v wr => ∃ k : Nat, k ≤ 6 ∧ v = .int .i64 (k : Int) ∧ Hid (∀ j, j < k → bAt s i ≠ signF j) ∧ wr.heap[w.heap.size]? = some tkZ ∧ wr.heap[w.heap.size + 1]? = some kindsO ∧ Below w.heap.size w wr) (fun v _ => 6 - (intOf v).toNat)
  case atStart => exact ⟨0, by decide, rfl, Lib.hid (fun j hj => by omega), box_next (heap_alloc_new w _) (by repeat (first | assumption | exact Below.refl _ _ | apply Below.drew | apply below_drewN | apply balloc | (refine Below.setCell ?_ (by first | omega | (simp <;> omega)) _))), by (have h := heap_alloc_new (w.alloc tkZ) kindsO); rw [World.size_alloc] at h; exact h, (by repeat (first | assumption | exact Below.refl _ _ | apply Below.drew | apply below_drewN | apply balloc | (refine Below.setCell ?_ (by first | omega | (simp <;> omega)) _)))⟩
  case round =>
    obtain ⟨k, hk, rfl, hno, hv, hK, hB⟩ := hrel
    rcases (show k = 0 ∨ k = 1 ∨ k = 2 ∨ k = 3 ∨ k = 4 ∨ k = 5 ∨ k = 6 by omega) with rfl | rfl | rfl | rfl | rfl | rfl | rfl
    · have hf : ∀ h, (((⟨#[123, 125, 91, 93, 58, 44]⟩ : ByteArray)[0]'h).toNat : Int) = 123 := fun _ => rfl
      by_cases hm : bAt s i = 123
      · have hm' : ((bAt s i : Int) == 123) = true := by simp; omega
        have he := rOneV_ok (hO.out.trans (one_sign (s := s) (i := i) (k := 5) (by rw [hm]; rfl)))
        replace hm := Lib.hid hm
        replace he := Lib.hid he
        have x0 := cellB hv 0 rfl
        have x1 := cellB hv 1 rfl
        have x2 := cellB hv 2 rfl
        have x3 := cellB hv 3 rfl
        have f0 := freeB hv 0
        have f1 := freeB hv 1
        have f2 := freeB hv 2
        have f3 := freeB hv 3
        have hvl := ltB hv
        have k0 := cellB hK 0 rfl
        replace hv := Lib.hid hv
        replace hK := Lib.hid hK
        (go_wp2_with fail; repeat (any_goals (go_quiet (fail); go_wp2_with fail)))
        refine bodyPost_ret (v := .tuple #[.agg #[.int .i64 (5 + 1), .int .i64 (i : Int), .int .i64 ((i : Int) + 1), .string ⟨#[]⟩], .int .i64 0, .int .i64 0]) (by simp [results, Tryz.results50, go_sem, *]) rfl ⟨?_, (by repeat (first | assumption | exact Below.refl _ _ | apply Below.drew | apply below_drewN | apply balloc | (refine Below.setCell ?_ (by first | omega | (simp <;> omega)) _)))⟩
        rw [he.out]; rfl
      · have hm' : ((bAt s i : Int) == 123) = false := by simp; omega
        replace hm := Lib.hid hm
        replace hv := Lib.hid hv
        replace hK := Lib.hid hK
        (go_wp2_with fail; repeat (any_goals (go_quiet (fail); go_wp2_with fail)))
        go_roundw
        case rel => exact ⟨0 + 1, by omega, rfl, Lib.hid (fun j hj => by
          rcases (show j < 0 ∨ j = 0 by omega) with h | h
          · exact hno.out j h
          · subst h; exact hm.out), hv.out, hK.out, (by repeat (first | assumption | exact Below.refl _ _ | apply Below.drew | apply below_drewN | apply balloc | (refine Below.setCell ?_ (by first | omega | (simp <;> omega)) _)))⟩
        case measure => simp [intOf]
    · have hf : ∀ h, (((⟨#[123, 125, 91, 93, 58, 44]⟩ : ByteArray)[1]'h).toNat : Int) = 125 := fun _ => rfl
      by_cases hm : bAt s i = 125
      · have hm' : ((bAt s i : Int) == 125) = true := by simp; omega
        have he := rOneV_ok (hO.out.trans (one_sign (s := s) (i := i) (k := 6) (by rw [hm]; rfl)))
        replace hm := Lib.hid hm
        replace he := Lib.hid he
        have x0 := cellB hv 0 rfl
        have x1 := cellB hv 1 rfl
        have x2 := cellB hv 2 rfl
        have x3 := cellB hv 3 rfl
        have f0 := freeB hv 0
        have f1 := freeB hv 1
        have f2 := freeB hv 2
        have f3 := freeB hv 3
        have hvl := ltB hv
        have k0 := cellB hK 1 rfl
        replace hv := Lib.hid hv
        replace hK := Lib.hid hK
        (go_wp2_with fail; repeat (any_goals (go_quiet (fail); go_wp2_with fail)))
        refine bodyPost_ret (v := .tuple #[.agg #[.int .i64 (6 + 1), .int .i64 (i : Int), .int .i64 ((i : Int) + 1), .string ⟨#[]⟩], .int .i64 0, .int .i64 0]) (by simp [results, Tryz.results50, go_sem, *]) rfl ⟨?_, (by repeat (first | assumption | exact Below.refl _ _ | apply Below.drew | apply below_drewN | apply balloc | (refine Below.setCell ?_ (by first | omega | (simp <;> omega)) _)))⟩
        rw [he.out]; rfl
      · have hm' : ((bAt s i : Int) == 125) = false := by simp; omega
        replace hm := Lib.hid hm
        replace hv := Lib.hid hv
        replace hK := Lib.hid hK
        (go_wp2_with fail; repeat (any_goals (go_quiet (fail); go_wp2_with fail)))
        go_roundw
        case rel => exact ⟨1 + 1, by omega, rfl, Lib.hid (fun j hj => by
          rcases (show j < 1 ∨ j = 1 by omega) with h | h
          · exact hno.out j h
          · subst h; exact hm.out), hv.out, hK.out, (by repeat (first | assumption | exact Below.refl _ _ | apply Below.drew | apply below_drewN | apply balloc | (refine Below.setCell ?_ (by first | omega | (simp <;> omega)) _)))⟩
        case measure => simp [intOf]
    · have hf : ∀ h, (((⟨#[123, 125, 91, 93, 58, 44]⟩ : ByteArray)[2]'h).toNat : Int) = 91 := fun _ => rfl
      by_cases hm : bAt s i = 91
      · have hm' : ((bAt s i : Int) == 91) = true := by simp; omega
        have he := rOneV_ok (hO.out.trans (one_sign (s := s) (i := i) (k := 7) (by rw [hm]; rfl)))
        replace hm := Lib.hid hm
        replace he := Lib.hid he
        have x0 := cellB hv 0 rfl
        have x1 := cellB hv 1 rfl
        have x2 := cellB hv 2 rfl
        have x3 := cellB hv 3 rfl
        have f0 := freeB hv 0
        have f1 := freeB hv 1
        have f2 := freeB hv 2
        have f3 := freeB hv 3
        have hvl := ltB hv
        have k0 := cellB hK 2 rfl
        replace hv := Lib.hid hv
        replace hK := Lib.hid hK
        (go_wp2_with fail; repeat (any_goals (go_quiet (fail); go_wp2_with fail)))
        refine bodyPost_ret (v := .tuple #[.agg #[.int .i64 (7 + 1), .int .i64 (i : Int), .int .i64 ((i : Int) + 1), .string ⟨#[]⟩], .int .i64 0, .int .i64 0]) (by simp [results, Tryz.results50, go_sem, *]) rfl ⟨?_, (by repeat (first | assumption | exact Below.refl _ _ | apply Below.drew | apply below_drewN | apply balloc | (refine Below.setCell ?_ (by first | omega | (simp <;> omega)) _)))⟩
        rw [he.out]; rfl
      · have hm' : ((bAt s i : Int) == 91) = false := by simp; omega
        replace hm := Lib.hid hm
        replace hv := Lib.hid hv
        replace hK := Lib.hid hK
        (go_wp2_with fail; repeat (any_goals (go_quiet (fail); go_wp2_with fail)))
        go_roundw
        case rel => exact ⟨2 + 1, by omega, rfl, Lib.hid (fun j hj => by
          rcases (show j < 2 ∨ j = 2 by omega) with h | h
          · exact hno.out j h
          · subst h; exact hm.out), hv.out, hK.out, (by repeat (first | assumption | exact Below.refl _ _ | apply Below.drew | apply below_drewN | apply balloc | (refine Below.setCell ?_ (by first | omega | (simp <;> omega)) _)))⟩
        case measure => simp [intOf]
    · have hf : ∀ h, (((⟨#[123, 125, 91, 93, 58, 44]⟩ : ByteArray)[3]'h).toNat : Int) = 93 := fun _ => rfl
      by_cases hm : bAt s i = 93
      · have hm' : ((bAt s i : Int) == 93) = true := by simp; omega
        have he := rOneV_ok (hO.out.trans (one_sign (s := s) (i := i) (k := 8) (by rw [hm]; rfl)))
        replace hm := Lib.hid hm
        replace he := Lib.hid he
        have x0 := cellB hv 0 rfl
        have x1 := cellB hv 1 rfl
        have x2 := cellB hv 2 rfl
        have x3 := cellB hv 3 rfl
        have f0 := freeB hv 0
        have f1 := freeB hv 1
        have f2 := freeB hv 2
        have f3 := freeB hv 3
        have hvl := ltB hv
        have k0 := cellB hK 3 rfl
        replace hv := Lib.hid hv
        replace hK := Lib.hid hK
        (go_wp2_with fail; repeat (any_goals (go_quiet (fail); go_wp2_with fail)))
        refine bodyPost_ret (v := .tuple #[.agg #[.int .i64 (8 + 1), .int .i64 (i : Int), .int .i64 ((i : Int) + 1), .string ⟨#[]⟩], .int .i64 0, .int .i64 0]) (by simp [results, Tryz.results50, go_sem, *]) rfl ⟨?_, (by repeat (first | assumption | exact Below.refl _ _ | apply Below.drew | apply below_drewN | apply balloc | (refine Below.setCell ?_ (by first | omega | (simp <;> omega)) _)))⟩
        rw [he.out]; rfl
      · have hm' : ((bAt s i : Int) == 93) = false := by simp; omega
        replace hm := Lib.hid hm
        replace hv := Lib.hid hv
        replace hK := Lib.hid hK
        (go_wp2_with fail; repeat (any_goals (go_quiet (fail); go_wp2_with fail)))
        go_roundw
        case rel => exact ⟨3 + 1, by omega, rfl, Lib.hid (fun j hj => by
          rcases (show j < 3 ∨ j = 3 by omega) with h | h
          · exact hno.out j h
          · subst h; exact hm.out), hv.out, hK.out, (by repeat (first | assumption | exact Below.refl _ _ | apply Below.drew | apply below_drewN | apply balloc | (refine Below.setCell ?_ (by first | omega | (simp <;> omega)) _)))⟩
        case measure => simp [intOf]
    · have hf : ∀ h, (((⟨#[123, 125, 91, 93, 58, 44]⟩ : ByteArray)[4]'h).toNat : Int) = 58 := fun _ => rfl
      by_cases hm : bAt s i = 58
      · have hm' : ((bAt s i : Int) == 58) = true := by simp; omega
        have he := rOneV_ok (hO.out.trans (one_sign (s := s) (i := i) (k := 9) (by rw [hm]; rfl)))
        replace hm := Lib.hid hm
        replace he := Lib.hid he
        have x0 := cellB hv 0 rfl
        have x1 := cellB hv 1 rfl
        have x2 := cellB hv 2 rfl
        have x3 := cellB hv 3 rfl
        have f0 := freeB hv 0
        have f1 := freeB hv 1
        have f2 := freeB hv 2
        have f3 := freeB hv 3
        have hvl := ltB hv
        have k0 := cellB hK 4 rfl
        replace hv := Lib.hid hv
        replace hK := Lib.hid hK
        (go_wp2_with fail; repeat (any_goals (go_quiet (fail); go_wp2_with fail)))
        refine bodyPost_ret (v := .tuple #[.agg #[.int .i64 (9 + 1), .int .i64 (i : Int), .int .i64 ((i : Int) + 1), .string ⟨#[]⟩], .int .i64 0, .int .i64 0]) (by simp [results, Tryz.results50, go_sem, *]) rfl ⟨?_, (by repeat (first | assumption | exact Below.refl _ _ | apply Below.drew | apply below_drewN | apply balloc | (refine Below.setCell ?_ (by first | omega | (simp <;> omega)) _)))⟩
        rw [he.out]; rfl
      · have hm' : ((bAt s i : Int) == 58) = false := by simp; omega
        replace hm := Lib.hid hm
        replace hv := Lib.hid hv
        replace hK := Lib.hid hK
        (go_wp2_with fail; repeat (any_goals (go_quiet (fail); go_wp2_with fail)))
        go_roundw
        case rel => exact ⟨4 + 1, by omega, rfl, Lib.hid (fun j hj => by
          rcases (show j < 4 ∨ j = 4 by omega) with h | h
          · exact hno.out j h
          · subst h; exact hm.out), hv.out, hK.out, (by repeat (first | assumption | exact Below.refl _ _ | apply Below.drew | apply below_drewN | apply balloc | (refine Below.setCell ?_ (by first | omega | (simp <;> omega)) _)))⟩
        case measure => simp [intOf]
    · have hf : ∀ h, (((⟨#[123, 125, 91, 93, 58, 44]⟩ : ByteArray)[5]'h).toNat : Int) = 44 := fun _ => rfl
      by_cases hm : bAt s i = 44
      · have hm' : ((bAt s i : Int) == 44) = true := by simp; omega
        have he := rOneV_ok (hO.out.trans (one_sign (s := s) (i := i) (k := 10) (by rw [hm]; rfl)))
        replace hm := Lib.hid hm
        replace he := Lib.hid he
        have x0 := cellB hv 0 rfl
        have x1 := cellB hv 1 rfl
        have x2 := cellB hv 2 rfl
        have x3 := cellB hv 3 rfl
        have f0 := freeB hv 0
        have f1 := freeB hv 1
        have f2 := freeB hv 2
        have f3 := freeB hv 3
        have hvl := ltB hv
        have k0 := cellB hK 5 rfl
        replace hv := Lib.hid hv
        replace hK := Lib.hid hK
        (go_wp2_with fail; repeat (any_goals (go_quiet (fail); go_wp2_with fail)))
        refine bodyPost_ret (v := .tuple #[.agg #[.int .i64 (10 + 1), .int .i64 (i : Int), .int .i64 ((i : Int) + 1), .string ⟨#[]⟩], .int .i64 0, .int .i64 0]) (by simp [results, Tryz.results50, go_sem, *]) rfl ⟨?_, (by repeat (first | assumption | exact Below.refl _ _ | apply Below.drew | apply below_drewN | apply balloc | (refine Below.setCell ?_ (by first | omega | (simp <;> omega)) _)))⟩
        rw [he.out]; rfl
      · have hm' : ((bAt s i : Int) == 44) = false := by simp; omega
        replace hm := Lib.hid hm
        replace hv := Lib.hid hv
        replace hK := Lib.hid hK
        (go_wp2_with fail; repeat (any_goals (go_quiet (fail); go_wp2_with fail)))
        go_roundw
        case rel => exact ⟨5 + 1, by omega, rfl, Lib.hid (fun j hj => by
          rcases (show j < 5 ∨ j = 5 by omega) with h | h
          · exact hno.out j h
          · subst h; exact hm.out), hv.out, hK.out, (by repeat (first | assumption | exact Below.refl _ _ | apply Below.drew | apply below_drewN | apply balloc | (refine Below.setCell ?_ (by first | omega | (simp <;> omega)) _)))⟩
        case measure => simp [intOf]
    · have hk0 := Lib.hid (signK_none hno.out)
      clear hno hK hk
      replace hv := Lib.hid hv
      obtain ⟨wo, rfl⟩ : ∃ wo : World, wo = wr := ⟨_, rfl⟩
      have hz0 := hB.size
      have hvl0 := ltB hv.out
      rw [show ((6 : Nat) : Int) = 6 from rfl]
      (go_wp2_with fail; repeat (any_goals (go_quiet (fail); go_wp2_with fail)))
      go_loopw [11] (fun v wx => ∃ k : Nat, k ≤ 3 ∧ v = .int .i64 (k : Int) ∧ Hid (∀ j, j < k → startsS s i (wordF j) = false) ∧ wx.heap[w.heap.size]? = some tkZ ∧ wx.heap[wo.heap.size]? = some wordsO ∧ Below w.heap.size w wx) (fun v _ => 3 - (intOf v).toNat)
      case atStart => exact ⟨0, by decide, rfl, Lib.hid (fun j hj => by omega), box_next hv.out (by repeat (first | assumption | exact Below.refl _ _ | apply Below.drew | apply below_drewN | apply balloc | (refine Below.setCell ?_ (by first | omega | (simp <;> omega)) _))), heap_alloc_new wo _, (by repeat (first | assumption | exact Below.refl _ _ | apply Below.drew | apply below_drewN | apply balloc | (refine Below.setCell ?_ (by first | omega | (simp <;> omega)) _)))⟩
      case round =>
        clear hv hB hz0 hvl0
        obtain ⟨k, hk, rfl, hno, hv, hK, hB⟩ := hrel
        rcases (show k = 0 ∨ k = 1 ∨ k = 2 ∨ k = 3 by omega) with rfl | rfl | rfl | rfl
        · have kw : wr.cell? ⟨wo.heap.size, 0, none⟩ = some (.string ⟨#[110, 117, 108, 108]⟩) := cellB hK 0 rfl
          have D := Lib.hid (fun w => starts_calls' s i (wordF 0) w (by have := hs.out; omega) (by decide) (by have := hs.out; have := hi.out; omega))
          cases hm : startsS s i (wordF 0) with
          | true =>
            have he := rOneV_ok (hO.out.trans (one_null hm))
            replace D : Hid (∀ w, Calls Tryz.prog 76 #[.string s, .int .i64 (i : Int), .string ⟨#[110, 117, 108, 108]⟩] w fun e w' => e = .returned (.bool true) ∧ w = w') := Lib.hid (fun w => by have := D.out w; rw [hm] at this; exact this)
            replace hm := Lib.hid hm
            replace he := Lib.hid he
            have x0 := cellB hv 0 rfl
            have x1 := cellB hv 1 rfl
            have x2 := cellB hv 2 rfl
            have x3 := cellB hv 3 rfl
            have f0 := freeB hv 0
            have f1 := freeB hv 1
            have f2 := freeB hv 2
            have f3 := freeB hv 3
            have hvl := ltB hv
            replace hv := Lib.hid hv
            replace hK := Lib.hid hK
            (go_wp2_with fail; repeat (any_goals (go_quiet (fail); go_wp2_with fail)))
            refine (D.out _).mono ?_
            rintro e w1 ⟨rfl, rfl⟩
            (go_wp2_with fail; repeat (any_goals (go_quiet (fail); go_wp2_with fail)))
            refine bodyPost_ret (v := .tuple #[.agg #[.int .i64 (0 + 1), .int .i64 (i : Int), .int .i64 ((i : Int) + 4), .string ⟨#[]⟩], .int .i64 0, .int .i64 0]) (by simp [results, Tryz.results50, go_sem, *]) rfl ⟨?_, (by repeat (first | assumption | exact Below.refl _ _ | apply Below.drew | apply below_drewN | apply balloc | (refine Below.setCell ?_ (by first | omega | (simp <;> omega)) _)))⟩
            rw [he.out]; rfl
          | false =>
            replace D : Hid (∀ w, Calls Tryz.prog 76 #[.string s, .int .i64 (i : Int), .string ⟨#[110, 117, 108, 108]⟩] w fun e w' => e = .returned (.bool false) ∧ w = w') := Lib.hid (fun w => by have := D.out w; rw [hm] at this; exact this)
            replace hm := Lib.hid hm
            replace hv := Lib.hid hv
            replace hK := Lib.hid hK
            (go_wp2_with fail; repeat (any_goals (go_quiet (fail); go_wp2_with fail)))
            refine (D.out _).mono ?_
            rintro e w1 ⟨rfl, rfl⟩
            (go_wp2_with fail; repeat (any_goals (go_quiet (fail); go_wp2_with fail)))
            go_roundw
            case rel => exact ⟨0 + 1, by omega, rfl, Lib.hid (fun j hj => by
              rcases (show j < 0 ∨ j = 0 by omega) with h | h
              · exact hno.out j h
              · subst h; exact hm.out), hv.out, hK.out, (by repeat (first | assumption | exact Below.refl _ _ | apply Below.drew | apply below_drewN | apply balloc | (refine Below.setCell ?_ (by first | omega | (simp <;> omega)) _)))⟩
            case measure => simp [intOf]
        · have kw : wr.cell? ⟨wo.heap.size, 1, none⟩ = some (.string ⟨#[116, 114, 117, 101]⟩) := cellB hK 1 rfl
          have D := Lib.hid (fun w => starts_calls' s i (wordF 1) w (by have := hs.out; omega) (by decide) (by have := hs.out; have := hi.out; omega))
          cases hm : startsS s i (wordF 1) with
          | true =>
            have he := rOneV_ok (hO.out.trans (one_true hm))
            replace D : Hid (∀ w, Calls Tryz.prog 76 #[.string s, .int .i64 (i : Int), .string ⟨#[116, 114, 117, 101]⟩] w fun e w' => e = .returned (.bool true) ∧ w = w') := Lib.hid (fun w => by have := D.out w; rw [hm] at this; exact this)
            replace hm := Lib.hid hm
            replace he := Lib.hid he
            have x0 := cellB hv 0 rfl
            have x1 := cellB hv 1 rfl
            have x2 := cellB hv 2 rfl
            have x3 := cellB hv 3 rfl
            have f0 := freeB hv 0
            have f1 := freeB hv 1
            have f2 := freeB hv 2
            have f3 := freeB hv 3
            have hvl := ltB hv
            replace hv := Lib.hid hv
            replace hK := Lib.hid hK
            (go_wp2_with fail; repeat (any_goals (go_quiet (fail); go_wp2_with fail)))
            refine (D.out _).mono ?_
            rintro e w1 ⟨rfl, rfl⟩
            (go_wp2_with fail; repeat (any_goals (go_quiet (fail); go_wp2_with fail)))
            refine bodyPost_ret (v := .tuple #[.agg #[.int .i64 (1 + 1), .int .i64 (i : Int), .int .i64 ((i : Int) + 4), .string ⟨#[]⟩], .int .i64 0, .int .i64 0]) (by simp [results, Tryz.results50, go_sem, *]) rfl ⟨?_, (by repeat (first | assumption | exact Below.refl _ _ | apply Below.drew | apply below_drewN | apply balloc | (refine Below.setCell ?_ (by first | omega | (simp <;> omega)) _)))⟩
            rw [he.out]; rfl
          | false =>
            replace D : Hid (∀ w, Calls Tryz.prog 76 #[.string s, .int .i64 (i : Int), .string ⟨#[116, 114, 117, 101]⟩] w fun e w' => e = .returned (.bool false) ∧ w = w') := Lib.hid (fun w => by have := D.out w; rw [hm] at this; exact this)
            replace hm := Lib.hid hm
            replace hv := Lib.hid hv
            replace hK := Lib.hid hK
            (go_wp2_with fail; repeat (any_goals (go_quiet (fail); go_wp2_with fail)))
            refine (D.out _).mono ?_
            rintro e w1 ⟨rfl, rfl⟩
            (go_wp2_with fail; repeat (any_goals (go_quiet (fail); go_wp2_with fail)))
            go_roundw
            case rel => exact ⟨1 + 1, by omega, rfl, Lib.hid (fun j hj => by
              rcases (show j < 1 ∨ j = 1 by omega) with h | h
              · exact hno.out j h
              · subst h; exact hm.out), hv.out, hK.out, (by repeat (first | assumption | exact Below.refl _ _ | apply Below.drew | apply below_drewN | apply balloc | (refine Below.setCell ?_ (by first | omega | (simp <;> omega)) _)))⟩
            case measure => simp [intOf]
        · have kw : wr.cell? ⟨wo.heap.size, 2, none⟩ = some (.string ⟨#[102, 97, 108, 115, 101]⟩) := cellB hK 2 rfl
          have D := Lib.hid (fun w => starts_calls' s i (wordF 2) w (by have := hs.out; omega) (by decide) (by have := hs.out; have := hi.out; omega))
          cases hm : startsS s i (wordF 2) with
          | true =>
            have he := rOneV_ok (hO.out.trans (one_false hm))
            replace D : Hid (∀ w, Calls Tryz.prog 76 #[.string s, .int .i64 (i : Int), .string ⟨#[102, 97, 108, 115, 101]⟩] w fun e w' => e = .returned (.bool true) ∧ w = w') := Lib.hid (fun w => by have := D.out w; rw [hm] at this; exact this)
            replace hm := Lib.hid hm
            replace he := Lib.hid he
            have x0 := cellB hv 0 rfl
            have x1 := cellB hv 1 rfl
            have x2 := cellB hv 2 rfl
            have x3 := cellB hv 3 rfl
            have f0 := freeB hv 0
            have f1 := freeB hv 1
            have f2 := freeB hv 2
            have f3 := freeB hv 3
            have hvl := ltB hv
            replace hv := Lib.hid hv
            replace hK := Lib.hid hK
            (go_wp2_with fail; repeat (any_goals (go_quiet (fail); go_wp2_with fail)))
            refine (D.out _).mono ?_
            rintro e w1 ⟨rfl, rfl⟩
            (go_wp2_with fail; repeat (any_goals (go_quiet (fail); go_wp2_with fail)))
            refine bodyPost_ret (v := .tuple #[.agg #[.int .i64 (2 + 1), .int .i64 (i : Int), .int .i64 ((i : Int) + 5), .string ⟨#[]⟩], .int .i64 0, .int .i64 0]) (by simp [results, Tryz.results50, go_sem, *]) rfl ⟨?_, (by repeat (first | assumption | exact Below.refl _ _ | apply Below.drew | apply below_drewN | apply balloc | (refine Below.setCell ?_ (by first | omega | (simp <;> omega)) _)))⟩
            rw [he.out]; rfl
          | false =>
            replace D : Hid (∀ w, Calls Tryz.prog 76 #[.string s, .int .i64 (i : Int), .string ⟨#[102, 97, 108, 115, 101]⟩] w fun e w' => e = .returned (.bool false) ∧ w = w') := Lib.hid (fun w => by have := D.out w; rw [hm] at this; exact this)
            replace hm := Lib.hid hm
            replace hv := Lib.hid hv
            replace hK := Lib.hid hK
            (go_wp2_with fail; repeat (any_goals (go_quiet (fail); go_wp2_with fail)))
            refine (D.out _).mono ?_
            rintro e w1 ⟨rfl, rfl⟩
            (go_wp2_with fail; repeat (any_goals (go_quiet (fail); go_wp2_with fail)))
            go_roundw
            case rel => exact ⟨2 + 1, by omega, rfl, Lib.hid (fun j hj => by
              rcases (show j < 2 ∨ j = 2 by omega) with h | h
              · exact hno.out j h
              · subst h; exact hm.out), hv.out, hK.out, (by repeat (first | assumption | exact Below.refl _ _ | apply Below.drew | apply below_drewN | apply balloc | (refine Below.setCell ?_ (by first | omega | (simp <;> omega)) _)))⟩
            case measure => simp [intOf]
        · have hE := hO.out.trans (one_rest hk0.out hno.out)
          clear hno hK hk hk0
          rename_i wq
          by_cases hn : bAt s i = 45 ∨ isD (bAt s i) = true
          · rw [if_pos hn] at hE
            obtain ⟨N, hN⟩ : ∃ N, numAt s i = N := ⟨_, rfl⟩
            rw [hN] at hE
            have C := Lib.hid (fun w => rNumber_calls2 s i w hs.out hi.out _ (by rw [hN]))
            replace hN := Lib.hid hN
            obtain ⟨nb, ne⟩ := N
            cases nb with
            | true =>
              rw [if_pos rfl] at hE
              have he := rOneV_ok hE
              replace C : Hid (∀ w, Calls Tryz.prog 78 #[.string s, .int .i64 (i : Int)] w fun e w' => e = .returned (.tuple #[.int .i64 (ne : Int), .int .i64 (-1)]) ∧ w = w') := C
              replace hE := Lib.hid hE
              replace he := Lib.hid he
              by_cases h45 : bAt s i = 45
              · have h45' : ((bAt s i : Int) == 45) = true := by simp; omega
                replace h45 := Lib.hid h45
                replace hn := Lib.hid hn
                have x0 := cellB hv 0 rfl
                have x1 := cellB hv 1 rfl
                have x2 := cellB hv 2 rfl
                have x3 := cellB hv 3 rfl
                have f0 := freeB hv 0
                have f1 := freeB hv 1
                have f2 := freeB hv 2
                have f3 := freeB hv 3
                have hvl := ltB hv
                replace hv := Lib.hid hv
                (go_wp2_with fail; repeat (any_goals (go_quiet (fail); go_wp2_with fail)))
                refine (C.out _).mono ?_
                rintro e w1 ⟨rfl, rfl⟩
                (go_wp2_with fail; repeat (any_goals (go_quiet (fail); go_wp2_with fail)))
                refine bodyPost_ret (v := .tuple #[.agg #[.int .i64 4, .int .i64 (i : Int), .int .i64 (ne : Int), .string ⟨#[]⟩], .int .i64 0, .int .i64 0]) (by simp [results, Tryz.results50, go_sem, *]) rfl ⟨?_, (by repeat (first | assumption | exact Below.refl _ _ | apply Below.drew | apply below_drewN | apply balloc | (refine Below.setCell ?_ (by first | omega | (simp <;> omega)) _)))⟩
                rw [he.out]; rfl
              · have h45' : ((bAt s i : Int) == 45) = false := by simp; omega
                have D := Lib.hid (fun w => rDigit_calls2 (bAt s i) true w (by rcases hn with h | h; exact absurd h h45; exact h))
                replace h45 := Lib.hid h45
                replace hn := Lib.hid hn
                have x0 := cellB hv 0 rfl
                have x1 := cellB hv 1 rfl
                have x2 := cellB hv 2 rfl
                have x3 := cellB hv 3 rfl
                have f0 := freeB hv 0
                have f1 := freeB hv 1
                have f2 := freeB hv 2
                have f3 := freeB hv 3
                have hvl := ltB hv
                replace hv := Lib.hid hv
                (go_wp2_with fail; repeat (any_goals (go_quiet (fail); go_wp2_with fail)))
                refine (D.out _).mono ?_
                rintro e w1 ⟨rfl, rfl⟩
                (go_wp2_with fail; repeat (any_goals (go_quiet (fail); go_wp2_with fail)))
                refine (C.out _).mono ?_
                rintro e w1 ⟨rfl, rfl⟩
                (go_wp2_with fail; repeat (any_goals (go_quiet (fail); go_wp2_with fail)))
                refine bodyPost_ret (v := .tuple #[.agg #[.int .i64 4, .int .i64 (i : Int), .int .i64 (ne : Int), .string ⟨#[]⟩], .int .i64 0, .int .i64 0]) (by simp [results, Tryz.results50, go_sem, *]) rfl ⟨?_, (by repeat (first | assumption | exact Below.refl _ _ | apply Below.drew | apply below_drewN | apply balloc | (refine Below.setCell ?_ (by first | omega | (simp <;> omega)) _)))⟩
                rw [he.out]; rfl
            | false =>
              rw [if_neg (by simp)] at hE
              have he := rOneV_bad hE
              replace C : Hid (∀ w, Calls Tryz.prog 78 #[.string s, .int .i64 (i : Int)] w fun e w' => e = .returned (.tuple #[.int .i64 0, .int .i64 (ne : Int)]) ∧ w = w') := C
              replace hE := Lib.hid hE
              replace he := Lib.hid he
              by_cases h45 : bAt s i = 45
              · have h45' : ((bAt s i : Int) == 45) = true := by simp; omega
                replace h45 := Lib.hid h45
                replace hn := Lib.hid hn
                have x0 := cellB hv 0 rfl
                have x1 := cellB hv 1 rfl
                have x2 := cellB hv 2 rfl
                have x3 := cellB hv 3 rfl
                have f0 := freeB hv 0
                have f1 := freeB hv 1
                have f2 := freeB hv 2
                have f3 := freeB hv 3
                have hvl := ltB hv
                replace hv := Lib.hid hv
                (go_wp2_with fail; repeat (any_goals (go_quiet (fail); go_wp2_with fail)))
                refine (C.out _).mono ?_
                rintro e w1 ⟨rfl, rfl⟩
                (go_wp2_with fail; repeat (any_goals (go_quiet (fail); go_wp2_with fail)))
                refine bodyPost_ret (v := .tuple #[.agg #[.int .i64 0, .int .i64 0, .int .i64 0, .string ⟨#[]⟩], .int .i64 2, .int .i64 (ne : Int)]) (by simp [results, Tryz.results50, go_sem, *]) rfl ⟨?_, (by repeat (first | assumption | exact Below.refl _ _ | apply Below.drew | apply below_drewN | apply balloc | (refine Below.setCell ?_ (by first | omega | (simp <;> omega)) _)))⟩
                rw [he.out]; rfl
              · have h45' : ((bAt s i : Int) == 45) = false := by simp; omega
                have D := Lib.hid (fun w => rDigit_calls2 (bAt s i) true w (by rcases hn with h | h; exact absurd h h45; exact h))
                replace h45 := Lib.hid h45
                replace hn := Lib.hid hn
                have x0 := cellB hv 0 rfl
                have x1 := cellB hv 1 rfl
                have x2 := cellB hv 2 rfl
                have x3 := cellB hv 3 rfl
                have f0 := freeB hv 0
                have f1 := freeB hv 1
                have f2 := freeB hv 2
                have f3 := freeB hv 3
                have hvl := ltB hv
                replace hv := Lib.hid hv
                (go_wp2_with fail; repeat (any_goals (go_quiet (fail); go_wp2_with fail)))
                refine (D.out _).mono ?_
                rintro e w1 ⟨rfl, rfl⟩
                (go_wp2_with fail; repeat (any_goals (go_quiet (fail); go_wp2_with fail)))
                refine (C.out _).mono ?_
                rintro e w1 ⟨rfl, rfl⟩
                (go_wp2_with fail; repeat (any_goals (go_quiet (fail); go_wp2_with fail)))
                refine bodyPost_ret (v := .tuple #[.agg #[.int .i64 0, .int .i64 0, .int .i64 0, .string ⟨#[]⟩], .int .i64 2, .int .i64 (ne : Int)]) (by simp [results, Tryz.results50, go_sem, *]) rfl ⟨?_, (by repeat (first | assumption | exact Below.refl _ _ | apply Below.drew | apply below_drewN | apply balloc | (refine Below.setCell ?_ (by first | omega | (simp <;> omega)) _)))⟩
                rw [he.out]; rfl
          · rw [if_neg hn] at hE
            have h45' : ((bAt s i : Int) == 45) = false := by simp; omega
            have D := Lib.hid (fun w => rDigit_calls2 (bAt s i) false w (by rw [Bool.eq_false_iff]; exact fun h => hn (Or.inr h)))
            replace hn := Lib.hid hn
            by_cases h34 : bAt s i = 34
            · have h34' : ((bAt s i : Int) == 34) = true := by simp; omega
              rw [if_pos h34] at hE
              obtain ⟨R, hR⟩ : ∃ R, qAt s (i + 1) [] = R := ⟨_, rfl⟩
              rw [hR] at hE
              replace h34 := Lib.hid h34
              obtain ⟨e0, p, l⟩ := R
              cases e0 with
              | zero =>
                have C := Lib.hid (fun w => rQuoted_calls2 s i w hs.out hi.out _ (rQV_ok hR))
                rw [if_pos rfl] at hE
                have he := rOneV_ok hE
                replace hE := Lib.hid hE
                replace he := Lib.hid he
                replace hR := Lib.hid hR
                replace hv := Lib.hid hv
                (go_wp2_with fail; repeat (any_goals (go_quiet (fail); go_wp2_with fail)))
                refine (D.out _).mono ?_
                rintro e w1 ⟨rfl, rfl⟩
                (go_wp2_with fail; repeat (any_goals (go_quiet (fail); go_wp2_with fail)))
                refine (C.out _).mono ?_
                rintro e w2 ⟨rfl, hb⟩
                have hb2 : Below w.heap.size w w2 := hB.trans (hb.mono hB.size)
                replace hv := box_next hv.out hb
                clear hb hB
                have x0 := cellB hv 0 rfl
                have x1 := cellB hv 1 rfl
                have x2 := cellB hv 2 rfl
                have x3 := cellB hv 3 rfl
                have f0 := freeB hv 0
                have f1 := freeB hv 1
                have f2 := freeB hv 2
                have f3 := freeB hv 3
                have hvl := ltB hv
                replace hv := Lib.hid hv
                (go_wp2_with fail; repeat (any_goals (go_quiet (fail); go_wp2_with fail)))
                refine bodyPost_ret (v := .tuple #[.agg #[.int .i64 5, .int .i64 (i : Int), .int .i64 (p : Int), .string ⟨l.toArray⟩], .int .i64 0, .int .i64 0]) (by simp [results, Tryz.results50, go_sem, *]) rfl ⟨?_, (by repeat (first | assumption | exact Below.refl _ _ | apply Below.drew | apply below_drewN | apply balloc | (refine Below.setCell ?_ (by first | omega | (simp <;> omega)) _)))⟩
                rw [he.out]; rfl
              | succ e0 =>
                have C := Lib.hid (fun w => rQuoted_calls2 s i w hs.out hi.out _ (rQV_bad hR))
                rw [if_neg (by simp)] at hE
                have he := rOneV_bad hE
                have hne2 : (((e0 + 1 : Nat) : Int) != 0) = true := by simp; omega
                replace hE := Lib.hid hE
                replace hR := Lib.hid hR
                replace hv := Lib.hid hv
                generalize ((e0 + 1 : Nat) : Int) = e1 at *
                replace he := Lib.hid he
                (go_wp2_with fail; repeat (any_goals (go_quiet (fail); go_wp2_with fail)))
                refine (D.out _).mono ?_
                rintro e w1 ⟨rfl, rfl⟩
                (go_wp2_with fail; repeat (any_goals (go_quiet (fail); go_wp2_with fail)))
                refine (C.out _).mono ?_
                rintro e w2 ⟨rfl, hb⟩
                have hb2 : Below w.heap.size w w2 := hB.trans (hb.mono hB.size)
                replace hv := box_next hv.out hb
                clear hb hB
                have x0 := cellB hv 0 rfl
                have x1 := cellB hv 1 rfl
                have x2 := cellB hv 2 rfl
                have x3 := cellB hv 3 rfl
                have f0 := freeB hv 0
                have f1 := freeB hv 1
                have f2 := freeB hv 2
                have f3 := freeB hv 3
                have hvl := ltB hv
                replace hv := Lib.hid hv
                (go_wp2_with fail; repeat (any_goals (go_quiet (fail); go_wp2_with fail)))
                refine bodyPost_ret (v := .tuple #[.agg #[.int .i64 0, .int .i64 0, .int .i64 0, .string ⟨#[]⟩], .int .i64 e1, .int .i64 (p : Int)]) (by simp [results, Tryz.results50, go_sem, *]) rfl ⟨?_, (by repeat (first | assumption | exact Below.refl _ _ | apply Below.drew | apply below_drewN | apply balloc | (refine Below.setCell ?_ (by first | omega | (simp <;> omega)) _)))⟩
                rw [he.out]
            · have h34' : ((bAt s i : Int) == 34) = false := by simp; omega
              rw [if_neg h34] at hE
              have he := rOneV_bad hE
              replace h34 := Lib.hid h34
              replace hE := Lib.hid hE
              replace he := Lib.hid he
              replace hv := Lib.hid hv
              (go_wp2_with fail; repeat (any_goals (go_quiet (fail); go_wp2_with fail)))
              refine (D.out _).mono ?_
              rintro e w1 ⟨rfl, rfl⟩
              replace hv := hv.out
              have x0 := cellB hv 0 rfl
              have x1 := cellB hv 1 rfl
              have x2 := cellB hv 2 rfl
              have x3 := cellB hv 3 rfl
              have f0 := freeB hv 0
              have f1 := freeB hv 1
              have f2 := freeB hv 2
              have f3 := freeB hv 3
              have hvl := ltB hv
              replace hv := Lib.hid hv
              (go_wp2_with fail; repeat (any_goals (go_quiet (fail); go_wp2_with fail)))
              refine bodyPost_ret (v := .tuple #[.agg #[.int .i64 0, .int .i64 0, .int .i64 0, .string ⟨#[]⟩], .int .i64 2, .int .i64 (i : Int)]) (by simp [results, Tryz.results50, go_sem, *]) rfl ⟨?_, (by repeat (first | assumption | exact Below.refl _ _ | apply Below.drew | apply below_drewN | apply balloc | (refine Below.setCell ?_ (by first | omega | (simp <;> omega)) _)))⟩
              rw [he.out]; rfl

end Go.Proofs.YtibopkodoidjoaaGreatDoor

/- Plain laws: a text is UTF-8 just if its bytes are the encodings of scalars. No program in sight. -/
namespace Go.Proofs.YtibopkodoidjoaaGreatDoor
open Go Go.RowKit

/-- The bytes from i on, up to j. -/
def bs (s : ByteArray) (i j : Nat) : List Nat := (List.range (j - i)).map fun k => bAt s (i + k)
/-- The bytes are the encodings of scalars. -/
def VL (l : List Nat) : Prop := ∃ rs : List Nat, (∀ r ∈ rs, scalarN r = true) ∧ l = rs.flatMap encN
theorem VL.nil : VL [] := ⟨[], by simp, rfl⟩
theorem VL.append {l m : List Nat} (h1 : VL l) (h2 : VL m) : VL (l ++ m) := by
  obtain ⟨a, ha, rfl⟩ := h1
  obtain ⟨b, hb, rfl⟩ := h2
  refine ⟨a ++ b, fun r hr => ?_, by rw [List.flatMap_append]⟩
  rcases List.mem_append.1 hr with h | h
  · exact ha r h
  · exact hb r h
theorem VL.enc {r : Nat} (h : scalarN r = true) : VL (encN r) := ⟨[r], by simpa using h, by simp⟩
theorem VL.one {c : Nat} (h : c < 128) : VL [c] := by
  have := VL.enc (r := c) (scalarN_iff.2 (by omega))
  unfold encN at this
  rwa [if_pos h] at this
theorem utfE_brk (s : ByteArray) : utfE s = 0 ↔ brkAt s 0 = s.size := by
  have := brkAt_le s
  unfold utfE
  split <;> omega
/-- Bytes of a list. -/
def nthN (l : List UInt8) (k : Nat) : Nat := ((l[k]?).map UInt8.toNat).getD 0
end Go.Proofs.YtibopkodoidjoaaGreatDoor

/- Plain laws: a token depends on its own bytes alone (a number on the byte behind it too); what a scan answers, as a chain. No program in sight. -/
namespace Go.Proofs.YtibopkodoidjoaaGreatDoor
open Go Go.RowKit

/-- n bytes of t at k are those of s at i. -/
def Agr (s t : ByteArray) (i k n : Nat) : Prop := ∀ j, j < n → bAt t (k + j) = bAt s (i + j)
/-- No number goes on with this byte. -/
def stopB (c : Nat) : Prop := isD c = false ∧ c ≠ 46 ∧ c ≠ 101 ∧ c ≠ 69
structure Loc (s t : ByteArray) (i k n : Nat) : Prop where
  ag : Agr s t i k n
  nx : bAt t (k + n) = bAt s (i + n) ∨ stopB (bAt t (k + n))
theorem Agr.sub {s t : ByteArray} {i k n : Nat} (h : Agr s t i k n) (a : Nat) {m : Nat} (hm : a + m ≤ n) : Agr s t (i + a) (k + a) m := fun j hj => by
  have := h (a + j) (by omega)
  rw [Nat.add_assoc, Nat.add_assoc]; exact this
/-! ### Chains -/
/-- Blanks alone from p to k. -/
def Blk (t : ByteArray) (p k : Nat) : Prop := ∀ j, p ≤ j → j < k → blankN (bAt t j) = true
/-- From p on, t is these tokens with blanks between. -/
def Chain (t : ByteArray) : Nat → List Tk → Prop
  | p, [] => p ≤ t.size ∧ Blk t p t.size
  | p, T :: r => p ≤ T.fr ∧ T.fr < t.size ∧ Blk t p T.fr ∧ oneAt t T.fr = (0, 0, T) ∧ Chain t T.to r
theorem blk_at {t : ByteArray} {k : Nat} : ∀ {n p : Nat}, k - p ≤ n → p ≤ k → k ≤ t.size → Blk t p k → (k < t.size → blankN (bAt t k) = false) → blkAt t p = k
  | 0, p, h1, h2, h3, hb, hk => by
    obtain rfl : p = k := by omega
    rw [blkAt_eq]
    by_cases h : p < t.size
    · rw [hk h]; simp
    · rw [if_neg (fun hx => h hx.1)]
  | n + 1, p, h1, h2, h3, hb, hk => by
    by_cases he : p = k
    · subst he
      rw [blkAt_eq]
      by_cases h : p < t.size
      · rw [hk h]; simp
      · rw [if_neg (fun hx => h hx.1)]
    · rw [blkAt_eq, if_pos ⟨by omega, hb p (Nat.le_refl _) (by omega)⟩]
      exact blk_at (n := n) (by omega) (by omega) h3 (fun j hj hj2 => hb j (by omega) hj2) hk
theorem blk_run (t : ByteArray) : ∀ (n p : Nat), t.size - p ≤ n → Blk t p (blkAt t p)
  | 0, p, h1 => by
    rw [blkAt_eq, if_neg (by omega)]
    intro j h2 h3; omega
  | n + 1, p, h1 => by
    rw [blkAt_eq]
    by_cases h : p < t.size ∧ blankN (bAt t p) = true
    · rw [if_pos h]
      intro j h2 h3
      by_cases hj : j = p
      · rw [hj]; exact h.2
      · exact blk_run t n (p + 1) (by omega) j (by omega) h3
    · rw [if_neg h]
      intro j h2 h3; omega
theorem one_fr {s : ByteArray} {i : Nat} (hi : i < s.size) (hb : brkAt s i = s.size) {T : Tk} (h : oneAt s i = (0, 0, T)) : T.fr = i ∧ i < T.to ∧ T.to ≤ s.size ∧ brkAt s T.to = s.size ∧ T.text.size ≤ T.to - i ∧ 1 ≤ T.kind ∧ T.kind ≤ 11 := by
  have := oneAt_ok s i hi hb (by rw [h])
  rw [h] at this
  exact this
theorem oneAt_form (s : ByteArray) (i : Nat) (h : (oneAt s i).1 = 0) : oneAt s i = (0, 0, (oneAt s i).2.2) := by
  have key : ∀ O : Nat × Nat × Tk, (O.1 = 0 → O.2.1 = 0) → O.1 = 0 → O = (0, 0, O.2.2) := by
    rintro ⟨a, b, c⟩ h1 h2
    simp only at h1 h2
    rw [h2, h1 h2]
  refine key _ ?_ h
  unfold oneAt
  simp only
  repeat' split
  all_goals simp_all
theorem one_notblank {s : ByteArray} {i : Nat} (h : (oneAt s i).1 = 0) : blankN (bAt s i) = false := by
  cases hb : blankN (bAt s i) with
  | false => rfl
  | true =>
    exfalso
    have hc : bAt s i = 32 ∨ bAt s i = 9 ∨ bAt s i = 10 ∨ bAt s i = 13 := by
      simp only [blankN, Bool.or_eq_true, beq_iff_eq] at hb; omega
    unfold oneAt at h
    rcases hc with e | e | e | e <;> (rw [e] at h; simp [signK, isD] at h)
theorem scan_chain {s : ByteArray} : ∀ (ts : List Tk) (p : Nat), p ≤ s.size → brkAt s p = s.size → (scanAt s p = (ts, 0, 0) ↔ Chain s p ts)
  | [], p, hp, hb => by
    have hl := blkAt_low s p hp
    rw [scan_step s p hp hb]
    constructor
    · intro h
      by_cases hlt : blkAt s p < s.size
      · rw [if_pos hlt] at h
        by_cases ho : (oneAt s (blkAt s p)).1 = 0
        · rw [if_pos ho] at h; simp at h
        · rw [if_neg ho] at h
          simp only [Prod.mk.injEq] at h
          exact absurd h.2.1 ho
      · refine ⟨hp, ?_⟩
        have := blk_run s _ p (Nat.le_refl _)
        rw [show blkAt s p = s.size by have := hl.2.1; omega] at this
        exact this
    · rintro ⟨_, h⟩
      have := blk_at (n := s.size - p) (by omega) hp (Nat.le_refl _) h (fun h => by omega)
      rw [this, if_neg (by omega)]
  | T :: ts, p, hp, hb => by
    have hl := blkAt_low s p hp
    rw [scan_step s p hp hb]
    constructor
    · intro h
      by_cases hlt : blkAt s p < s.size
      · rw [if_pos hlt] at h
        by_cases ho : (oneAt s (blkAt s p)).1 = 0
        · rw [if_pos ho] at h
          have hbb := hl.brk hb
          have hform := oneAt_form s _ ho
          have hfr := one_fr hlt hbb hform
          simp only [Prod.mk.injEq, List.cons.injEq] at h
          obtain ⟨⟨rfl, h1⟩, h2⟩ := h
          have h3 : scanAt s (oneAt s (blkAt s p)).2.2.to = (ts, 0, 0) := by
            rw [← h1, show ((0, 0) : Nat × Nat) = (scanAt s (oneAt s (blkAt s p)).2.2.to).2 from h2.symm]
          refine ⟨by rw [hfr.1]; exact hl.1, by rw [hfr.1]; exact hlt, by rw [hfr.1]; exact blk_run s _ p (Nat.le_refl _), by rw [hfr.1]; exact hform, ?_⟩
          exact (scan_chain ts _ hfr.2.2.1 hfr.2.2.2.1).1 h3
        · rw [if_neg ho] at h; simp at h
      · rw [if_neg hlt] at h; simp at h
    · rintro ⟨h1, h2, h3, h4, h5⟩
      have hk := one_notblank (s := s) (i := T.fr) (by rw [h4])
      have hbk := blk_at (n := T.fr - p) (by omega) h1 (by omega) h3 (fun _ => hk)
      have hbb := hl.brk hb
      rw [hbk] at hbb ⊢
      have hfr := one_fr h2 hbb h4
      rw [if_pos h2, h4, if_pos rfl]
      simp only
      rw [(scan_chain ts _ hfr.2.2.1 hfr.2.2.2.1).2 h5]

end Go.Proofs.YtibopkodoidjoaaGreatDoor

/- Plain laws: a text quoted, scanned, is that text; numbers' decimal digits, scanned. No program in sight. -/
namespace Go.Proofs.YtibopkodoidjoaaGreatDoor
open Go Go.RowKit

def hexL : List UInt8 := [48, 49, 50, 51, 52, 53, 54, 55, 56, 57, 97, 98, 99, 100, 101, 102]
/-- How a byte stands within quotes. -/
def escB (b : UInt8) : List UInt8 := if b = 34 ∨ b = 92 then [92, b] else if b.toNat < 32 then [92, 117, 48, 48, hexL.getD (b.toNat / 16) 0, hexL.getD (b.toNat % 16) 0] else [b]
def quoteL (l : List UInt8) : List UInt8 := 34 :: (l.flatMap escB ++ [34])
def quoteS (s : ByteArray) : ByteArray := ⟨(quoteL s.data.toList).toArray⟩
end Go.Proofs.YtibopkodoidjoaaGreatDoor

/- Plain laws: a text that is one token; what a scan's list holds. No program in sight. -/
namespace Go.Proofs.YtibopkodoidjoaaGreatDoor
open Go Go.RowKit

/-- A text that is just one token of a kind. -/
def single (s : ByteArray) (k : Nat) (ts : List Tk) : Bool := match ts with | [T] => T.kind == k && (T.fr == 0 && T.to == s.size) | _ => false
def hasE (s : ByteArray) : Bool := s.data.toList.any fun c => c == 46 || c == 101 || c == 69
/-- The text that JSON tells; its place and the error's number (place none: no place). -/
def unqS (s : ByteArray) : ByteArray × Option Nat × Nat :=
  if (someS s).2.1 = 0 then (if single s 5 (someS s).1 = true then ((((someS s).1.head?).map (·.text)).getD noS, some 0, 0) else (noS, none, 5)) else (noS, some (someS s).2.2, (someS s).2.1)
/-- The tokens of a text, in their places. -/
theorem some_chain {s : ByteArray} (h : (someS s).2.1 = 0) : utfE s = 0 ∧ Chain s 0 (someS s).1 ∧ someS s = ((someS s).1, 0, 0) := by
  by_cases hu : utfE s = 0
  · have hb := (utfE_brk _).1 hu
    have e := someS_eq s
    rw [if_pos hu] at e
    have h2 : someS s = ((someS s).1, 0, 0) := by
      have key : ∀ n i, s.size - i ≤ n → i ≤ s.size → brkAt s i = s.size → (scanAt s i).2.1 = 0 → (scanAt s i).2.2 = 0 := by
        intro n
        induction n with
        | zero =>
          intro i h1 h2 h3 h4
          rw [scanAt_eq s i h3, if_neg (by omega)]
        | succ n ih =>
          intro i h1 h2 h3 h4
          rw [scanAt_eq s i h3] at h4 ⊢
          by_cases hi : i < s.size
          · rw [if_pos hi] at h4 ⊢
            by_cases hbl : blankN (bAt s i) = true
            · rw [if_pos hbl] at h4 ⊢
              exact ih _ (by omega) (by omega) (brk_ascii h3 hi (blank_ascii hbl).2) h4
            rw [if_neg hbl] at h4 ⊢
            by_cases ho : (oneAt s i).1 = 0
            · rw [if_pos ho] at h4 ⊢
              have h5 := oneAt_ok s i hi h3 ho
              exact ih _ (by omega) h5.2.2.1 h5.2.2.2.1 h4
            · rw [if_neg ho] at h4
              exact absurd h4 ho
          · rw [if_neg hi]
      have h3 := key _ 0 (Nat.le_refl _) (Nat.zero_le _) hb (by rw [← e]; exact h)
      rw [← e] at h3
      have : ∀ R : List Tk × Nat × Nat, R.2.1 = 0 → R.2.2 = 0 → R = (R.1, 0, 0) := by
        rintro ⟨a, b, c⟩ h1 h2
        simp only at h1 h2
        rw [h1, h2]
      exact this _ h h3
    refine ⟨hu, (scan_chain _ 0 (Nat.zero_le _) hb).1 ?_, h2⟩
    rw [← e]; exact h2
  · rw [someS_eq, if_neg hu] at h; simp at h
/-- Tokens rise. -/
theorem chain_bd {s : ByteArray} : ∀ (ts : List Tk) (p : Nat), brkAt s p = s.size → p ≤ s.size → Chain s p ts → ∀ T ∈ ts, p ≤ T.fr ∧ T.fr < T.to ∧ T.to ≤ s.size ∧ brkAt s T.fr = s.size ∧ brkAt s T.to = s.size ∧ oneAt s T.fr = (0, 0, T)
  | [], _, _, _, _, T, hT => by cases hT
  | T' :: ts, p, hb, hp, ⟨h1, h2, h3, h4, h5⟩, T, hT => by
    have hbb : brkAt s T'.fr = s.size := by
      refine Low.brk (i := p) ⟨h1, by omega, fun k hk1 hk2 => (blank_ascii (h3 k hk1 hk2)).2⟩ hb
    have hfr := one_fr h2 hbb h4
    rcases List.mem_cons.1 hT with rfl | hT
    · exact ⟨h1, hfr.2.1, hfr.2.2.1, hbb, hfr.2.2.2.1, h4⟩
    · have := chain_bd ts T'.to hfr.2.2.2.1 hfr.2.2.1 h5 T hT
      exact ⟨by omega, this.2⟩
end Go.Proofs.YtibopkodoidjoaaGreatDoor
