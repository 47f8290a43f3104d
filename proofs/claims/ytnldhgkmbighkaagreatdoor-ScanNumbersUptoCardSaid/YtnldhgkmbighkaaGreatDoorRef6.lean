/- The document's values: Whole. -/
import Derived.Test.YtnldhgkmbighkaaGreatDoorDigPlain
namespace Go.Proofs.YtnldhgkmbighkaaGreatDoor
open Go Go.RowKit

theorem ret_wh {a b : Int} {c : Bool} (h : a = b) : Ending.returned (.tuple #[.int .i64 a, .bool c]) = .returned (.tuple #[.int .i64 b, .bool c]) := by rw [h]
theorem negw {y : Int} (h1 : 0 < y) (h2 : y ≤ 9223372036854775808) : wrap64 (IntKind.u64.wrap (-y)) = -y := by
  simp only [wrap64, IntKind.wrap, IntKind.signed, IntKind.bits]
  simp
  omega
set_option maxHeartbeats 1000000 in
set_option maxRecDepth 100000 in
theorem Whole_pos (s : ByteArray) (f : Nat → Int) (w : World) (hs : 0 < s.size) (h45 : bAt s 0 ≠ 45) (hz : s.size ≤ 19) (hd : Hid (∀ j, j < s.size → 48 ≤ bAt s j ∧ bAt s j ≤ 57)) (hf0 : Hid (f 0 = 0))
    (hfS : Hid (∀ k, k < s.size → f (k + 1) = 10 * f k + ((bAt s k : Int) - 48))) (hfb : Hid (∀ k, k < s.size → 0 ≤ f k ∧ f k ≤ 999999999999999999)) (h1 : 0 ≤ f s.size) (h2 : f s.size ≤ 9223372036854775807) :
    Calls Tryz.prog 59 #[.string s] w fun e w' => e = .returned (.tuple #[.int .i64 (f s.size), .bool true]) ∧ Below w.heap.size w w' := by
  have hx : ∀ h, ((s[0]'h).toNat : Int) = (bAt s 0 : Int) := fun h => by rw [bAt_eq]
  have h45' : ((bAt s 0 : Int) == 45) = false := by simp; omega
  replace h45 := Lib.hid h45
  have hz' : ¬ (19 < (s.size : Int)) := by omega
  obtain ⟨y, hy⟩ : ∃ y, y = f s.size := ⟨_, rfl⟩
  rw [← hy] at h1 h2 ⊢
  replace hy := Lib.hid hy
  go_enter Tryz.func59, Tryz.ntmps59
  (go_wp2_with fail; repeat (any_goals (go_quiet (fail); go_wp2_with fail)))
  go_loopg [5, 6] (s.size + 1) (fun kq x v w' => ∃ k : Nat, k ≤ s.size ∧ v = .int .i64 (k : Int) ∧ x = .int .u64 (f k) ∧ kq + k = s.size + 1 ∧ Below w.heap.size w w')
  case atStart => exact ⟨0, by omega, rfl, by rw [hf0.out], by omega, (by repeat (first | assumption | exact Below.refl _ _ | apply Below.drew | apply below_drewN | apply balloc | (refine Below.setCell ?_ (by first | omega | (simp <;> omega)) _)))⟩
  case round =>
    obtain ⟨k, hk, rfl, rfl, hq, hB⟩ := hrel
    by_cases hlt : k < s.size
    · have hv : ∀ h, ((s[k]'h).toNat : Int) = (bAt s k : Int) := fun h => by rw [bAt_eq]
      obtain ⟨hd1, hd2⟩ := hd.out k hlt
      obtain ⟨hb1, hb2⟩ := hfb.out k hlt
      obtain ⟨z, hfk⟩ : ∃ z, z = f k := ⟨_, rfl⟩
      have hS := hfS.out k hlt
      rw [← hfk] at hb1 hb2 hS ⊢
      replace hfk := Lib.hid hfk
      replace hS := Lib.hid hS
      (go_wp2_with fail; repeat (any_goals (go_quiet (fail); go_wp2_with fail)))
      go_roundg (s.size - k)
      case measure => omega
      case rel => exact ⟨k + 1, by omega, by simp, by rw [hS.out], by omega, by assumption⟩
    obtain rfl : k = s.size := by omega
    rw [← hy.out]
    clear hk hlt hq
    (go_wp2_with fail; repeat (any_goals (go_quiet (fail); go_wp2_with fail)))
    go_ret2
    exact ⟨rfl, (by repeat (first | assumption | exact Below.refl _ _ | apply Below.drew | apply below_drewN | apply balloc | (refine Below.setCell ?_ (by first | omega | (simp <;> omega)) _)))⟩
set_option maxHeartbeats 1000000 in
set_option maxRecDepth 100000 in
theorem Whole_big (s : ByteArray) (f : Nat → Int) (w : World) (hs : 0 < s.size) (h45 : bAt s 0 ≠ 45) (hz : s.size ≤ 19) (hd : Hid (∀ j, j < s.size → 48 ≤ bAt s j ∧ bAt s j ≤ 57)) (hf0 : Hid (f 0 = 0))
    (hfS : Hid (∀ k, k < s.size → f (k + 1) = 10 * f k + ((bAt s k : Int) - 48))) (hfb : Hid (∀ k, k < s.size → 0 ≤ f k ∧ f k ≤ 999999999999999999)) (h1 : 9223372036854775808 ≤ f s.size) :
    Calls Tryz.prog 59 #[.string s] w fun e w' => e = .returned (.tuple #[.int .i64 0, .bool false]) ∧ Below w.heap.size w w' := by
  have hx : ∀ h, ((s[0]'h).toNat : Int) = (bAt s 0 : Int) := fun h => by rw [bAt_eq]
  have h45' : ((bAt s 0 : Int) == 45) = false := by simp; omega
  replace h45 := Lib.hid h45
  have hz' : ¬ (19 < (s.size : Int)) := by omega
  obtain ⟨y, hy⟩ : ∃ y, y = f s.size := ⟨_, rfl⟩
  rw [← hy] at h1
  replace hy := Lib.hid hy
  go_enter Tryz.func59, Tryz.ntmps59
  (go_wp2_with fail; repeat (any_goals (go_quiet (fail); go_wp2_with fail)))
  go_loopg [5, 6] (s.size + 1) (fun kq x v w' => ∃ k : Nat, k ≤ s.size ∧ v = .int .i64 (k : Int) ∧ x = .int .u64 (f k) ∧ kq + k = s.size + 1 ∧ Below w.heap.size w w')
  case atStart => exact ⟨0, by omega, rfl, by rw [hf0.out], by omega, (by repeat (first | assumption | exact Below.refl _ _ | apply Below.drew | apply below_drewN | apply balloc | (refine Below.setCell ?_ (by first | omega | (simp <;> omega)) _)))⟩
  case round =>
    obtain ⟨k, hk, rfl, rfl, hq, hB⟩ := hrel
    by_cases hlt : k < s.size
    · have hv : ∀ h, ((s[k]'h).toNat : Int) = (bAt s k : Int) := fun h => by rw [bAt_eq]
      obtain ⟨hd1, hd2⟩ := hd.out k hlt
      obtain ⟨hb1, hb2⟩ := hfb.out k hlt
      obtain ⟨z, hfk⟩ : ∃ z, z = f k := ⟨_, rfl⟩
      have hS := hfS.out k hlt
      rw [← hfk] at hb1 hb2 hS ⊢
      replace hfk := Lib.hid hfk
      replace hS := Lib.hid hS
      (go_wp2_with fail; repeat (any_goals (go_quiet (fail); go_wp2_with fail)))
      go_roundg (s.size - k)
      case measure => omega
      case rel => exact ⟨k + 1, by omega, by simp, by rw [hS.out], by omega, by assumption⟩
    obtain rfl : k = s.size := by omega
    rw [← hy.out]
    clear hk hlt hq
    (go_wp2_with fail; repeat (any_goals (go_quiet (fail); go_wp2_with fail)))
    all_goals
      go_ret2
      exact ⟨rfl, (by repeat (first | assumption | exact Below.refl _ _ | apply Below.drew | apply below_drewN | apply balloc | (refine Below.setCell ?_ (by first | omega | (simp <;> omega)) _)))⟩
set_option maxHeartbeats 1000000 in
set_option maxRecDepth 100000 in
theorem Whole_long (s : ByteArray) (w : World) (hs : 0 < s.size) (_hsz : (s.size : Int) ≤ 140737488351232) (h45 : bAt s 0 ≠ 45) (hz : 19 < (s.size : Int)) :
    Calls Tryz.prog 59 #[.string s] w fun e w' => e = .returned (.tuple #[.int .i64 0, .bool false]) ∧ Below w.heap.size w w' := by
  have hx : ∀ h, ((s[0]'h).toNat : Int) = (bAt s 0 : Int) := fun h => by rw [bAt_eq]
  have h45' : ((bAt s 0 : Int) == 45) = false := by simp; omega
  replace h45 := Lib.hid h45
  go_enter Tryz.func59, Tryz.ntmps59
  (go_wp2_with fail; repeat (any_goals (go_quiet (fail); go_wp2_with fail)))
  go_ret2
  exact ⟨rfl, (by repeat (first | assumption | exact Below.refl _ _ | apply Below.drew | apply below_drewN | apply balloc | (refine Below.setCell ?_ (by first | omega | (simp <;> omega)) _)))⟩
set_option maxHeartbeats 1000000 in
set_option maxRecDepth 100000 in
theorem Whole_mlong (s t : ByteArray) (w : World) (hs : 0 < s.size) (_hsz : (s.size : Int) ≤ 140737488351232) (h45 : bAt s 0 = 45) (ht : s.extract 1 s.size = t) (hz : 19 < (t.size : Int)) :
    Calls Tryz.prog 59 #[.string s] w fun e w' => e = .returned (.tuple #[.int .i64 0, .bool false]) ∧ Below w.heap.size w w' := by
  have hx : ∀ h, ((s[0]'h).toNat : Int) = 45 := fun h => by rw [bAt_eq, h45]; rfl
  replace h45 := Lib.hid h45
  go_enter Tryz.func59, Tryz.ntmps59
  (go_wp2_with fail; repeat (any_goals (go_quiet (fail); go_wp2_with fail)))
  go_ret2
  exact ⟨rfl, (by repeat (first | assumption | exact Below.refl _ _ | apply Below.drew | apply below_drewN | apply balloc | (refine Below.setCell ?_ (by first | omega | (simp <;> omega)) _)))⟩
set_option maxHeartbeats 1000000 in
set_option maxRecDepth 100000 in
theorem Whole_neg (s t : ByteArray) (f : Nat → Int) (w : World) (hs : 0 < s.size) (hsz : (s.size : Int) ≤ 140737488351232) (h45 : bAt s 0 = 45) (ht : s.extract 1 s.size = t) (hz : t.size ≤ 19) (hd : Hid (∀ j, j < t.size → 48 ≤ bAt t j ∧ bAt t j ≤ 57)) (hf0 : Hid (f 0 = 0))
    (hfS : Hid (∀ k, k < t.size → f (k + 1) = 10 * f k + ((bAt t k : Int) - 48))) (hfb : Hid (∀ k, k < t.size → 0 ≤ f k ∧ f k ≤ 999999999999999999)) (h1 : 0 < f t.size) (h2 : f t.size ≤ 9223372036854775808) :
    Calls Tryz.prog 59 #[.string s] w fun e w' => e = .returned (.tuple #[.int .i64 (-(f t.size)), .bool true]) ∧ Below w.heap.size w w' := by
  have hx : ∀ h, ((s[0]'h).toNat : Int) = 45 := fun h => by rw [bAt_eq, h45]; rfl
  replace h45 := Lib.hid h45
  have hz' : ¬ (19 < (t.size : Int)) := by omega
  obtain ⟨y, hy⟩ : ∃ y, y = f t.size := ⟨_, rfl⟩
  rw [← hy] at h1 h2 ⊢
  replace hy := Lib.hid hy
  go_enter Tryz.func59, Tryz.ntmps59
  (go_wp2_with fail; repeat (any_goals (go_quiet (fail); go_wp2_with fail)))
  go_loopg [5, 6] (t.size + 1) (fun kq x v w' => ∃ k : Nat, k ≤ t.size ∧ v = .int .i64 (k : Int) ∧ x = .int .u64 (f k) ∧ kq + k = t.size + 1 ∧ Below w.heap.size w w')
  case atStart => exact ⟨0, by omega, rfl, by rw [hf0.out], by omega, (by repeat (first | assumption | exact Below.refl _ _ | apply Below.drew | apply below_drewN | apply balloc | (refine Below.setCell ?_ (by first | omega | (simp <;> omega)) _)))⟩
  case round =>
    obtain ⟨k, hk, rfl, rfl, hq, hB⟩ := hrel
    by_cases hlt : k < t.size
    · have hv : ∀ h, ((t[k]'h).toNat : Int) = (bAt t k : Int) := fun h => by rw [bAt_eq]
      obtain ⟨hd1, hd2⟩ := hd.out k hlt
      obtain ⟨hb1, hb2⟩ := hfb.out k hlt
      obtain ⟨z, hfk⟩ : ∃ z, z = f k := ⟨_, rfl⟩
      have hS := hfS.out k hlt
      rw [← hfk] at hb1 hb2 hS ⊢
      replace hfk := Lib.hid hfk
      replace hS := Lib.hid hS
      (go_wp2_with fail; repeat (any_goals (go_quiet (fail); go_wp2_with fail)))
      go_roundg (t.size - k)
      case measure => omega
      case rel => exact ⟨k + 1, by omega, by simp, by rw [hS.out], by omega, by assumption⟩
    obtain rfl : k = t.size := by omega
    rw [← hy.out]
    clear hk hlt hq
    (go_wp2_with fail; repeat (any_goals (go_quiet (fail); go_wp2_with fail)))
    all_goals
      go_ret2
      first
        | exact ⟨ret_wh (negw (by omega) (by omega)), (by repeat (first | assumption | exact Below.refl _ _ | apply Below.drew | apply below_drewN | apply balloc | (refine Below.setCell ?_ (by first | omega | (simp <;> omega)) _)))⟩
        | exact ⟨ret_wh (by have hq : y = 9223372036854775808 := by omega
                            rw [hq]; exact negw (by decide) (by decide)), (by repeat (first | assumption | exact Below.refl _ _ | apply Below.drew | apply below_drewN | apply balloc | (refine Below.setCell ?_ (by first | omega | (simp <;> omega)) _)))⟩
set_option maxHeartbeats 1000000 in
set_option maxRecDepth 100000 in
theorem Whole_mbig (s t : ByteArray) (f : Nat → Int) (w : World) (hs : 0 < s.size) (hsz : (s.size : Int) ≤ 140737488351232) (h45 : bAt s 0 = 45) (ht : s.extract 1 s.size = t) (hz : t.size ≤ 19) (hd : Hid (∀ j, j < t.size → 48 ≤ bAt t j ∧ bAt t j ≤ 57)) (hf0 : Hid (f 0 = 0))
    (hfS : Hid (∀ k, k < t.size → f (k + 1) = 10 * f k + ((bAt t k : Int) - 48))) (hfb : Hid (∀ k, k < t.size → 0 ≤ f k ∧ f k ≤ 999999999999999999)) (h1 : 9223372036854775808 < f t.size) :
    Calls Tryz.prog 59 #[.string s] w fun e w' => e = .returned (.tuple #[.int .i64 0, .bool false]) ∧ Below w.heap.size w w' := by
  have hx : ∀ h, ((s[0]'h).toNat : Int) = 45 := fun h => by rw [bAt_eq, h45]; rfl
  replace h45 := Lib.hid h45
  have hz' : ¬ (19 < (t.size : Int)) := by omega
  obtain ⟨y, hy⟩ : ∃ y, y = f t.size := ⟨_, rfl⟩
  rw [← hy] at h1
  replace hy := Lib.hid hy
  go_enter Tryz.func59, Tryz.ntmps59
  (go_wp2_with fail; repeat (any_goals (go_quiet (fail); go_wp2_with fail)))
  go_loopg [5, 6] (t.size + 1) (fun kq x v w' => ∃ k : Nat, k ≤ t.size ∧ v = .int .i64 (k : Int) ∧ x = .int .u64 (f k) ∧ kq + k = t.size + 1 ∧ Below w.heap.size w w')
  case atStart => exact ⟨0, by omega, rfl, by rw [hf0.out], by omega, (by repeat (first | assumption | exact Below.refl _ _ | apply Below.drew | apply below_drewN | apply balloc | (refine Below.setCell ?_ (by first | omega | (simp <;> omega)) _)))⟩
  case round =>
    obtain ⟨k, hk, rfl, rfl, hq, hB⟩ := hrel
    by_cases hlt : k < t.size
    · have hv : ∀ h, ((t[k]'h).toNat : Int) = (bAt t k : Int) := fun h => by rw [bAt_eq]
      obtain ⟨hd1, hd2⟩ := hd.out k hlt
      obtain ⟨hb1, hb2⟩ := hfb.out k hlt
      obtain ⟨z, hfk⟩ : ∃ z, z = f k := ⟨_, rfl⟩
      have hS := hfS.out k hlt
      rw [← hfk] at hb1 hb2 hS ⊢
      replace hfk := Lib.hid hfk
      replace hS := Lib.hid hS
      (go_wp2_with fail; repeat (any_goals (go_quiet (fail); go_wp2_with fail)))
      go_roundg (t.size - k)
      case measure => omega
      case rel => exact ⟨k + 1, by omega, by simp, by rw [hS.out], by omega, by assumption⟩
    obtain rfl : k = t.size := by omega
    rw [← hy.out]
    clear hk hlt hq
    (go_wp2_with fail; repeat (any_goals (go_quiet (fail); go_wp2_with fail)))
    all_goals
      go_ret2
      exact ⟨rfl, (by repeat (first | assumption | exact Below.refl _ _ | apply Below.drew | apply below_drewN | apply balloc | (refine Below.setCell ?_ (by first | omega | (simp <;> omega)) _)))⟩

def fDig (t : ByteArray) (k : Nat) : Int := (dvalA 0 (t.data.toList.take k) : Nat)
theorem fDig_zero (t : ByteArray) : fDig t 0 = 0 := rfl
theorem fDig_succ {t : ByteArray} {k : Nat} (h : k < t.size) (hd : 48 ≤ bAt t k) : fDig t (k + 1) = 10 * fDig t k + ((bAt t k : Int) - 48) := by
  obtain ⟨c, hc, hn⟩ := bAt_list t k h
  unfold fDig
  rw [List.take_add_one, hc]
  simp only [Option.toList_some]
  rw [dvalA_append, dvalA_cons, dvalA_nil, hn]
  omega
theorem fDig_lt {t : ByteArray} {k : Nat} (h : Canon t.data.toList) (hk : k ≤ 18) : 0 ≤ fDig t k ∧ fDig t k ≤ 999999999999999999 := by
  unfold fDig
  have h1 := dvalA_lt (t.data.toList.take k) (fun c hc => h.1 c (List.mem_of_mem_take hc)) 0
  have h2 : (t.data.toList.take k).length ≤ 18 := by rw [List.length_take]; omega
  have h3 : 10 ^ (t.data.toList.take k).length ≤ 10 ^ 18 := Nat.pow_le_pow_right (by decide) h2
  have h4 : (10 : Nat) ^ 18 = 1000000000000000000 := by decide
  omega
theorem fDig_all (t : ByteArray) : fDig t t.size = (dvalA 0 t.data.toList : Nat) := by
  unfold fDig
  rw [List.take_of_length_le (by rw [Array.length_toList]; exact Nat.le_refl _)]
theorem long_big {t : ByteArray} (h : Canon t.data.toList) (hz : 19 < t.size) : 9223372036854775808 < dvalA 0 t.data.toList := by
  obtain ⟨c, r, e, _⟩ := canon_head h
  have hl : t.data.toList.length = t.size := by rw [Array.length_toList]; rfl
  rw [e] at h hl ⊢
  have hr : r ≠ [] := by rintro rfl; simp at hl; omega
  have := canon_pow h hr
  have h2 : (10 : Nat) ^ 19 ≤ 10 ^ r.length := Nat.pow_le_pow_right (by decide) (by simp at hl; omega)
  have h3 : (10 : Nat) ^ 19 = 10000000000000000000 := by decide
  omega
theorem Whole_core (s : ByteArray) (w : World) (hs : s.size ≤ 140737488351232) (hw : Canon s.data.toList ∨ ∃ r, s.data.toList = 45 :: r ∧ Canon r ∧ r ≠ [48]) :
    Calls Tryz.prog 59 #[.string s] w fun e w' => e = .returned (.tuple #[.int .i64 (wholeV s.data.toList).1, .bool (wholeV s.data.toList).2]) ∧ Below w.heap.size w w' := by
  rcases hw with h | ⟨r, hr, h, hne⟩
  · have hdg := (digT_iff s).2 h
    have hp : 0 < s.size := by rcases hdg.2 with h | h <;> omega
    have h45 : bAt s 0 ≠ 45 := fun e => by have := (hdg.1 0 hp).1; omega
    unfold wholeV
    rw [parseIntB_pos h]
    by_cases hz : 19 < s.size
    · have := long_big h hz
      rw [if_neg (by omega)]
      exact Whole_long s w hp (by omega) h45 (by omega)
    · have hall := fDig_all s
      by_cases hb : dvalA 0 s.data.toList < 9223372036854775808
      · rw [if_pos hb]
        have := Whole_pos s (fDig s) w hp h45 (by omega) (Lib.hid hdg.1) (Lib.hid (fDig_zero s)) (Lib.hid (fun k hk => fDig_succ hk (hdg.1 k hk).1)) (Lib.hid (fun k hk => fDig_lt h (by omega))) (by omega) (by omega)
        rw [hall] at this
        exact this
      · rw [if_neg hb]
        exact Whole_big s (fDig s) w hp h45 (by omega) (Lib.hid hdg.1) (Lib.hid (fDig_zero s)) (Lib.hid (fun k hk => fDig_succ hk (hdg.1 k hk).1)) (Lib.hid (fun k hk => fDig_lt h (by omega))) (by omega)
  · have ht := extract1 s hr
    have hp : 0 < s.size := by
      have : s.data.toList.length = s.size := by rw [Array.length_toList]; rfl
      rw [hr] at this; simp at this; omega
    have h45 : bAt s 0 = 45 := by
      obtain ⟨d, hd, hn⟩ := bAt_list s 0 hp
      rw [hr] at hd
      simp at hd
      rw [← hn, ← hd]; rfl
    generalize hte : s.extract 1 s.size = t at *
    rw [← ht] at h hne
    have hdg := (digT_iff t).2 h
    unfold wholeV
    rw [hr, ← ht, parseIntB_neg h]
    have hall := fDig_all t
    by_cases hz : 19 < t.size
    · have := long_big h hz
      rw [if_neg (by omega)]
      exact Whole_mlong s t w hp (by omega) h45 hte (by omega)
    · have hpos : 0 < dvalA 0 t.data.toList := Nat.pos_of_ne_zero fun e => hne (canon_zero h e)
      by_cases hb : dvalA 0 t.data.toList ≤ 9223372036854775808
      · rw [if_pos hb]
        have := Whole_neg s t (fDig t) w hp (by omega) h45 hte (by omega) (Lib.hid hdg.1) (Lib.hid (fDig_zero t)) (Lib.hid (fun k hk => fDig_succ hk (hdg.1 k hk).1)) (Lib.hid (fun k hk => fDig_lt h (by omega))) (by omega) (by omega)
        rw [hall] at this
        exact this
      · rw [if_neg hb]
        exact Whole_mbig s t (fDig t) w hp (by omega) h45 hte (by omega) (Lib.hid hdg.1) (Lib.hid (fDig_zero t)) (Lib.hid (fun k hk => fDig_succ hk (hdg.1 k hk).1)) (Lib.hid (fun k hk => fDig_lt h (by omega))) (by omega)

end Go.Proofs.YtnldhgkmbighkaaGreatDoor
