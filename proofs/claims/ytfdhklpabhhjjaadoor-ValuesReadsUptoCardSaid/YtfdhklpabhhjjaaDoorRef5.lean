/- The document's values: text, Check, Digits. -/
import Derived.Test.YtfdhklpabhhjjaaDoorRef4
import Derived.Test.YtfdhklpabhhjjaaDoorValues
import Derived.Test.YtfdhklpabhhjjaaDoorValPlain
namespace Go.Proofs.YtfdhklpabhhjjaaDoor
open Go Go.RowKit

theorem rText_calls (s : ByteArray) (w : World) (hs : s.size ≤ 35184372088830) :
    Calls Tryd.prog 35 #[.string s] w fun e w' => e = .returned (.int .i64 (txE s : Nat)) ∧ Below w.heap.size w w' := by
  have D := fun w => Utf8_calls s w hs
  unfold txE
  by_cases hu : utfE s = 0
  · have hd : decide (utfE s = 0) = true := decide_eq_true hu
    rw [hd] at D
    rw [hu]
    replace D := Lib.hid D
    clear hu hd
    by_cases hz : 1048576 < s.size
    all_goals
      go_enter Tryd.func35, Tryd.ntmps35
      (go_wp2_with fail; repeat (any_goals (go_quiet (fail); go_wp2_with fail)))
      refine (D.out _).mono ?_
      rintro e w1 ⟨rfl, hb⟩
      (go_wp2_with fail; repeat (any_goals (go_quiet (fail); go_wp2_with fail)))
      go_ret
      exact ⟨rfl, (by repeat (first | assumption | exact Below.refl _ _ | apply Below.drew | apply below_drewN | apply balloc | (refine Below.setCell ?_ (by first | omega | (simp <;> omega)) _)))⟩
  · have hd : decide (utfE s = 0) = false := decide_eq_false hu
    rw [hd] at D
    have hu1 : utfE s = 1 := by rcases utfE_01 s with h | h; exact absurd h hu; exact h
    rw [hu1]
    replace D := Lib.hid D
    clear hu hd hu1
    go_enter Tryd.func35, Tryd.ntmps35
    (go_wp2_with fail; repeat (any_goals (go_quiet (fail); go_wp2_with fail)))
    refine (D.out _).mono ?_
    rintro e w1 ⟨rfl, hb⟩
    (go_wp2_with fail; repeat (any_goals (go_quiet (fail); go_wp2_with fail)))
    go_ret
    exact ⟨rfl, (by repeat (first | assumption | exact Below.refl _ _ | apply Below.drew | apply below_drewN | apply balloc | (refine Below.setCell ?_ (by first | omega | (simp <;> omega)) _)))⟩

/-- All digits, no zero ahead. -/
def digT (t : ByteArray) : Prop := (∀ j, j < t.size → 48 ≤ bAt t j ∧ bAt t j ≤ 57) ∧ (t.size = 1 ∨ (1 < t.size ∧ bAt t 0 ≠ 48))
set_option maxHeartbeats 1000000 in
theorem Digits_nil (s : ByteArray) (w : World) (b : Bool) (hb : Hid (b = true ↔ digT s)) (h : s.size = 0) :
    Calls Tryd.prog 36 #[.string s] w fun e w' => e = .returned (.bool b) ∧ Below w.heap.size w w' := by
  go_enter Tryd.func36, Tryd.ntmps36
  (go_wp2_with fail; repeat (any_goals (go_quiet (fail); go_wp2_with fail)))
  go_loopg [3] (s.size + 1) (fun kq v w' => ∃ k : Nat, k ≤ s.size ∧ v = .int .i64 (k : Int) ∧ Hid (∀ j, j < k → 48 ≤ bAt s j ∧ bAt s j ≤ 57) ∧ kq + k = s.size + 1 ∧ Below w.heap.size w w')
  case atStart => exact ⟨0, by omega, rfl, Lib.hid (fun j h => by omega), by omega, (by repeat (first | assumption | exact Below.refl _ _ | apply Below.drew | apply below_drewN | apply balloc | (refine Below.setCell ?_ (by first | omega | (simp <;> omega)) _)))⟩
  case round =>
    obtain ⟨k, hk, rfl, hd, hq, hB⟩ := hrel
    by_cases hlt : k < s.size
    · try (exfalso; omega)
      all_goals
        have hy : ∀ h, ((s[k]'h).toNat : Int) = (bAt s k : Int) := fun h => by rw [bAt_eq]
        by_cases hdig : 48 ≤ bAt s k ∧ bAt s k ≤ 57
        · obtain ⟨hd1, hd2⟩ := hdig
          (go_wp2_with fail; repeat (any_goals (go_quiet (fail); go_wp2_with fail)))
          go_roundg (s.size - k)
          case measure => omega
          case rel => exact ⟨k + 1, by omega, by simp, Lib.hid (fun j h => by
            by_cases e : j = k
            · subst e; exact ⟨hd1, hd2⟩
            · exact hd.out j (by omega)), by omega, by assumption⟩
        · have hno : b = false := by
            rw [Bool.eq_false_iff]
            exact fun h => hdig ((hb.out.1 h).1 k hlt)
          replace hno := Lib.hid hno
          by_cases hd1 : bAt s k < 48
          · (go_wp2_with fail; repeat (any_goals (go_quiet (fail); go_wp2_with fail)))
            go_ret
            exact ⟨ret_bool hno.out.symm, (by repeat (first | assumption | exact Below.refl _ _ | apply Below.drew | apply below_drewN | apply balloc | (refine Below.setCell ?_ (by first | omega | (simp <;> omega)) _)))⟩
          · have hd2 : 57 < bAt s k := by omega
            (go_wp2_with fail; repeat (any_goals (go_quiet (fail); go_wp2_with fail)))
            go_ret
            exact ⟨ret_bool hno.out.symm, (by repeat (first | assumption | exact Below.refl _ _ | apply Below.drew | apply below_drewN | apply balloc | (refine Below.setCell ?_ (by first | omega | (simp <;> omega)) _)))⟩
    · obtain rfl : k = s.size := by omega
      clear hk hlt hq
      (go_wp2_with fail; repeat (any_goals (go_quiet (fail); go_wp2_with fail)))
      all_goals
        go_ret
        refine ⟨ret_bool ?_, (by repeat (first | assumption | exact Below.refl _ _ | apply Below.drew | apply below_drewN | apply balloc | (refine Below.setCell ?_ (by first | omega | (simp <;> omega)) _)))⟩
        have e : digT s ↔ (s.size = 1 ∨ (1 < s.size ∧ bAt s 0 ≠ 48)) := ⟨fun h => h.2, fun h => ⟨hd.out, h⟩⟩
        rw [Bool.eq_iff_iff, hb.out, e]
        simp <;> omega
set_option maxHeartbeats 1000000 in
theorem Digits_pos (s : ByteArray) (w : World) (b : Bool) (hb : Hid (b = true ↔ digT s)) (hs : (s.size : Int) ≤ 140737488351232) (h : 0 < s.size) (h45 : bAt s 0 ≠ 45) :
    Calls Tryd.prog 36 #[.string s] w fun e w' => e = .returned (.bool b) ∧ Below w.heap.size w w' := by
  have hx : ∀ h, ((s[0]'h).toNat : Int) = (bAt s 0 : Int) := fun h => by rw [bAt_eq]
  have h45' : ((bAt s 0 : Int) == 45) = false := by simp; omega
  replace h45 := Lib.hid h45
  go_enter Tryd.func36, Tryd.ntmps36
  (go_wp2_with fail; repeat (any_goals (go_quiet (fail); go_wp2_with fail)))
  go_loopg [3] (s.size + 1) (fun kq v w' => ∃ k : Nat, k ≤ s.size ∧ v = .int .i64 (k : Int) ∧ Hid (∀ j, j < k → 48 ≤ bAt s j ∧ bAt s j ≤ 57) ∧ kq + k = s.size + 1 ∧ Below w.heap.size w w')
  case atStart => exact ⟨0, by omega, rfl, Lib.hid (fun j h => by omega), by omega, (by repeat (first | assumption | exact Below.refl _ _ | apply Below.drew | apply below_drewN | apply balloc | (refine Below.setCell ?_ (by first | omega | (simp <;> omega)) _)))⟩
  case round =>
    obtain ⟨k, hk, rfl, hd, hq, hB⟩ := hrel
    by_cases hlt : k < s.size
    · try (exfalso; omega)
      all_goals
        have hy : ∀ h, ((s[k]'h).toNat : Int) = (bAt s k : Int) := fun h => by rw [bAt_eq]
        by_cases hdig : 48 ≤ bAt s k ∧ bAt s k ≤ 57
        · obtain ⟨hd1, hd2⟩ := hdig
          (go_wp2_with fail; repeat (any_goals (go_quiet (fail); go_wp2_with fail)))
          go_roundg (s.size - k)
          case measure => omega
          case rel => exact ⟨k + 1, by omega, by simp, Lib.hid (fun j h => by
            by_cases e : j = k
            · subst e; exact ⟨hd1, hd2⟩
            · exact hd.out j (by omega)), by omega, by assumption⟩
        · have hno : b = false := by
            rw [Bool.eq_false_iff]
            exact fun h => hdig ((hb.out.1 h).1 k hlt)
          replace hno := Lib.hid hno
          by_cases hd1 : bAt s k < 48
          · (go_wp2_with fail; repeat (any_goals (go_quiet (fail); go_wp2_with fail)))
            go_ret
            exact ⟨ret_bool hno.out.symm, (by repeat (first | assumption | exact Below.refl _ _ | apply Below.drew | apply below_drewN | apply balloc | (refine Below.setCell ?_ (by first | omega | (simp <;> omega)) _)))⟩
          · have hd2 : 57 < bAt s k := by omega
            (go_wp2_with fail; repeat (any_goals (go_quiet (fail); go_wp2_with fail)))
            go_ret
            exact ⟨ret_bool hno.out.symm, (by repeat (first | assumption | exact Below.refl _ _ | apply Below.drew | apply below_drewN | apply balloc | (refine Below.setCell ?_ (by first | omega | (simp <;> omega)) _)))⟩
    · obtain rfl : k = s.size := by omega
      clear hk hlt hq
      (go_wp2_with fail; repeat (any_goals (go_quiet (fail); go_wp2_with fail)))
      all_goals
        go_ret
        refine ⟨ret_bool ?_, (by repeat (first | assumption | exact Below.refl _ _ | apply Below.drew | apply below_drewN | apply balloc | (refine Below.setCell ?_ (by first | omega | (simp <;> omega)) _)))⟩
        have e : digT s ↔ (s.size = 1 ∨ (1 < s.size ∧ bAt s 0 ≠ 48)) := ⟨fun h => h.2, fun h => ⟨hd.out, h⟩⟩
        rw [Bool.eq_iff_iff, hb.out, e]
        simp <;> omega
set_option maxHeartbeats 1000000 in
theorem Digits_m0 (s : ByteArray) (w : World) (hs : (s.size : Int) ≤ 140737488351232) (h : 0 < s.size) (h45 : bAt s 0 = 45) (hz : ((s.extract 1 s.size).toList == [48]) = true) :
    Calls Tryd.prog 36 #[.string s] w fun e w' => e = .returned (.bool false) ∧ Below w.heap.size w w' := by
  have hx : ∀ h, ((s[0]'h).toNat : Int) = 45 := fun h => by rw [bAt_eq, h45]; rfl
  replace h45 := Lib.hid h45
  go_enter Tryd.func36, Tryd.ntmps36
  (go_wp2_with fail; repeat (any_goals (go_quiet (fail); go_wp2_with fail)))
  go_ret
  exact ⟨rfl, (by repeat (first | assumption | exact Below.refl _ _ | apply Below.drew | apply below_drewN | apply balloc | (refine Below.setCell ?_ (by first | omega | (simp <;> omega)) _)))⟩
set_option maxHeartbeats 1000000 in
theorem Digits_neg (s t : ByteArray) (w : World) (b : Bool) (hb : Hid (b = true ↔ digT t)) (hs : (s.size : Int) ≤ 140737488351232) (h : 0 < s.size) (h45 : bAt s 0 = 45) (ht : s.extract 1 s.size = t) (hts : (t.size : Int) ≤ 140737488351232) (hz : (t.toList == [48]) = false) :
    Calls Tryd.prog 36 #[.string s] w fun e w' => e = .returned (.bool b) ∧ Below w.heap.size w w' := by
  have hx : ∀ h, ((s[0]'h).toNat : Int) = 45 := fun h => by rw [bAt_eq, h45]; rfl
  have hx2 : ∀ h, ((t[0]'h).toNat : Int) = (bAt t 0 : Int) := fun h => by rw [bAt_eq]
  replace h45 := Lib.hid h45
  go_enter Tryd.func36, Tryd.ntmps36
  (go_wp2_with fail; repeat (any_goals (go_quiet (fail); go_wp2_with fail)))
  go_loopg [3] (t.size + 1) (fun kq v w' => ∃ k : Nat, k ≤ t.size ∧ v = .int .i64 (k : Int) ∧ Hid (∀ j, j < k → 48 ≤ bAt t j ∧ bAt t j ≤ 57) ∧ kq + k = t.size + 1 ∧ Below w.heap.size w w')
  case atStart => exact ⟨0, by omega, rfl, Lib.hid (fun j h => by omega), by omega, (by repeat (first | assumption | exact Below.refl _ _ | apply Below.drew | apply below_drewN | apply balloc | (refine Below.setCell ?_ (by first | omega | (simp <;> omega)) _)))⟩
  case round =>
    obtain ⟨k, hk, rfl, hd, hq, hB⟩ := hrel
    by_cases hlt : k < t.size
    · try (exfalso; omega)
      all_goals
        have hy : ∀ h, ((t[k]'h).toNat : Int) = (bAt t k : Int) := fun h => by rw [bAt_eq]
        by_cases hdig : 48 ≤ bAt t k ∧ bAt t k ≤ 57
        · obtain ⟨hd1, hd2⟩ := hdig
          (go_wp2_with fail; repeat (any_goals (go_quiet (fail); go_wp2_with fail)))
          go_roundg (t.size - k)
          case measure => omega
          case rel => exact ⟨k + 1, by omega, by simp, Lib.hid (fun j h => by
            by_cases e : j = k
            · subst e; exact ⟨hd1, hd2⟩
            · exact hd.out j (by omega)), by omega, by assumption⟩
        · have hno : b = false := by
            rw [Bool.eq_false_iff]
            exact fun h => hdig ((hb.out.1 h).1 k hlt)
          replace hno := Lib.hid hno
          by_cases hd1 : bAt t k < 48
          · (go_wp2_with fail; repeat (any_goals (go_quiet (fail); go_wp2_with fail)))
            go_ret
            exact ⟨ret_bool hno.out.symm, (by repeat (first | assumption | exact Below.refl _ _ | apply Below.drew | apply below_drewN | apply balloc | (refine Below.setCell ?_ (by first | omega | (simp <;> omega)) _)))⟩
          · have hd2 : 57 < bAt t k := by omega
            (go_wp2_with fail; repeat (any_goals (go_quiet (fail); go_wp2_with fail)))
            go_ret
            exact ⟨ret_bool hno.out.symm, (by repeat (first | assumption | exact Below.refl _ _ | apply Below.drew | apply below_drewN | apply balloc | (refine Below.setCell ?_ (by first | omega | (simp <;> omega)) _)))⟩
    · obtain rfl : k = t.size := by omega
      clear hk hlt hq
      (go_wp2_with fail; repeat (any_goals (go_quiet (fail); go_wp2_with fail)))
      all_goals
        go_ret
        refine ⟨ret_bool ?_, (by repeat (first | assumption | exact Below.refl _ _ | apply Below.drew | apply below_drewN | apply balloc | (refine Below.setCell ?_ (by first | omega | (simp <;> omega)) _)))⟩
        have e : digT t ↔ (t.size = 1 ∨ (1 < t.size ∧ bAt t 0 ≠ 48)) := ⟨fun h => h.2, fun h => ⟨hd.out, h⟩⟩
        rw [Bool.eq_iff_iff, hb.out, e]
        simp <;> omega

theorem bAt_list (t : ByteArray) (j : Nat) (h : j < t.size) : ∃ c, t.data.toList[j]? = some c ∧ c.toNat = bAt t j := by
  refine ⟨t[j], ?_, bAt_eq t j h⟩
  rw [Array.getElem?_toList]
  exact Array.getElem?_eq_getElem h
theorem digT_iff (t : ByteArray) : digT t ↔ Canon t.data.toList := by
  have hl : t.data.toList.length = t.size := by rw [Array.length_toList]; rfl
  have hall : (∀ j, j < t.size → 48 ≤ bAt t j ∧ bAt t j ≤ 57) ↔ ∀ c ∈ t.data.toList, isDig c := by
    constructor
    · intro h c hc
      obtain ⟨j, hj⟩ := List.mem_iff_getElem?.1 hc
      have hjl : j < t.size := by
        rw [← hl]
        rcases Nat.lt_or_ge j t.data.toList.length with h | h
        · exact h
        · rw [List.getElem?_eq_none h] at hj; cases hj
      obtain ⟨d, hd, hn⟩ := bAt_list t j hjl
      rw [hj] at hd
      cases hd
      unfold isDig
      rw [hn]
      exact h j hjl
    · intro h j hj
      obtain ⟨d, hd, hn⟩ := bAt_list t j hj
      have := h d (List.mem_of_getElem? hd)
      unfold isDig at this
      omega
  unfold digT Canon
  rw [hall]
  refine and_congr_right fun _ => ?_
  cases he : t.data.toList with
  | nil => rw [he] at hl; simp at hl; simp; omega
  | cons c r =>
    rw [he] at hl
    simp only [List.length_cons] at hl
    obtain ⟨d, hd, hn⟩ := bAt_list t 0 (by omega)
    rw [he] at hd
    simp at hd
    subst hd
    have h48 : c = 48 ↔ bAt t 0 = 48 := by
      rw [← hn]
      exact ⟨fun h => by rw [h]; rfl, fun h => UInt8.toNat_inj.1 h⟩
    have hr : r = [] ↔ t.size = 1 := by
      cases r with
      | nil => simp at hl ⊢; omega
      | cons x y => simp at hl ⊢; omega
    simp only [ne_eq, List.cons_ne_nil, not_false_eq_true, true_and, List.head?_cons, Option.some.injEq, List.cons.injEq, h48, hr]
    omega
theorem extract1 (s : ByteArray) {c : UInt8} {r : List UInt8} (h : s.data.toList = c :: r) : (s.extract 1 s.size).data.toList = r := by
  have hl : s.size = r.length + 1 := by
    have : s.data.toList.length = s.size := by rw [Array.length_toList]; rfl
    rw [← this, h]; rfl
  rw [ByteArray.data_extract, Array.toList_extract, h, hl]
  simp [List.extract]
theorem Digits_calls (s : ByteArray) (w : World) (hs : s.size ≤ 140737488351232) :
    Calls Tryd.prog 36 #[.string s] w fun e w' => e = .returned (.bool (wholeB s)) ∧ Below w.heap.size w w' := by
  have hwi := whole_iff s
  have hl : s.data.toList.length = s.size := by rw [Array.length_toList]; rfl
  by_cases h0 : s.size = 0
  · refine Digits_nil s w _ (Lib.hid ?_) h0
    rw [hwi, digT_iff]
    refine ⟨fun h => h.elim id fun ⟨r, hr, _⟩ => ?_, Or.inl⟩
    rw [hr] at hl; simp at hl; omega
  · have hp : 0 < s.size := by omega
    obtain ⟨c, r, hcr⟩ : ∃ c r, s.data.toList = c :: r := by
      cases he : s.data.toList with
      | nil => rw [he] at hl; simp at hl; omega
      | cons c r => exact ⟨c, r, rfl⟩
    obtain ⟨d, hd, hn⟩ := bAt_list s 0 hp
    rw [hcr] at hd
    simp at hd
    subst hd
    by_cases h45 : bAt s 0 = 45
    · have hc : c = 45 := UInt8.toNat_inj.1 (by rw [hn, h45]; rfl)
      subst hc
      have ht := extract1 s hcr
      have hts : (s.extract 1 s.size).toList = r := by rw [Lib.toList_data, ht]
      have hnc : ¬ Canon s.data.toList := fun h => canon_not45 h (by rw [hcr]; rfl)
      by_cases hz : r = [48]
      · have e : wholeB s = false := by
          rw [Bool.eq_false_iff]
          intro h
          rcases hwi.1 h with h | ⟨r', h1, h2, h3⟩
          · exact hnc h
          · rw [hcr] at h1; simp at h1; subst h1; exact h3 hz
        rw [e]
        exact Digits_m0 s w (by omega) hp h45 (by rw [hts]; simpa using hz)
      · refine Digits_neg s _ w _ (Lib.hid ?_) (by omega) hp h45 rfl (by rw [ByteArray.size_extract]; omega) (by rw [hts]; simpa using hz)
        rw [hwi, digT_iff, ht]
        refine ⟨fun h => h.elim (fun h => absurd h hnc) fun ⟨r', h1, h2, _⟩ => ?_, fun h => Or.inr ⟨r, hcr, h, hz⟩⟩
        rw [hcr] at h1; simp at h1; subst h1; exact h2
    · refine Digits_pos s w _ (Lib.hid ?_) (by omega) hp h45
      rw [hwi, digT_iff]
      refine ⟨fun h => h.elim id fun ⟨r', h1, _⟩ => ?_, Or.inl⟩
      rw [hcr] at h1
      simp at h1
      exact absurd (by rw [← hn, h1.1]; rfl) h45

end Go.Proofs.YtfdhklpabhhjjaaDoor
