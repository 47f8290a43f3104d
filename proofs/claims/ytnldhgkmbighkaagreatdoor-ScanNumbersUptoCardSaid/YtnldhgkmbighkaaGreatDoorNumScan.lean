/- Plain laws: a text that is one token; the whole number that such a text tells. No program in sight. -/
import Derived.Test.YtnldhgkmbighkaaGreatDoorSingle
import Derived.Test.YtnldhgkmbighkaaGreatDoorRef6
namespace Go.Proofs.YtnldhgkmbighkaaGreatDoor
open Go Go.RowKit

theorem isD_dig (c : UInt8) : isD c.toNat = true ↔ isDig c := isD_iff
theorem dig_list (Z : List UInt8) (hZ : isD (nthN Z 0) = false) : ∀ (l A : List UInt8), (∀ c ∈ l, isDig c) → digAt ⟨(A ++ (l ++ Z)).toArray⟩ A.length = A.length + l.length
  | [], A, _ => by
    rw [List.length_nil, Nat.add_zero, digAt_none]
    have : bAt ⟨(A ++ ([] ++ Z)).toArray⟩ A.length = nthN Z 0 := nth_at (A := A) 0
    rw [this]; exact hZ
  | c :: l, A, h => by
    have e0 : bAt ⟨(A ++ (c :: l ++ Z)).toArray⟩ A.length = c.toNat := nth_at (A := A) 0
    rw [digAt_eq, e0, if_pos ((isD_dig c).2 (h c (List.mem_cons_self ..)))]
    have := dig_list Z hZ l (A ++ [c]) (fun d hd => h d (List.mem_cons_of_mem _ hd))
    simp only [List.append_assoc, List.singleton_append, List.length_append, List.length_cons, List.length_nil] at this
    rw [show A ++ (c :: l ++ Z) = A ++ (c :: (l ++ Z)) by simp]
    simp only [Nat.zero_add] at this
    rw [this, List.length_cons]; omega
theorem canon_hd {l A Z : List UInt8} (hc : Canon l) (hZ : isD (nthN Z 0) = false) : isD (bAt ⟨(A ++ (l ++ Z)).toArray⟩ A.length) = true ∧ headAt ⟨(A ++ (l ++ Z)).toArray⟩ A.length = A.length + l.length := by
  obtain ⟨c, r, rfl, hd⟩ := canon_head hc
  have e0 : bAt ⟨(A ++ (c :: r ++ Z)).toArray⟩ A.length = c.toNat := nth_at (A := A) 0
  refine ⟨by rw [e0]; exact (isD_dig c).2 hd, ?_⟩
  unfold headAt
  rw [e0]
  by_cases h48 : c.toNat = 48
  · rw [if_pos h48]
    rcases hc.2.2 with h | h
    · exfalso; apply h; rw [List.head?_cons]; congr 1; exact UInt8.toNat_inj.1 h48
    · simp only [List.cons.injEq] at h
      rw [h.2]; rfl
  · rw [if_neg h48]; exact dig_list Z hZ _ A hc.1
/-- Digits, a minus ahead or not, and what may stand behind them. -/
theorem num_canon {l A Z : List UInt8} (hA : A = [] ∨ A = [45]) (hc : Canon l) (hZ : isD (nthN Z 0) = false) :
    numAt ⟨(A ++ (l ++ Z)).toArray⟩ 0 = if (fracAt ⟨(A ++ (l ++ Z)).toArray⟩ (A.length + l.length)).1 = true then expAt ⟨(A ++ (l ++ Z)).toArray⟩ (fracAt ⟨(A ++ (l ++ Z)).toArray⟩ (A.length + l.length)).2 else fracAt ⟨(A ++ (l ++ Z)).toArray⟩ (A.length + l.length) := by
  obtain ⟨h1, h2⟩ := canon_hd (A := A) hc hZ
  have hm : minAt ⟨(A ++ (l ++ Z)).toArray⟩ 0 = A.length := by
    unfold minAt
    rcases hA with rfl | rfl
    · have := isD_iff.1 h1
      simp only [List.length_nil] at this
      rw [if_neg (by omega)]; rfl
    · have e0 : bAt ⟨([45] ++ (l ++ Z)).toArray⟩ 0 = 45 := by rw [bAt_mk]; rfl
      rw [e0, if_pos rfl]; rfl
  conv => lhs; unfold numAt
  rw [hm, if_pos h1, h2]
theorem num_whole {l A : List UInt8} (hA : A = [] ∨ A = [45]) (hc : Canon l) : numAt ⟨(A ++ l).toArray⟩ 0 = (true, (A ++ l).length) := by
  have h := num_canon (Z := []) hA hc rfl
  rw [List.append_nil] at h
  have e : bAt ⟨(A ++ l).toArray⟩ (A.length + l.length) = 0 := bAt_ge _ _ (by rw [size_mk, List.length_append]; exact Nat.le_refl _)
  have hf : fracAt ⟨(A ++ l).toArray⟩ (A.length + l.length) = (true, A.length + l.length) := by unfold fracAt; rw [e, if_neg (by decide)]
  rw [h, hf, if_pos rfl]
  unfold expAt
  simp only
  rw [e, if_neg (by decide), List.length_append]
theorem nth_at2 {A l : List UInt8} {Z : List UInt8} (k : Nat) : bAt ⟨(A ++ (l ++ Z)).toArray⟩ (A.length + l.length + k) = nthN Z k := by
  rw [Nat.add_assoc]
  exact (nth_at (A := A) (l.length + k)).trans (nth_right l Z k)
theorem num_dot0 {l A : List UInt8} (hA : A = [] ∨ A = [45]) (hc : Canon l) : numAt ⟨(A ++ (l ++ [46, 48])).toArray⟩ 0 = (true, (A ++ (l ++ [46, 48])).length) := by
  have h := num_canon (Z := [46, 48]) hA hc (by decide)
  generalize hs : (⟨(A ++ (l ++ [46, 48])).toArray⟩ : ByteArray) = s at *
  have e0 : bAt s (A.length + l.length) = 46 := by rw [← hs]; exact nth_at2 0
  have e1 : bAt s (A.length + l.length + 1) = 48 := by rw [← hs]; exact nth_at2 1
  have e2 : bAt s (A.length + l.length + 1 + 1) = 0 := by rw [← hs]; exact nth_at2 2
  have hd : digAt s (A.length + l.length + 1) = A.length + l.length + 1 + 1 := by
    rw [digAt_eq, e1, if_pos (by decide)]
    exact digAt_none.2 (by rw [e2]; decide)
  have hf : fracAt s (A.length + l.length) = (true, A.length + l.length + 1 + 1) := by unfold fracAt; rw [e0, if_pos rfl, hd, if_neg (by omega)]
  rw [h, hf, if_pos rfl]
  unfold expAt
  simp only
  rw [e2, if_neg (by decide), List.length_append, List.length_append]
  rfl
theorem num_e0 {l A : List UInt8} (hA : A = [] ∨ A = [45]) (hc : Canon l) : numAt ⟨(A ++ (l ++ [101, 48])).toArray⟩ 0 = (true, (A ++ (l ++ [101, 48])).length) := by
  have h := num_canon (Z := [101, 48]) hA hc (by decide)
  generalize hs : (⟨(A ++ (l ++ [101, 48])).toArray⟩ : ByteArray) = s at *
  have e0 : bAt s (A.length + l.length) = 101 := by rw [← hs]; exact nth_at2 0
  have e1 : bAt s (A.length + l.length + 1) = 48 := by rw [← hs]; exact nth_at2 1
  have e2 : bAt s (A.length + l.length + 1 + 1) = 0 := by rw [← hs]; exact nth_at2 2
  have hd : digAt s (A.length + l.length + 1) = A.length + l.length + 1 + 1 := by
    rw [digAt_eq, e1, if_pos (by decide)]
    exact digAt_none.2 (by rw [e2]; decide)
  have hf : fracAt s (A.length + l.length) = (true, A.length + l.length) := by unfold fracAt; rw [e0, if_neg (by decide)]
  have hsg : signAt s (A.length + l.length) = A.length + l.length + 1 := by unfold signAt; rw [e1, if_neg (by decide)]
  rw [h, hf, if_pos rfl]
  unfold expAt
  simp only
  rw [e0, if_pos (Or.inl rfl), hsg, hd, if_neg (by omega), List.length_append, List.length_append]
  rfl
theorem num_one {s : ByteArray} (_hs : 0 < s.size) (h : numAt s 0 = (true, s.size)) : oneAt s 0 = (0, 0, ⟨4, 0, s.size, noS⟩) := by
  have hc : bAt s 0 = 45 ∨ isD (bAt s 0) = true := by
    by_cases h45 : bAt s 0 = 45
    · exact Or.inl h45
    · right
      unfold numAt minAt at h
      rw [if_neg h45] at h
      cases hd : isD (bAt s 0) with
      | true => rfl
      | false => rw [hd] at h; simp at h
  have h1 : bAt s 0 = 45 ∨ (48 ≤ bAt s 0 ∧ bAt s 0 ≤ 57) := hc.imp id isD_iff.1
  unfold oneAt
  simp only
  rw [if_neg (by unfold signK; rw [if_neg (by omega), if_neg (by omega), if_neg (by omega), if_neg (by omega), if_neg (by omega), if_neg (by omega)]; simp), if_neg (by omega), if_neg (by omega), if_neg (by omega), if_pos hc, h, if_pos rfl]
theorem num_scan {s : ByteArray} (hs : 0 < s.size) (hu : utfE s = 0) (h : numAt s 0 = (true, s.size)) : someS s = ([⟨4, 0, s.size, noS⟩], 0, 0) := by
  have hb := (utfE_brk _).1 hu
  rw [someS_eq, if_pos hu]
  refine (scan_chain _ 0 (Nat.zero_le _) hb).2 ⟨Nat.le_refl _, hs, fun j h1 h2 => ?_, num_one hs h, Nat.le_refl _, fun j h1 h2 => ?_⟩
  · simp only at h2; omega
  · simp only at h1; omega

theorem dig_all (s : ByteArray) : ∀ (n i b : Nat), b - i ≤ n → digAt s i = b → ∀ j, i ≤ j → j < b → isD (bAt s j) = true
  | 0, i, b, h1, h2, j, h3, h4 => by omega
  | n + 1, i, b, h1, h2, j, h3, h4 => by
    rw [digAt_eq] at h2
    by_cases hd : isD (bAt s i) = true
    · rw [if_pos hd] at h2
      by_cases hj : j = i
      · rw [hj]; exact hd
      · exact dig_all s n (i + 1) b (by omega) h2 j (by omega) h4
    · rw [if_neg hd] at h2; omega
theorem hasE_at {s : ByteArray} (h : hasE s = false) (j : Nat) : bAt s j ≠ 46 ∧ bAt s j ≠ 101 ∧ bAt s j ≠ 69 := by
  by_cases hj : j < s.size
  · obtain ⟨c, hc, hn⟩ := bAt_list s j hj
    unfold hasE at h
    rw [List.any_eq_false] at h
    have := h c (List.mem_of_getElem? hc)
    simp only [Bool.or_eq_true, beq_iff_eq, not_or] at this
    rw [← hn]
    refine ⟨fun e => this.1.1 (UInt8.toNat_inj.1 e), fun e => this.1.2 (UInt8.toNat_inj.1 e), fun e => this.2 (UInt8.toNat_inj.1 e)⟩
  · rw [bAt_ge s j (by omega)]; decide
/-- A number without a point or an exponent is digits, a minus ahead or not. -/
theorem num_digits {s : ByteArray} (hE : hasE s = false) (h : numAt s 0 = (true, s.size)) : ∃ A l, s.data.toList = A ++ l ∧ (A = [] ∨ A = [45]) ∧ Canon l := by
  have hlen : s.data.toList.length = s.size := by rw [Array.length_toList]; rfl
  have hf : ∀ x, fracAt s x = (true, x) := fun x => by unfold fracAt; rw [if_neg (hasE_at hE x).1]
  have hx : ∀ x, expAt s x = (true, x) := fun x => by
    unfold expAt; rw [if_neg]
    rintro (e | e)
    · exact (hasE_at hE x).2.1 e
    · exact (hasE_at hE x).2.2 e
  have key : ∀ a, isD (bAt s a) = true → headAt s a = s.size → Canon (s.data.toList.drop a) := by
    intro a hd hh
    have hlt : a < s.size := lt_of_bAt (by have := isD_iff.1 hd; omega)
    have hdr : ∀ j, (h : j < (s.data.toList.drop a).length) → (s.data.toList.drop a)[j].toNat = bAt s (a + j) := by
      intro j h
      rw [List.getElem_drop]
      rw [List.length_drop] at h
      rw [← bAt_eq s (a + j) (by omega)]; rfl
    have hl2 : (s.data.toList.drop a).length = s.size - a := by rw [List.length_drop, hlen]
    unfold headAt at hh
    by_cases h48 : bAt s a = 48
    · rw [if_pos h48] at hh
      have e : s.data.toList.drop a = [48] := by
        apply List.ext_getElem
        · rw [hl2]; simp; omega
        · intro j h1 h2
          simp at h2
          subst h2
          apply UInt8.toNat_inj.1
          rw [hdr, Nat.add_zero, h48]; rfl
      rw [e]
      exact ⟨by intro c hc; simp at hc; subst hc; decide, by simp, Or.inr rfl⟩
    · rw [if_neg h48] at hh
      have hall := dig_all s _ a s.size (Nat.le_refl _) hh
      refine ⟨fun c hc => ?_, fun e => ?_, Or.inl fun e => ?_⟩
      · obtain ⟨j, hj, rfl⟩ := List.getElem_of_mem hc
        rw [← isD_dig, hdr]
        exact hall _ (by omega) (by omega)
      · rw [e] at hl2; simp at hl2; omega
      · rw [List.head?_eq_getElem?, List.getElem?_eq_getElem (by omega)] at e
        have := hdr 0 (by omega)
        simp only [Option.some.injEq] at e
        rw [e] at this
        exact h48 this.symm
  unfold numAt at h
  by_cases hd : isD (bAt s (minAt s 0)) = true
  · rw [if_pos hd, hf, if_pos rfl, hx] at h
    simp only [Prod.mk.injEq, true_and] at h
    have hk := key _ hd h
    unfold minAt at hk
    by_cases h45 : bAt s 0 = 45
    · rw [if_pos h45] at hk
      refine ⟨[45], s.data.toList.drop 1, ?_, Or.inr rfl, hk⟩
      have hp : 0 < s.size := lt_of_bAt (by omega)
      have := List.drop_eq_getElem_cons (l := s.data.toList) (i := 0) (by omega)
      rw [List.drop_zero] at this
      rw [this]
      have e0 : s.data.toList[0]'(by omega) = 45 := by
        apply UInt8.toNat_inj.1
        have := bAt_eq s 0 hp
        rw [h45] at this
        exact this
      rw [e0]; rfl
    · rw [if_neg h45] at hk
      exact ⟨[], s.data.toList, rfl, Or.inl rfl, hk⟩
  · rw [if_neg hd] at h; simp at h
set_option maxHeartbeats 1000000 in
set_option maxRecDepth 100000 in
theorem Whole_m0 (w : World) : Calls Tryz.prog 59 #[.string ⟨#[45, 48]⟩] w fun e w' => e = .returned (.tuple #[.int .i64 0, .bool true]) ∧ Below w.heap.size w w' := by
  go_enter Tryz.func59, Tryz.ntmps59
  (go_wp2_with fail; repeat (any_goals (go_quiet (fail); go_wp2_with fail)))
  go_loopg [5, 6] 2 (fun kq x v w' => ((kq = 2 ∧ v = .int .i64 0 ∧ x = .int .u64 0) ∨ (kq = 1 ∧ v = .int .i64 1 ∧ x = .int .u64 0)) ∧ Below w.heap.size w w')
  case atStart => exact ⟨Or.inl ⟨rfl, rfl, rfl⟩, (by repeat (first | assumption | exact Below.refl _ _ | apply Below.drew | apply below_drewN | apply balloc | (refine Below.setCell ?_ (by first | omega | (simp <;> omega)) _)))⟩
  case round =>
    obtain ⟨⟨rfl, rfl, rfl⟩ | ⟨rfl, rfl, rfl⟩, hB⟩ := hrel
    · (go_wp2_with fail; repeat (any_goals (go_quiet (fail); go_wp2_with fail)))
      go_roundg 1
      case measure => omega
      case rel => exact ⟨Or.inr ⟨rfl, rfl, rfl⟩, by assumption⟩
    · (go_wp2_with fail; repeat (any_goals (go_quiet (fail); go_wp2_with fail)))
      go_ret2
      exact ⟨rfl, (by repeat (first | assumption | exact Below.refl _ _ | apply Below.drew | apply below_drewN | apply balloc | (refine Below.setCell ?_ (by first | omega | (simp <;> omega)) _)))⟩
theorem Whole_num (s : ByteArray) (w : World) (hs : s.size ≤ 140737488351232) (h : ∃ A l, s.data.toList = A ++ l ∧ (A = [] ∨ A = [45]) ∧ Canon l) :
    Calls Tryz.prog 59 #[.string s] w fun e w' => e = .returned (.tuple #[.int .i64 (wholeV s.data.toList).1, .bool (wholeV s.data.toList).2]) ∧ Below w.heap.size w w' := by
  obtain ⟨A, l, hl, rfl | rfl, hc⟩ := h
  · exact Whole_core s w hs (Or.inl (by rw [hl]; exact hc))
  · by_cases h0 : l = [48]
    · subst h0
      have e := ba_eq hl
      subst e
      have hv : wholeV [45, 48] = (0, true) := by
        unfold wholeV
        rw [parseIntB_neg (l := [48]) hc]
        rfl
      show Calls _ _ _ _ fun e w' => e = .returned (.tuple #[.int .i64 (wholeV [45, 48]).1, .bool (wholeV [45, 48]).2]) ∧ _
      rw [hv]
      exact Whole_m0 w
    · exact Whole_core s w hs (Or.inr ⟨l, hl, hc, h0⟩)

end Go.Proofs.YtnldhgkmbighkaaGreatDoor
