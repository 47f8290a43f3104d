/- The reference of chapter 17: one. -/
import Derived.Test.YtnldhgkmbighkaaDoorSRef5
import Derived.Test.YtnldhgkmbighkaaDoorScan6
namespace Go.Proofs.YtnldhgkmbighkaaDoor
open Go Go.RowKit

/-- What one answers. -/
def rOneV (O : Nat × Nat × Tk) : Value := if O.1 = 0 then .tuple #[tkV O.2.2, .int .i64 0, .int .i64 0] else .tuple #[.agg #[.int .i64 0, .int .i64 0, .int .i64 0, .string ⟨#[]⟩], .int .i64 (O.1 : Int), .int .i64 (O.2.1 : Int)]
theorem rOneV_ok {O : Nat × Nat × Tk} {p : Nat} {T : Tk} (h : O = (0, p, T)) : rOneV O = .tuple #[tkV T, .int .i64 0, .int .i64 0] := by subst h; unfold rOneV; rw [if_pos rfl]
theorem rOneV_bad {O : Nat × Nat × Tk} {k p : Nat} {T : Tk} (h : O = (k + 1, p, T)) : rOneV O = .tuple #[.agg #[.int .i64 0, .int .i64 0, .int .i64 0, .string ⟨#[]⟩], .int .i64 ((k + 1 : Nat) : Int), .int .i64 (p : Int)] := by subst h; unfold rOneV; rw [if_neg (by simp)]
def signF (j : Nat) : Nat := match j with | 0 => 123 | 1 => 125 | 2 => 91 | 3 => 93 | 4 => 58 | _ => 44
def wordF (j : Nat) : ByteArray := match j with | 0 => ⟨#[110, 117, 108, 108]⟩ | 1 => ⟨#[116, 114, 117, 101]⟩ | _ => ⟨#[102, 97, 108, 115, 101]⟩
theorem one_sign {s : ByteArray} {i k : Nat} (h : signK (bAt s i) = k + 1) : oneAt s i = (0, 0, ⟨k + 1, i, i + 1, noS⟩) := by
  unfold oneAt; simp only; rw [if_pos (by omega), h]
theorem starts_null (s : ByteArray) (i : Nat) : startsS s i (wordF 0) = true ↔ bAt s i = 110 ∧ bAt s (i + 1) = 117 ∧ bAt s (i + 2) = 108 ∧ bAt s (i + 3) = 108 := by
  rw [startsS_iff]
  constructor
  · rintro ⟨_, h⟩
    exact ⟨h 0 (by decide), h 1 (by decide), h 2 (by decide), h 3 (by decide)⟩
  · rintro ⟨h0, h1, h2, h3⟩
    have := lt_of_bAt (s := s) (i := i + 3) (by omega)
    refine ⟨by show i + 4 ≤ s.size; omega, fun j hj => ?_⟩
    rcases (show j = 0 ∨ j = 1 ∨ j = 2 ∨ j = 3 by have : j < 4 := hj; omega) with rfl | rfl | rfl | rfl
    · exact h0
    · exact h1
    · exact h2
    · exact h3
theorem starts_true (s : ByteArray) (i : Nat) : startsS s i (wordF 1) = true ↔ bAt s i = 116 ∧ bAt s (i + 1) = 114 ∧ bAt s (i + 2) = 117 ∧ bAt s (i + 3) = 101 := by
  rw [startsS_iff]
  constructor
  · rintro ⟨_, h⟩
    exact ⟨h 0 (by decide), h 1 (by decide), h 2 (by decide), h 3 (by decide)⟩
  · rintro ⟨h0, h1, h2, h3⟩
    have := lt_of_bAt (s := s) (i := i + 3) (by omega)
    refine ⟨by show i + 4 ≤ s.size; omega, fun j hj => ?_⟩
    rcases (show j = 0 ∨ j = 1 ∨ j = 2 ∨ j = 3 by have : j < 4 := hj; omega) with rfl | rfl | rfl | rfl
    · exact h0
    · exact h1
    · exact h2
    · exact h3
theorem starts_false (s : ByteArray) (i : Nat) : startsS s i (wordF 2) = true ↔ bAt s i = 102 ∧ bAt s (i + 1) = 97 ∧ bAt s (i + 2) = 108 ∧ bAt s (i + 3) = 115 ∧ bAt s (i + 4) = 101 := by
  rw [startsS_iff]
  constructor
  · rintro ⟨_, h⟩
    exact ⟨h 0 (by decide), h 1 (by decide), h 2 (by decide), h 3 (by decide), h 4 (by decide)⟩
  · rintro ⟨h0, h1, h2, h3, h4⟩
    have := lt_of_bAt (s := s) (i := i + 4) (by omega)
    refine ⟨by show i + 5 ≤ s.size; omega, fun j hj => ?_⟩
    rcases (show j = 0 ∨ j = 1 ∨ j = 2 ∨ j = 3 ∨ j = 4 by have : j < 5 := hj; omega) with rfl | rfl | rfl | rfl | rfl
    · exact h0
    · exact h1
    · exact h2
    · exact h3
    · exact h4
theorem one_null {s : ByteArray} {i : Nat} (h : startsS s i (wordF 0) = true) : oneAt s i = (0, 0, ⟨1, i, i + 4, noS⟩) := by
  obtain ⟨h0, h1, h2, h3⟩ := (starts_null s i).1 h
  unfold oneAt; simp only; rw [h0, h1, h2, h3]; simp [signK]
theorem one_true {s : ByteArray} {i : Nat} (h : startsS s i (wordF 1) = true) : oneAt s i = (0, 0, ⟨2, i, i + 4, noS⟩) := by
  obtain ⟨h0, h1, h2, h3⟩ := (starts_true s i).1 h
  unfold oneAt; simp only; rw [h0, h1, h2, h3]; simp [signK]
theorem one_false {s : ByteArray} {i : Nat} (h : startsS s i (wordF 2) = true) : oneAt s i = (0, 0, ⟨3, i, i + 5, noS⟩) := by
  obtain ⟨h0, h1, h2, h3, h4⟩ := (starts_false s i).1 h
  unfold oneAt; simp only; rw [h0, h1, h2, h3, h4]; simp [signK]
theorem signK_none {c : Nat} (h : ∀ j, j < 6 → c ≠ signF j) : signK c = 0 := by
  have h0 : c ≠ 123 := h 0 (by omega)
  have h1 : c ≠ 125 := h 1 (by omega)
  have h2 : c ≠ 91 := h 2 (by omega)
  have h3 : c ≠ 93 := h 3 (by omega)
  have h4 : c ≠ 58 := h 4 (by omega)
  have h5 : c ≠ 44 := h 5 (by omega)
  unfold signK
  rw [if_neg h0, if_neg h1, if_neg h2, if_neg h3, if_neg h4, if_neg h5]
/-- Behind signs and words: a number, a text, or none. -/
theorem one_rest {s : ByteArray} {i : Nat} (hk : signK (bAt s i) = 0) (hw : ∀ j, j < 3 → startsS s i (wordF j) = false) : oneAt s i =
    if bAt s i = 45 ∨ isD (bAt s i) = true then (if (numAt s i).1 = true then (0, 0, ⟨4, i, (numAt s i).2, noS⟩) else (2, (numAt s i).2, ⟨0, 0, 0, noS⟩))
    else if bAt s i = 34 then (if (qAt s (i + 1) []).1 = 0 then (0, 0, ⟨5, i, (qAt s (i + 1) []).2.1, ⟨(qAt s (i + 1) []).2.2.toArray⟩⟩) else ((qAt s (i + 1) []).1, (qAt s (i + 1) []).2.1, ⟨0, 0, 0, noS⟩))
    else (2, i, ⟨0, 0, 0, noS⟩) := by
  have w0 : ¬ (startsS s i (wordF 0) = true) := by rw [hw 0 (by omega)]; simp
  have w1 : ¬ (startsS s i (wordF 1) = true) := by rw [hw 1 (by omega)]; simp
  have w2 : ¬ (startsS s i (wordF 2) = true) := by rw [hw 2 (by omega)]; simp
  rw [starts_null] at w0
  rw [starts_true] at w1
  rw [starts_false] at w2
  have nd : ∀ c, isD c = true → 48 ≤ c ∧ c ≤ 57 := fun c h => isD_iff.1 h
  unfold oneAt
  simp only
  rw [if_neg (by omega)]
  by_cases c1 : bAt s i = 110
  · rw [if_pos c1, if_neg (fun h => w0 ⟨c1, h⟩), if_neg (by rintro (h | h); omega; have := nd _ h; omega), if_neg (by omega)]
  rw [if_neg c1]
  by_cases c2 : bAt s i = 116
  · rw [if_pos c2, if_neg (fun h => w1 ⟨c2, h⟩), if_neg (by rintro (h | h); omega; have := nd _ h; omega), if_neg (by omega)]
  rw [if_neg c2]
  by_cases c3 : bAt s i = 102
  · rw [if_pos c3, if_neg (fun h => w2 ⟨c3, h⟩), if_neg (by rintro (h | h); omega; have := nd _ h; omega), if_neg (by omega)]
  rw [if_neg c3]
def tkZ : Obj := .cells #[.int .i64 0, .int .i64 0, .int .i64 0, .string ⟨#[]⟩] 28 (0, 0)
def kindsO : Obj := .cells #[.int .i64 6, .int .i64 7, .int .i64 8, .int .i64 9, .int .i64 10, .int .i64 11] 3 (0, 0)
def wordsO : Obj := .cells #[.string ⟨#[110, 117, 108, 108]⟩, .string ⟨#[116, 114, 117, 101]⟩, .string ⟨#[102, 97, 108, 115, 101]⟩] 9 (0, 0)
theorem rQuoted_calls2 (s : ByteArray) (i : Nat) (w : World) (hs : s.size ≤ 35184372088830) (hi : i < s.size) (R : Value) (hR : rQV (qAt s (i + 1) []) = R) :
    Calls Tryd.prog 60 #[.string s, .int .i64 (i : Int)] w fun e w' => e = .returned R ∧ Below w.heap.size w w' := by rw [← hR]; exact rQuoted_calls s i w hs hi
theorem rNumber_calls2 (s : ByteArray) (i : Nat) (w : World) (hs : s.size ≤ 35184372088830) (hi : i < s.size) (R : Value) (hR : rNumV (numAt s i) = R) :
    Calls Tryd.prog 59 #[.string s, .int .i64 (i : Int)] w fun e w' => e = .returned R ∧ w = w' := by rw [← hR]; exact rNumber_calls s i w (by omega) hi
theorem rDigit_calls2 (c : Nat) (b : Bool) (w : World) (h : isD c = b) : Calls Tryd.prog 58 #[.int .u8 (c : Int)] w fun e w' => e = .returned (.bool b) ∧ w = w' := by rw [← h]; exact rDigit_calls' c w
set_option maxHeartbeats 8000000 in
set_option maxRecDepth 100000 in
theorem rOne_calls (s : ByteArray) (i : Nat) (w : World) (hs : s.size ≤ 35184372088830) (hi : i < s.size) :
    Calls Tryd.prog 40 #[.string s, .int .i64 (i : Int)] w fun e w' => e = .returned (rOneV (oneAt s i)) ∧ Below w.heap.size w w' := by
  have hs' : (s.size : Int) ≤ 35184372088830 := by omega
  have hi' : (i : Int) < (s.size : Int) := by omega
  have hx := byte_at s i
  obtain ⟨O, hO⟩ : ∃ O, O = oneAt s i := ⟨_, rfl⟩
  rw [← hO]
  replace hO := Lib.hid hO
  replace hs := Lib.hid hs
  replace hi := Lib.hid hi
  go_enter Tryd.func40, Tryd.ntmps40
  (go_wp2_with fail; repeat (any_goals (go_quiet (fail); go_wp2_with fail)))
  go_loopw [9] (fun v wr => ∃ k : Nat, k ≤ 6 ∧ v = .int .i64 (k : Int) ∧ Hid (∀ j, j < k → bAt s i ≠ signF j) ∧ wr.heap[w.heap.size]? = some tkZ ∧ wr.heap[w.heap.size + 1]? = some kindsO ∧ Below w.heap.size w wr) (fun v _ => 6 - (intOf v).toNat)
  case atStart => exact ⟨0, by decide, rfl, Lib.hid (fun j hj => by omega), box_next (heap_alloc_new w _) (by repeat (first | assumption | exact Below.refl _ _ | apply Below.drew | apply below_drewN | apply balloc | (refine Below.setCell ?_ (by first | omega | (simp <;> omega)) _))), by (have h := heap_alloc_new (w.alloc tkZ) kindsO); rw [World.size_alloc] at h; exact h, (by repeat (first | assumption | exact Below.refl _ _ | apply Below.drew | apply below_drewN | apply balloc | (refine Below.setCell ?_ (by first | omega | (simp <;> omega)) _)))⟩
  case round =>
    obtain ⟨k, hk, rfl, hno, hv, hK, hB⟩ := hrel
    rcases (show k = 0 ∨ k = 1 ∨ k = 2 ∨ k = 3 ∨ k = 4 ∨ k = 5 ∨ k = 6 by omega) with rfl | rfl | rfl | rfl | rfl | rfl | rfl
    · have hf : ∀ h, (((⟨#[123, 125, 91, 93, 58, 44]⟩ : ByteArray)[0]'h).toNat : Int) = 123 := fun _ => rfl
      by_cases hm : bAt s i = 123
      · have hm' : ((bAt s i : Int) == 123) = true := by simp; omega
        have he := rOneV_ok (hO.out.trans (one_sign (s := s) (i := i) (k := 5) (by rw [hm]; rfl)))
        replace hm := Lib.hid hm
        replace he := Lib.hid he
        have x0 := cellB hv 0 rfl
        have x1 := cellB hv 1 rfl
        have x2 := cellB hv 2 rfl
        have x3 := cellB hv 3 rfl
        have f0 := freeB hv 0
        have f1 := freeB hv 1
        have f2 := freeB hv 2
        have f3 := freeB hv 3
        have hvl := ltB hv
        have k0 := cellB hK 0 rfl
        replace hv := Lib.hid hv
        replace hK := Lib.hid hK
        (go_wp2_with fail; repeat (any_goals (go_quiet (fail); go_wp2_with fail)))
        refine bodyPost_ret (v := .tuple #[.agg #[.int .i64 (5 + 1), .int .i64 (i : Int), .int .i64 ((i : Int) + 1), .string ⟨#[]⟩], .int .i64 0, .int .i64 0]) (by simp [results, Tryd.results40, go_sem, *]) rfl ⟨?_, (by repeat (first | assumption | exact Below.refl _ _ | apply Below.drew | apply below_drewN | apply balloc | (refine Below.setCell ?_ (by first | omega | (simp <;> omega)) _)))⟩
        rw [he.out]; rfl
      · have hm' : ((bAt s i : Int) == 123) = false := by simp; omega
        replace hm := Lib.hid hm
        replace hv := Lib.hid hv
        replace hK := Lib.hid hK
        (go_wp2_with fail; repeat (any_goals (go_quiet (fail); go_wp2_with fail)))
        go_roundw
        case rel => exact ⟨0 + 1, by omega, rfl, Lib.hid (fun j hj => by
          rcases (show j < 0 ∨ j = 0 by omega) with h | h
          · exact hno.out j h
          · subst h; exact hm.out), hv.out, hK.out, (by repeat (first | assumption | exact Below.refl _ _ | apply Below.drew | apply below_drewN | apply balloc | (refine Below.setCell ?_ (by first | omega | (simp <;> omega)) _)))⟩
        case measure => simp [intOf]
    · have hf : ∀ h, (((⟨#[123, 125, 91, 93, 58, 44]⟩ : ByteArray)[1]'h).toNat : Int) = 125 := fun _ => rfl
      by_cases hm : bAt s i = 125
      · have hm' : ((bAt s i : Int) == 125) = true := by simp; omega
        have he := rOneV_ok (hO.out.trans (one_sign (s := s) (i := i) (k := 6) (by rw [hm]; rfl)))
        replace hm := Lib.hid hm
        replace he := Lib.hid he
        have x0 := cellB hv 0 rfl
        have x1 := cellB hv 1 rfl
        have x2 := cellB hv 2 rfl
        have x3 := cellB hv 3 rfl
        have f0 := freeB hv 0
        have f1 := freeB hv 1
        have f2 := freeB hv 2
        have f3 := freeB hv 3
        have hvl := ltB hv
        have k0 := cellB hK 1 rfl
        replace hv := Lib.hid hv
        replace hK := Lib.hid hK
        (go_wp2_with fail; repeat (any_goals (go_quiet (fail); go_wp2_with fail)))
        refine bodyPost_ret (v := .tuple #[.agg #[.int .i64 (6 + 1), .int .i64 (i : Int), .int .i64 ((i : Int) + 1), .string ⟨#[]⟩], .int .i64 0, .int .i64 0]) (by simp [results, Tryd.results40, go_sem, *]) rfl ⟨?_, (by repeat (first | assumption | exact Below.refl _ _ | apply Below.drew | apply below_drewN | apply balloc | (refine Below.setCell ?_ (by first | omega | (simp <;> omega)) _)))⟩
        rw [he.out]; rfl
      · have hm' : ((bAt s i : Int) == 125) = false := by simp; omega
        replace hm := Lib.hid hm
        replace hv := Lib.hid hv
        replace hK := Lib.hid hK
        (go_wp2_with fail; repeat (any_goals (go_quiet (fail); go_wp2_with fail)))
        go_roundw
        case rel => exact ⟨1 + 1, by omega, rfl, Lib.hid (fun j hj => by
          rcases (show j < 1 ∨ j = 1 by omega) with h | h
          · exact hno.out j h
          · subst h; exact hm.out), hv.out, hK.out, (by repeat (first | assumption | exact Below.refl _ _ | apply Below.drew | apply below_drewN | apply balloc | (refine Below.setCell ?_ (by first | omega | (simp <;> omega)) _)))⟩
        case measure => simp [intOf]
    · have hf : ∀ h, (((⟨#[123, 125, 91, 93, 58, 44]⟩ : ByteArray)[2]'h).toNat : Int) = 91 := fun _ => rfl
      by_cases hm : bAt s i = 91
      · have hm' : ((bAt s i : Int) == 91) = true := by simp; omega
        have he := rOneV_ok (hO.out.trans (one_sign (s := s) (i := i) (k := 7) (by rw [hm]; rfl)))
        replace hm := Lib.hid hm
        replace he := Lib.hid he
        have x0 := cellB hv 0 rfl
        have x1 := cellB hv 1 rfl
        have x2 := cellB hv 2 rfl
        have x3 := cellB hv 3 rfl
        have f0 := freeB hv 0
        have f1 := freeB hv 1
        have f2 := freeB hv 2
        have f3 := freeB hv 3
        have hvl := ltB hv
        have k0 := cellB hK 2 rfl
        replace hv := Lib.hid hv
        replace hK := Lib.hid hK
        (go_wp2_with fail; repeat (any_goals (go_quiet (fail); go_wp2_with fail)))
        refine bodyPost_ret (v := .tuple #[.agg #[.int .i64 (7 + 1), .int .i64 (i : Int), .int .i64 ((i : Int) + 1), .string ⟨#[]⟩], .int .i64 0, .int .i64 0]) (by simp [results, Tryd.results40, go_sem, *]) rfl ⟨?_, (by repeat (first | assumption | exact Below.refl _ _ | apply Below.drew | apply below_drewN | apply balloc | (refine Below.setCell ?_ (by first | omega | (simp <;> omega)) _)))⟩
        rw [he.out]; rfl
      · have hm' : ((bAt s i : Int) == 91) = false := by simp; omega
        replace hm := Lib.hid hm
        replace hv := Lib.hid hv
        replace hK := Lib.hid hK
        (go_wp2_with fail; repeat (any_goals (go_quiet (fail); go_wp2_with fail)))
        go_roundw
        case rel => exact ⟨2 + 1, by omega, rfl, Lib.hid (fun j hj => by
          rcases (show j < 2 ∨ j = 2 by omega) with h | h
          · exact hno.out j h
          · subst h; exact hm.out), hv.out, hK.out, (by repeat (first | assumption | exact Below.refl _ _ | apply Below.drew | apply below_drewN | apply balloc | (refine Below.setCell ?_ (by first | omega | (simp <;> omega)) _)))⟩
        case measure => simp [intOf]
    · have hf : ∀ h, (((⟨#[123, 125, 91, 93, 58, 44]⟩ : ByteArray)[3]'h).toNat : Int) = 93 := fun _ => rfl
      by_cases hm : bAt s i = 93
      · have hm' : ((bAt s i : Int) == 93) = true := by simp; omega
        have he := rOneV_ok (hO.out.trans (one_sign (s := s) (i := i) (k := 8) (by rw [hm]; rfl)))
        replace hm := Lib.hid hm
        replace he := Lib.hid he
        have x0 := cellB hv 0 rfl
        have x1 := cellB hv 1 rfl
        have x2 := cellB hv 2 rfl
        have x3 := cellB hv 3 rfl
        have f0 := freeB hv 0
        have f1 := freeB hv 1
        have f2 := freeB hv 2
        have f3 := freeB hv 3
        have hvl := ltB hv
        have k0 := cellB hK 3 rfl
        replace hv := Lib.hid hv
        replace hK := Lib.hid hK
        (go_wp2_with fail; repeat (any_goals (go_quiet (fail); go_wp2_with fail)))
        refine bodyPost_ret (v := .tuple #[.agg #[.int .i64 (8 + 1), .int .i64 (i : Int), .int .i64 ((i : Int) + 1), .string ⟨#[]⟩], .int .i64 0, .int .i64 0]) (by simp [results, Tryd.results40, go_sem, *]) rfl ⟨?_, (by repeat (first | assumption | exact Below.refl _ _ | apply Below.drew | apply below_drewN | apply balloc | (refine Below.setCell ?_ (by first | omega | (simp <;> omega)) _)))⟩
        rw [he.out]; rfl
      · have hm' : ((bAt s i : Int) == 93) = false := by simp; omega
        replace hm := Lib.hid hm
        replace hv := Lib.hid hv
        replace hK := Lib.hid hK
        (go_wp2_with fail; repeat (any_goals (go_quiet (fail); go_wp2_with fail)))
        go_roundw
        case rel => exact ⟨3 + 1, by omega, rfl, Lib.hid (fun j hj => by
          rcases (show j < 3 ∨ j = 3 by omega) with h | h
          · exact hno.out j h
          · subst h; exact hm.out), hv.out, hK.out, (by repeat (first | assumption | exact Below.refl _ _ | apply Below.drew | apply below_drewN | apply balloc | (refine Below.setCell ?_ (by first | omega | (simp <;> omega)) _)))⟩
        case measure => simp [intOf]
    · have hf : ∀ h, (((⟨#[123, 125, 91, 93, 58, 44]⟩ : ByteArray)[4]'h).toNat : Int) = 58 := fun _ => rfl
      by_cases hm : bAt s i = 58
      · have hm' : ((bAt s i : Int) == 58) = true := by simp; omega
        have he := rOneV_ok (hO.out.trans (one_sign (s := s) (i := i) (k := 9) (by rw [hm]; rfl)))
        replace hm := Lib.hid hm
        replace he := Lib.hid he
        have x0 := cellB hv 0 rfl
        have x1 := cellB hv 1 rfl
        have x2 := cellB hv 2 rfl
        have x3 := cellB hv 3 rfl
        have f0 := freeB hv 0
        have f1 := freeB hv 1
        have f2 := freeB hv 2
        have f3 := freeB hv 3
        have hvl := ltB hv
        have k0 := cellB hK 4 rfl
        replace hv := Lib.hid hv
        replace hK := Lib.hid hK
        (go_wp2_with fail; repeat (any_goals (go_quiet (fail); go_wp2_with fail)))
        refine bodyPost_ret (v := .tuple #[.agg #[.int .i64 (9 + 1), .int .i64 (i : Int), .int .i64 ((i : Int) + 1), .string ⟨#[]⟩], .int .i64 0, .int .i64 0]) (by simp [results, Tryd.results40, go_sem, *]) rfl ⟨?_, (by repeat (first | assumption | exact Below.refl _ _ | apply Below.drew | apply below_drewN | apply balloc | (refine Below.setCell ?_ (by first | omega | (simp <;> omega)) _)))⟩
        rw [he.out]; rfl
      · have hm' : ((bAt s i : Int) == 58) = false := by simp; omega
        replace hm := Lib.hid hm
        replace hv := Lib.hid hv
        replace hK := Lib.hid hK
        (go_wp2_with fail; repeat (any_goals (go_quiet (fail); go_wp2_with fail)))
        go_roundw
        case rel => exact ⟨4 + 1, by omega, rfl, Lib.hid (fun j hj => by
          rcases (show j < 4 ∨ j = 4 by omega) with h | h
          · exact hno.out j h
          · subst h; exact hm.out), hv.out, hK.out, (by repeat (first | assumption | exact Below.refl _ _ | apply Below.drew | apply below_drewN | apply balloc | (refine Below.setCell ?_ (by first | omega | (simp <;> omega)) _)))⟩
        case measure => simp [intOf]
    · have hf : ∀ h, (((⟨#[123, 125, 91, 93, 58, 44]⟩ : ByteArray)[5]'h).toNat : Int) = 44 := fun _ => rfl
      by_cases hm : bAt s i = 44
      · have hm' : ((bAt s i : Int) == 44) = true := by simp; omega
        have he := rOneV_ok (hO.out.trans (one_sign (s := s) (i := i) (k := 10) (by rw [hm]; rfl)))
        replace hm := Lib.hid hm
        replace he := Lib.hid he
        have x0 := cellB hv 0 rfl
        have x1 := cellB hv 1 rfl
        have x2 := cellB hv 2 rfl
        have x3 := cellB hv 3 rfl
        have f0 := freeB hv 0
        have f1 := freeB hv 1
        have f2 := freeB hv 2
        have f3 := freeB hv 3
        have hvl := ltB hv
        have k0 := cellB hK 5 rfl
        replace hv := Lib.hid hv
        replace hK := Lib.hid hK
        (go_wp2_with fail; repeat (any_goals (go_quiet (fail); go_wp2_with fail)))
        refine bodyPost_ret (v := .tuple #[.agg #[.int .i64 (10 + 1), .int .i64 (i : Int), .int .i64 ((i : Int) + 1), .string ⟨#[]⟩], .int .i64 0, .int .i64 0]) (by simp [results, Tryd.results40, go_sem, *]) rfl ⟨?_, (by repeat (first | assumption | exact Below.refl _ _ | apply Below.drew | apply below_drewN | apply balloc | (refine Below.setCell ?_ (by first | omega | (simp <;> omega)) _)))⟩
        rw [he.out]; rfl
      · have hm' : ((bAt s i : Int) == 44) = false := by simp; omega
        replace hm := Lib.hid hm
        replace hv := Lib.hid hv
        replace hK := Lib.hid hK
        (go_wp2_with fail; repeat (any_goals (go_quiet (fail); go_wp2_with fail)))
        go_roundw
        case rel => exact ⟨5 + 1, by omega, rfl, Lib.hid (fun j hj => by
          rcases (show j < 5 ∨ j = 5 by omega) with h | h
          · exact hno.out j h
          · subst h; exact hm.out), hv.out, hK.out, (by repeat (first | assumption | exact Below.refl _ _ | apply Below.drew | apply below_drewN | apply balloc | (refine Below.setCell ?_ (by first | omega | (simp <;> omega)) _)))⟩
        case measure => simp [intOf]
    · have hk0 := Lib.hid (signK_none hno.out)
      clear hno hK hk
      replace hv := Lib.hid hv
      obtain ⟨wo, rfl⟩ : ∃ wo : World, wo = wr := ⟨_, rfl⟩
      have hz0 := hB.size
      have hvl0 := ltB hv.out
      rw [show ((6 : Nat) : Int) = 6 from rfl]
      (go_wp2_with fail; repeat (any_goals (go_quiet (fail); go_wp2_with fail)))
      go_loopw [11] (fun v wx => ∃ k : Nat, k ≤ 3 ∧ v = .int .i64 (k : Int) ∧ Hid (∀ j, j < k → startsS s i (wordF j) = false) ∧ wx.heap[w.heap.size]? = some tkZ ∧ wx.heap[wo.heap.size]? = some wordsO ∧ Below w.heap.size w wx) (fun v _ => 3 - (intOf v).toNat)
      case atStart => exact ⟨0, by decide, rfl, Lib.hid (fun j hj => by omega), box_next hv.out (by repeat (first | assumption | exact Below.refl _ _ | apply Below.drew | apply below_drewN | apply balloc | (refine Below.setCell ?_ (by first | omega | (simp <;> omega)) _))), heap_alloc_new wo _, (by repeat (first | assumption | exact Below.refl _ _ | apply Below.drew | apply below_drewN | apply balloc | (refine Below.setCell ?_ (by first | omega | (simp <;> omega)) _)))⟩
      case round =>
        clear hv hB hz0 hvl0
        obtain ⟨k, hk, rfl, hno, hv, hK, hB⟩ := hrel
        rcases (show k = 0 ∨ k = 1 ∨ k = 2 ∨ k = 3 by omega) with rfl | rfl | rfl | rfl
        · have kw : wr.cell? ⟨wo.heap.size, 0, none⟩ = some (.string ⟨#[110, 117, 108, 108]⟩) := cellB hK 0 rfl
          have D := Lib.hid (fun w => starts_calls' s i (wordF 0) w (by have := hs.out; omega) (by decide) (by have := hs.out; have := hi.out; omega))
          cases hm : startsS s i (wordF 0) with
          | true =>
            have he := rOneV_ok (hO.out.trans (one_null hm))
            replace D : Hid (∀ w, Calls Tryd.prog 57 #[.string s, .int .i64 (i : Int), .string ⟨#[110, 117, 108, 108]⟩] w fun e w' => e = .returned (.bool true) ∧ w = w') := Lib.hid (fun w => by have := D.out w; rw [hm] at this; exact this)
            replace hm := Lib.hid hm
            replace he := Lib.hid he
            have x0 := cellB hv 0 rfl
            have x1 := cellB hv 1 rfl
            have x2 := cellB hv 2 rfl
            have x3 := cellB hv 3 rfl
            have f0 := freeB hv 0
            have f1 := freeB hv 1
            have f2 := freeB hv 2
            have f3 := freeB hv 3
            have hvl := ltB hv
            replace hv := Lib.hid hv
            replace hK := Lib.hid hK
            (go_wp2_with fail; repeat (any_goals (go_quiet (fail); go_wp2_with fail)))
            refine (D.out _).mono ?_
            rintro e w1 ⟨rfl, rfl⟩
            (go_wp2_with fail; repeat (any_goals (go_quiet (fail); go_wp2_with fail)))
            refine bodyPost_ret (v := .tuple #[.agg #[.int .i64 (0 + 1), .int .i64 (i : Int), .int .i64 ((i : Int) + 4), .string ⟨#[]⟩], .int .i64 0, .int .i64 0]) (by simp [results, Tryd.results40, go_sem, *]) rfl ⟨?_, (by repeat (first | assumption | exact Below.refl _ _ | apply Below.drew | apply below_drewN | apply balloc | (refine Below.setCell ?_ (by first | omega | (simp <;> omega)) _)))⟩
            rw [he.out]; rfl
          | false =>
            replace D : Hid (∀ w, Calls Tryd.prog 57 #[.string s, .int .i64 (i : Int), .string ⟨#[110, 117, 108, 108]⟩] w fun e w' => e = .returned (.bool false) ∧ w = w') := Lib.hid (fun w => by have := D.out w; rw [hm] at this; exact this)
            replace hm := Lib.hid hm
            replace hv := Lib.hid hv
            replace hK := Lib.hid hK
            (go_wp2_with fail; repeat (any_goals (go_quiet (fail); go_wp2_with fail)))
            refine (D.out _).mono ?_
            rintro e w1 ⟨rfl, rfl⟩
            (go_wp2_with fail; repeat (any_goals (go_quiet (fail); go_wp2_with fail)))
            go_roundw
            case rel => exact ⟨0 + 1, by omega, rfl, Lib.hid (fun j hj => by
              rcases (show j < 0 ∨ j = 0 by omega) with h | h
              · exact hno.out j h
              · subst h; exact hm.out), hv.out, hK.out, (by repeat (first | assumption | exact Below.refl _ _ | apply Below.drew | apply below_drewN | apply balloc | (refine Below.setCell ?_ (by first | omega | (simp <;> omega)) _)))⟩
            case measure => simp [intOf]
        · have kw : wr.cell? ⟨wo.heap.size, 1, none⟩ = some (.string ⟨#[116, 114, 117, 101]⟩) := cellB hK 1 rfl
          have D := Lib.hid (fun w => starts_calls' s i (wordF 1) w (by have := hs.out; omega) (by decide) (by have := hs.out; have := hi.out; omega))
          cases hm : startsS s i (wordF 1) with
          | true =>
            have he := rOneV_ok (hO.out.trans (one_true hm))
            replace D : Hid (∀ w, Calls Tryd.prog 57 #[.string s, .int .i64 (i : Int), .string ⟨#[116, 114, 117, 101]⟩] w fun e w' => e = .returned (.bool true) ∧ w = w') := Lib.hid (fun w => by have := D.out w; rw [hm] at this; exact this)
            replace hm := Lib.hid hm
            replace he := Lib.hid he
            have x0 := cellB hv 0 rfl
            have x1 := cellB hv 1 rfl
            have x2 := cellB hv 2 rfl
            have x3 := cellB hv 3 rfl
            have f0 := freeB hv 0
            have f1 := freeB hv 1
            have f2 := freeB hv 2
            have f3 := freeB hv 3
            have hvl := ltB hv
            replace hv := Lib.hid hv
            replace hK := Lib.hid hK
            (go_wp2_with fail; repeat (any_goals (go_quiet (fail); go_wp2_with fail)))
            refine (D.out _).mono ?_
            rintro e w1 ⟨rfl, rfl⟩
            (go_wp2_with fail; repeat (any_goals (go_quiet (fail); go_wp2_with fail)))
            refine bodyPost_ret (v := .tuple #[.agg #[.int .i64 (1 + 1), .int .i64 (i : Int), .int .i64 ((i : Int) + 4), .string ⟨#[]⟩], .int .i64 0, .int .i64 0]) (by simp [results, Tryd.results40, go_sem, *]) rfl ⟨?_, (by repeat (first | assumption | exact Below.refl _ _ | apply Below.drew | apply below_drewN | apply balloc | (refine Below.setCell ?_ (by first | omega | (simp <;> omega)) _)))⟩
            rw [he.out]; rfl
          | false =>
            replace D : Hid (∀ w, Calls Tryd.prog 57 #[.string s, .int .i64 (i : Int), .string ⟨#[116, 114, 117, 101]⟩] w fun e w' => e = .returned (.bool false) ∧ w = w') := Lib.hid (fun w => by have := D.out w; rw [hm] at this; exact this)
            replace hm := Lib.hid hm
            replace hv := Lib.hid hv
            replace hK := Lib.hid hK
            (go_wp2_with fail; repeat (any_goals (go_quiet (fail); go_wp2_with fail)))
            refine (D.out _).mono ?_
            rintro e w1 ⟨rfl, rfl⟩
            (go_wp2_with fail; repeat (any_goals (go_quiet (fail); go_wp2_with fail)))
            go_roundw
            case rel => exact ⟨1 + 1, by omega, rfl, Lib.hid (fun j hj => by
              rcases (show j < 1 ∨ j = 1 by omega) with h | h
              · exact hno.out j h
              · subst h; exact hm.out), hv.out, hK.out, (by repeat (first | assumption | exact Below.refl _ _ | apply Below.drew | apply below_drewN | apply balloc | (refine Below.setCell ?_ (by first | omega | (simp <;> omega)) _)))⟩
            case measure => simp [intOf]
        · have kw : wr.cell? ⟨wo.heap.size, 2, none⟩ = some (.string ⟨#[102, 97, 108, 115, 101]⟩) := cellB hK 2 rfl
          have D := Lib.hid (fun w => starts_calls' s i (wordF 2) w (by have := hs.out; omega) (by decide) (by have := hs.out; have := hi.out; omega))
          cases hm : startsS s i (wordF 2) with
          | true =>
            have he := rOneV_ok (hO.out.trans (one_false hm))
            replace D : Hid (∀ w, Calls Tryd.prog 57 #[.string s, .int .i64 (i : Int), .string ⟨#[102, 97, 108, 115, 101]⟩] w fun e w' => e = .returned (.bool true) ∧ w = w') := Lib.hid (fun w => by have := D.out w; rw [hm] at this; exact this)
            replace hm := Lib.hid hm
            replace he := Lib.hid he
            have x0 := cellB hv 0 rfl
            have x1 := cellB hv 1 rfl
            have x2 := cellB hv 2 rfl
            have x3 := cellB hv 3 rfl
            have f0 := freeB hv 0
            have f1 := freeB hv 1
            have f2 := freeB hv 2
            have f3 := freeB hv 3
            have hvl := ltB hv
            replace hv := Lib.hid hv
            replace hK := Lib.hid hK
            (go_wp2_with fail; repeat (any_goals (go_quiet (fail); go_wp2_with fail)))
            refine (D.out _).mono ?_
            rintro e w1 ⟨rfl, rfl⟩
            (go_wp2_with fail; repeat (any_goals (go_quiet (fail); go_wp2_with fail)))
            refine bodyPost_ret (v := .tuple #[.agg #[.int .i64 (2 + 1), .int .i64 (i : Int), .int .i64 ((i : Int) + 5), .string ⟨#[]⟩], .int .i64 0, .int .i64 0]) (by simp [results, Tryd.results40, go_sem, *]) rfl ⟨?_, (by repeat (first | assumption | exact Below.refl _ _ | apply Below.drew | apply below_drewN | apply balloc | (refine Below.setCell ?_ (by first | omega | (simp <;> omega)) _)))⟩
            rw [he.out]; rfl
          | false =>
            replace D : Hid (∀ w, Calls Tryd.prog 57 #[.string s, .int .i64 (i : Int), .string ⟨#[102, 97, 108, 115, 101]⟩] w fun e w' => e = .returned (.bool false) ∧ w = w') := Lib.hid (fun w => by have := D.out w; rw [hm] at this; exact this)
            replace hm := Lib.hid hm
            replace hv := Lib.hid hv
            replace hK := Lib.hid hK
            (go_wp2_with fail; repeat (any_goals (go_quiet (fail); go_wp2_with fail)))
            refine (D.out _).mono ?_
            rintro e w1 ⟨rfl, rfl⟩
            (go_wp2_with fail; repeat (any_goals (go_quiet (fail); go_wp2_with fail)))
            go_roundw
            case rel => exact ⟨2 + 1, by omega, rfl, Lib.hid (fun j hj => by
              rcases (show j < 2 ∨ j = 2 by omega) with h | h
              · exact hno.out j h
              · subst h; exact hm.out), hv.out, hK.out, (by repeat (first | assumption | exact Below.refl _ _ | apply Below.drew | apply below_drewN | apply balloc | (refine Below.setCell ?_ (by first | omega | (simp <;> omega)) _)))⟩
            case measure => simp [intOf]
        · have hE := hO.out.trans (one_rest hk0.out hno.out)
          clear hno hK hk hk0
          rename_i wq
          by_cases hn : bAt s i = 45 ∨ isD (bAt s i) = true
          · rw [if_pos hn] at hE
            obtain ⟨N, hN⟩ : ∃ N, numAt s i = N := ⟨_, rfl⟩
            rw [hN] at hE
            have C := Lib.hid (fun w => rNumber_calls2 s i w hs.out hi.out _ (by rw [hN]))
            replace hN := Lib.hid hN
            obtain ⟨nb, ne⟩ := N
            cases nb with
            | true =>
              rw [if_pos rfl] at hE
              have he := rOneV_ok hE
              replace C : Hid (∀ w, Calls Tryd.prog 59 #[.string s, .int .i64 (i : Int)] w fun e w' => e = .returned (.tuple #[.int .i64 (ne : Int), .int .i64 (-1)]) ∧ w = w') := C
              replace hE := Lib.hid hE
              replace he := Lib.hid he
              by_cases h45 : bAt s i = 45
              · have h45' : ((bAt s i : Int) == 45) = true := by simp; omega
                replace h45 := Lib.hid h45
                replace hn := Lib.hid hn
                have x0 := cellB hv 0 rfl
                have x1 := cellB hv 1 rfl
                have x2 := cellB hv 2 rfl
                have x3 := cellB hv 3 rfl
                have f0 := freeB hv 0
                have f1 := freeB hv 1
                have f2 := freeB hv 2
                have f3 := freeB hv 3
                have hvl := ltB hv
                replace hv := Lib.hid hv
                (go_wp2_with fail; repeat (any_goals (go_quiet (fail); go_wp2_with fail)))
                refine (C.out _).mono ?_
                rintro e w1 ⟨rfl, rfl⟩
                (go_wp2_with fail; repeat (any_goals (go_quiet (fail); go_wp2_with fail)))
                refine bodyPost_ret (v := .tuple #[.agg #[.int .i64 4, .int .i64 (i : Int), .int .i64 (ne : Int), .string ⟨#[]⟩], .int .i64 0, .int .i64 0]) (by simp [results, Tryd.results40, go_sem, *]) rfl ⟨?_, (by repeat (first | assumption | exact Below.refl _ _ | apply Below.drew | apply below_drewN | apply balloc | (refine Below.setCell ?_ (by first | omega | (simp <;> omega)) _)))⟩
                rw [he.out]; rfl
              · have h45' : ((bAt s i : Int) == 45) = false := by simp; omega
                have D := Lib.hid (fun w => rDigit_calls2 (bAt s i) true w (by rcases hn with h | h; exact absurd h h45; exact h))
                replace h45 := Lib.hid h45
                replace hn := Lib.hid hn
                have x0 := cellB hv 0 rfl
                have x1 := cellB hv 1 rfl
                have x2 := cellB hv 2 rfl
                have x3 := cellB hv 3 rfl
                have f0 := freeB hv 0
                have f1 := freeB hv 1
                have f2 := freeB hv 2
                have f3 := freeB hv 3
                have hvl := ltB hv
                replace hv := Lib.hid hv
                (go_wp2_with fail; repeat (any_goals (go_quiet (fail); go_wp2_with fail)))
                refine (D.out _).mono ?_
                rintro e w1 ⟨rfl, rfl⟩
                (go_wp2_with fail; repeat (any_goals (go_quiet (fail); go_wp2_with fail)))
                refine (C.out _).mono ?_
                rintro e w1 ⟨rfl, rfl⟩
                (go_wp2_with fail; repeat (any_goals (go_quiet (fail); go_wp2_with fail)))
                refine bodyPost_ret (v := .tuple #[.agg #[.int .i64 4, .int .i64 (i : Int), .int .i64 (ne : Int), .string ⟨#[]⟩], .int .i64 0, .int .i64 0]) (by simp [results, Tryd.results40, go_sem, *]) rfl ⟨?_, (by repeat (first | assumption | exact Below.refl _ _ | apply Below.drew | apply below_drewN | apply balloc | (refine Below.setCell ?_ (by first | omega | (simp <;> omega)) _)))⟩
                rw [he.out]; rfl
            | false =>
              rw [if_neg (by simp)] at hE
              have he := rOneV_bad hE
              replace C : Hid (∀ w, Calls Tryd.prog 59 #[.string s, .int .i64 (i : Int)] w fun e w' => e = .returned (.tuple #[.int .i64 0, .int .i64 (ne : Int)]) ∧ w = w') := C
              replace hE := Lib.hid hE
              replace he := Lib.hid he
              by_cases h45 : bAt s i = 45
              · have h45' : ((bAt s i : Int) == 45) = true := by simp; omega
                replace h45 := Lib.hid h45
                replace hn := Lib.hid hn
                have x0 := cellB hv 0 rfl
                have x1 := cellB hv 1 rfl
                have x2 := cellB hv 2 rfl
                have x3 := cellB hv 3 rfl
                have f0 := freeB hv 0
                have f1 := freeB hv 1
                have f2 := freeB hv 2
                have f3 := freeB hv 3
                have hvl := ltB hv
                replace hv := Lib.hid hv
                (go_wp2_with fail; repeat (any_goals (go_quiet (fail); go_wp2_with fail)))
                refine (C.out _).mono ?_
                rintro e w1 ⟨rfl, rfl⟩
                (go_wp2_with fail; repeat (any_goals (go_quiet (fail); go_wp2_with fail)))
                refine bodyPost_ret (v := .tuple #[.agg #[.int .i64 0, .int .i64 0, .int .i64 0, .string ⟨#[]⟩], .int .i64 2, .int .i64 (ne : Int)]) (by simp [results, Tryd.results40, go_sem, *]) rfl ⟨?_, (by repeat (first | assumption | exact Below.refl _ _ | apply Below.drew | apply below_drewN | apply balloc | (refine Below.setCell ?_ (by first | omega | (simp <;> omega)) _)))⟩
                rw [he.out]; rfl
              · have h45' : ((bAt s i : Int) == 45) = false := by simp; omega
                have D := Lib.hid (fun w => rDigit_calls2 (bAt s i) true w (by rcases hn with h | h; exact absurd h h45; exact h))
                replace h45 := Lib.hid h45
                replace hn := Lib.hid hn
                have x0 := cellB hv 0 rfl
                have x1 := cellB hv 1 rfl
                have x2 := cellB hv 2 rfl
                have x3 := cellB hv 3 rfl
                have f0 := freeB hv 0
                have f1 := freeB hv 1
                have f2 := freeB hv 2
                have f3 := freeB hv 3
                have hvl := ltB hv
                replace hv := Lib.hid hv
                (go_wp2_with fail; repeat (any_goals (go_quiet (fail); go_wp2_with fail)))
                refine (D.out _).mono ?_
                rintro e w1 ⟨rfl, rfl⟩
                (go_wp2_with fail; repeat (any_goals (go_quiet (fail); go_wp2_with fail)))
                refine (C.out _).mono ?_
                rintro e w1 ⟨rfl, rfl⟩
                (go_wp2_with fail; repeat (any_goals (go_quiet (fail); go_wp2_with fail)))
                refine bodyPost_ret (v := .tuple #[.agg #[.int .i64 0, .int .i64 0, .int .i64 0, .string ⟨#[]⟩], .int .i64 2, .int .i64 (ne : Int)]) (by simp [results, Tryd.results40, go_sem, *]) rfl ⟨?_, (by repeat (first | assumption | exact Below.refl _ _ | apply Below.drew | apply below_drewN | apply balloc | (refine Below.setCell ?_ (by first | omega | (simp <;> omega)) _)))⟩
                rw [he.out]; rfl
          · rw [if_neg hn] at hE
            have h45' : ((bAt s i : Int) == 45) = false := by simp; omega
            have D := Lib.hid (fun w => rDigit_calls2 (bAt s i) false w (by rw [Bool.eq_false_iff]; exact fun h => hn (Or.inr h)))
            replace hn := Lib.hid hn
            by_cases h34 : bAt s i = 34
            · have h34' : ((bAt s i : Int) == 34) = true := by simp; omega
              rw [if_pos h34] at hE
              obtain ⟨R, hR⟩ : ∃ R, qAt s (i + 1) [] = R := ⟨_, rfl⟩
              rw [hR] at hE
              replace h34 := Lib.hid h34
              obtain ⟨e0, p, l⟩ := R
              cases e0 with
              | zero =>
                have C := Lib.hid (fun w => rQuoted_calls2 s i w hs.out hi.out _ (rQV_ok hR))
                rw [if_pos rfl] at hE
                have he := rOneV_ok hE
                replace hE := Lib.hid hE
                replace he := Lib.hid he
                replace hR := Lib.hid hR
                replace hv := Lib.hid hv
                (go_wp2_with fail; repeat (any_goals (go_quiet (fail); go_wp2_with fail)))
                refine (D.out _).mono ?_
                rintro e w1 ⟨rfl, rfl⟩
                (go_wp2_with fail; repeat (any_goals (go_quiet (fail); go_wp2_with fail)))
                refine (C.out _).mono ?_
                rintro e w2 ⟨rfl, hb⟩
                have hb2 : Below w.heap.size w w2 := hB.trans (hb.mono hB.size)
                replace hv := box_next hv.out hb
                clear hb hB
                have x0 := cellB hv 0 rfl
                have x1 := cellB hv 1 rfl
                have x2 := cellB hv 2 rfl
                have x3 := cellB hv 3 rfl
                have f0 := freeB hv 0
                have f1 := freeB hv 1
                have f2 := freeB hv 2
                have f3 := freeB hv 3
                have hvl := ltB hv
                replace hv := Lib.hid hv
                (go_wp2_with fail; repeat (any_goals (go_quiet (fail); go_wp2_with fail)))
                refine bodyPost_ret (v := .tuple #[.agg #[.int .i64 5, .int .i64 (i : Int), .int .i64 (p : Int), .string ⟨l.toArray⟩], .int .i64 0, .int .i64 0]) (by simp [results, Tryd.results40, go_sem, *]) rfl ⟨?_, (by repeat (first | assumption | exact Below.refl _ _ | apply Below.drew | apply below_drewN | apply balloc | (refine Below.setCell ?_ (by first | omega | (simp <;> omega)) _)))⟩
                rw [he.out]; rfl
              | succ e0 =>
                have C := Lib.hid (fun w => rQuoted_calls2 s i w hs.out hi.out _ (rQV_bad hR))
                rw [if_neg (by simp)] at hE
                have he := rOneV_bad hE
                have hne2 : (((e0 + 1 : Nat) : Int) != 0) = true := by simp; omega
                replace hE := Lib.hid hE
                replace hR := Lib.hid hR
                replace hv := Lib.hid hv
                generalize ((e0 + 1 : Nat) : Int) = e1 at *
                replace he := Lib.hid he
                (go_wp2_with fail; repeat (any_goals (go_quiet (fail); go_wp2_with fail)))
                refine (D.out _).mono ?_
                rintro e w1 ⟨rfl, rfl⟩
                (go_wp2_with fail; repeat (any_goals (go_quiet (fail); go_wp2_with fail)))
                refine (C.out _).mono ?_
                rintro e w2 ⟨rfl, hb⟩
                have hb2 : Below w.heap.size w w2 := hB.trans (hb.mono hB.size)
                replace hv := box_next hv.out hb
                clear hb hB
                have x0 := cellB hv 0 rfl
                have x1 := cellB hv 1 rfl
                have x2 := cellB hv 2 rfl
                have x3 := cellB hv 3 rfl
                have f0 := freeB hv 0
                have f1 := freeB hv 1
                have f2 := freeB hv 2
                have f3 := freeB hv 3
                have hvl := ltB hv
                replace hv := Lib.hid hv
                (go_wp2_with fail; repeat (any_goals (go_quiet (fail); go_wp2_with fail)))
                refine bodyPost_ret (v := .tuple #[.agg #[.int .i64 0, .int .i64 0, .int .i64 0, .string ⟨#[]⟩], .int .i64 e1, .int .i64 (p : Int)]) (by simp [results, Tryd.results40, go_sem, *]) rfl ⟨?_, (by repeat (first | assumption | exact Below.refl _ _ | apply Below.drew | apply below_drewN | apply balloc | (refine Below.setCell ?_ (by first | omega | (simp <;> omega)) _)))⟩
                rw [he.out]
            · have h34' : ((bAt s i : Int) == 34) = false := by simp; omega
              rw [if_neg h34] at hE
              have he := rOneV_bad hE
              replace h34 := Lib.hid h34
              replace hE := Lib.hid hE
              replace he := Lib.hid he
              replace hv := Lib.hid hv
              (go_wp2_with fail; repeat (any_goals (go_quiet (fail); go_wp2_with fail)))
              refine (D.out _).mono ?_
              rintro e w1 ⟨rfl, rfl⟩
              replace hv := hv.out
              have x0 := cellB hv 0 rfl
              have x1 := cellB hv 1 rfl
              have x2 := cellB hv 2 rfl
              have x3 := cellB hv 3 rfl
              have f0 := freeB hv 0
              have f1 := freeB hv 1
              have f2 := freeB hv 2
              have f3 := freeB hv 3
              have hvl := ltB hv
              replace hv := Lib.hid hv
              (go_wp2_with fail; repeat (any_goals (go_quiet (fail); go_wp2_with fail)))
              refine bodyPost_ret (v := .tuple #[.agg #[.int .i64 0, .int .i64 0, .int .i64 0, .string ⟨#[]⟩], .int .i64 2, .int .i64 (i : Int)]) (by simp [results, Tryd.results40, go_sem, *]) rfl ⟨?_, (by repeat (first | assumption | exact Below.refl _ _ | apply Below.drew | apply below_drewN | apply balloc | (refine Below.setCell ?_ (by first | omega | (simp <;> omega)) _)))⟩
              rw [he.out]; rfl

end Go.Proofs.YtnldhgkmbighkaaDoor
