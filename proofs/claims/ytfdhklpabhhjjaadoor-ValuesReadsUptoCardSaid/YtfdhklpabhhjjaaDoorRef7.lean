/- The document's values: Parse. -/
import Derived.Test.YtfdhklpabhhjjaaDoorRef6
import Derived.Test.YtfdhklpabhhjjaaDoorValues3
namespace Go.Proofs.YtfdhklpabhhjjaaDoor
open Go Go.RowKit

def rAns (r : Pl × Nat) : Pl := if r.2 = 0 then r.1 else ⟨0, 0, ⟨#[]⟩⟩
theorem hp_iff {l : List UInt8} : Lib.hasPrefix l [39] = true ↔ ∃ r, l = 39 :: r := by
  cases l with
  | nil => simp [Lib.hasPrefix]
  | cons c r => simp [Lib.hasPrefix]; constructor <;> (intro h; exact h.symm ▸ rfl)
theorem tp39 (r : List UInt8) : Lib.trimPrefix (39 :: r) [39] = r := by simp [Lib.trimPrefix, Lib.hasPrefix]
set_option maxHeartbeats 1000000 in
set_option maxRecDepth 100000 in
theorem rParse_null (s : ByteArray) (w : World) (b1 : (s.toList == [110, 117, 108, 108]) = true) :
    Calls Tryd.prog 16 #[.string s] w fun e w' => e = .returned (.tuple #[plV ⟨0, 0, ⟨#[]⟩⟩, .int .i64 0]) ∧ Below w.heap.size w w' := by
  go_enter Tryd.func16, Tryd.ntmps16
  (go_wp2_with fail; repeat (any_goals (go_quiet (fail); go_wp2_with fail)))
  refine bodyPost_ret ?_ rfl ⟨rfl, (by repeat (first | assumption | exact Below.refl _ _ | apply Below.drew | apply below_drewN | apply balloc | (refine Below.setCell ?_ (by first | omega | (simp <;> omega)) _)))⟩
  simp [results, Tryd.results16, go_sem, plV, *]
set_option maxHeartbeats 1000000 in
set_option maxRecDepth 100000 in
theorem rParse_true (s : ByteArray) (w : World) (b1 : (s.toList == [110, 117, 108, 108]) = false) (b2 : (s.toList == [116, 114, 117, 101]) = true) :
    Calls Tryd.prog 16 #[.string s] w fun e w' => e = .returned (.tuple #[plV ⟨1, 1, ⟨#[]⟩⟩, .int .i64 0]) ∧ Below w.heap.size w w' := by
  go_enter Tryd.func16, Tryd.ntmps16
  (go_wp2_with fail; repeat (any_goals (go_quiet (fail); go_wp2_with fail)))
  refine bodyPost_ret ?_ rfl ⟨rfl, (by repeat (first | assumption | exact Below.refl _ _ | apply Below.drew | apply below_drewN | apply balloc | (refine Below.setCell ?_ (by first | omega | (simp <;> omega)) _)))⟩
  simp [results, Tryd.results16, go_sem, plV, *]
set_option maxHeartbeats 1000000 in
set_option maxRecDepth 100000 in
theorem rParse_false (s : ByteArray) (w : World) (b1 : (s.toList == [110, 117, 108, 108]) = false) (b2 : (s.toList == [116, 114, 117, 101]) = false) (b3 : (s.toList == [102, 97, 108, 115, 101]) = true) :
    Calls Tryd.prog 16 #[.string s] w fun e w' => e = .returned (.tuple #[plV ⟨1, 0, ⟨#[]⟩⟩, .int .i64 0]) ∧ Below w.heap.size w w' := by
  go_enter Tryd.func16, Tryd.ntmps16
  (go_wp2_with fail; repeat (any_goals (go_quiet (fail); go_wp2_with fail)))
  refine bodyPost_ret ?_ rfl ⟨rfl, (by repeat (first | assumption | exact Below.refl _ _ | apply Below.drew | apply below_drewN | apply balloc | (refine Below.setCell ?_ (by first | omega | (simp <;> omega)) _)))⟩
  simp [results, Tryd.results16, go_sem, plV, *]
set_option maxHeartbeats 1000000 in
set_option maxRecDepth 100000 in
theorem rParse_text (s t : ByteArray) (e : Nat) (w : World) (hs : (s.size : Int) ≤ 35184372088830) (b1 : (s.toList == [110, 117, 108, 108]) = false) (b2 : (s.toList == [116, 114, 117, 101]) = false) (b3 : (s.toList == [102, 97, 108, 115, 101]) = false)
    (hp : 0 < (s.size : Int)) (hx : ∀ h, ((s[0]'h).toNat : Int) = 39) (ht : s.extract 1 s.size = t) (hts : t.size ≤ 35184372088830) (he : Hid (txE t = e)) :
    Calls Tryd.prog 16 #[.string s] w fun r w' => r = .returned (.tuple #[plV (rAns (⟨3, 0, t⟩, e)), .int .i64 e]) ∧ Below w.heap.size w w' := by
  have T : Hid (∀ w, Calls Tryd.prog 35 #[.string t] w fun r w' => r = .returned (.int .i64 e) ∧ Below w.heap.size w w') := Lib.hid (fun w => by
    have := rText_calls t w hts
    rw [he.out] at this
    exact this)
  by_cases h0 : e = 0
  · have hr : rAns (⟨3, 0, t⟩, e) = ⟨3, 0, t⟩ := by unfold rAns; rw [if_pos h0]
    rw [hr]
    subst h0
    clear hr
    go_enter Tryd.func16, Tryd.ntmps16
    (go_wp2_with fail; repeat (any_goals (go_quiet (fail); go_wp2_with fail)))
    refine (T.out _).mono ?_
    rintro r w1 ⟨rfl, hb⟩
    have hx1 := boxed hb
    have x0 := cellB hx1 0 rfl
    have x1 := cellB hx1 1 rfl
    have x2 := cellB hx1 2 rfl
    have f0 := freeB hx1 0
    have f1 := freeB hx1 1
    have f2 := freeB hx1 2
    have hlx := ltB hx1
    have hb1 : Below w.heap.size w w1 := bcall (by repeat (first | assumption | exact Below.refl _ _ | apply Below.drew | apply below_drewN | apply balloc | (refine Below.setCell ?_ (by first | omega | (simp <;> omega)) _))) hb
    clear hb hx1
    (go_wp2_with fail; repeat (any_goals (go_quiet (fail); go_wp2_with fail)))
    refine bodyPost_ret ?_ rfl ⟨rfl, (by repeat (first | assumption | exact Below.refl _ _ | apply Below.drew | apply below_drewN | apply balloc | (refine Below.setCell ?_ (by first | omega | (simp <;> omega)) _)))⟩
    simp [results, Tryd.results16, go_sem, plV, *]
  · have hr : rAns (⟨3, 0, t⟩, e) = ⟨0, 0, ⟨#[]⟩⟩ := by unfold rAns; rw [if_neg h0]
    rw [hr]
    clear hr
    have h0' : ((e : Int) == 0) = false := by simp; omega
    replace h0 := Lib.hid h0
    go_enter Tryd.func16, Tryd.ntmps16
    (go_wp2_with fail; repeat (any_goals (go_quiet (fail); go_wp2_with fail)))
    refine (T.out _).mono ?_
    rintro r w1 ⟨rfl, hb⟩
    have hx1 := boxed hb
    have x0 := cellB hx1 0 rfl
    have x1 := cellB hx1 1 rfl
    have x2 := cellB hx1 2 rfl
    have f0 := freeB hx1 0
    have f1 := freeB hx1 1
    have f2 := freeB hx1 2
    have hlx := ltB hx1
    have hb1 : Below w.heap.size w w1 := bcall (by repeat (first | assumption | exact Below.refl _ _ | apply Below.drew | apply below_drewN | apply balloc | (refine Below.setCell ?_ (by first | omega | (simp <;> omega)) _))) hb
    clear hb hx1
    (go_wp2_with fail; repeat (any_goals (go_quiet (fail); go_wp2_with fail)))
    refine bodyPost_ret ?_ rfl ⟨rfl, (by repeat (first | assumption | exact Below.refl _ _ | apply Below.drew | apply below_drewN | apply balloc | (refine Below.setCell ?_ (by first | omega | (simp <;> omega)) _)))⟩
    simp [results, Tryd.results16, go_sem, plV, *]
set_option maxHeartbeats 1000000 in
set_option maxRecDepth 100000 in
theorem rParse_no0 (s : ByteArray) (w : World) (hs : s.size ≤ 35184372088830) (b1 : (s.toList == [110, 117, 108, 108]) = false) (b2 : (s.toList == [116, 114, 117, 101]) = false) (b3 : (s.toList == [102, 97, 108, 115, 101]) = false)
    (hp : (s.size : Int) = 0) (h4 : wholeB s = false) :
    Calls Tryd.prog 16 #[.string s] w fun r w' => r = .returned (.tuple #[plV ⟨0, 0, ⟨#[]⟩⟩, .int .i64 5]) ∧ Below w.heap.size w w' := by
  have D := fun w => Digits_calls s w (Nat.le_trans hs (by decide))
  rw [h4] at D
  replace D := Lib.hid D
  clear h4
  go_enter Tryd.func16, Tryd.ntmps16
  (go_wp2_with fail; repeat (any_goals (go_quiet (fail); go_wp2_with fail)))
  refine (D.out _).mono ?_
  rintro r w1 ⟨rfl, hb⟩
  have hx1 := boxed hb
  have hb1 : Below w.heap.size w w1 := bcall (by repeat (first | assumption | exact Below.refl _ _ | apply Below.drew | apply below_drewN | apply balloc | (refine Below.setCell ?_ (by first | omega | (simp <;> omega)) _))) hb
  clear hb
  have x0 := cellB hx1 0 rfl
  have x1 := cellB hx1 1 rfl
  have x2 := cellB hx1 2 rfl
  have f0 := freeB hx1 0
  have f1 := freeB hx1 1
  have f2 := freeB hx1 2
  have hlx := ltB hx1
  clear hx1
  (go_wp2_with fail; repeat (any_goals (go_quiet (fail); go_wp2_with fail)))
  refine bodyPost_ret ?_ rfl ⟨rfl, (by repeat (first | assumption | exact Below.refl _ _ | apply Below.drew | apply below_drewN | apply balloc | (refine Below.setCell ?_ (by first | omega | (simp <;> omega)) _)))⟩
  simp [results, Tryd.results16, go_sem, plV, *]
set_option maxHeartbeats 1000000 in
set_option maxRecDepth 100000 in
theorem rParse_no (s : ByteArray) (w : World) (hs : s.size ≤ 35184372088830) (b1 : (s.toList == [110, 117, 108, 108]) = false) (b2 : (s.toList == [116, 114, 117, 101]) = false) (b3 : (s.toList == [102, 97, 108, 115, 101]) = false)
    (hp : 0 < s.size ∧ bAt s 0 ≠ 39) (h4 : wholeB s = false) :
    Calls Tryd.prog 16 #[.string s] w fun r w' => r = .returned (.tuple #[plV ⟨0, 0, ⟨#[]⟩⟩, .int .i64 5]) ∧ Below w.heap.size w w' := by
  have D := fun w => Digits_calls s w (Nat.le_trans hs (by decide))
  rw [h4] at D
  replace D := Lib.hid D
  clear h4
  obtain ⟨hp, h39⟩ := hp
  have hp' : 0 < (s.size : Int) := by omega
  have hx : ∀ h, ((s[0]'h).toNat : Int) = (bAt s 0 : Int) := fun h => by rw [bAt_eq]
  have h39' : ((bAt s 0 : Int) == 39) = false := by simp; omega
  replace h39 := Lib.hid h39
  go_enter Tryd.func16, Tryd.ntmps16
  (go_wp2_with fail; repeat (any_goals (go_quiet (fail); go_wp2_with fail)))
  refine (D.out _).mono ?_
  rintro r w1 ⟨rfl, hb⟩
  have hx1 := boxed hb
  have hb1 : Below w.heap.size w w1 := bcall (by repeat (first | assumption | exact Below.refl _ _ | apply Below.drew | apply below_drewN | apply balloc | (refine Below.setCell ?_ (by first | omega | (simp <;> omega)) _))) hb
  clear hb
  have x0 := cellB hx1 0 rfl
  have x1 := cellB hx1 1 rfl
  have x2 := cellB hx1 2 rfl
  have f0 := freeB hx1 0
  have f1 := freeB hx1 1
  have f2 := freeB hx1 2
  have hlx := ltB hx1
  clear hx1
  (go_wp2_with fail; repeat (any_goals (go_quiet (fail); go_wp2_with fail)))
  refine bodyPost_ret ?_ rfl ⟨rfl, (by repeat (first | assumption | exact Below.refl _ _ | apply Below.drew | apply below_drewN | apply balloc | (refine Below.setCell ?_ (by first | omega | (simp <;> omega)) _)))⟩
  simp [results, Tryd.results16, go_sem, plV, *]
set_option maxHeartbeats 1000000 in
set_option maxRecDepth 100000 in
theorem rParse_num (s : ByteArray) (w : World) (hs : s.size ≤ 35184372088830) (b1 : (s.toList == [110, 117, 108, 108]) = false) (b2 : (s.toList == [116, 114, 117, 101]) = false) (b3 : (s.toList == [102, 97, 108, 115, 101]) = false)
    (hp : 0 < s.size ∧ bAt s 0 ≠ 39) (h4 : wholeB s = true) :
    Calls Tryd.prog 16 #[.string s] w fun r w' => r = .returned (.tuple #[plV (if (wholeV s.data.toList).2 then ⟨2, (wholeV s.data.toList).1, ⟨#[]⟩⟩ else ⟨0, 0, ⟨#[]⟩⟩), .int .i64 (if (wholeV s.data.toList).2 then 0 else 4)]) ∧ Below w.heap.size w w' := by
  have D := fun w => Digits_calls s w (Nat.le_trans hs (by decide))
  have G := Lib.hid (fun w => Whole_calls s w (by omega) h4)
  rw [h4] at D
  replace D := Lib.hid D
  clear h4
  generalize wholeV s.data.toList = v at *
  obtain ⟨n, ok⟩ := v
  obtain ⟨hp, h39⟩ := hp
  have hp' : 0 < (s.size : Int) := by omega
  have hx : ∀ h, ((s[0]'h).toNat : Int) = (bAt s 0 : Int) := fun h => by rw [bAt_eq]
  have h39' : ((bAt s 0 : Int) == 39) = false := by simp; omega
  replace h39 := Lib.hid h39
  cases ok
  all_goals
    simp only at G
    replace G := Lib.hid G.out
    go_enter Tryd.func16, Tryd.ntmps16
    (go_wp2_with fail; repeat (any_goals (go_quiet (fail); go_wp2_with fail)))
    refine (D.out _).mono ?_
    rintro r w1 ⟨rfl, hb⟩
    (go_wp2_with fail; repeat (any_goals (go_quiet (fail); go_wp2_with fail)))
    refine (G.out _).mono ?_
    rintro r w2 ⟨rfl, hb2⟩
    have hx1 := box_next (boxed hb) hb2
    have hb1 : Below w.heap.size w w1 := bcall (by repeat (first | assumption | exact Below.refl _ _ | apply Below.drew | apply below_drewN | apply balloc | (refine Below.setCell ?_ (by first | omega | (simp <;> omega)) _))) hb
    have hb3 := bcall hb1 hb2
    clear hb hb2 hb1
    have x0 := cellB hx1 0 rfl
    have x1 := cellB hx1 1 rfl
    have x2 := cellB hx1 2 rfl
    have f0 := freeB hx1 0
    have f1 := freeB hx1 1
    have f2 := freeB hx1 2
    have hlx := ltB hx1
    clear hx1
    (go_wp2_with fail; repeat (any_goals (go_quiet (fail); go_wp2_with fail)))
    refine bodyPost_ret ?_ rfl ⟨rfl, (by repeat (first | assumption | exact Below.refl _ _ | apply Below.drew | apply below_drewN | apply balloc | (refine Below.setCell ?_ (by first | omega | (simp <;> omega)) _)))⟩
    simp [results, Tryd.results16, go_sem, plV, *]

theorem whole_not39 {s : ByteArray} (h : wholeB s = true) : ¬ ∃ r, s.data.toList = 39 :: r := by
  rintro ⟨r, hr⟩
  rcases (whole_iff s).1 h with h | ⟨r', h1, _⟩
  · have := h.1 39 (by rw [hr]; exact List.mem_cons_self ..)
    revert this
    unfold isDig
    decide
  · rw [hr] at h1; simp at h1
theorem rParse_calls (s : ByteArray) (w : World) (hs : s.size ≤ 35184372088830) :
    Calls Tryd.prog 16 #[.string s] w fun e w' => e = .returned (.tuple #[plV (rAns (vParse s)), .int .i64 ((vParse s).2 : Nat)]) ∧ Below w.heap.size w w' := by
  have hl : s.data.toList.length = s.size := by rw [Array.length_toList]; rfl
  by_cases h1 : s.toList = [110, 117, 108, 108]
  · have hp : vParse s = (⟨0, 0, ⟨#[]⟩⟩, 0) := by unfold vParse; rw [if_pos h1]
    rw [hp]
    exact rParse_null s w (beq_iff_eq.2 h1)
  have b1 : (s.toList == [110, 117, 108, 108]) = false := beq_eq_false_iff_ne.2 h1
  by_cases h2 : s.toList = [116, 114, 117, 101]
  · have hp : vParse s = (⟨1, 1, ⟨#[]⟩⟩, 0) := by unfold vParse; rw [if_neg h1, if_pos h2]
    rw [hp]
    exact rParse_true s w b1 (beq_iff_eq.2 h2)
  have b2 : (s.toList == [116, 114, 117, 101]) = false := beq_eq_false_iff_ne.2 h2
  by_cases h3 : s.toList = [102, 97, 108, 115, 101]
  · have hp : vParse s = (⟨1, 0, ⟨#[]⟩⟩, 0) := by unfold vParse; rw [if_neg h1, if_neg h2, if_pos h3]
    rw [hp]
    exact rParse_false s w b1 b2 (beq_iff_eq.2 h3)
  have b3 : (s.toList == [102, 97, 108, 115, 101]) = false := beq_eq_false_iff_ne.2 h3
  have hp : vParse s = if Lib.hasPrefix s.data.toList [39] then (⟨3, 0, ⟨(Lib.trimPrefix s.data.toList [39]).toArray⟩⟩, txE ⟨(Lib.trimPrefix s.data.toList [39]).toArray⟩)
      else if wholeB s then (match Lib.parseIntB 64 s.data.toList with | .ok v => (⟨2, v, ⟨#[]⟩⟩, 0) | _ => (⟨0, 0, ⟨#[]⟩⟩, 4))
      else (⟨0, 0, ⟨#[]⟩⟩, 5) := by unfold vParse; rw [if_neg h1, if_neg h2, if_neg h3]; rfl
  rw [hp]
  by_cases h4 : Lib.hasPrefix s.data.toList [39] = true
  · rw [if_pos h4]
    obtain ⟨r, hr⟩ := hp_iff.1 h4
    have hsz : 0 < s.size := by rw [hr] at hl; simp at hl; omega
    have h39 : bAt s 0 = 39 := by
      obtain ⟨d, hd, hn⟩ := bAt_list s 0 hsz
      rw [hr] at hd
      simp at hd
      rw [← hn, ← hd]; rfl
    have et : s.extract 1 s.size = ⟨(Lib.trimPrefix s.data.toList [39]).toArray⟩ := by
      rw [hr, tp39]
      exact ba_eq (extract1 s hr)
    exact rParse_text s _ _ w (by omega) b1 b2 b3 (by omega) (fun h => by rw [bAt_eq, h39]; rfl) et (by rw [← et, ByteArray.size_extract]; omega) (Lib.hid rfl)
  · rw [if_neg h4]
    have hn39 : ¬ ∃ r, s.data.toList = 39 :: r := fun h => h4 (hp_iff.2 h)
    cases h5 : wholeB s with
    | false =>
      rw [if_neg (by simp)]
      by_cases h0 : s.size = 0
      · exact rParse_no0 s w hs b1 b2 b3 (by omega) h5
      · refine rParse_no s w hs b1 b2 b3 ⟨by omega, fun h => hn39 ?_⟩ h5
        obtain ⟨d, hd, hn⟩ := bAt_list s 0 (by omega)
        cases hc : s.data.toList with
        | nil => rw [hc] at hl; simp at hl; omega
        | cons c r =>
          rw [hc] at hd
          simp at hd
          subst hd
          exact ⟨r, by rw [UInt8.toNat_inj.1 (show c.toNat = (39 : UInt8).toNat by rw [hn, h]; rfl)]⟩
    | true =>
      rw [if_pos rfl]
      have hsz : 0 < s.size := by
        rcases (whole_iff s).1 h5 with h | ⟨r, h, _⟩
        · obtain ⟨c, r, e, _⟩ := canon_head h
          rw [e] at hl; simp at hl; omega
        · rw [h] at hl; simp at hl; omega
      have := rParse_num s w hs b1 b2 b3 ⟨hsz, fun h => hn39 (by
        obtain ⟨d, hd, hn⟩ := bAt_list s 0 hsz
        cases hc : s.data.toList with
        | nil => rw [hc] at hl; simp at hl; omega
        | cons c r =>
          rw [hc] at hd
          simp at hd
          subst hd
          exact ⟨r, by rw [UInt8.toNat_inj.1 (show c.toNat = (39 : UInt8).toNat by rw [hn, h]; rfl)]⟩)⟩ h5
      unfold wholeV at this
      cases hq : Lib.parseIntB 64 s.data.toList <;> rw [hq] at this <;> exact this

end Go.Proofs.YtfdhklpabhhjjaaDoor
