/- Package scan: the walk of next at numbers and texts. -/
import Derived.Test.YtnldhgkmbighkaaDoorScan6
namespace Go.Proofs.YtnldhgkmbighkaaDoor
open Go Go.RowKit

set_option maxHeartbeats 2000000 in
set_option maxRecDepth 100000 in
theorem next_num_minus {A : Nat → Addr} {B : Nat} (s : ByteArray) (p b : Nat) (w : World) (hE : Env A B SJ w) (hs : s.size ≤ 35184372088830) (hsc : ScB s (p : Int) b w) (hp : p < s.size) (hk : signK (bAt s p) = 0) (hw : bAt s p ≠ 110 ∧ bAt s p ≠ 116 ∧ bAt s p ≠ 102) (hn : bAt s p = 45) (hd : True) :
    Calls Tryd.prog 56 #[.pointer (some ⟨b, 0, none⟩)] w fun e w' => (if (numAt s p).1 = true then e = .returned (.tuple #[tkV ⟨4, p, (numAt s p).2, noS⟩, .nilIface]) else NextBad A 2 (numAt s p).2 w e w') ∧ Below w.heap.size w w' := by
  have x0 := hsc.s
  have x1 := hsc.at
  have hbl : b < w.heap.size := ltB hsc
  have hx := byte_at s p
  have hp' : (p : Int) < (s.size : Int) := by omega
  have hs' : (s.size : Int) ≤ 35184372088830 := by omega
  replace hsc := Lib.hid hsc
  have O := fun w => one_calls (bAt s p) w
  have W := fun w => word_calls (bAt s p) w
  rw [hk] at O
  rw [show wordS (bAt s p) = ⟨#[]⟩ by unfold wordS; rw [if_neg (by omega), if_neg (by omega), if_neg (by omega)], show wordK (bAt s p) = 0 by unfold wordK; rw [if_neg (by omega), if_neg (by omega), if_neg (by omega)]] at W
  have D := fun w => digit_calls (bAt s p) w
  skip
  have N := fun w hE hsc => number_calls (A := A) (B := B) s p b w hE (Nat.le_trans hs (by decide)) hsc hp
  generalize bAt s p = c at *
  have c45 : ((c : Int) == 45) = true := by simp; omega
  generalize numAt s p = X at *
  obtain ⟨ok, te⟩ := X
  replace hk := Lib.hid hk
  replace hw := Lib.hid hw
  replace hn := Lib.hid hn
  replace hd := Lib.hid hd
  replace O := Lib.hid O
  replace W := Lib.hid W
  replace D := Lib.hid D
  replace N := Lib.hid N
  go_enter Tryd.func56, Tryd.ntmps56
  (go_wp2_with fail; repeat (any_goals (go_quiet (fail); go_wp2_with fail)))
  refine (O.out _).mono ?_
  rintro e w1 ⟨rfl, hw⟩
  have hb1 : Below w.heap.size w w1 := by rw [hw]; exact (by repeat (first | assumption | exact Below.refl _ _ | apply Below.drew | apply below_drewN | apply balloc | (refine Below.setCell ?_ (by first | omega | (simp <;> omega)) _)))
  have y0 : w1.cell? ⟨b, 0, none⟩ = some (.string s) := (hsc.out.next hb1).s
  have y1 := (hsc.out.next hb1).at
  have hv : w1.heap[w.heap.size]? = some (.cells #[.int .i64 0, .int .i64 0, .int .i64 0, .string ⟨#[]⟩] 28 (0, 0)) := by rw [hw]; exact heap_alloc_new w _
  have v0 := cellB hv 0 rfl
  have v1 := cellB hv 1 rfl
  have v2 := cellB hv 2 rfl
  have v3 := cellB hv 3 rfl
  have f0 := freeB hv 0
  have f1 := freeB hv 1
  have f2 := freeB hv 2
  have f3 := freeB hv 3
  have hvl := ltB hv
  replace hv := Lib.hid hv
  clear hw x0 x1
  (go_wp2_with fail; repeat (any_goals (go_quiet (fail); go_wp2_with fail)))
  refine (W.out _).mono ?_
  rintro e w2 ⟨rfl, rfl⟩
  (go_wp2_with fail; repeat (any_goals (go_quiet (fail); go_wp2_with fail)))
  have hz1 := hb1.size
  refine (N.out _ (hE.next hb1) (hsc.out.next hb1)).mono ?_
  cases ok with
  | true =>
    rintro e w4 ⟨hr, hb⟩
    have hr := (numR_ok rfl).1 hr
    subst hr
    have hv2 := box_next hv.out hb
    have u0 := cellB hv2 0 rfl
    have u1 := cellB hv2 1 rfl
    have u2 := cellB hv2 2 rfl
    have u3 := cellB hv2 3 rfl
    have g0 := freeB hv2 0
    have g1 := freeB hv2 1
    have g2 := freeB hv2 2
    have g3 := freeB hv2 3
    have hvl2 := ltB hv2
    replace hv2 := Lib.hid hv2
    clear v0 v1 v2 v3 f0 f1 f2 f3 hvl
    have hb4 : Below w.heap.size w w4 := bcall hb1 hb
    clear hb
    (go_wp2_with fail; repeat (any_goals (go_quiet (fail); go_wp2_with fail)))
    refine bodyPost_ret (v := .tuple #[.agg #[.int .i64 (4 : Int), .int .i64 (p : Int), .int .i64 (te : Int), .string ⟨#[]⟩], .nilIface]) ?_ rfl ⟨?_, (by repeat (first | assumption | exact Below.refl _ _ | apply Below.drew | apply below_drewN | apply balloc | (refine Below.setCell ?_ (by first | omega | (simp <;> omega)) _)))⟩
    · simp [results, Tryd.results56, go_sem, *]
    unfold tkV
    simp [noS]
  | false =>
    rintro e w4 ⟨hr, hb⟩
    obtain ⟨g, hg, he, hat⟩ := (numR_bad rfl).1 hr
    subst he
    have hg2 : w.heap.size + 1 ≤ g := Nat.le_trans hvl hg
    have hv2 := box_next hv.out hb
    have u0 := cellB hv2 0 rfl
    have u1 := cellB hv2 1 rfl
    have u2 := cellB hv2 2 rfl
    have u3 := cellB hv2 3 rfl
    have g0 := freeB hv2 0
    have g1 := freeB hv2 1
    have g2 := freeB hv2 2
    have g3 := freeB hv2 3
    have hvl2 := ltB hv2
    replace hv2 := Lib.hid hv2
    clear v0 v1 v2 v3 f0 f1 f2 f3 hvl
    have hb4 : Below w.heap.size w w4 := bcall hb1 hb
    clear hb hr
    replace hat := Lib.hid hat
    (go_wp2_with fail; repeat (any_goals (go_quiet (fail); go_wp2_with fail)))
    refine bodyPost_ret (v := .tuple #[.agg #[.int .i64 0, .int .i64 0, .int .i64 0, .string ⟨#[]⟩], .iface 34 (.pointer (some ⟨g, 0, none⟩))]) ?_ rfl ⟨?_, (by repeat (first | assumption | exact Below.refl _ _ | apply Below.drew | apply below_drewN | apply balloc | (refine Below.setCell ?_ (by first | omega | (simp <;> omega)) _)))⟩
    · simp [results, Tryd.results56, go_sem, *]
    · refine ⟨g, by omega, rfl, ?_⟩
      unfold AtB
      have := hat.out
      unfold AtB at this
      rw [Below.heap_setCell _ _ _ _ (by simp; omega), Below.heap_setCell _ _ _ _ (by simp; omega), Below.heap_setCell _ _ _ _ (by simp; omega), Below.heap_setCell _ _ _ _ (by simp; omega)]
      exact this
set_option maxHeartbeats 2000000 in
set_option maxRecDepth 100000 in
theorem next_num_digit {A : Nat → Addr} {B : Nat} (s : ByteArray) (p b : Nat) (w : World) (hE : Env A B SJ w) (hs : s.size ≤ 35184372088830) (hsc : ScB s (p : Int) b w) (hp : p < s.size) (hk : signK (bAt s p) = 0) (hw : bAt s p ≠ 110 ∧ bAt s p ≠ 116 ∧ bAt s p ≠ 102) (hn : bAt s p ≠ 45) (hd : isD (bAt s p) = true) :
    Calls Tryd.prog 56 #[.pointer (some ⟨b, 0, none⟩)] w fun e w' => (if (numAt s p).1 = true then e = .returned (.tuple #[tkV ⟨4, p, (numAt s p).2, noS⟩, .nilIface]) else NextBad A 2 (numAt s p).2 w e w') ∧ Below w.heap.size w w' := by
  have x0 := hsc.s
  have x1 := hsc.at
  have hbl : b < w.heap.size := ltB hsc
  have hx := byte_at s p
  have hp' : (p : Int) < (s.size : Int) := by omega
  have hs' : (s.size : Int) ≤ 35184372088830 := by omega
  replace hsc := Lib.hid hsc
  have O := fun w => one_calls (bAt s p) w
  have W := fun w => word_calls (bAt s p) w
  rw [hk] at O
  rw [show wordS (bAt s p) = ⟨#[]⟩ by unfold wordS; rw [if_neg (by omega), if_neg (by omega), if_neg (by omega)], show wordK (bAt s p) = 0 by unfold wordK; rw [if_neg (by omega), if_neg (by omega), if_neg (by omega)]] at W
  have D := fun w => digit_calls (bAt s p) w
  rw [hd] at D
  have N := fun w hE hsc => number_calls (A := A) (B := B) s p b w hE (Nat.le_trans hs (by decide)) hsc hp
  generalize bAt s p = c at *
  have c45 : ((c : Int) == 45) = false := by simp; omega
  generalize numAt s p = X at *
  obtain ⟨ok, te⟩ := X
  replace hk := Lib.hid hk
  replace hw := Lib.hid hw
  replace hn := Lib.hid hn
  replace hd := Lib.hid hd
  replace O := Lib.hid O
  replace W := Lib.hid W
  replace D := Lib.hid D
  replace N := Lib.hid N
  go_enter Tryd.func56, Tryd.ntmps56
  (go_wp2_with fail; repeat (any_goals (go_quiet (fail); go_wp2_with fail)))
  refine (O.out _).mono ?_
  rintro e w1 ⟨rfl, hw⟩
  have hb1 : Below w.heap.size w w1 := by rw [hw]; exact (by repeat (first | assumption | exact Below.refl _ _ | apply Below.drew | apply below_drewN | apply balloc | (refine Below.setCell ?_ (by first | omega | (simp <;> omega)) _)))
  have y0 : w1.cell? ⟨b, 0, none⟩ = some (.string s) := (hsc.out.next hb1).s
  have y1 := (hsc.out.next hb1).at
  have hv : w1.heap[w.heap.size]? = some (.cells #[.int .i64 0, .int .i64 0, .int .i64 0, .string ⟨#[]⟩] 28 (0, 0)) := by rw [hw]; exact heap_alloc_new w _
  have v0 := cellB hv 0 rfl
  have v1 := cellB hv 1 rfl
  have v2 := cellB hv 2 rfl
  have v3 := cellB hv 3 rfl
  have f0 := freeB hv 0
  have f1 := freeB hv 1
  have f2 := freeB hv 2
  have f3 := freeB hv 3
  have hvl := ltB hv
  replace hv := Lib.hid hv
  clear hw x0 x1
  (go_wp2_with fail; repeat (any_goals (go_quiet (fail); go_wp2_with fail)))
  refine (W.out _).mono ?_
  rintro e w2 ⟨rfl, rfl⟩
  (go_wp2_with fail; repeat (any_goals (go_quiet (fail); go_wp2_with fail)))
  refine (D.out _).mono ?_
  rintro e w3 ⟨rfl, rfl⟩
  (go_wp2_with fail; repeat (any_goals (go_quiet (fail); go_wp2_with fail)))
  have hz1 := hb1.size
  refine (N.out _ (hE.next hb1) (hsc.out.next hb1)).mono ?_
  cases ok with
  | true =>
    rintro e w4 ⟨hr, hb⟩
    have hr := (numR_ok rfl).1 hr
    subst hr
    have hv2 := box_next hv.out hb
    have u0 := cellB hv2 0 rfl
    have u1 := cellB hv2 1 rfl
    have u2 := cellB hv2 2 rfl
    have u3 := cellB hv2 3 rfl
    have g0 := freeB hv2 0
    have g1 := freeB hv2 1
    have g2 := freeB hv2 2
    have g3 := freeB hv2 3
    have hvl2 := ltB hv2
    replace hv2 := Lib.hid hv2
    clear v0 v1 v2 v3 f0 f1 f2 f3 hvl
    have hb4 : Below w.heap.size w w4 := bcall hb1 hb
    clear hb
    (go_wp2_with fail; repeat (any_goals (go_quiet (fail); go_wp2_with fail)))
    refine bodyPost_ret (v := .tuple #[.agg #[.int .i64 (4 : Int), .int .i64 (p : Int), .int .i64 (te : Int), .string ⟨#[]⟩], .nilIface]) ?_ rfl ⟨?_, (by repeat (first | assumption | exact Below.refl _ _ | apply Below.drew | apply below_drewN | apply balloc | (refine Below.setCell ?_ (by first | omega | (simp <;> omega)) _)))⟩
    · simp [results, Tryd.results56, go_sem, *]
    unfold tkV
    simp [noS]
  | false =>
    rintro e w4 ⟨hr, hb⟩
    obtain ⟨g, hg, he, hat⟩ := (numR_bad rfl).1 hr
    subst he
    have hg2 : w.heap.size + 1 ≤ g := Nat.le_trans hvl hg
    have hv2 := box_next hv.out hb
    have u0 := cellB hv2 0 rfl
    have u1 := cellB hv2 1 rfl
    have u2 := cellB hv2 2 rfl
    have u3 := cellB hv2 3 rfl
    have g0 := freeB hv2 0
    have g1 := freeB hv2 1
    have g2 := freeB hv2 2
    have g3 := freeB hv2 3
    have hvl2 := ltB hv2
    replace hv2 := Lib.hid hv2
    clear v0 v1 v2 v3 f0 f1 f2 f3 hvl
    have hb4 : Below w.heap.size w w4 := bcall hb1 hb
    clear hb hr
    replace hat := Lib.hid hat
    (go_wp2_with fail; repeat (any_goals (go_quiet (fail); go_wp2_with fail)))
    refine bodyPost_ret (v := .tuple #[.agg #[.int .i64 0, .int .i64 0, .int .i64 0, .string ⟨#[]⟩], .iface 34 (.pointer (some ⟨g, 0, none⟩))]) ?_ rfl ⟨?_, (by repeat (first | assumption | exact Below.refl _ _ | apply Below.drew | apply below_drewN | apply balloc | (refine Below.setCell ?_ (by first | omega | (simp <;> omega)) _)))⟩
    · simp [results, Tryd.results56, go_sem, *]
    · refine ⟨g, by omega, rfl, ?_⟩
      unfold AtB
      have := hat.out
      unfold AtB at this
      rw [Below.heap_setCell _ _ _ _ (by simp; omega), Below.heap_setCell _ _ _ _ (by simp; omega), Below.heap_setCell _ _ _ _ (by simp; omega), Below.heap_setCell _ _ _ _ (by simp; omega)]
      exact this

set_option maxHeartbeats 2000000 in
set_option maxRecDepth 100000 in
theorem next_text {A : Nat → Addr} {B : Nat} (s : ByteArray) (p b : Nat) (w : World) (hE : Env A B SJ w) (hs : s.size ≤ 35184372088830) (hsc : ScB s (p : Int) b w) (hp : p < s.size) (hv : brkAt s (p + 1) = s.size) (hc : bAt s p = 34) :
    Calls Tryd.prog 56 #[.pointer (some ⟨b, 0, none⟩)] w fun e w' => (if (qAt s (p + 1) []).1 = 0 then e = .returned (.tuple #[tkV ⟨5, p, (qAt s (p + 1) []).2.1, ⟨(qAt s (p + 1) []).2.2.toArray⟩⟩, .nilIface]) else NextBad A (qAt s (p + 1) []).1 (qAt s (p + 1) []).2.1 w e w') ∧ Below w.heap.size w w' := by
  have x0 := hsc.s
  have x1 := hsc.at
  have hbl : b < w.heap.size := ltB hsc
  have hx := byte_at s p
  have hp' : (p : Int) < (s.size : Int) := by omega
  have hs' : (s.size : Int) ≤ 35184372088830 := by omega
  replace hsc := Lib.hid hsc
  have hk : signK (bAt s p) = 0 := by rw [hc]; rfl
  have hw : bAt s p ≠ 110 ∧ bAt s p ≠ 116 ∧ bAt s p ≠ 102 := by omega
  have O := fun w => one_calls (bAt s p) w
  have W := fun w => word_calls (bAt s p) w
  rw [hk] at O
  rw [show wordS (bAt s p) = ⟨#[]⟩ by unfold wordS; rw [if_neg (by omega), if_neg (by omega), if_neg (by omega)], show wordK (bAt s p) = 0 by unfold wordK; rw [if_neg (by omega), if_neg (by omega), if_neg (by omega)]] at W
  have D := fun w => digit_calls (bAt s p) w
  rw [show isD (bAt s p) = false by rw [hc]; rfl] at D
  have T := fun w hE hsc => text_calls (A := A) (B := B) s p b w hE hs hsc hp hv
  have c45 : ((bAt s p : Int) == 45) = false := by rw [hc]; rfl
  have c34 : ((bAt s p : Int) == 34) = true := by rw [hc]; rfl
  generalize bAt s p = c at *
  generalize qAt s (p + 1) [] = X at *
  obtain ⟨k, te, l⟩ := X
  replace hk := Lib.hid hk
  replace hw := Lib.hid hw
  replace hc := Lib.hid hc
  replace hv := Lib.hid hv
  replace O := Lib.hid O
  replace W := Lib.hid W
  replace D := Lib.hid D
  replace T := Lib.hid T
  go_enter Tryd.func56, Tryd.ntmps56
  (go_wp2_with fail; repeat (any_goals (go_quiet (fail); go_wp2_with fail)))
  refine (O.out _).mono ?_
  rintro e w1 ⟨rfl, hw⟩
  have hb1 : Below w.heap.size w w1 := by rw [hw]; exact (by repeat (first | assumption | exact Below.refl _ _ | apply Below.drew | apply below_drewN | apply balloc | (refine Below.setCell ?_ (by first | omega | (simp <;> omega)) _)))
  have y0 : w1.cell? ⟨b, 0, none⟩ = some (.string s) := (hsc.out.next hb1).s
  have y1 := (hsc.out.next hb1).at
  have hv : w1.heap[w.heap.size]? = some (.cells #[.int .i64 0, .int .i64 0, .int .i64 0, .string ⟨#[]⟩] 28 (0, 0)) := by rw [hw]; exact heap_alloc_new w _
  have v0 := cellB hv 0 rfl
  have v1 := cellB hv 1 rfl
  have v2 := cellB hv 2 rfl
  have v3 := cellB hv 3 rfl
  have f0 := freeB hv 0
  have f1 := freeB hv 1
  have f2 := freeB hv 2
  have f3 := freeB hv 3
  have hvl := ltB hv
  replace hv := Lib.hid hv
  clear hw x0 x1
  (go_wp2_with fail; repeat (any_goals (go_quiet (fail); go_wp2_with fail)))
  refine (W.out _).mono ?_
  rintro e w2 ⟨rfl, rfl⟩
  (go_wp2_with fail; repeat (any_goals (go_quiet (fail); go_wp2_with fail)))
  refine (D.out _).mono ?_
  rintro e w3 ⟨rfl, rfl⟩
  (go_wp2_with fail; repeat (any_goals (go_quiet (fail); go_wp2_with fail)))
  have hz1 := hb1.size
  refine (T.out _ (hE.next hb1) (hsc.out.next hb1)).mono ?_
  cases k with
  | zero =>
    rintro e w4 ⟨hr, hb⟩
    have hr := (textR_ok rfl).1 hr
    subst hr
    have hv2 := box_next hv.out hb
    have u0 := cellB hv2 0 rfl
    have u1 := cellB hv2 1 rfl
    have u2 := cellB hv2 2 rfl
    have u3 := cellB hv2 3 rfl
    have g0 := freeB hv2 0
    have g1 := freeB hv2 1
    have g2 := freeB hv2 2
    have g3 := freeB hv2 3
    have hvl2 := ltB hv2
    replace hv2 := Lib.hid hv2
    clear v0 v1 v2 v3 f0 f1 f2 f3 hvl
    have hb4 : Below w.heap.size w w4 := bcall hb1 hb
    clear hb
    (go_wp2_with fail; repeat (any_goals (go_quiet (fail); go_wp2_with fail)))
    refine bodyPost_ret (v := .tuple #[.agg #[.int .i64 (5 : Int), .int .i64 (p : Int), .int .i64 (te : Int), .string ⟨l.toArray⟩], .nilIface]) ?_ rfl ⟨?_, (by repeat (first | assumption | exact Below.refl _ _ | apply Below.drew | apply below_drewN | apply balloc | (refine Below.setCell ?_ (by first | omega | (simp <;> omega)) _)))⟩
    · simp [results, Tryd.results56, go_sem, *]
    unfold tkV
    simp
  | succ k =>
    rintro e w4 ⟨hr, hb⟩
    obtain ⟨g, hg, he, hat⟩ := (textR_bad rfl).1 hr
    subst he
    have hg2 : w.heap.size + 1 ≤ g := Nat.le_trans hvl hg
    have hv2 := box_next hv.out hb
    have u0 := cellB hv2 0 rfl
    have u1 := cellB hv2 1 rfl
    have u2 := cellB hv2 2 rfl
    have u3 := cellB hv2 3 rfl
    have g0 := freeB hv2 0
    have g1 := freeB hv2 1
    have g2 := freeB hv2 2
    have g3 := freeB hv2 3
    have hvl2 := ltB hv2
    replace hv2 := Lib.hid hv2
    clear v0 v1 v2 v3 f0 f1 f2 f3 hvl
    have hb4 : Below w.heap.size w w4 := bcall hb1 hb
    clear hb hr
    replace hat := Lib.hid hat
    (go_wp2_with fail; repeat (any_goals (go_quiet (fail); go_wp2_with fail)))
    refine bodyPost_ret (v := .tuple #[.agg #[.int .i64 0, .int .i64 0, .int .i64 0, .string ⟨#[]⟩], .iface 34 (.pointer (some ⟨g, 0, none⟩))]) ?_ rfl ⟨?_, (by repeat (first | assumption | exact Below.refl _ _ | apply Below.drew | apply below_drewN | apply balloc | (refine Below.setCell ?_ (by first | omega | (simp <;> omega)) _)))⟩
    · simp [results, Tryd.results56, go_sem, *]
    · refine ⟨g, by omega, rfl, ?_⟩
      unfold AtB
      have := hat.out
      unfold AtB at this
      rw [Below.heap_setCell _ _ _ _ (by simp; omega), Below.heap_setCell _ _ _ _ (by simp; omega), Below.heap_setCell _ _ _ _ (by simp; omega), Below.heap_setCell _ _ _ _ (by simp; omega)]
      exact this

end Go.Proofs.YtnldhgkmbighkaaDoor
