/- Package scan: the walk of next. -/
import Derived.Test.YtnldhgkmbighkaaDoorScan5
namespace Go.Proofs.YtnldhgkmbighkaaDoor
open Go Go.RowKit

def tkV (t : Tk) : Value := .agg #[.int .i64 (t.kind : Int), .int .i64 (t.fr : Int), .int .i64 (t.to : Int), .string t.text]
/-- What next answers. -/
def NextBad (A : Nat → Addr) (k i : Nat) (w : World) (e : Ending) (w' : World) : Prop :=
  ∃ g, w.heap.size ≤ g ∧ e = .returned (.tuple #[.agg #[.int .i64 0, .int .i64 0, .int .i64 0, .string ⟨#[]⟩], .iface 34 (.pointer (some ⟨g, 0, none⟩))]) ∧ AtB (i : Int) (.iface 203 (.pointer (some (A k)))) g w'
def NextR (A : Nat → Addr) (O : Nat × Nat × Tk) (w : World) (e : Ending) (w' : World) : Prop := if O.1 = 0 then e = .returned (.tuple #[tkV O.2.2, .nilIface]) else NextBad A O.1 O.2.1 w e w'
theorem nextR_ok {A : Nat → Addr} {O : Nat × Nat × Tk} {t : Tk} {i : Nat} {w w' : World} {e : Ending} (h : O = (0, i, t)) : NextR A O w e w' ↔ e = .returned (.tuple #[tkV t, .nilIface]) := by
  subst h; unfold NextR; rw [if_pos rfl]
theorem nextR_bad {A : Nat → Addr} {O : Nat × Nat × Tk} {t : Tk} {k i : Nat} {w w' : World} {e : Ending} (h : O = (k + 1, i, t)) : NextR A O w e w' ↔ NextBad A (k + 1) i w e w' := by
  subst h; unfold NextR; rw [if_neg (by simp)]
set_option maxHeartbeats 2000000 in
set_option maxRecDepth 100000 in
theorem next_sign (s : ByteArray) (p b : Nat) (w : World) (hs : s.size ≤ 35184372088830) (hsc : ScB s (p : Int) b w) (hp : p < s.size) (hk : signK (bAt s p) ≠ 0) :
    Calls Tryd.prog 56 #[.pointer (some ⟨b, 0, none⟩)] w fun e w' => e = .returned (.tuple #[tkV ⟨signK (bAt s p), p, p + 1, noS⟩, .nilIface]) ∧ Below w.heap.size w w' := by
  have x0 := hsc.s
  have x1 := hsc.at
  have hbl : b < w.heap.size := ltB hsc
  have hx := byte_at s p
  have hp' : (p : Int) < (s.size : Int) := by omega
  have hs' : (s.size : Int) ≤ 35184372088830 := by omega
  replace hsc := Lib.hid hsc
  have O := fun w => one_calls (bAt s p) w
  generalize bAt s p = c at *
  generalize signK c = k at *
  have hk' : ((k : Int) != 0) = true := by simp; omega
  replace hk := Lib.hid hk
  replace O := Lib.hid O
  go_enter Tryd.func56, Tryd.ntmps56
  (go_wp2_with fail; repeat (any_goals (go_quiet (fail); go_wp2_with fail)))
  refine (O.out _).mono ?_
  rintro e w1 ⟨rfl, hw⟩
  have hb1 : Below w.heap.size w w1 := by rw [hw]; exact (by repeat (first | assumption | exact Below.refl _ _ | apply Below.drew | apply below_drewN | apply balloc | (refine Below.setCell ?_ (by first | omega | (simp <;> omega)) _)))
  have y0 : w1.cell? ⟨b, 0, none⟩ = some (.string s) := (hsc.out.next hb1).s
  have y1 := (hsc.out.next hb1).at
  have hv : w1.heap[w.heap.size]? = some (.cells #[.int .i64 0, .int .i64 0, .int .i64 0, .string ⟨#[]⟩] 28 (0, 0)) := by rw [hw]; exact heap_alloc_new w _
  have v0 := cellB hv 0 rfl
  have v1 := cellB hv 1 rfl
  have v2 := cellB hv 2 rfl
  have v3 := cellB hv 3 rfl
  have f0 := freeB hv 0
  have f1 := freeB hv 1
  have f2 := freeB hv 2
  have f3 := freeB hv 3
  have hvl := ltB hv
  replace hv := Lib.hid hv
  clear hw x0 x1
  (go_wp2_with fail; repeat (any_goals (go_quiet (fail); go_wp2_with fail)))
  refine bodyPost_ret (v := .tuple #[.agg #[.int .i64 (k : Int), .int .i64 (p : Int), .int .i64 ((p : Int) + 1), .string ⟨#[]⟩], .nilIface]) ?_ rfl ⟨?_, (by repeat (first | assumption | exact Below.refl _ _ | apply Below.drew | apply below_drewN | apply balloc | (refine Below.setCell ?_ (by first | omega | (simp <;> omega)) _)))⟩
  · simp [results, Tryd.results56, go_sem, *]
  show _ = Ending.returned (.tuple #[tkV ⟨k, p, p + 1, noS⟩, .nilIface])
  unfold tkV
  simp [noS]

set_option maxHeartbeats 2000000 in
set_option maxRecDepth 100000 in
theorem next_null (s : ByteArray) (p b : Nat) (w : World) (hs : s.size ≤ 35184372088830) (hsc : ScB s (p : Int) b w) (hp : p < s.size) (hc : bAt s p = 110) (hpf : Lib.hasPrefix (s.extract p s.size).data.toList [110, 117, 108, 108] = true) :
    Calls Tryd.prog 56 #[.pointer (some ⟨b, 0, none⟩)] w fun e w' => e = .returned (.tuple #[tkV ⟨1, p, p + 4, noS⟩, .nilIface]) ∧ Below w.heap.size w w' := by
  have x0 := hsc.s
  have x1 := hsc.at
  have hbl : b < w.heap.size := ltB hsc
  have hx := byte_at s p
  have hp' : (p : Int) < (s.size : Int) := by omega
  have hs' : (s.size : Int) ≤ 35184372088830 := by omega
  replace hsc := Lib.hid hsc
  have O := fun w => one_calls (bAt s p) w
  have W := fun w => word_calls (bAt s p) w
  rw [show signK (bAt s p) = 0 by rw [hc]; rfl] at O
  rw [show wordS (bAt s p) = ⟨#[110, 117, 108, 108]⟩ by rw [hc]; rfl, show wordK (bAt s p) = 1 by rw [hc]; rfl] at W
  have H := fun w => Tryd.strings_HasPrefix (s.extract p s.size) ⟨#[110, 117, 108, 108]⟩ w
  simp only [hpf] at H
  generalize bAt s p = c at *
  replace hc := Lib.hid hc
  replace hpf := Lib.hid hpf
  replace O := Lib.hid O
  replace W := Lib.hid W
  replace H := Lib.hid H
  go_enter Tryd.func56, Tryd.ntmps56
  (go_wp2_with fail; repeat (any_goals (go_quiet (fail); go_wp2_with fail)))
  refine (O.out _).mono ?_
  rintro e w1 ⟨rfl, hw⟩
  have hb1 : Below w.heap.size w w1 := by rw [hw]; exact (by repeat (first | assumption | exact Below.refl _ _ | apply Below.drew | apply below_drewN | apply balloc | (refine Below.setCell ?_ (by first | omega | (simp <;> omega)) _)))
  have y0 : w1.cell? ⟨b, 0, none⟩ = some (.string s) := (hsc.out.next hb1).s
  have y1 := (hsc.out.next hb1).at
  have hv : w1.heap[w.heap.size]? = some (.cells #[.int .i64 0, .int .i64 0, .int .i64 0, .string ⟨#[]⟩] 28 (0, 0)) := by rw [hw]; exact heap_alloc_new w _
  have v0 := cellB hv 0 rfl
  have v1 := cellB hv 1 rfl
  have v2 := cellB hv 2 rfl
  have v3 := cellB hv 3 rfl
  have f0 := freeB hv 0
  have f1 := freeB hv 1
  have f2 := freeB hv 2
  have f3 := freeB hv 3
  have hvl := ltB hv
  replace hv := Lib.hid hv
  clear hw x0 x1
  (go_wp2_with fail; repeat (any_goals (go_quiet (fail); go_wp2_with fail)))
  refine (W.out _).mono ?_
  rintro e w2 ⟨rfl, rfl⟩
  (go_wp2_with fail; repeat (any_goals (go_quiet (fail); go_wp2_with fail)))
  refine (H.out _).mono ?_
  rintro e w3 ⟨rfl, rfl⟩
  (go_wp2_with fail; repeat (any_goals (go_quiet (fail); go_wp2_with fail)))
  refine bodyPost_ret (v := .tuple #[.agg #[.int .i64 (1 : Int), .int .i64 (p : Int), .int .i64 ((p : Int) + 4), .string ⟨#[]⟩], .nilIface]) ?_ rfl ⟨?_, (by repeat (first | assumption | exact Below.refl _ _ | apply Below.drew | apply below_drewN | apply balloc | (refine Below.setCell ?_ (by first | omega | (simp <;> omega)) _)))⟩
  · simp [results, Tryd.results56, go_sem, *]
  unfold tkV
  simp [noS]
set_option maxHeartbeats 2000000 in
set_option maxRecDepth 100000 in
theorem next_true (s : ByteArray) (p b : Nat) (w : World) (hs : s.size ≤ 35184372088830) (hsc : ScB s (p : Int) b w) (hp : p < s.size) (hc : bAt s p = 116) (hpf : Lib.hasPrefix (s.extract p s.size).data.toList [116, 114, 117, 101] = true) :
    Calls Tryd.prog 56 #[.pointer (some ⟨b, 0, none⟩)] w fun e w' => e = .returned (.tuple #[tkV ⟨2, p, p + 4, noS⟩, .nilIface]) ∧ Below w.heap.size w w' := by
  have x0 := hsc.s
  have x1 := hsc.at
  have hbl : b < w.heap.size := ltB hsc
  have hx := byte_at s p
  have hp' : (p : Int) < (s.size : Int) := by omega
  have hs' : (s.size : Int) ≤ 35184372088830 := by omega
  replace hsc := Lib.hid hsc
  have O := fun w => one_calls (bAt s p) w
  have W := fun w => word_calls (bAt s p) w
  rw [show signK (bAt s p) = 0 by rw [hc]; rfl] at O
  rw [show wordS (bAt s p) = ⟨#[116, 114, 117, 101]⟩ by rw [hc]; rfl, show wordK (bAt s p) = 2 by rw [hc]; rfl] at W
  have H := fun w => Tryd.strings_HasPrefix (s.extract p s.size) ⟨#[116, 114, 117, 101]⟩ w
  simp only [hpf] at H
  generalize bAt s p = c at *
  replace hc := Lib.hid hc
  replace hpf := Lib.hid hpf
  replace O := Lib.hid O
  replace W := Lib.hid W
  replace H := Lib.hid H
  go_enter Tryd.func56, Tryd.ntmps56
  (go_wp2_with fail; repeat (any_goals (go_quiet (fail); go_wp2_with fail)))
  refine (O.out _).mono ?_
  rintro e w1 ⟨rfl, hw⟩
  have hb1 : Below w.heap.size w w1 := by rw [hw]; exact (by repeat (first | assumption | exact Below.refl _ _ | apply Below.drew | apply below_drewN | apply balloc | (refine Below.setCell ?_ (by first | omega | (simp <;> omega)) _)))
  have y0 : w1.cell? ⟨b, 0, none⟩ = some (.string s) := (hsc.out.next hb1).s
  have y1 := (hsc.out.next hb1).at
  have hv : w1.heap[w.heap.size]? = some (.cells #[.int .i64 0, .int .i64 0, .int .i64 0, .string ⟨#[]⟩] 28 (0, 0)) := by rw [hw]; exact heap_alloc_new w _
  have v0 := cellB hv 0 rfl
  have v1 := cellB hv 1 rfl
  have v2 := cellB hv 2 rfl
  have v3 := cellB hv 3 rfl
  have f0 := freeB hv 0
  have f1 := freeB hv 1
  have f2 := freeB hv 2
  have f3 := freeB hv 3
  have hvl := ltB hv
  replace hv := Lib.hid hv
  clear hw x0 x1
  (go_wp2_with fail; repeat (any_goals (go_quiet (fail); go_wp2_with fail)))
  refine (W.out _).mono ?_
  rintro e w2 ⟨rfl, rfl⟩
  (go_wp2_with fail; repeat (any_goals (go_quiet (fail); go_wp2_with fail)))
  refine (H.out _).mono ?_
  rintro e w3 ⟨rfl, rfl⟩
  (go_wp2_with fail; repeat (any_goals (go_quiet (fail); go_wp2_with fail)))
  refine bodyPost_ret (v := .tuple #[.agg #[.int .i64 (2 : Int), .int .i64 (p : Int), .int .i64 ((p : Int) + 4), .string ⟨#[]⟩], .nilIface]) ?_ rfl ⟨?_, (by repeat (first | assumption | exact Below.refl _ _ | apply Below.drew | apply below_drewN | apply balloc | (refine Below.setCell ?_ (by first | omega | (simp <;> omega)) _)))⟩
  · simp [results, Tryd.results56, go_sem, *]
  unfold tkV
  simp [noS]
set_option maxHeartbeats 2000000 in
set_option maxRecDepth 100000 in
theorem next_false (s : ByteArray) (p b : Nat) (w : World) (hs : s.size ≤ 35184372088830) (hsc : ScB s (p : Int) b w) (hp : p < s.size) (hc : bAt s p = 102) (hpf : Lib.hasPrefix (s.extract p s.size).data.toList [102, 97, 108, 115, 101] = true) :
    Calls Tryd.prog 56 #[.pointer (some ⟨b, 0, none⟩)] w fun e w' => e = .returned (.tuple #[tkV ⟨3, p, p + 5, noS⟩, .nilIface]) ∧ Below w.heap.size w w' := by
  have x0 := hsc.s
  have x1 := hsc.at
  have hbl : b < w.heap.size := ltB hsc
  have hx := byte_at s p
  have hp' : (p : Int) < (s.size : Int) := by omega
  have hs' : (s.size : Int) ≤ 35184372088830 := by omega
  replace hsc := Lib.hid hsc
  have O := fun w => one_calls (bAt s p) w
  have W := fun w => word_calls (bAt s p) w
  rw [show signK (bAt s p) = 0 by rw [hc]; rfl] at O
  rw [show wordS (bAt s p) = ⟨#[102, 97, 108, 115, 101]⟩ by rw [hc]; rfl, show wordK (bAt s p) = 3 by rw [hc]; rfl] at W
  have H := fun w => Tryd.strings_HasPrefix (s.extract p s.size) ⟨#[102, 97, 108, 115, 101]⟩ w
  simp only [hpf] at H
  generalize bAt s p = c at *
  replace hc := Lib.hid hc
  replace hpf := Lib.hid hpf
  replace O := Lib.hid O
  replace W := Lib.hid W
  replace H := Lib.hid H
  go_enter Tryd.func56, Tryd.ntmps56
  (go_wp2_with fail; repeat (any_goals (go_quiet (fail); go_wp2_with fail)))
  refine (O.out _).mono ?_
  rintro e w1 ⟨rfl, hw⟩
  have hb1 : Below w.heap.size w w1 := by rw [hw]; exact (by repeat (first | assumption | exact Below.refl _ _ | apply Below.drew | apply below_drewN | apply balloc | (refine Below.setCell ?_ (by first | omega | (simp <;> omega)) _)))
  have y0 : w1.cell? ⟨b, 0, none⟩ = some (.string s) := (hsc.out.next hb1).s
  have y1 := (hsc.out.next hb1).at
  have hv : w1.heap[w.heap.size]? = some (.cells #[.int .i64 0, .int .i64 0, .int .i64 0, .string ⟨#[]⟩] 28 (0, 0)) := by rw [hw]; exact heap_alloc_new w _
  have v0 := cellB hv 0 rfl
  have v1 := cellB hv 1 rfl
  have v2 := cellB hv 2 rfl
  have v3 := cellB hv 3 rfl
  have f0 := freeB hv 0
  have f1 := freeB hv 1
  have f2 := freeB hv 2
  have f3 := freeB hv 3
  have hvl := ltB hv
  replace hv := Lib.hid hv
  clear hw x0 x1
  (go_wp2_with fail; repeat (any_goals (go_quiet (fail); go_wp2_with fail)))
  refine (W.out _).mono ?_
  rintro e w2 ⟨rfl, rfl⟩
  (go_wp2_with fail; repeat (any_goals (go_quiet (fail); go_wp2_with fail)))
  refine (H.out _).mono ?_
  rintro e w3 ⟨rfl, rfl⟩
  (go_wp2_with fail; repeat (any_goals (go_quiet (fail); go_wp2_with fail)))
  refine bodyPost_ret (v := .tuple #[.agg #[.int .i64 (3 : Int), .int .i64 (p : Int), .int .i64 ((p : Int) + 5), .string ⟨#[]⟩], .nilIface]) ?_ rfl ⟨?_, (by repeat (first | assumption | exact Below.refl _ _ | apply Below.drew | apply below_drewN | apply balloc | (refine Below.setCell ?_ (by first | omega | (simp <;> omega)) _)))⟩
  · simp [results, Tryd.results56, go_sem, *]
  unfold tkV
  simp [noS]
set_option maxHeartbeats 2000000 in
set_option maxRecDepth 100000 in
theorem next_null_bad {A : Nat → Addr} {B : Nat} (s : ByteArray) (p b : Nat) (w : World) (hE : Env A B SJ w) (hs : s.size ≤ 35184372088830) (hsc : ScB s (p : Int) b w) (hp : p < s.size) (hc : bAt s p = 110) (hpf : Lib.hasPrefix (s.extract p s.size).data.toList [110, 117, 108, 108] = false) :
    Calls Tryd.prog 56 #[.pointer (some ⟨b, 0, none⟩)] w fun e w' => NextBad A 2 p w e w' ∧ Below w.heap.size w w' := by
  have x0 := hsc.s
  have x1 := hsc.at
  have hbl : b < w.heap.size := ltB hsc
  have hx := byte_at s p
  have hp' : (p : Int) < (s.size : Int) := by omega
  have hs' : (s.size : Int) ≤ 35184372088830 := by omega
  replace hsc := Lib.hid hsc
  have O := fun w => one_calls (bAt s p) w
  have W := fun w => word_calls (bAt s p) w
  rw [show signK (bAt s p) = 0 by rw [hc]; rfl] at O
  rw [show wordS (bAt s p) = ⟨#[110, 117, 108, 108]⟩ by rw [hc]; rfl, show wordK (bAt s p) = 1 by rw [hc]; rfl] at W
  have H := fun w => Tryd.strings_HasPrefix (s.extract p s.size) ⟨#[110, 117, 108, 108]⟩ w
  simp only [hpf] at H
  generalize bAt s p = c at *
  replace hc := Lib.hid hc
  replace hpf := Lib.hid hpf
  replace O := Lib.hid O
  replace W := Lib.hid W
  replace H := Lib.hid H
  go_enter Tryd.func56, Tryd.ntmps56
  (go_wp2_with fail; repeat (any_goals (go_quiet (fail); go_wp2_with fail)))
  refine (O.out _).mono ?_
  rintro e w1 ⟨rfl, hw⟩
  have hb1 : Below w.heap.size w w1 := by rw [hw]; exact (by repeat (first | assumption | exact Below.refl _ _ | apply Below.drew | apply below_drewN | apply balloc | (refine Below.setCell ?_ (by first | omega | (simp <;> omega)) _)))
  have y0 : w1.cell? ⟨b, 0, none⟩ = some (.string s) := (hsc.out.next hb1).s
  have y1 := (hsc.out.next hb1).at
  have hv : w1.heap[w.heap.size]? = some (.cells #[.int .i64 0, .int .i64 0, .int .i64 0, .string ⟨#[]⟩] 28 (0, 0)) := by rw [hw]; exact heap_alloc_new w _
  have v0 := cellB hv 0 rfl
  have v1 := cellB hv 1 rfl
  have v2 := cellB hv 2 rfl
  have v3 := cellB hv 3 rfl
  have f0 := freeB hv 0
  have f1 := freeB hv 1
  have f2 := freeB hv 2
  have f3 := freeB hv 3
  have hvl := ltB hv
  replace hv := Lib.hid hv
  clear hw x0 x1
  (go_wp2_with fail; repeat (any_goals (go_quiet (fail); go_wp2_with fail)))
  refine (W.out _).mono ?_
  rintro e w2 ⟨rfl, rfl⟩
  (go_wp2_with fail; repeat (any_goals (go_quiet (fail); go_wp2_with fail)))
  refine (H.out _).mono ?_
  rintro e w3 ⟨rfl, rfl⟩
  have e2 := (hE.next hb1).e2
  (go_wp2_with fail; repeat (any_goals (go_quiet (fail); go_wp2_with fail)))
  refine (fault_calls _ _ _ _).mono ?_
  rintro e w4 ⟨g, hg, rfl, hat, hb⟩
  have hg2 : w.heap.size + 1 ≤ g := Nat.le_trans hvl hg
  have hv2 := box_next hv.out hb
  have u0 := cellB hv2 0 rfl
  have u1 := cellB hv2 1 rfl
  have u2 := cellB hv2 2 rfl
  have u3 := cellB hv2 3 rfl
  have g0 := freeB hv2 0
  have g1 := freeB hv2 1
  have g2 := freeB hv2 2
  have g3 := freeB hv2 3
  have hvl2 := ltB hv2
  replace hv2 := Lib.hid hv2
  clear v0 v1 v2 v3 f0 f1 f2 f3 hvl
  replace hat := Lib.hid hat
  have hb4 : Below w.heap.size w w4 := bcall (by repeat (first | assumption | exact Below.refl _ _ | apply Below.drew | apply below_drewN | apply balloc | (refine Below.setCell ?_ (by first | omega | (simp <;> omega)) _))) hb
  clear hb
  (go_wp2_with fail; repeat (any_goals (go_quiet (fail); go_wp2_with fail)))
  refine bodyPost_ret (v := .tuple #[.agg #[.int .i64 0, .int .i64 0, .int .i64 0, .string ⟨#[]⟩], .iface 34 (.pointer (some ⟨g, 0, none⟩))]) ?_ rfl ⟨⟨g, by omega, rfl, ?_⟩, (by repeat (first | assumption | exact Below.refl _ _ | apply Below.drew | apply below_drewN | apply balloc | (refine Below.setCell ?_ (by first | omega | (simp <;> omega)) _)))⟩
  · simp [results, Tryd.results56, go_sem, *]
  · unfold AtB
    have := hat.out
    unfold AtB at this
    rw [Below.heap_setCell _ _ _ _ (by simp; omega), Below.heap_setCell _ _ _ _ (by simp; omega), Below.heap_setCell _ _ _ _ (by simp; omega), Below.heap_setCell _ _ _ _ (by simp; omega)]
    exact this
set_option maxHeartbeats 2000000 in
set_option maxRecDepth 100000 in
theorem next_true_bad {A : Nat → Addr} {B : Nat} (s : ByteArray) (p b : Nat) (w : World) (hE : Env A B SJ w) (hs : s.size ≤ 35184372088830) (hsc : ScB s (p : Int) b w) (hp : p < s.size) (hc : bAt s p = 116) (hpf : Lib.hasPrefix (s.extract p s.size).data.toList [116, 114, 117, 101] = false) :
    Calls Tryd.prog 56 #[.pointer (some ⟨b, 0, none⟩)] w fun e w' => NextBad A 2 p w e w' ∧ Below w.heap.size w w' := by
  have x0 := hsc.s
  have x1 := hsc.at
  have hbl : b < w.heap.size := ltB hsc
  have hx := byte_at s p
  have hp' : (p : Int) < (s.size : Int) := by omega
  have hs' : (s.size : Int) ≤ 35184372088830 := by omega
  replace hsc := Lib.hid hsc
  have O := fun w => one_calls (bAt s p) w
  have W := fun w => word_calls (bAt s p) w
  rw [show signK (bAt s p) = 0 by rw [hc]; rfl] at O
  rw [show wordS (bAt s p) = ⟨#[116, 114, 117, 101]⟩ by rw [hc]; rfl, show wordK (bAt s p) = 2 by rw [hc]; rfl] at W
  have H := fun w => Tryd.strings_HasPrefix (s.extract p s.size) ⟨#[116, 114, 117, 101]⟩ w
  simp only [hpf] at H
  generalize bAt s p = c at *
  replace hc := Lib.hid hc
  replace hpf := Lib.hid hpf
  replace O := Lib.hid O
  replace W := Lib.hid W
  replace H := Lib.hid H
  go_enter Tryd.func56, Tryd.ntmps56
  (go_wp2_with fail; repeat (any_goals (go_quiet (fail); go_wp2_with fail)))
  refine (O.out _).mono ?_
  rintro e w1 ⟨rfl, hw⟩
  have hb1 : Below w.heap.size w w1 := by rw [hw]; exact (by repeat (first | assumption | exact Below.refl _ _ | apply Below.drew | apply below_drewN | apply balloc | (refine Below.setCell ?_ (by first | omega | (simp <;> omega)) _)))
  have y0 : w1.cell? ⟨b, 0, none⟩ = some (.string s) := (hsc.out.next hb1).s
  have y1 := (hsc.out.next hb1).at
  have hv : w1.heap[w.heap.size]? = some (.cells #[.int .i64 0, .int .i64 0, .int .i64 0, .string ⟨#[]⟩] 28 (0, 0)) := by rw [hw]; exact heap_alloc_new w _
  have v0 := cellB hv 0 rfl
  have v1 := cellB hv 1 rfl
  have v2 := cellB hv 2 rfl
  have v3 := cellB hv 3 rfl
  have f0 := freeB hv 0
  have f1 := freeB hv 1
  have f2 := freeB hv 2
  have f3 := freeB hv 3
  have hvl := ltB hv
  replace hv := Lib.hid hv
  clear hw x0 x1
  (go_wp2_with fail; repeat (any_goals (go_quiet (fail); go_wp2_with fail)))
  refine (W.out _).mono ?_
  rintro e w2 ⟨rfl, rfl⟩
  (go_wp2_with fail; repeat (any_goals (go_quiet (fail); go_wp2_with fail)))
  refine (H.out _).mono ?_
  rintro e w3 ⟨rfl, rfl⟩
  have e2 := (hE.next hb1).e2
  (go_wp2_with fail; repeat (any_goals (go_quiet (fail); go_wp2_with fail)))
  refine (fault_calls _ _ _ _).mono ?_
  rintro e w4 ⟨g, hg, rfl, hat, hb⟩
  have hg2 : w.heap.size + 1 ≤ g := Nat.le_trans hvl hg
  have hv2 := box_next hv.out hb
  have u0 := cellB hv2 0 rfl
  have u1 := cellB hv2 1 rfl
  have u2 := cellB hv2 2 rfl
  have u3 := cellB hv2 3 rfl
  have g0 := freeB hv2 0
  have g1 := freeB hv2 1
  have g2 := freeB hv2 2
  have g3 := freeB hv2 3
  have hvl2 := ltB hv2
  replace hv2 := Lib.hid hv2
  clear v0 v1 v2 v3 f0 f1 f2 f3 hvl
  replace hat := Lib.hid hat
  have hb4 : Below w.heap.size w w4 := bcall (by repeat (first | assumption | exact Below.refl _ _ | apply Below.drew | apply below_drewN | apply balloc | (refine Below.setCell ?_ (by first | omega | (simp <;> omega)) _))) hb
  clear hb
  (go_wp2_with fail; repeat (any_goals (go_quiet (fail); go_wp2_with fail)))
  refine bodyPost_ret (v := .tuple #[.agg #[.int .i64 0, .int .i64 0, .int .i64 0, .string ⟨#[]⟩], .iface 34 (.pointer (some ⟨g, 0, none⟩))]) ?_ rfl ⟨⟨g, by omega, rfl, ?_⟩, (by repeat (first | assumption | exact Below.refl _ _ | apply Below.drew | apply below_drewN | apply balloc | (refine Below.setCell ?_ (by first | omega | (simp <;> omega)) _)))⟩
  · simp [results, Tryd.results56, go_sem, *]
  · unfold AtB
    have := hat.out
    unfold AtB at this
    rw [Below.heap_setCell _ _ _ _ (by simp; omega), Below.heap_setCell _ _ _ _ (by simp; omega), Below.heap_setCell _ _ _ _ (by simp; omega), Below.heap_setCell _ _ _ _ (by simp; omega)]
    exact this
set_option maxHeartbeats 2000000 in
set_option maxRecDepth 100000 in
theorem next_false_bad {A : Nat → Addr} {B : Nat} (s : ByteArray) (p b : Nat) (w : World) (hE : Env A B SJ w) (hs : s.size ≤ 35184372088830) (hsc : ScB s (p : Int) b w) (hp : p < s.size) (hc : bAt s p = 102) (hpf : Lib.hasPrefix (s.extract p s.size).data.toList [102, 97, 108, 115, 101] = false) :
    Calls Tryd.prog 56 #[.pointer (some ⟨b, 0, none⟩)] w fun e w' => NextBad A 2 p w e w' ∧ Below w.heap.size w w' := by
  have x0 := hsc.s
  have x1 := hsc.at
  have hbl : b < w.heap.size := ltB hsc
  have hx := byte_at s p
  have hp' : (p : Int) < (s.size : Int) := by omega
  have hs' : (s.size : Int) ≤ 35184372088830 := by omega
  replace hsc := Lib.hid hsc
  have O := fun w => one_calls (bAt s p) w
  have W := fun w => word_calls (bAt s p) w
  rw [show signK (bAt s p) = 0 by rw [hc]; rfl] at O
  rw [show wordS (bAt s p) = ⟨#[102, 97, 108, 115, 101]⟩ by rw [hc]; rfl, show wordK (bAt s p) = 3 by rw [hc]; rfl] at W
  have H := fun w => Tryd.strings_HasPrefix (s.extract p s.size) ⟨#[102, 97, 108, 115, 101]⟩ w
  simp only [hpf] at H
  generalize bAt s p = c at *
  replace hc := Lib.hid hc
  replace hpf := Lib.hid hpf
  replace O := Lib.hid O
  replace W := Lib.hid W
  replace H := Lib.hid H
  go_enter Tryd.func56, Tryd.ntmps56
  (go_wp2_with fail; repeat (any_goals (go_quiet (fail); go_wp2_with fail)))
  refine (O.out _).mono ?_
  rintro e w1 ⟨rfl, hw⟩
  have hb1 : Below w.heap.size w w1 := by rw [hw]; exact (by repeat (first | assumption | exact Below.refl _ _ | apply Below.drew | apply below_drewN | apply balloc | (refine Below.setCell ?_ (by first | omega | (simp <;> omega)) _)))
  have y0 : w1.cell? ⟨b, 0, none⟩ = some (.string s) := (hsc.out.next hb1).s
  have y1 := (hsc.out.next hb1).at
  have hv : w1.heap[w.heap.size]? = some (.cells #[.int .i64 0, .int .i64 0, .int .i64 0, .string ⟨#[]⟩] 28 (0, 0)) := by rw [hw]; exact heap_alloc_new w _
  have v0 := cellB hv 0 rfl
  have v1 := cellB hv 1 rfl
  have v2 := cellB hv 2 rfl
  have v3 := cellB hv 3 rfl
  have f0 := freeB hv 0
  have f1 := freeB hv 1
  have f2 := freeB hv 2
  have f3 := freeB hv 3
  have hvl := ltB hv
  replace hv := Lib.hid hv
  clear hw x0 x1
  (go_wp2_with fail; repeat (any_goals (go_quiet (fail); go_wp2_with fail)))
  refine (W.out _).mono ?_
  rintro e w2 ⟨rfl, rfl⟩
  (go_wp2_with fail; repeat (any_goals (go_quiet (fail); go_wp2_with fail)))
  refine (H.out _).mono ?_
  rintro e w3 ⟨rfl, rfl⟩
  have e2 := (hE.next hb1).e2
  (go_wp2_with fail; repeat (any_goals (go_quiet (fail); go_wp2_with fail)))
  refine (fault_calls _ _ _ _).mono ?_
  rintro e w4 ⟨g, hg, rfl, hat, hb⟩
  have hg2 : w.heap.size + 1 ≤ g := Nat.le_trans hvl hg
  have hv2 := box_next hv.out hb
  have u0 := cellB hv2 0 rfl
  have u1 := cellB hv2 1 rfl
  have u2 := cellB hv2 2 rfl
  have u3 := cellB hv2 3 rfl
  have g0 := freeB hv2 0
  have g1 := freeB hv2 1
  have g2 := freeB hv2 2
  have g3 := freeB hv2 3
  have hvl2 := ltB hv2
  replace hv2 := Lib.hid hv2
  clear v0 v1 v2 v3 f0 f1 f2 f3 hvl
  replace hat := Lib.hid hat
  have hb4 : Below w.heap.size w w4 := bcall (by repeat (first | assumption | exact Below.refl _ _ | apply Below.drew | apply below_drewN | apply balloc | (refine Below.setCell ?_ (by first | omega | (simp <;> omega)) _))) hb
  clear hb
  (go_wp2_with fail; repeat (any_goals (go_quiet (fail); go_wp2_with fail)))
  refine bodyPost_ret (v := .tuple #[.agg #[.int .i64 0, .int .i64 0, .int .i64 0, .string ⟨#[]⟩], .iface 34 (.pointer (some ⟨g, 0, none⟩))]) ?_ rfl ⟨⟨g, by omega, rfl, ?_⟩, (by repeat (first | assumption | exact Below.refl _ _ | apply Below.drew | apply below_drewN | apply balloc | (refine Below.setCell ?_ (by first | omega | (simp <;> omega)) _)))⟩
  · simp [results, Tryd.results56, go_sem, *]
  · unfold AtB
    have := hat.out
    unfold AtB at this
    rw [Below.heap_setCell _ _ _ _ (by simp; omega), Below.heap_setCell _ _ _ _ (by simp; omega), Below.heap_setCell _ _ _ _ (by simp; omega), Below.heap_setCell _ _ _ _ (by simp; omega)]
    exact this
set_option maxHeartbeats 2000000 in
set_option maxRecDepth 100000 in
theorem next_else {A : Nat → Addr} {B : Nat} (s : ByteArray) (p b : Nat) (w : World) (hE : Env A B SJ w) (hs : s.size ≤ 35184372088830) (hsc : ScB s (p : Int) b w) (hp : p < s.size) (hk : signK (bAt s p) = 0) (hw : bAt s p ≠ 110 ∧ bAt s p ≠ 116 ∧ bAt s p ≠ 102) (hn : bAt s p ≠ 45) (hd : isD (bAt s p) = false) (hq : bAt s p ≠ 34) :
    Calls Tryd.prog 56 #[.pointer (some ⟨b, 0, none⟩)] w fun e w' => NextBad A 2 p w e w' ∧ Below w.heap.size w w' := by
  have x0 := hsc.s
  have x1 := hsc.at
  have hbl : b < w.heap.size := ltB hsc
  have hx := byte_at s p
  have hp' : (p : Int) < (s.size : Int) := by omega
  have hs' : (s.size : Int) ≤ 35184372088830 := by omega
  replace hsc := Lib.hid hsc
  have O := fun w => one_calls (bAt s p) w
  have W := fun w => word_calls (bAt s p) w
  rw [hk] at O
  rw [show wordS (bAt s p) = ⟨#[]⟩ by unfold wordS; rw [if_neg (by omega), if_neg (by omega), if_neg (by omega)], show wordK (bAt s p) = 0 by unfold wordK; rw [if_neg (by omega), if_neg (by omega), if_neg (by omega)]] at W
  have D := fun w => digit_calls (bAt s p) w
  rw [hd] at D
  generalize bAt s p = c at *
  have c45 : ((c : Int) == 45) = false := by simp; omega
  have c34 : ((c : Int) == 34) = false := by simp; omega
  replace hk := Lib.hid hk
  replace hw := Lib.hid hw
  replace hn := Lib.hid hn
  replace hd := Lib.hid hd
  replace hq := Lib.hid hq
  replace O := Lib.hid O
  replace W := Lib.hid W
  replace D := Lib.hid D
  go_enter Tryd.func56, Tryd.ntmps56
  (go_wp2_with fail; repeat (any_goals (go_quiet (fail); go_wp2_with fail)))
  refine (O.out _).mono ?_
  rintro e w1 ⟨rfl, hw⟩
  have hb1 : Below w.heap.size w w1 := by rw [hw]; exact (by repeat (first | assumption | exact Below.refl _ _ | apply Below.drew | apply below_drewN | apply balloc | (refine Below.setCell ?_ (by first | omega | (simp <;> omega)) _)))
  have y0 : w1.cell? ⟨b, 0, none⟩ = some (.string s) := (hsc.out.next hb1).s
  have y1 := (hsc.out.next hb1).at
  have hv : w1.heap[w.heap.size]? = some (.cells #[.int .i64 0, .int .i64 0, .int .i64 0, .string ⟨#[]⟩] 28 (0, 0)) := by rw [hw]; exact heap_alloc_new w _
  have v0 := cellB hv 0 rfl
  have v1 := cellB hv 1 rfl
  have v2 := cellB hv 2 rfl
  have v3 := cellB hv 3 rfl
  have f0 := freeB hv 0
  have f1 := freeB hv 1
  have f2 := freeB hv 2
  have f3 := freeB hv 3
  have hvl := ltB hv
  replace hv := Lib.hid hv
  clear hw x0 x1
  (go_wp2_with fail; repeat (any_goals (go_quiet (fail); go_wp2_with fail)))
  refine (W.out _).mono ?_
  rintro e w2 ⟨rfl, rfl⟩
  (go_wp2_with fail; repeat (any_goals (go_quiet (fail); go_wp2_with fail)))
  refine (D.out _).mono ?_
  rintro e w3 ⟨rfl, rfl⟩
  have e2 := (hE.next hb1).e2
  (go_wp2_with fail; repeat (any_goals (go_quiet (fail); go_wp2_with fail)))
  refine (fault_calls _ _ _ _).mono ?_
  rintro e w4 ⟨g, hg, rfl, hat, hb⟩
  have hg2 : w.heap.size + 1 ≤ g := Nat.le_trans hvl hg
  have hv2 := box_next hv.out hb
  have u0 := cellB hv2 0 rfl
  have u1 := cellB hv2 1 rfl
  have u2 := cellB hv2 2 rfl
  have u3 := cellB hv2 3 rfl
  have g0 := freeB hv2 0
  have g1 := freeB hv2 1
  have g2 := freeB hv2 2
  have g3 := freeB hv2 3
  have hvl2 := ltB hv2
  replace hv2 := Lib.hid hv2
  clear v0 v1 v2 v3 f0 f1 f2 f3 hvl
  replace hat := Lib.hid hat
  have hb4 : Below w.heap.size w w4 := bcall (by repeat (first | assumption | exact Below.refl _ _ | apply Below.drew | apply below_drewN | apply balloc | (refine Below.setCell ?_ (by first | omega | (simp <;> omega)) _))) hb
  clear hb
  (go_wp2_with fail; repeat (any_goals (go_quiet (fail); go_wp2_with fail)))
  refine bodyPost_ret (v := .tuple #[.agg #[.int .i64 0, .int .i64 0, .int .i64 0, .string ⟨#[]⟩], .iface 34 (.pointer (some ⟨g, 0, none⟩))]) ?_ rfl ⟨⟨g, by omega, rfl, ?_⟩, (by repeat (first | assumption | exact Below.refl _ _ | apply Below.drew | apply below_drewN | apply balloc | (refine Below.setCell ?_ (by first | omega | (simp <;> omega)) _)))⟩
  · simp [results, Tryd.results56, go_sem, *]
  · unfold AtB
    have := hat.out
    unfold AtB at this
    rw [Below.heap_setCell _ _ _ _ (by simp; omega), Below.heap_setCell _ _ _ _ (by simp; omega), Below.heap_setCell _ _ _ _ (by simp; omega), Below.heap_setCell _ _ _ _ (by simp; omega)]
    exact this
end Go.Proofs.YtnldhgkmbighkaaDoor
