/- ValuesPlays: the walk. -/
import Derived.Test.YtfdhklpabhhjjaaGreatDoorPlays
import Derived.Test.YtfdhklpabhhjjaaGreatDoorValLaw1
namespace Go.Proofs.YtfdhklpabhhjjaaGreatDoor
open Go Go.RowKit

set_option maxHeartbeats 1000000 in
theorem rText_null (w : World) (C : Hid (∀ w, Calls Tryz.prog 19 #[.agg #[.int .i64 0, .int .i64 0, .string ⟨#[]⟩]] w fun e w' => e = .returned (.int .i64 0) ∧ Below w.heap.size w w')) :
    Calls Tryz.prog 25 #[.agg #[.int .i64 0, .int .i64 0, .string ⟨#[]⟩]] w fun e w' => e = .returned (.tuple #[.string ⟨#[110, 117, 108, 108]⟩, .int .i64 0]) ∧ Below w.heap.size w w' := by
  go_enter Tryz.func25, Tryz.ntmps25
  (go_wp2_with fail; repeat (any_goals (go_quiet (fail); go_wp2_with fail)))
  refine (C.out _).mono ?_
  rintro e w1 ⟨rfl, hb⟩
  have hb1 : Below w.heap.size w w1 := bcall (by repeat (first | assumption | exact Below.refl _ _ | apply Below.drew | apply below_drewN | apply balloc | (refine Below.setCell ?_ (by first | omega | (simp <;> omega)) _))) hb
  have hx1 := boxed hb
  have x0 := cellB hx1 0 rfl
  have x1 := cellB hx1 1 rfl
  have x2 := cellB hx1 2 rfl
  clear hb hx1
  (go_wp2_with fail; repeat (any_goals (go_quiet (fail); go_wp2_with fail)))
  go_ret2
  exact ⟨rfl, (by repeat (first | assumption | exact Below.refl _ _ | apply Below.drew | apply below_drewN | apply balloc | (refine Below.setCell ?_ (by first | omega | (simp <;> omega)) _)))⟩
set_option maxHeartbeats 1000000 in
theorem rText_false (w : World) (C : Hid (∀ w, Calls Tryz.prog 19 #[.agg #[.int .i64 1, .int .i64 0, .string ⟨#[]⟩]] w fun e w' => e = .returned (.int .i64 0) ∧ Below w.heap.size w w')) :
    Calls Tryz.prog 25 #[.agg #[.int .i64 1, .int .i64 0, .string ⟨#[]⟩]] w fun e w' => e = .returned (.tuple #[.string ⟨#[102, 97, 108, 115, 101]⟩, .int .i64 0]) ∧ Below w.heap.size w w' := by
  go_enter Tryz.func25, Tryz.ntmps25
  (go_wp2_with fail; repeat (any_goals (go_quiet (fail); go_wp2_with fail)))
  refine (C.out _).mono ?_
  rintro e w1 ⟨rfl, hb⟩
  have hb1 : Below w.heap.size w w1 := bcall (by repeat (first | assumption | exact Below.refl _ _ | apply Below.drew | apply below_drewN | apply balloc | (refine Below.setCell ?_ (by first | omega | (simp <;> omega)) _))) hb
  have hx1 := boxed hb
  have x0 := cellB hx1 0 rfl
  have x1 := cellB hx1 1 rfl
  have x2 := cellB hx1 2 rfl
  clear hb hx1
  (go_wp2_with fail; repeat (any_goals (go_quiet (fail); go_wp2_with fail)))
  go_ret2
  exact ⟨rfl, (by repeat (first | assumption | exact Below.refl _ _ | apply Below.drew | apply below_drewN | apply balloc | (refine Below.setCell ?_ (by first | omega | (simp <;> omega)) _)))⟩
set_option maxHeartbeats 1000000 in
theorem rText_true (w : World) (C : Hid (∀ w, Calls Tryz.prog 19 #[.agg #[.int .i64 1, .int .i64 1, .string ⟨#[]⟩]] w fun e w' => e = .returned (.int .i64 0) ∧ Below w.heap.size w w')) :
    Calls Tryz.prog 25 #[.agg #[.int .i64 1, .int .i64 1, .string ⟨#[]⟩]] w fun e w' => e = .returned (.tuple #[.string ⟨#[116, 114, 117, 101]⟩, .int .i64 0]) ∧ Below w.heap.size w w' := by
  go_enter Tryz.func25, Tryz.ntmps25
  (go_wp2_with fail; repeat (any_goals (go_quiet (fail); go_wp2_with fail)))
  refine (C.out _).mono ?_
  rintro e w1 ⟨rfl, hb⟩
  have hb1 : Below w.heap.size w w1 := bcall (by repeat (first | assumption | exact Below.refl _ _ | apply Below.drew | apply below_drewN | apply balloc | (refine Below.setCell ?_ (by first | omega | (simp <;> omega)) _))) hb
  have hx1 := boxed hb
  have x0 := cellB hx1 0 rfl
  have x1 := cellB hx1 1 rfl
  have x2 := cellB hx1 2 rfl
  clear hb hx1
  (go_wp2_with fail; repeat (any_goals (go_quiet (fail); go_wp2_with fail)))
  go_ret2
  exact ⟨rfl, (by repeat (first | assumption | exact Below.refl _ _ | apply Below.drew | apply below_drewN | apply balloc | (refine Below.setCell ?_ (by first | omega | (simp <;> omega)) _)))⟩
set_option maxHeartbeats 1000000 in
theorem rText_number (n : Int) (r : ByteArray) (w : World) (C : Hid (∀ w, Calls Tryz.prog 19 #[.agg #[.int .i64 2, .int .i64 n, .string ⟨#[]⟩]] w fun e w' => e = .returned (.int .i64 0) ∧ Below w.heap.size w w')) (D : Hid (∀ w, Calls Tryz.prog 50 #[.int .i64 n] w fun e w' => e = .returned (.string r) ∧ Below w.heap.size w w')) :
    Calls Tryz.prog 25 #[.agg #[.int .i64 2, .int .i64 n, .string ⟨#[]⟩]] w fun e w' => e = .returned (.tuple #[.string r, .int .i64 0]) ∧ Below w.heap.size w w' := by
  go_enter Tryz.func25, Tryz.ntmps25
  (go_wp2_with fail; repeat (any_goals (go_quiet (fail); go_wp2_with fail)))
  refine (C.out _).mono ?_
  rintro e w1 ⟨rfl, hb⟩
  have hb1 : Below w.heap.size w w1 := bcall (by repeat (first | assumption | exact Below.refl _ _ | apply Below.drew | apply below_drewN | apply balloc | (refine Below.setCell ?_ (by first | omega | (simp <;> omega)) _))) hb
  have hx1 := boxed hb
  have x0 := cellB hx1 0 rfl
  have x1 := cellB hx1 1 rfl
  have x2 := cellB hx1 2 rfl
  clear hb hx1
  (go_wp2_with fail; repeat (any_goals (go_quiet (fail); go_wp2_with fail)))
  refine (D.out _).mono ?_
  rintro e w2 ⟨rfl, hb⟩
  have hb2 : Below w.heap.size w w2 := bcall (by repeat (first | assumption | exact Below.refl _ _ | apply Below.drew | apply below_drewN | apply balloc | (refine Below.setCell ?_ (by first | omega | (simp <;> omega)) _))) hb
  clear hb
  (go_wp2_with fail; repeat (any_goals (go_quiet (fail); go_wp2_with fail)))
  go_ret2
  exact ⟨rfl, (by repeat (first | assumption | exact Below.refl _ _ | apply Below.drew | apply below_drewN | apply balloc | (refine Below.setCell ?_ (by first | omega | (simp <;> omega)) _)))⟩
set_option maxHeartbeats 1000000 in
theorem rText_text (t : ByteArray) (w : World) (C : Hid (∀ w, Calls Tryz.prog 19 #[.agg #[.int .i64 3, .int .i64 0, .string t]] w fun e w' => e = .returned (.int .i64 0) ∧ Below w.heap.size w w')) (hs : t.size ≤ 35184372088830) :
    Calls Tryz.prog 25 #[.agg #[.int .i64 3, .int .i64 0, .string t]] w fun e w' => e = .returned (.tuple #[.string (⟨#[39]⟩ ++ t), .int .i64 0]) ∧ Below w.heap.size w w' := by
  go_enter Tryz.func25, Tryz.ntmps25
  (go_wp2_with fail; repeat (any_goals (go_quiet (fail); go_wp2_with fail)))
  refine (C.out _).mono ?_
  rintro e w1 ⟨rfl, hb⟩
  have hb1 : Below w.heap.size w w1 := bcall (by repeat (first | assumption | exact Below.refl _ _ | apply Below.drew | apply below_drewN | apply balloc | (refine Below.setCell ?_ (by first | omega | (simp <;> omega)) _))) hb
  have hx1 := boxed hb
  have x0 := cellB hx1 0 rfl
  have x1 := cellB hx1 1 rfl
  have x2 := cellB hx1 2 rfl
  clear hb hx1
  (go_wp2_with fail; repeat (any_goals (go_quiet (fail); go_wp2_with fail)))
  go_ret2
  exact ⟨rfl, (by repeat (first | assumption | exact Below.refl _ _ | apply Below.drew | apply below_drewN | apply balloc | (refine Below.setCell ?_ (by first | omega | (simp <;> omega)) _)))⟩
theorem rTextOf_ok (k n : Int) (t : ByteArray) (w : World) (hs : t.size ≤ 35184372088830) (h0 : -9223372036854775808 ≤ n) (h1 : n ≤ 9223372036854775807) (hv : vCheck ⟨k, n, t⟩ = 0) :
    Calls Tryz.prog 25 #[.agg #[.int .i64 k, .int .i64 n, .string t]] w fun e w' => e = .returned (.tuple #[.string (vText ⟨k, n, t⟩), .int .i64 0]) ∧ Below w.heap.size w w' := by
  have C := fun w => rCheck_calls k n t w hs
  rw [hv] at C
  rcases good_cases hv with ⟨rfl, rfl, rfl⟩ | ⟨rfl, rfl, rfl⟩ | ⟨rfl, rfl, rfl⟩ | ⟨rfl, rfl⟩ | ⟨rfl, rfl, h2⟩
  · exact rText_null w (Lib.hid C)
  · exact rText_false w (Lib.hid C)
  · exact rText_true w (Lib.hid C)
  · exact rText_number n _ w (Lib.hid C) (Lib.hid fun w => Decimal_calls n w h0 h1)
  · exact rText_text t w (Lib.hid C) hs
set_option maxHeartbeats 1000000 in
theorem rTextOf_bad (k n : Int) (t : ByteArray) (w : World) (hs : t.size ≤ 35184372088830) (hv : vCheck ⟨k, n, t⟩ ≠ 0) :
    Calls Tryz.prog 25 #[.agg #[.int .i64 k, .int .i64 n, .string t]] w fun e w' => e = .returned (.tuple #[.string ⟨#[]⟩, .int .i64 (vCheck ⟨k, n, t⟩ : Nat)]) ∧ Below w.heap.size w w' := by
  have C := fun w => rCheck_calls k n t w hs
  generalize vCheck ⟨k, n, t⟩ = c at *
  have hc : ((c : Int) != 0) = true := by simp; omega
  replace hv := Lib.hid hv
  replace C := Lib.hid C
  go_enter Tryz.func25, Tryz.ntmps25
  (go_wp2_with fail; repeat (any_goals (go_quiet (fail); go_wp2_with fail)))
  refine (C.out _).mono ?_
  rintro e w1 ⟨rfl, hb⟩
  have hb1 : Below w.heap.size w w1 := bcall (by repeat (first | assumption | exact Below.refl _ _ | apply Below.drew | apply below_drewN | apply balloc | (refine Below.setCell ?_ (by first | omega | (simp <;> omega)) _))) hb
  clear hb
  (go_wp2_with fail; repeat (any_goals (go_quiet (fail); go_wp2_with fail)))
  go_ret2
  exact ⟨rfl, (by repeat (first | assumption | exact Below.refl _ _ | apply Below.drew | apply below_drewN | apply balloc | (refine Below.setCell ?_ (by first | omega | (simp <;> omega)) _)))⟩

theorem Two.cells2 {w0 : World} {a b c a' b' c' : Value} {t : TypeId} {w : World} (h : Two w0 #[a, b, c] #[a', b', c'] t w) :
    w.cell? ⟨w0.heap.size, 0, none⟩ = some a ∧ w.cell? ⟨w0.heap.size, 1, none⟩ = some b ∧ w.cell? ⟨w0.heap.size, 2, none⟩ = some c ∧
    w.cell? ⟨w0.heap.size + 1, 0, none⟩ = some a' ∧ w.cell? ⟨w0.heap.size + 1, 1, none⟩ = some b' ∧ w.cell? ⟨w0.heap.size + 1, 2, none⟩ = some c' ∧ Two w0 #[a, b, c] #[a', b', c'] t w :=
  ⟨cellB h.fst 0 rfl, cellB h.fst 1 rfl, cellB h.fst 2 rfl, cellB h.snd 0 rfl, cellB h.snd 1 rfl, cellB h.snd 2 rfl, h⟩
set_option maxHeartbeats 2000000 in
set_option maxRecDepth 100000 in
theorem VP_ok {A : Nat → Addr} {B : Nat} (k n k' n' : Int) (t t' : ByteArray) (w : World) (hs : t.size ≤ 35184372088830) (h0 : -9223372036854775808 ≤ n) (h1 : n ≤ 9223372036854775807) (hE : EnvNN A B w) (hv : vCheck ⟨k, n, t⟩ = 0) :
    Calls Tryz.prog 5 #[.agg #[.int .i64 k, .int .i64 n, .string t], .agg #[.int .i64 k', .int .i64 n', .string t']] w fun e w' => e = .returned (.bool true) ∧ Below w.heap.size w w' := by
  have hs2 : t.size ≤ 140737488351232 := Nat.le_trans hs (by decide)
  have F := Lib.hid (fun w hE => fixed_calls (A := A) (B := B) w hE)
  have C1 := fun w => rCheck_calls k n t w hs
  have C2 := fun w hE => Of_ok (A := A) (B := B) k n t w hs2 hE hv
  have C3 := fun w hE => Check_calls (A := A) (B := B) k n t w hs2 hE
  have N1 : ∀ w, Env A B SVN w → Calls Tryz.prog 21 #[.nilIface] w fun e w' => e = .returned (.int .i64 0) ∧ Below w.heap.size w w' := fun w _ => Num_nil w
  obtain ⟨T, v, fk, fp, hV, hM⟩ := val_at hv
  have T1 : ∀ w, Env A B SVN w → _ := fun w _ => told_ok hM w
  have X1 := fun w hE => Text_ok (A := A) (B := B) k n t w hs2 h0 h1 hE hv
  have X2 := fun w => rTextOf_ok k n t w hs h0 h1 hv
  rw [hv] at C1 C3
  rw [hV] at C2
  rw [errV_zero] at C3
  simp only at T1
  have S1 := fun w => Same_calls k n k' n' t t' w
  have S2 := fun w => Same_calls k n k n t t w
  rw [eqPl_iff.2 rfl] at S2
  have ePQ := fun w => eqP_run k n k' n' t t' w
  have P1 := fun w => Compare_calls k n k' n' t t' w
  have P2 := fun w => rCompare_calls k n k' n' t t' w
  generalize eqPl ⟨k, n, t⟩ ⟨k', n', t'⟩ = bq at *
  generalize cmpPl ⟨k, n, t⟩ ⟨k', n', t'⟩ = c at *
  generalize vText ⟨k, n, t⟩ = r at *
  clear hV hM hv h0 h1 hs hs2
  replace C1 := Lib.hid C1
  replace C2 := Lib.hid C2
  replace C3 := Lib.hid C3
  replace N1 := Lib.hid N1
  replace T1 := Lib.hid T1
  replace X1 := Lib.hid X1
  replace X2 := Lib.hid X2
  replace S1 := Lib.hid S1
  replace S2 := Lib.hid S2
  replace P1 := Lib.hid P1
  replace P2 := Lib.hid P2
  go_enter Tryz.func5, Tryz.ntmps5
  (go_wp2_with fail; repeat (any_goals (go_quiet (fail); go_wp2_with fail)))
  refine (F.out _ (hE.n.next (by repeat (first | assumption | exact Below.refl _ _ | apply Below.drew | apply below_drewN | apply balloc | (refine Below.setCell ?_ (by first | omega | (simp <;> omega)) _))))).mono ?_
  rintro e w1 ⟨rfl, hb⟩
  have K1 := Two.mk0 hb
  have hb1 := K1.bel
  obtain ⟨x0, x1, x2, y0, y1, y2⟩ := K1.cells
  clear hb
  (go_wp2_with fail; repeat (any_goals (go_quiet (fail); go_wp2_with fail)))
  refine (C1.out _).mono ?_
  rintro e w2 ⟨rfl, hb⟩
  have K2 := K1.call hb
  have hb2 := K2.bel
  clear hb x0 x1 x2 y0 y1 y2 K1 hb1
  obtain ⟨x0, x1, x2, y0, y1, y2⟩ := K2.cells
  (go_wp2_with fail; repeat (any_goals (go_quiet (fail); go_wp2_with fail)))
  refine (C2.out _ (hE.n.env.next (by repeat (first | assumption | exact Below.refl _ _ | apply Below.drew | apply below_drewN | apply balloc | (refine Below.setCell ?_ (by first | omega | (simp <;> omega)) _))))).mono ?_
  rintro e w3 ⟨rfl, hb⟩
  have K3 := K2.call hb
  have hb3 := K3.bel
  clear hb x0 x1 x2 y0 y1 y2 K2 hb2
  obtain ⟨x0, x1, x2, y0, y1, y2⟩ := K3.cells
  (go_wp2_with fail; repeat (any_goals (go_quiet (fail); go_wp2_with fail)))
  refine (C3.out _ (hE.n.env.next (by repeat (first | assumption | exact Below.refl _ _ | apply Below.drew | apply below_drewN | apply balloc | (refine Below.setCell ?_ (by first | omega | (simp <;> omega)) _))))).mono ?_
  rintro e w4 ⟨rfl, hb⟩
  have K4 := K3.call hb
  have hb4 := K4.bel
  clear hb x0 x1 x2 y0 y1 y2 K3 hb3
  obtain ⟨x0, x1, x2, y0, y1, y2⟩ := K4.cells
  (go_wp2_with fail; repeat (any_goals (go_quiet (fail); go_wp2_with fail)))
  refine (N1.out _ (hE.all.next (by repeat (first | assumption | exact Below.refl _ _ | apply Below.drew | apply below_drewN | apply balloc | (refine Below.setCell ?_ (by first | omega | (simp <;> omega)) _))))).mono ?_
  rintro e w5 ⟨rfl, hb⟩
  have K5 := K4.call hb
  have hb5 := K5.bel
  clear hb x0 x1 x2 y0 y1 y2 K4 hb4
  obtain ⟨x0, x1, x2, y0, y1, y2⟩ := K5.cells
  (go_wp2_with fail; repeat (any_goals (go_quiet (fail); go_wp2_with fail)))
  refine (T1.out _ (hE.all.next (by repeat (first | assumption | exact Below.refl _ _ | apply Below.drew | apply below_drewN | apply balloc | (refine Below.setCell ?_ (by first | omega | (simp <;> omega)) _))))).mono ?_
  rintro e w6 ⟨rfl, hb⟩
  have K6 := K5.call hb
  have hb6 := K6.bel
  clear hb x0 x1 x2 y0 y1 y2 K5 hb5
  obtain ⟨x0, x1, x2, y0, y1, y2⟩ := K6.cells
  (go_wp2_with fail; repeat (any_goals (go_quiet (fail); go_wp2_with fail)))
  refine (X1.out _ (hE.n.next (by repeat (first | assumption | exact Below.refl _ _ | apply Below.drew | apply below_drewN | apply balloc | (refine Below.setCell ?_ (by first | omega | (simp <;> omega)) _))))).mono ?_
  rintro e w7 ⟨rfl, hb⟩
  have K7 := K6.call hb
  have hb7 := K7.bel
  clear hb x0 x1 x2 y0 y1 y2 K6 hb6
  obtain ⟨x0, x1, x2, y0, y1, y2⟩ := K7.cells
  (go_wp2_with fail; repeat (any_goals (go_quiet (fail); go_wp2_with fail)))
  refine (X2.out _).mono ?_
  rintro e w8 ⟨rfl, hb⟩
  have K8 := K7.call hb
  have hb8 := K8.bel
  clear hb x0 x1 x2 y0 y1 y2 K7 hb7
  obtain ⟨x0, x1, x2, y0, y1, y2⟩ := K8.cells
  (go_wp2_with fail; repeat (any_goals (go_quiet (fail); go_wp2_with fail)))
  go_region_held3 (fun w' => w'.cell? ⟨w.heap.size, 0, none⟩ = some (.int .i64 k) ∧ w'.cell? ⟨w.heap.size, 1, none⟩ = some (.int .i64 n) ∧ w'.cell? ⟨w.heap.size, 2, none⟩ = some (.string t) ∧ w'.cell? ⟨w.heap.size + 1, 0, none⟩ = some (.int .i64 k') ∧ w'.cell? ⟨w.heap.size + 1, 1, none⟩ = some (.int .i64 n') ∧ w'.cell? ⟨w.heap.size + 1, 2, none⟩ = some (.string t') ∧ Two w #[.int .i64 k, .int .i64 n, .string t] #[.int .i64 k', .int .i64 n', .string t'] 50 w') (first | exact Two.cells2 ‹_› | exact Two.cells2 K8.drew) (first | (with_reducible refine (N1.out _ (hE.all.next (by first | exact K8.drew.bel | exact Two.bel ‹_›))).mono ?_; rintro e w18 ⟨rfl, hb⟩; have hk5 : Two w #[.int .i64 k, .int .i64 n, .string t] #[.int .i64 k', .int .i64 n', .string t'] 50 w18 := (by first | exact K8.drew.call hb | exact Two.call ‹_› hb); clear hb) | (with_reducible refine (S1.out _).mono ?_; rintro e w18 ⟨rfl, hb⟩; have hk5 : Two w #[.int .i64 k, .int .i64 n, .string t] #[.int .i64 k', .int .i64 n', .string t'] 50 w18 := (by first | exact K8.drew.call hb | exact Two.call ‹_› hb); clear hb) | (with_reducible refine (S2.out _).mono ?_; rintro e w18 ⟨rfl, hb⟩; have hk5 : Two w #[.int .i64 k, .int .i64 n, .string t] #[.int .i64 k', .int .i64 n', .string t'] 50 w18 := (by first | exact K8.drew.call hb | exact Two.call ‹_› hb); clear hb) | (with_reducible refine (P1.out _).mono ?_; rintro e w18 ⟨rfl, hb⟩; have hk5 : Two w #[.int .i64 k, .int .i64 n, .string t] #[.int .i64 k', .int .i64 n', .string t'] 50 w18 := (by first | exact K8.drew.call hb | exact Two.call ‹_› hb); clear hb) | (with_reducible refine (P2.out _).mono ?_; rintro e w18 ⟨rfl, hb⟩; have hk5 : Two w #[.int .i64 k, .int .i64 n, .string t] #[.int .i64 k', .int .i64 n', .string t'] 50 w18 := (by first | exact K8.drew.call hb | exact Two.call ‹_› hb); clear hb))
  all_goals
    rename_i hh
    obtain ⟨_, _, _, _, _, _, K9⟩ := hh
    have hb9 := K9.bel
    clear x0 x1 x2 y0 y1 y2 K8 hb8
    go_wp2_with fail
    go_ret
    exact ⟨rfl, hb9⟩
set_option maxHeartbeats 2000000 in
set_option maxRecDepth 100000 in
theorem VP_bad {A : Nat → Addr} {B : Nat} (k n k' n' : Int) (t t' : ByteArray) (w : World) (hs : t.size ≤ 35184372088830) (hE : EnvNN A B w) (hv : vCheck ⟨k, n, t⟩ ≠ 0) (hl : vCheck ⟨k, n, t⟩ ≤ 19) :
    Calls Tryz.prog 5 #[.agg #[.int .i64 k, .int .i64 n, .string t], .agg #[.int .i64 k', .int .i64 n', .string t']] w fun e w' => e = .returned (.bool true) ∧ Below w.heap.size w w' := by
  have hs2 : t.size ≤ 140737488351232 := Nat.le_trans hs (by decide)
  have hp := Nat.pos_of_ne_zero hv
  have F := Lib.hid (fun w hE => fixed_calls (A := A) (B := B) w hE)
  have C1 := fun w => rCheck_calls k n t w hs
  have C2 := fun w hE => Of_bad (A := A) (B := B) k n t w hs2 hE hp
  have C3 := fun w hE => Check_calls (A := A) (B := B) k n t w hs2 hE
  have N1 := fun w hE => Num_err (A := A) (B := B) (vCheck ⟨k, n, t⟩) w hp hl hE
  have T1 := fun w hE => told_bad (A := A) (B := B) (vCheck ⟨k, n, t⟩) k n t w hp hl hE
  have X1 : ∀ w, EnvN A B w → _ := fun w (hE : EnvN A B w) => Text_bad (A := A) (B := B) k n t w hs2 hE.env hp
  have X2 := fun w => rTextOf_bad k n t w hs hv
  rw [errV_pos A hp] at C3
  have S1 := fun w => Same_calls k n k' n' t t' w
  have S2 := fun w => Same_calls k n k n t t w
  rw [eqPl_iff.2 rfl] at S2
  have ePQ := fun w => eqP_run k n k' n' t t' w
  have P1 := fun w => Compare_calls k n k' n' t t' w
  have P2 := fun w => rCompare_calls k n k' n' t t' w
  generalize eqPl ⟨k, n, t⟩ ⟨k', n', t'⟩ = bq at *
  generalize cmpPl ⟨k, n, t⟩ ⟨k', n', t'⟩ = c at *
  generalize A (vCheck ⟨k, n, t⟩) = a at *
  generalize vCheck ⟨k, n, t⟩ = e at *
  clear hv hp hl hs hs2
  replace C1 := Lib.hid C1
  replace C2 := Lib.hid C2
  replace C3 := Lib.hid C3
  replace N1 := Lib.hid N1
  replace T1 := Lib.hid T1
  replace X1 := Lib.hid X1
  replace X2 := Lib.hid X2
  replace S1 := Lib.hid S1
  replace S2 := Lib.hid S2
  replace P1 := Lib.hid P1
  replace P2 := Lib.hid P2
  go_enter Tryz.func5, Tryz.ntmps5
  (go_wp2_with fail; repeat (any_goals (go_quiet (fail); go_wp2_with fail)))
  refine (F.out _ (hE.n.next (by repeat (first | assumption | exact Below.refl _ _ | apply Below.drew | apply below_drewN | apply balloc | (refine Below.setCell ?_ (by first | omega | (simp <;> omega)) _))))).mono ?_
  rintro e w1 ⟨rfl, hb⟩
  have K1 := Two.mk0 hb
  have hb1 := K1.bel
  obtain ⟨x0, x1, x2, y0, y1, y2⟩ := K1.cells
  clear hb
  (go_wp2_with fail; repeat (any_goals (go_quiet (fail); go_wp2_with fail)))
  refine (C1.out _).mono ?_
  rintro e w2 ⟨rfl, hb⟩
  have K2 := K1.call hb
  have hb2 := K2.bel
  clear hb x0 x1 x2 y0 y1 y2 K1 hb1
  obtain ⟨x0, x1, x2, y0, y1, y2⟩ := K2.cells
  (go_wp2_with fail; repeat (any_goals (go_quiet (fail); go_wp2_with fail)))
  refine (C2.out _ (hE.n.env.next (by repeat (first | assumption | exact Below.refl _ _ | apply Below.drew | apply below_drewN | apply balloc | (refine Below.setCell ?_ (by first | omega | (simp <;> omega)) _))))).mono ?_
  rintro e w3 ⟨rfl, hb⟩
  have K3 := K2.call hb
  have hb3 := K3.bel
  clear hb x0 x1 x2 y0 y1 y2 K2 hb2
  obtain ⟨x0, x1, x2, y0, y1, y2⟩ := K3.cells
  (go_wp2_with fail; repeat (any_goals (go_quiet (fail); go_wp2_with fail)))
  refine (C3.out _ (hE.n.env.next (by repeat (first | assumption | exact Below.refl _ _ | apply Below.drew | apply below_drewN | apply balloc | (refine Below.setCell ?_ (by first | omega | (simp <;> omega)) _))))).mono ?_
  rintro e w4 ⟨rfl, hb⟩
  have K4 := K3.call hb
  have hb4 := K4.bel
  clear hb x0 x1 x2 y0 y1 y2 K3 hb3
  obtain ⟨x0, x1, x2, y0, y1, y2⟩ := K4.cells
  (go_wp2_with fail; repeat (any_goals (go_quiet (fail); go_wp2_with fail)))
  refine (N1.out _ (hE.all.next (by repeat (first | assumption | exact Below.refl _ _ | apply Below.drew | apply below_drewN | apply balloc | (refine Below.setCell ?_ (by first | omega | (simp <;> omega)) _))))).mono ?_
  rintro e w5 ⟨rfl, hb⟩
  have K5 := K4.call hb
  have hb5 := K5.bel
  clear hb x0 x1 x2 y0 y1 y2 K4 hb4
  obtain ⟨x0, x1, x2, y0, y1, y2⟩ := K5.cells
  (go_wp2_with fail; repeat (any_goals (go_quiet (fail); go_wp2_with fail)))
  refine (T1.out _ (hE.all.next (by repeat (first | assumption | exact Below.refl _ _ | apply Below.drew | apply below_drewN | apply balloc | (refine Below.setCell ?_ (by first | omega | (simp <;> omega)) _))))).mono ?_
  rintro e w6 ⟨rfl, hb⟩
  have K6 := K5.call hb
  have hb6 := K6.bel
  clear hb x0 x1 x2 y0 y1 y2 K5 hb5
  obtain ⟨x0, x1, x2, y0, y1, y2⟩ := K6.cells
  (go_wp2_with fail; repeat (any_goals (go_quiet (fail); go_wp2_with fail)))
  refine (X1.out _ (hE.n.next (by repeat (first | assumption | exact Below.refl _ _ | apply Below.drew | apply below_drewN | apply balloc | (refine Below.setCell ?_ (by first | omega | (simp <;> omega)) _))))).mono ?_
  rintro e w7 ⟨rfl, hb⟩
  have K7 := K6.call hb
  have hb7 := K7.bel
  clear hb x0 x1 x2 y0 y1 y2 K6 hb6
  obtain ⟨x0, x1, x2, y0, y1, y2⟩ := K7.cells
  (go_wp2_with fail; repeat (any_goals (go_quiet (fail); go_wp2_with fail)))
  refine (X2.out _).mono ?_
  rintro e w8 ⟨rfl, hb⟩
  have K8 := K7.call hb
  have hb8 := K8.bel
  clear hb x0 x1 x2 y0 y1 y2 K7 hb7
  obtain ⟨x0, x1, x2, y0, y1, y2⟩ := K8.cells
  (go_wp2_with fail; repeat (any_goals (go_quiet (fail); go_wp2_with fail)))
  go_region_held3 (fun w' => w'.cell? ⟨w.heap.size, 0, none⟩ = some (.int .i64 k) ∧ w'.cell? ⟨w.heap.size, 1, none⟩ = some (.int .i64 n) ∧ w'.cell? ⟨w.heap.size, 2, none⟩ = some (.string t) ∧ w'.cell? ⟨w.heap.size + 1, 0, none⟩ = some (.int .i64 k') ∧ w'.cell? ⟨w.heap.size + 1, 1, none⟩ = some (.int .i64 n') ∧ w'.cell? ⟨w.heap.size + 1, 2, none⟩ = some (.string t') ∧ Two w #[.int .i64 k, .int .i64 n, .string t] #[.int .i64 k', .int .i64 n', .string t'] 50 w') (first | exact Two.cells2 ‹_› | exact Two.cells2 K8.drew) (first | (with_reducible refine (N1.out _ (hE.all.next (by first | exact K8.drew.bel | exact Two.bel ‹_›))).mono ?_; rintro e w18 ⟨rfl, hb⟩; have hk5 : Two w #[.int .i64 k, .int .i64 n, .string t] #[.int .i64 k', .int .i64 n', .string t'] 50 w18 := (by first | exact K8.drew.call hb | exact Two.call ‹_› hb); clear hb) | (with_reducible refine (S1.out _).mono ?_; rintro e w18 ⟨rfl, hb⟩; have hk5 : Two w #[.int .i64 k, .int .i64 n, .string t] #[.int .i64 k', .int .i64 n', .string t'] 50 w18 := (by first | exact K8.drew.call hb | exact Two.call ‹_› hb); clear hb) | (with_reducible refine (S2.out _).mono ?_; rintro e w18 ⟨rfl, hb⟩; have hk5 : Two w #[.int .i64 k, .int .i64 n, .string t] #[.int .i64 k', .int .i64 n', .string t'] 50 w18 := (by first | exact K8.drew.call hb | exact Two.call ‹_› hb); clear hb) | (with_reducible refine (P1.out _).mono ?_; rintro e w18 ⟨rfl, hb⟩; have hk5 : Two w #[.int .i64 k, .int .i64 n, .string t] #[.int .i64 k', .int .i64 n', .string t'] 50 w18 := (by first | exact K8.drew.call hb | exact Two.call ‹_› hb); clear hb) | (with_reducible refine (P2.out _).mono ?_; rintro e w18 ⟨rfl, hb⟩; have hk5 : Two w #[.int .i64 k, .int .i64 n, .string t] #[.int .i64 k', .int .i64 n', .string t'] 50 w18 := (by first | exact K8.drew.call hb | exact Two.call ‹_› hb); clear hb))
  all_goals
    rename_i hh
    obtain ⟨_, _, _, _, _, _, K9⟩ := hh
    have hb9 := K9.bel
    clear x0 x1 x2 y0 y1 y2 K8 hb8
    go_wp2_with fail
    go_ret
    exact ⟨rfl, hb9⟩
theorem vCheck_le (k n : Int) (t : ByteArray) : vCheck ⟨k, n, t⟩ ≤ 19 := by
  have := txE_le t
  unfold vCheck
  repeat' split
  all_goals first | omega | simp
theorem ValuesPlays_calls {A : Nat → Addr} {B : Nat} (k n : Int) (t : ByteArray) (k' n' : Int) (t' : ByteArray) (w : World) (hs : t.size ≤ 35184372088830) (_hs' : t'.size ≤ 35184372088830) (h0 : -9223372036854775808 ≤ n) (h1 : n ≤ 9223372036854775807)
    (_h0' : -9223372036854775808 ≤ n') (_h1' : n' ≤ 9223372036854775807) (hE : EnvNN A B w) :
    Calls Tryz.prog 5 #[.agg #[.int .i64 k, .int .i64 n, .string t], .agg #[.int .i64 k', .int .i64 n', .string t']] w fun e w' => e = .returned (.bool true) ∧ Below w.heap.size w w' := by
  by_cases hv : vCheck ⟨k, n, t⟩ = 0
  · exact VP_ok k n k' n' t t' w hs h0 h1 hE hv
  · exact VP_bad k n k' n' t t' w hs hE hv (vCheck_le k n t)

end Go.Proofs.YtfdhklpabhhjjaaGreatDoor
