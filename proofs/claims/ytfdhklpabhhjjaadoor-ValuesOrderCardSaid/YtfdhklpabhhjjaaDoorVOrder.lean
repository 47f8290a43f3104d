/- Compare; ValuesOrder: the walk. -/
import Derived.Test.YtfdhklpabhhjjaaDoorOrdPlain
import Derived.Test.YtfdhklpabhhjjaaDoorVEqual
import Derived.Deep.DeepCutAuto
namespace Go.Proofs.YtfdhklpabhhjjaaDoor
open Go Go.RowKit

def or3 (x y z : Int) : Int := if x ≠ 0 then x else if y ≠ 0 then y else z
set_option maxHeartbeats 1000000 in
theorem Or_calls (x y z : Int) (g : Nat) (w : World) (hg : w.heap[g]? = some (.cells #[.int .i64 x, .int .i64 y, .int .i64 z] 3 (0, 0))) :
    Calls Tryd.prog 41 #[.slice (some ⟨g, 0, none⟩) 3 3] w fun e w' => e = .returned (.int .i64 (or3 x y z)) ∧ w' = w := by
  have x0 := cellB hg 0 rfl
  have x1 := cellB hg 1 rfl
  have x2 := cellB hg 2 rfl
  clear hg
  unfold or3
  by_cases h1 : x = 0
  · have b1 : (x != 0) = false := by simp [h1]
    rw [if_neg (by simpa using h1)]
    replace h1 := Lib.hid h1
    by_cases h2 : y = 0
    · have b2 : (y != 0) = false := by simp [h2]
      rw [if_neg (by simpa using h2)]
      replace h2 := Lib.hid h2
      go_enter Tryd.func41, Tryd.ntmps41
      (go_wp2_with fail; repeat (any_goals (go_quiet (fail); go_wp2_with fail)))
      refine wp_loop_rounds 4 ?_
      rw [rounds_succ]
      (go_wp2_with fail; repeat (any_goals (go_quiet (fail); go_wp2_with fail)))
      rw [rounds_succ]
      (go_wp2_with fail; repeat (any_goals (go_quiet (fail); go_wp2_with fail)))
      rw [rounds_succ]
      by_cases h3 : z = 0
      · have b3 : (z != 0) = false := by simp [h3]
        subst h3
        (go_wp2_with fail; repeat (any_goals (go_quiet (fail); go_wp2_with fail)))
        rw [rounds_succ]
        (go_wp2_with fail; repeat (any_goals (go_quiet (fail); go_wp2_with fail)))
        go_ret
        exact ⟨rfl, rfl⟩
      · have b3 : (z != 0) = true := by simp [h3]
        replace h3 := Lib.hid h3
        (go_wp2_with fail; repeat (any_goals (go_quiet (fail); go_wp2_with fail)))
        go_ret
        exact ⟨rfl, rfl⟩
    · have b2 : (y != 0) = true := by simp [h2]
      rw [if_pos h2]
      replace h2 := Lib.hid h2
      go_enter Tryd.func41, Tryd.ntmps41
      (go_wp2_with fail; repeat (any_goals (go_quiet (fail); go_wp2_with fail)))
      refine wp_loop_rounds 4 ?_
      rw [rounds_succ]
      (go_wp2_with fail; repeat (any_goals (go_quiet (fail); go_wp2_with fail)))
      rw [rounds_succ]
      (go_wp2_with fail; repeat (any_goals (go_quiet (fail); go_wp2_with fail)))
      go_ret
      exact ⟨rfl, rfl⟩
  · have b1 : (x != 0) = true := by simp [h1]
    rw [if_pos h1]
    replace h1 := Lib.hid h1
    go_enter Tryd.func41, Tryd.ntmps41
    (go_wp2_with fail; repeat (any_goals (go_quiet (fail); go_wp2_with fail)))
    refine wp_loop_rounds 4 ?_
    rw [rounds_succ]
    (go_wp2_with fail; repeat (any_goals (go_quiet (fail); go_wp2_with fail)))
    go_ret
    exact ⟨rfl, rfl⟩
set_option maxHeartbeats 1000000 in
set_option maxRecDepth 100000 in
theorem Compare_calls (k n k' n' : Int) (t t' : ByteArray) (w : World) :
    Calls Tryd.prog 22 #[.agg #[.int .i64 k, .int .i64 n, .string t], .agg #[.int .i64 k', .int .i64 n', .string t']] w fun e w' => e = .returned (.int .i64 (cmpPl ⟨k, n, t⟩ ⟨k', n', t'⟩)) ∧ Below w.heap.size w w' := by
  have C1 := Lib.hid (fun w => Tryd.cmp_Compare_int k k' w)
  have C2 := Lib.hid (fun w => Compare_int64 n n' w)
  have C3 := Lib.hid (fun w => Tryd.strings_Compare t t' w)
  have e : cmpPl ⟨k, n, t⟩ ⟨k', n', t'⟩ = or3 (Lib.compareInt k k') (Lib.compareInt n n') (Lib.compareBytes t.data.toList t'.data.toList) := rfl
  rw [e]
  generalize Lib.compareInt k k' = c1 at *
  generalize Lib.compareInt n n' = c2 at *
  generalize Lib.compareBytes t.data.toList t'.data.toList = c3 at *
  clear e
  obtain ⟨w0, hw0⟩ : ∃ w0, w0 = (w.alloc (.cells #[.int .i64 k, .int .i64 n, .string t] 46 (0, 0))).alloc (.cells #[.int .i64 k', .int .i64 n', .string t'] 46 (0, 0)) := ⟨_, rfl⟩
  have K0 : Two w #[.int .i64 k, .int .i64 n, .string t] #[.int .i64 k', .int .i64 n', .string t'] 46 w0 := by rw [hw0]; exact Two.mk0 (Below.refl _ _)
  obtain ⟨x0, x1, x2, y0, y1, y2⟩ := K0.cells
  have hb0 := K0.bel
  go_enter Tryd.func22, Tryd.ntmps22
  go_wp2_with fail
  rw [← hw0]
  clear hw0
  go_region_held3 (fun w' => w'.cell? ⟨w.heap.size, 0, none⟩ = some (.int .i64 k) ∧ w'.cell? ⟨w.heap.size, 1, none⟩ = some (.int .i64 n) ∧ w'.cell? ⟨w.heap.size, 2, none⟩ = some (.string t) ∧ w'.cell? ⟨w.heap.size + 1, 0, none⟩ = some (.int .i64 k') ∧ w'.cell? ⟨w.heap.size + 1, 1, none⟩ = some (.int .i64 n') ∧ w'.cell? ⟨w.heap.size + 1, 2, none⟩ = some (.string t')) (go_keep) (first | (go_at_call 42; refine (C1.out _).mono ?_; rintro e w8 ⟨rfl, rfl⟩) | (go_at_call 43; refine (C2.out _).mono ?_; rintro e w8 ⟨rfl, rfl⟩) | (go_at_call 44; refine (C3.out _).mono ?_; rintro e w8 ⟨rfl, rfl⟩) | (go_at_call 41; refine (Or_calls c1 c2 c3 w0.heap.size _ (by exact heap_alloc_new w0 _)).mono ?_; rintro e w8 ⟨rfl, rfl⟩))
  all_goals
    go_wp2_with fail
    go_ret
    exact ⟨rfl, (by repeat (first | assumption | exact Below.refl _ _ | apply Below.drew | apply below_drewN | apply balloc | (refine Below.setCell ?_ (by first | omega | (simp <;> omega)) _)))⟩

theorem nan_neg (x : Int) (h : x = -1 ∨ x = 0 ∨ x = 1) : IntKind.i64.wrap (-x) = -x := by
  rcases h with rfl | rfl | rfl <;> rfl
/-- What the statement asks of the four answers. -/
theorem ord_facts (a b c : Pl) : (cmpPl a b = -cmpPl b a) ∧ -1 ≤ cmpPl a b ∧ cmpPl a b ≤ 1 ∧ (cmpPl a b = 0 ↔ a = b) ∧ (cmpPl a b ≤ 0 → cmpPl b c ≤ 0 → cmpPl a c ≤ 0) ∧ (cmpPl a b < 0 → cmpPl b c ≤ 0 → cmpPl a c < 0) := by
  have := cmpPl_range a b
  have := cmpPl_neg a b
  exact ⟨by omega, by omega, by omega, cmpPl_zero, cmpPl_trans, cmpPl_trans2⟩
structure Three (w0 : World) (a b c : Array Value) (t : TypeId) (w : World) : Prop where
  fst : w.heap[w0.heap.size]? = some (.cells a t (0, 0))
  snd : w.heap[w0.heap.size + 1]? = some (.cells b t (0, 0))
  trd : w.heap[w0.heap.size + 1 + 1]? = some (.cells c t (0, 0))
  bel : Below w0.heap.size w0 w
theorem Three.call {w0 : World} {a b c : Array Value} {t : TypeId} {w w1 : World} (h : Three w0 a b c t w) (hb : Below w.heap.size w w1) : Three w0 a b c t w1 := ⟨box_next h.fst hb, box_next h.snd hb, box_next h.trd hb, bcall h.bel hb⟩
theorem Three.drew {w0 : World} {a b c : Array Value} {t : TypeId} {w : World} (h : Three w0 a b c t w) : Three w0 a b c t w.drew := ⟨h.fst, h.snd, h.trd, h.bel.drew⟩
theorem Three.cells {w0 : World} {k n k' n' k'' n'' : Int} {s s' s'' : ByteArray} {t : TypeId} {w : World} (h : Three w0 #[.int .i64 k, .int .i64 n, .string s] #[.int .i64 k', .int .i64 n', .string s'] #[.int .i64 k'', .int .i64 n'', .string s''] t w) :
    w.cell? ⟨w0.heap.size, 0, none⟩ = some (.int .i64 k) ∧ w.cell? ⟨w0.heap.size, 1, none⟩ = some (.int .i64 n) ∧ w.cell? ⟨w0.heap.size, 2, none⟩ = some (.string s) ∧
    w.cell? ⟨w0.heap.size + 1, 0, none⟩ = some (.int .i64 k') ∧ w.cell? ⟨w0.heap.size + 1, 1, none⟩ = some (.int .i64 n') ∧ w.cell? ⟨w0.heap.size + 1, 2, none⟩ = some (.string s') ∧
    w.cell? ⟨w0.heap.size + 1 + 1, 0, none⟩ = some (.int .i64 k'') ∧ w.cell? ⟨w0.heap.size + 1 + 1, 1, none⟩ = some (.int .i64 n'') ∧ w.cell? ⟨w0.heap.size + 1 + 1, 2, none⟩ = some (.string s'') ∧
    Three w0 #[.int .i64 k, .int .i64 n, .string s] #[.int .i64 k', .int .i64 n', .string s'] #[.int .i64 k'', .int .i64 n'', .string s''] t w :=
  ⟨cellB h.fst 0 rfl, cellB h.fst 1 rfl, cellB h.fst 2 rfl, cellB h.snd 0 rfl, cellB h.snd 1 rfl, cellB h.snd 2 rfl, cellB h.trd 0 rfl, cellB h.trd 1 rfl, cellB h.trd 2 rfl, h⟩
theorem Three.mk0 {w W1 : World} {a b c : Array Value} {t : TypeId} (hb : Below (((w.alloc (.cells a t (0, 0))).alloc (.cells b t (0, 0))).alloc (.cells c t (0, 0))).heap.size (((w.alloc (.cells a t (0, 0))).alloc (.cells b t (0, 0))).alloc (.cells c t (0, 0))) W1) : Three w a b c t W1 where
  fst := by
    rw [hb.block _ (by simp <;> omega), Below.heap_alloc _ _ _ (by simp <;> omega), Below.heap_alloc _ _ _ (by simp)]
    exact heap_alloc_new w _
  snd := by
    rw [hb.block _ (by simp <;> omega), Below.heap_alloc _ _ _ (by simp)]
    have h := heap_alloc_new (w.alloc (.cells a t (0, 0))) (.cells b t (0, 0))
    rw [show (w.alloc (.cells a t (0, 0))).heap.size = w.heap.size + 1 by simp] at h
    exact h
  trd := by
    have h := boxed hb
    rw [show ((w.alloc (.cells a t (0, 0))).alloc (.cells b t (0, 0))).heap.size = w.heap.size + 1 + 1 by simp] at h
    exact h
  bel := bcall (balloc (balloc (balloc (Below.refl _ _)))) hb
/-- Of good values of one kind: texts' order, or numbers'. -/
theorem ord_num (k n k' n' : Int) (t t' : ByteArray) (hv : vCheck ⟨k, n, t⟩ = 0) (hv' : vCheck ⟨k', n', t'⟩ = 0) (hk : k = k') :
    (k = 3 → Op.bytesLess t.toList t'.toList = decide (cmpPl ⟨k, n, t⟩ ⟨k', n', t'⟩ < 0)) ∧ (k ≠ 3 → decide (n < n') = decide (cmpPl ⟨k, n, t⟩ ⟨k', n', t'⟩ < 0)) := by
  subst hk
  have e0 : Lib.compareInt k k = 0 := ci_zero.2 rfl
  have hc : cmpPl ⟨k, n, t⟩ ⟨k, n', t'⟩ = if Lib.compareInt n n' ≠ 0 then Lib.compareInt n n' else Lib.compareBytes t.data.toList t'.data.toList := by
    unfold cmpPl; rw [if_neg (by simpa using e0)]
  rw [hc]
  rcases good_cases hv with ⟨rfl, rfl, rfl⟩ | ⟨rfl, rfl, rfl⟩ | ⟨rfl, rfl, rfl⟩ | ⟨rfl, rfl⟩ | ⟨rfl, rfl, h2⟩
  all_goals rcases good_cases hv' with ⟨h1, h2', h3⟩ | ⟨h1, h2', h3⟩ | ⟨h1, h2', h3⟩ | ⟨h1, h3⟩ | ⟨h1, h2', h3⟩
  all_goals first
    | (exfalso; omega)
    | skip
  all_goals first
    | (refine ⟨fun h => absurd h (by decide), fun _ => ?_⟩
       try subst h2'
       try subst h3
       have hz : Lib.compareBytes (⟨#[]⟩ : ByteArray).data.toList (⟨#[]⟩ : ByteArray).data.toList = 0 := rfl
       rw [hz, decide_eq_decide, ← ci_lt]
       split <;> omega)
    | (refine ⟨fun _ => ?_, fun h => absurd rfl h⟩
       subst h2'
       have hz : Lib.compareInt 0 0 = 0 := rfl
       rw [if_neg (by simp [hz]), bytesLess_iff, Lib.toList_data, Lib.toList_data])
set_option maxHeartbeats 4000000 in
set_option maxRecDepth 100000 in
theorem ORD {A : Nat → Addr} {B : Nat} (k n k' n' k'' n'' : Int) (t t' t'' : ByteArray) (w : World) (ht : t.size ≤ 140737488351232) (ht' : t'.size ≤ 140737488351232) (hE : EnvN A B w) :
    Calls Tryd.prog 8 #[.agg #[.int .i64 k, .int .i64 n, .string t], .agg #[.int .i64 k', .int .i64 n', .string t'], .agg #[.int .i64 k'', .int .i64 n'', .string t'']] w fun e w' => e = .returned (.bool true) ∧ Below w.heap.size w w' := by
  have F := Lib.hid (fun w hE => fixed_calls (A := A) (B := B) w hE)
  have C1 := fun w => Compare_calls k n k' n' t t' w
  have C2 := fun w => Compare_calls k' n' k n t' t w
  have C3 := fun w => Compare_calls k' n' k'' n'' t' t'' w
  have C4 := fun w => Compare_calls k n k'' n'' t t'' w
  obtain ⟨f1, f2, f3, f4, f5, f6⟩ := ord_facts ⟨k, n, t⟩ ⟨k', n', t'⟩ ⟨k'', n'', t''⟩
  have g1 := nan_neg _ (cmpPl_range ⟨k', n', t'⟩ ⟨k, n, t⟩)
  have hnum := Lib.hid (ord_num k n k' n' t t')
  generalize cmpPl ⟨k, n, t⟩ ⟨k', n', t'⟩ = ab at *
  generalize cmpPl ⟨k', n', t'⟩ ⟨k, n, t⟩ = ba at *
  generalize cmpPl ⟨k', n', t'⟩ ⟨k'', n'', t''⟩ = bc at *
  generalize cmpPl ⟨k, n, t⟩ ⟨k'', n'', t''⟩ = ac at *
  replace f1 := Lib.hid f1
  replace f4 := Lib.hid f4
  replace f5 := Lib.hid f5
  replace f6 := Lib.hid f6
  replace C1 := Lib.hid C1
  replace C2 := Lib.hid C2
  replace C3 := Lib.hid C3
  replace C4 := Lib.hid C4
  go_enter Tryd.func8, Tryd.ntmps8
  (go_wp2_with fail; repeat (any_goals (go_quiet (fail); go_wp2_with fail)))
  refine (F.out _ (hE.next (by repeat (first | assumption | exact Below.refl _ _ | apply Below.drew | apply below_drewN | apply balloc | (refine Below.setCell ?_ (by first | omega | (simp <;> omega)) _))))).mono ?_
  rintro e w1 ⟨rfl, hb⟩
  have K1 := Three.mk0 hb
  have hb1 := K1.bel
  obtain ⟨x0, x1, x2, y0, y1, y2, z0, z1, z2, _⟩ := K1.cells
  clear hb
  (go_wp2_with fail; repeat (any_goals (go_quiet (fail); go_wp2_with fail)))
  go_region_held3 (fun w' => w'.cell? ⟨w.heap.size, 0, none⟩ = some (.int .i64 k) ∧ w'.cell? ⟨w.heap.size, 1, none⟩ = some (.int .i64 n) ∧ w'.cell? ⟨w.heap.size, 2, none⟩ = some (.string t) ∧ w'.cell? ⟨w.heap.size + 1, 0, none⟩ = some (.int .i64 k') ∧ w'.cell? ⟨w.heap.size + 1, 1, none⟩ = some (.int .i64 n') ∧ w'.cell? ⟨w.heap.size + 1, 2, none⟩ = some (.string t') ∧ w'.cell? ⟨w.heap.size + 1 + 1, 0, none⟩ = some (.int .i64 k'') ∧ w'.cell? ⟨w.heap.size + 1 + 1, 1, none⟩ = some (.int .i64 n'') ∧ w'.cell? ⟨w.heap.size + 1 + 1, 2, none⟩ = some (.string t'') ∧ Three w #[.int .i64 k, .int .i64 n, .string t] #[.int .i64 k', .int .i64 n', .string t'] #[.int .i64 k'', .int .i64 n'', .string t''] 46 w') (first | exact Three.cells ‹_› | exact Three.cells K1.drew) (first | (with_reducible refine (C1.out _).mono ?_; rintro e w8 ⟨rfl, hb⟩; have hk5 : Three w #[.int .i64 k, .int .i64 n, .string t] #[.int .i64 k', .int .i64 n', .string t'] #[.int .i64 k'', .int .i64 n'', .string t''] 46 w8 := (by first | exact K1.drew.call hb | exact Three.call ‹_› hb); clear hb) | (with_reducible refine (C2.out _).mono ?_; rintro e w8 ⟨rfl, hb⟩; have hk5 : Three w #[.int .i64 k, .int .i64 n, .string t] #[.int .i64 k', .int .i64 n', .string t'] #[.int .i64 k'', .int .i64 n'', .string t''] 46 w8 := (by first | exact K1.drew.call hb | exact Three.call ‹_› hb); clear hb) | (with_reducible refine (C3.out _).mono ?_; rintro e w8 ⟨rfl, hb⟩; have hk5 : Three w #[.int .i64 k, .int .i64 n, .string t] #[.int .i64 k', .int .i64 n', .string t'] #[.int .i64 k'', .int .i64 n'', .string t''] 46 w8 := (by first | exact K1.drew.call hb | exact Three.call ‹_› hb); clear hb) | (with_reducible refine (C4.out _).mono ?_; rintro e w8 ⟨rfl, hb⟩; have hk5 : Three w #[.int .i64 k, .int .i64 n, .string t] #[.int .i64 k', .int .i64 n', .string t'] #[.int .i64 k'', .int .i64 n'', .string t''] 46 w8 := (by first | exact K1.drew.call hb | exact Three.call ‹_› hb); clear hb))
  all_goals
    rename_i w8 hh
    obtain ⟨x0, x1, x2, y0, y1, y2, z0, z1, z2, K8⟩ := hh
    have hb8 := K8.bel
    clear K1 hb1 C1 C2 C3 C4
    go_upto_region 4 with fail
    go_cut [68] (fun s wx => s = .bool false ∧ wx = w8)
    case first =>
      have ePQ := fun w => eqP_run k n k' n' t t' w
      rcases (show ab = -1 ∨ ab = 0 ∨ ab = 1 by omega) with rfl | rfl | rfl
      · have e0 : eqPl ⟨k, n, t⟩ ⟨k', n', t'⟩ = false := by
          rw [Bool.eq_false_iff]; intro h; have := f4.out.2 (eqPl_iff.1 h); omega
        rw [e0] at ePQ
        obtain rfl : ba = 1 := by have := f1.out; omega
        by_cases hbc : bc ≤ 0
        · have hac : ac < 0 := f6.out (by decide) hbc
          have hac2 : ¬ 0 ≤ ac := by omega
          have hac3 : ¬ 0 < ac := by omega
          go_wp2_with fail
          go_meet
          exact ⟨rfl, rfl⟩
        · go_wp2_with fail
          go_meet
          exact ⟨rfl, rfl⟩
      · have e0 : eqPl ⟨k, n, t⟩ ⟨k', n', t'⟩ = true := eqPl_iff.2 (f4.out.1 rfl)
        rw [e0] at ePQ
        obtain rfl : ba = 0 := by have := f1.out; omega
        by_cases hbc : bc ≤ 0
        · have hac : ac ≤ 0 := f5.out (by decide) hbc
          have hac3 : ¬ 0 < ac := by omega
          go_wp2_with fail
          go_meet
          exact ⟨rfl, rfl⟩
        · go_wp2_with fail
          go_meet
          exact ⟨rfl, rfl⟩
      · have e0 : eqPl ⟨k, n, t⟩ ⟨k', n', t'⟩ = false := by
          rw [Bool.eq_false_iff]; intro h; have := f4.out.2 (eqPl_iff.1 h); omega
        rw [e0] at ePQ
        obtain rfl : ba = -1 := by have := f1.out; omega
        go_wp2_with fail
        go_meet
        exact ⟨rfl, rfl⟩
    case rest =>
      obtain ⟨rfl, rfl⟩ := hcut
      have V1 := fun w hE => Check_calls (A := A) (B := B) k n t w ht hE
      have V2 := fun w hE => Check_calls (A := A) (B := B) k' n' t' w ht' hE
      by_cases hv : vCheck ⟨k, n, t⟩ = 0
      · rw [hv, errV_zero] at V1
        replace V1 := Lib.hid V1
        by_cases hv' : vCheck ⟨k', n', t'⟩ = 0
        · rw [hv', errV_zero] at V2
          replace V2 := Lib.hid V2
          have hnum := hnum.out hv hv'
          replace hv := Lib.hid hv
          replace hv' := Lib.hid hv'
          go_wp2_with fail
          refine (V1.out _ (hE.env.next (by repeat (first | assumption | exact Below.refl _ _ | apply Below.drew | apply below_drewN | apply balloc | (refine Below.setCell ?_ (by first | omega | (simp <;> omega)) _))))).mono ?_
          rintro e w9 ⟨rfl, hb⟩
          have K9 := K8.call hb
          have hb9 := K9.bel
          clear hb hb8 x0 x1 x2 y0 y1 y2 z0 z1 z2
          obtain ⟨x0, x1, x2, y0, y1, y2, _⟩ := K9.cells
          go_wp2_with fail
          refine (V2.out _ (hE.env.next (by repeat (first | assumption | exact Below.refl _ _ | apply Below.drew | apply below_drewN | apply balloc | (refine Below.setCell ?_ (by first | omega | (simp <;> omega)) _))))).mono ?_
          rintro e w10 ⟨rfl, hb⟩
          have K10 := K9.call hb
          have hb10 := K10.bel
          clear hb hb9 x0 x1 x2 y0 y1 y2 K9
          obtain ⟨x0, x1, x2, y0, y1, y2, _⟩ := K10.cells
          by_cases hkk : k = k'
          · subst hkk
            have hb := hnum rfl
            replace hnum := Lib.hid hnum
            by_cases h3 : k = 3
            · subst h3
              have hb := hb.1 rfl
              (go_wp2_with fail; repeat (any_goals (go_quiet (fail); go_wp2_with fail)))
              go_ret
              exact ⟨ret_bool (by simp), (by repeat (first | assumption | exact Below.refl _ _ | apply Below.drew | apply below_drewN | apply balloc | (refine Below.setCell ?_ (by first | omega | (simp <;> omega)) _)))⟩
            · have b3 : (k == 3) = false := by simp [h3]
              have hb := hb.2 h3
              replace h3 := Lib.hid h3
              (go_wp2_with fail; repeat (any_goals (go_quiet (fail); go_wp2_with fail)))
              go_ret
              exact ⟨ret_bool (by simp), (by repeat (first | assumption | exact Below.refl _ _ | apply Below.drew | apply below_drewN | apply balloc | (refine Below.setCell ?_ (by first | omega | (simp <;> omega)) _)))⟩
          · have hk1 : (k != k') = true := by simp [hkk]
            replace hkk := Lib.hid hkk
            replace hnum := Lib.hid hnum
            (go_wp2_with fail; repeat (any_goals (go_quiet (fail); go_wp2_with fail)))
            go_ret
            exact ⟨rfl, (by repeat (first | assumption | exact Below.refl _ _ | apply Below.drew | apply below_drewN | apply balloc | (refine Below.setCell ?_ (by first | omega | (simp <;> omega)) _)))⟩
        · rw [errV_pos A (Nat.pos_of_ne_zero hv')] at V2
          replace V2 := Lib.hid V2
          generalize A (vCheck ⟨k', n', t'⟩) = a2 at *
          clear hv' hv hnum
          go_wp2_with fail
          refine (V1.out _ (hE.env.next (by repeat (first | assumption | exact Below.refl _ _ | apply Below.drew | apply below_drewN | apply balloc | (refine Below.setCell ?_ (by first | omega | (simp <;> omega)) _))))).mono ?_
          rintro e w9 ⟨rfl, hb⟩
          have K9 := K8.call hb
          have hb9 := K9.bel
          clear hb hb8 x0 x1 x2 y0 y1 y2 z0 z1 z2
          obtain ⟨x0, x1, x2, y0, y1, y2, _⟩ := K9.cells
          go_wp2_with fail
          refine (V2.out _ (hE.env.next (by repeat (first | assumption | exact Below.refl _ _ | apply Below.drew | apply below_drewN | apply balloc | (refine Below.setCell ?_ (by first | omega | (simp <;> omega)) _))))).mono ?_
          rintro e w10 ⟨rfl, hb⟩
          have hb10 := bcall hb9 hb
          clear hb hb9 x0 x1 x2 y0 y1 y2 K9
          (go_wp2_with fail; repeat (any_goals (go_quiet (fail); go_wp2_with fail)))
          go_ret
          exact ⟨rfl, (by repeat (first | assumption | exact Below.refl _ _ | apply Below.drew | apply below_drewN | apply balloc | (refine Below.setCell ?_ (by first | omega | (simp <;> omega)) _)))⟩
      · rw [errV_pos A (Nat.pos_of_ne_zero hv)] at V1
        replace V1 := Lib.hid V1
        generalize A (vCheck ⟨k, n, t⟩) = a1 at *
        clear hv hnum
        go_wp2_with fail
        refine (V1.out _ (hE.env.next (by repeat (first | assumption | exact Below.refl _ _ | apply Below.drew | apply below_drewN | apply balloc | (refine Below.setCell ?_ (by first | omega | (simp <;> omega)) _))))).mono ?_
        rintro e w9 ⟨rfl, hb⟩
        have hb9 := bcall hb8 hb
        clear hb hb8 x0 x1 x2 y0 y1 y2 z0 z1 z2
        (go_wp2_with fail; repeat (any_goals (go_quiet (fail); go_wp2_with fail)))
        go_ret
        exact ⟨rfl, (by repeat (first | assumption | exact Below.refl _ _ | apply Below.drew | apply below_drewN | apply balloc | (refine Below.setCell ?_ (by first | omega | (simp <;> omega)) _)))⟩
theorem ValuesOrder_calls {A : Nat → Addr} {B : Nat} (k n : Int) (t : ByteArray) (k' n' : Int) (t' : ByteArray) (k'' n'' : Int) (t'' : ByteArray) (w : World) (ht : t.size ≤ 140737488351232) (ht' : t'.size ≤ 140737488351232) (_ht'' : t''.size ≤ 140737488351232) (hE : EnvN A B w) :
    Calls Tryd.prog 8 #[.agg #[.int .i64 k, .int .i64 n, .string t], .agg #[.int .i64 k', .int .i64 n', .string t'], .agg #[.int .i64 k'', .int .i64 n'', .string t'']] w fun e w' => e = .returned (.bool true) ∧ Below w.heap.size w w' :=
  ORD k n k' n' k'' n'' t t' t'' w ht ht' hE

end Go.Proofs.YtfdhklpabhhjjaaDoor
