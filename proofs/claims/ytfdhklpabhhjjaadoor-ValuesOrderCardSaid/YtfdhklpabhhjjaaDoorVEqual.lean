/- ValuesEqual: the walk. -/
import Derived.Test.YtfdhklpabhhjjaaDoorValLaw3
import Derived.LoopN
import Derived.Laws.AppendOwn
import Derived.Deep.AppendLies
import Derived.Maps.AppendAt
import Derived.Laws.OwnMore
import Derived.OwnWalk
namespace Go.Proofs.YtfdhklpabhhjjaaDoor
open Go Go.RowKit

/-- The same plain value? -/
def eqPl (p q : Pl) : Bool := p.kind == q.kind && (p.num == q.num && p.text.toList == q.text.toList)
theorem eqPl_iff {p q : Pl} : eqPl p q = true ↔ p = q := by
  obtain ⟨k, n, t⟩ := p
  obtain ⟨k', n', t'⟩ := q
  simp only [eqPl, Bool.and_eq_true, beq_iff_eq, Pl.mk.injEq, Lib.toList_data]
  constructor
  · rintro ⟨h1, h2, h3⟩
    refine ⟨h1, h2, ?_⟩
    obtain ⟨⟨l⟩⟩ := t
    obtain ⟨⟨l'⟩⟩ := t'
    simp only at h3
    rw [h3]
  · rintro ⟨rfl, rfl, rfl⟩
    exact ⟨rfl, rfl, rfl⟩
theorem eqP_run (k n k' n' : Int) (t t' : ByteArray) (w : World) :
    (binOp .eql 46 (.agg #[.int .i64 k, .int .i64 n, .string t]) (.agg #[.int .i64 k', .int .i64 n', .string t'])).run Tryd.prog w = .ok (.bool (eqPl ⟨k, n, t⟩ ⟨k', n', t'⟩)) w := by
  unfold eqPl
  go_simp
  (repeat' split) <;> simp_all
theorem eqV_num (n n' : Int) (w : World) : (binOp .eql 42 (.iface 55 (.int .i64 n)) (.iface 55 (.int .i64 n'))).run Tryd.prog w = .ok (.bool (n == n')) w := by kernel_rfl
theorem eqV_text (t t' : ByteArray) (w : World) : (binOp .eql 42 (.iface 56 (.string t)) (.iface 56 (.string t'))).run Tryd.prog w = .ok (.bool (t == t')) w := by kernel_rfl
theorem eqV_run {p q : Pl} (hp : vCheck p = 0) (hq : vCheck q = 0) (w : World) : (binOp .eql 42 (valV p) (valV q)).run Tryd.prog w = .ok (.bool (eqPl p q)) w := by
  obtain ⟨k, n, t⟩ := p
  obtain ⟨k', n', t'⟩ := q
  rcases good_cases hp with ⟨rfl, rfl, rfl⟩ | ⟨rfl, rfl, rfl⟩ | ⟨rfl, rfl, rfl⟩ | ⟨rfl, rfl⟩ | ⟨rfl, rfl, h2⟩
  · rcases good_cases hq with ⟨rfl, rfl, rfl⟩ | ⟨rfl, rfl, rfl⟩ | ⟨rfl, rfl, rfl⟩ | ⟨rfl, rfl⟩ | ⟨rfl, rfl, h2⟩ <;> kernel_rfl
  · rcases good_cases hq with ⟨rfl, rfl, rfl⟩ | ⟨rfl, rfl, rfl⟩ | ⟨rfl, rfl, rfl⟩ | ⟨rfl, rfl⟩ | ⟨rfl, rfl, h2⟩ <;> kernel_rfl
  · rcases good_cases hq with ⟨rfl, rfl, rfl⟩ | ⟨rfl, rfl, rfl⟩ | ⟨rfl, rfl, rfl⟩ | ⟨rfl, rfl⟩ | ⟨rfl, rfl, h2⟩ <;> kernel_rfl
  · rcases good_cases hq with ⟨rfl, rfl, rfl⟩ | ⟨rfl, rfl, rfl⟩ | ⟨rfl, rfl, rfl⟩ | ⟨rfl, rfl⟩ | ⟨rfl, rfl, h2⟩
    · kernel_rfl
    · kernel_rfl
    · kernel_rfl
    · refine (eqV_num n n' w).trans ?_
      simp [eqPl]
    · kernel_rfl
  · rcases good_cases hq with ⟨rfl, rfl, rfl⟩ | ⟨rfl, rfl, rfl⟩ | ⟨rfl, rfl, rfl⟩ | ⟨rfl, rfl⟩ | ⟨rfl, rfl, h3⟩
    · kernel_rfl
    · kernel_rfl
    · kernel_rfl
    · kernel_rfl
    · refine (eqV_text t t' w).trans ?_
      simp [eqPl, beq_toListBytes]

theorem infoVal : (Tryd.prog.info? 42).map (fun i => (i.zero, i.size, i.bytes)) = some (some .nilIface, 1, 16) := by kernel_rfl
theorem own_next2 {B : Nat} {e : TypeId} {sz : Nat} {v : Value} {n : Nat} {xs : List Value} {w w' : World} (h : w.ownsRow B e sz v n xs) (hb : Below w.heap.size w w') : w'.ownsRow B e sz v n xs := by
  obtain ⟨h1, h2⟩ := h
  refine ⟨h1, ?_⟩
  rcases h2 with h2 | ⟨g, cap, cur, hv, hg, hh, r⟩
  · exact Or.inl h2
  · exact Or.inr ⟨g, cap, cur, hv, hg, by rw [hb.block g (ltB hh)]; exact hh, r⟩
set_option maxHeartbeats 2000000 in
set_option maxRecDepth 100000 in
theorem List_ok {A : Nat → Addr} {B : Nat} (k n k' n' : Int) (t t' : ByteArray) (g : Nat) (w : World) (ht : t.size ≤ 140737488351232) (ht' : t'.size ≤ 140737488351232) (hE : Env A B SV w) (hv : vCheck ⟨k, n, t⟩ = 0) (hv' : vCheck ⟨k', n', t'⟩ = 0)
    (hg : w.heap[g]? = some (.cells #[.int .i64 k, .int .i64 n, .string t, .int .i64 k', .int .i64 n', .string t'] 46 (0, 0))) :
    Calls Tryd.prog 21 #[.slice (some ⟨g, 0, none⟩) 2 2] w fun e w' => ∃ u, e = .returned (.tuple #[u, .int .i64 0, .nilIface]) ∧ w'.ownsRow w.heap.size 42 1 u 2 [valV ⟨k, n, t⟩, valV ⟨k', n', t'⟩] ∧ Below w.heap.size w w' := by
  obtain ⟨T, v, fk, fp, hV, _⟩ := val_at hv
  obtain ⟨T', v', fk', fp', hV', _⟩ := val_at hv'
  have C1 := fun w hE => Of_ok (A := A) (B := B) k n t w ht hE hv
  have C2 := fun w hE => Of_ok (A := A) (B := B) k' n' t' w ht' hE hv'
  rw [hV] at C1
  rw [hV'] at C2
  rw [hV, hV']
  clear hV hV' hv hv' ht ht'
  replace C1 := Lib.hid C1
  replace C2 := Lib.hid C2
  obtain ⟨i0, hi, hz0, hz1, hz2⟩ := info_parts infoVal
  replace hi := Lib.hid hi
  replace hz0 := Lib.hid hz0
  replace hz1 := Lib.hid hz1
  replace hz2 := Lib.hid hz2
  have x0 := cellB hg 0 rfl
  have x1 := cellB hg 1 rfl
  have x2 := cellB hg 2 rfl
  have hlt := ltB hg
  have hg0 := Lib.hid hg
  clear hg
  go_enter Tryd.func21, Tryd.ntmps21
  (go_wp2_with fail; repeat (any_goals (go_quiet (fail); go_wp2_with fail)))
  refine wp_loop_rounds 3 ?_
  rw [rounds_succ]
  (go_wp2_with fail; repeat (any_goals (go_quiet (fail); go_wp2_with fail)))
  refine (C1.out _ (hE.next (by repeat (first | assumption | exact Below.refl _ _ | apply Below.drew | apply below_drewN | apply balloc | (refine Below.setCell ?_ (by first | omega | (simp <;> omega)) _))))).mono ?_
  rintro e w1 ⟨rfl, hb⟩
  have hb1 : Below w.heap.size w w1 := bcall (by repeat (first | assumption | exact Below.refl _ _ | apply Below.drew | apply below_drewN | apply balloc | (refine Below.setCell ?_ (by first | omega | (simp <;> omega)) _))) hb
  clear hb
  have s1 := hb1.size
  have r0 : w1.ownsRow w.heap.size 42 1 (.slice none 0 0) 0 [] := World.ownsRow_nil _ _ _ _
  go_wp2_with (at_builtin; refine wpList_append_own _ rfl _ _ 63 rfl w.heap.size 42 i0 .nilIface 1 16 Tryd.underlying63 hi.out hz0.out hz1.out hz2.out rfl (by decide) _ _ _ rfl (r0.alloc _) ⟨w1.heap.size, 0, none⟩ 1 1 [.iface T v] rfl rfl ?c1 ?c2 ?c3 ?c4 ?c5 ?_)
  case c1 =>
    intro j u hj
    match j, hj with
    | 0, hj => simp at hj; subst hj; simp [Addr.add]
  case c2 => intro u hu; simp at hu; subst hu; rfl
  case c3 => unfold maxLen; omega
  case c4 => omega
  case c5 => simp; omega
  intro u1 w2 ho hgr _
  have hb2 : Below w.heap.size w w2 := (hb1.alloc (by omega) _).grown hgr (by simp; omega) (fun k hk => by cases hk)
  obtain ⟨g1, c1, hu, q1, q2⟩ := ho.form (by decide)
  subst hu
  have hg2 : w2.heap[g]? = _ := (hb2.block g hlt).trans hg0.out
  have y0 := cellB hg2 3 rfl
  have y1 := cellB hg2 4 rfl
  have y2 := cellB hg2 5 rfl
  replace hg2 := Lib.hid hg2
  replace ho := Lib.hid ho
  replace hgr := Lib.hid hgr
  have s2 := hb2.size
  clear r0 x0 x1 x2 s1 hb1
  (go_wp2_with fail; repeat (any_goals (go_quiet (fail); go_wp2_with fail)))
  rw [rounds_succ]
  (go_wp2_with fail; repeat (any_goals (go_quiet (fail); go_wp2_with fail)))
  refine (C2.out _ (hE.next (by repeat (first | assumption | exact Below.refl _ _ | apply Below.drew | apply below_drewN | apply balloc | (refine Below.setCell ?_ (by first | omega | (simp <;> omega)) _))))).mono ?_
  rintro e w3 ⟨rfl, hb⟩
  have hb3 : Below w.heap.size w w3 := bcall (by repeat (first | assumption | exact Below.refl _ _ | apply Below.drew | apply below_drewN | apply balloc | (refine Below.setCell ?_ (by first | omega | (simp <;> omega)) _))) hb
  have r3 := own_next2 ho.out (bcall (by repeat (first | assumption | exact Below.refl _ _ | apply Below.drew | apply below_drewN | apply balloc | (refine Below.setCell ?_ (by first | omega | (simp <;> omega)) _))) hb)
  clear hb
  have s3 := hb3.size
  go_wp2_with (at_builtin; refine wpList_append_own _ rfl _ _ 63 rfl w.heap.size 42 i0 .nilIface 1 16 Tryd.underlying63 hi.out hz0.out hz1.out hz2.out rfl (by decide) _ _ _ rfl (r3.alloc _) ⟨w3.heap.size, 0, none⟩ 1 1 [.iface T' v'] rfl rfl ?c1 ?c2 ?c3 ?c4 ?c5 ?_)
  case c1 =>
    intro j u hj
    match j, hj with
    | 0, hj => simp at hj; subst hj; simp [Addr.add]
  case c2 => intro u hu; simp at hu; subst hu; rfl
  case c3 => unfold maxLen; omega
  case c4 => omega
  case c5 => simp; omega
  intro u2 w4 ho4 hgr4 _
  have hb4 : Below w.heap.size w w4 := (hb3.alloc (by omega) _).grown hgr4 (by simp; omega) (fun k hk => (r3.lt k hk).1)
  replace ho4 := Lib.hid ho4
  clear hgr4 r3 hb3 s3 hb2 s2 y0 y1 y2
  (go_wp2_with fail; repeat (any_goals (go_quiet (fail); go_wp2_with fail)))
  rw [rounds_succ]
  (go_wp2_with fail; repeat (any_goals (go_quiet (fail); go_wp2_with fail)))
  refine bodyPost_ret (v := .tuple #[u2, .int .i64 0, .nilIface]) (by simp [results, Tryd.results21, go_sem]) rfl ⟨u2, rfl, ?_, hb4⟩
  simpa using ho4.out

set_option maxHeartbeats 2000000 in
set_option maxRecDepth 100000 in
theorem List_bad1 {A : Nat → Addr} {B : Nat} (k n k' n' : Int) (t t' : ByteArray) (g : Nat) (w : World) (ht : t.size ≤ 140737488351232) (hE : Env A B SV w) (hv : 0 < vCheck ⟨k, n, t⟩)
    (hg : w.heap[g]? = some (.cells #[.int .i64 k, .int .i64 n, .string t, .int .i64 k', .int .i64 n', .string t'] 46 (0, 0))) :
    Calls Tryd.prog 21 #[.slice (some ⟨g, 0, none⟩) 2 2] w fun e w' => e = .returned (.tuple #[.slice none 0 0, .int .i64 0, .iface 226 (.pointer (some (A (vCheck ⟨k, n, t⟩))))]) ∧ Below w.heap.size w w' := by
  have C1 := fun w hE => Of_bad (A := A) (B := B) k n t w ht hE hv
  clear hv ht
  generalize A (vCheck ⟨k, n, t⟩) = a at *
  replace C1 := Lib.hid C1
  have x0 := cellB hg 0 rfl
  have x1 := cellB hg 1 rfl
  have x2 := cellB hg 2 rfl
  have hlt := ltB hg
  clear hg
  go_enter Tryd.func21, Tryd.ntmps21
  (go_wp2_with fail; repeat (any_goals (go_quiet (fail); go_wp2_with fail)))
  refine wp_loop_rounds 3 ?_
  rw [rounds_succ]
  (go_wp2_with fail; repeat (any_goals (go_quiet (fail); go_wp2_with fail)))
  refine (C1.out _ (hE.next (by repeat (first | assumption | exact Below.refl _ _ | apply Below.drew | apply below_drewN | apply balloc | (refine Below.setCell ?_ (by first | omega | (simp <;> omega)) _))))).mono ?_
  rintro e w1 ⟨rfl, hb⟩
  have hb1 : Below w.heap.size w w1 := bcall (by repeat (first | assumption | exact Below.refl _ _ | apply Below.drew | apply below_drewN | apply balloc | (refine Below.setCell ?_ (by first | omega | (simp <;> omega)) _))) hb
  clear hb
  (go_wp2_with fail; repeat (any_goals (go_quiet (fail); go_wp2_with fail)))
  refine bodyPost_ret (v := .tuple #[.slice none 0 0, .int .i64 0, .iface 226 (.pointer (some a))]) (by simp [results, Tryd.results21, go_sem]) rfl ⟨rfl, hb1⟩
set_option maxHeartbeats 2000000 in
set_option maxRecDepth 100000 in
theorem List_bad2 {A : Nat → Addr} {B : Nat} (k n k' n' : Int) (t t' : ByteArray) (g : Nat) (w : World) (ht : t.size ≤ 140737488351232) (ht' : t'.size ≤ 140737488351232) (hE : Env A B SV w) (hv : vCheck ⟨k, n, t⟩ = 0) (hv' : 0 < vCheck ⟨k', n', t'⟩)
    (hg : w.heap[g]? = some (.cells #[.int .i64 k, .int .i64 n, .string t, .int .i64 k', .int .i64 n', .string t'] 46 (0, 0))) :
    Calls Tryd.prog 21 #[.slice (some ⟨g, 0, none⟩) 2 2] w fun e w' => e = .returned (.tuple #[.slice none 0 0, .int .i64 1, .iface 226 (.pointer (some (A (vCheck ⟨k', n', t'⟩))))]) ∧ Below w.heap.size w w' := by
  obtain ⟨T, v, fk, fp, hV, _⟩ := val_at hv
  have C1 := fun w hE => Of_ok (A := A) (B := B) k n t w ht hE hv
  have C2 := fun w hE => Of_bad (A := A) (B := B) k' n' t' w ht' hE hv'
  rw [hV] at C1
  clear hV hv hv' ht ht'
  generalize A (vCheck ⟨k', n', t'⟩) = a at *
  replace C1 := Lib.hid C1
  replace C2 := Lib.hid C2
  obtain ⟨i0, hi, hz0, hz1, hz2⟩ := info_parts infoVal
  replace hi := Lib.hid hi
  replace hz0 := Lib.hid hz0
  replace hz1 := Lib.hid hz1
  replace hz2 := Lib.hid hz2
  have x0 := cellB hg 0 rfl
  have x1 := cellB hg 1 rfl
  have x2 := cellB hg 2 rfl
  have hlt := ltB hg
  have hg0 := Lib.hid hg
  clear hg
  go_enter Tryd.func21, Tryd.ntmps21
  (go_wp2_with fail; repeat (any_goals (go_quiet (fail); go_wp2_with fail)))
  refine wp_loop_rounds 3 ?_
  rw [rounds_succ]
  (go_wp2_with fail; repeat (any_goals (go_quiet (fail); go_wp2_with fail)))
  refine (C1.out _ (hE.next (by repeat (first | assumption | exact Below.refl _ _ | apply Below.drew | apply below_drewN | apply balloc | (refine Below.setCell ?_ (by first | omega | (simp <;> omega)) _))))).mono ?_
  rintro e w1 ⟨rfl, hb⟩
  have hb1 : Below w.heap.size w w1 := bcall (by repeat (first | assumption | exact Below.refl _ _ | apply Below.drew | apply below_drewN | apply balloc | (refine Below.setCell ?_ (by first | omega | (simp <;> omega)) _))) hb
  clear hb
  have s1 := hb1.size
  have r0 : w1.ownsRow w.heap.size 42 1 (.slice none 0 0) 0 [] := World.ownsRow_nil _ _ _ _
  go_wp2_with (at_builtin; refine wpList_append_own _ rfl _ _ 63 rfl w.heap.size 42 i0 .nilIface 1 16 Tryd.underlying63 hi.out hz0.out hz1.out hz2.out rfl (by decide) _ _ _ rfl (r0.alloc _) ⟨w1.heap.size, 0, none⟩ 1 1 [.iface T v] rfl rfl ?c1 ?c2 ?c3 ?c4 ?c5 ?_)
  case c1 =>
    intro j u hj
    match j, hj with
    | 0, hj => simp at hj; subst hj; simp [Addr.add]
  case c2 => intro u hu; simp at hu; subst hu; rfl
  case c3 => unfold maxLen; omega
  case c4 => omega
  case c5 => simp; omega
  intro u1 w2 ho hgr _
  have hb2 : Below w.heap.size w w2 := (hb1.alloc (by omega) _).grown hgr (by simp; omega) (fun k hk => by cases hk)
  obtain ⟨g1, c1, hu, q1, q2⟩ := ho.form (by decide)
  subst hu
  have hg2 : w2.heap[g]? = _ := (hb2.block g hlt).trans hg0.out
  have y0 := cellB hg2 3 rfl
  have y1 := cellB hg2 4 rfl
  have y2 := cellB hg2 5 rfl
  replace hg2 := Lib.hid hg2
  replace ho := Lib.hid ho
  replace hgr := Lib.hid hgr
  have s2 := hb2.size
  clear r0 x0 x1 x2 s1 hb1
  (go_wp2_with fail; repeat (any_goals (go_quiet (fail); go_wp2_with fail)))
  rw [rounds_succ]
  (go_wp2_with fail; repeat (any_goals (go_quiet (fail); go_wp2_with fail)))
  refine (C2.out _ (hE.next (by repeat (first | assumption | exact Below.refl _ _ | apply Below.drew | apply below_drewN | apply balloc | (refine Below.setCell ?_ (by first | omega | (simp <;> omega)) _))))).mono ?_
  rintro e w3 ⟨rfl, hb⟩
  have hb3 : Below w.heap.size w w3 := bcall (by repeat (first | assumption | exact Below.refl _ _ | apply Below.drew | apply below_drewN | apply balloc | (refine Below.setCell ?_ (by first | omega | (simp <;> omega)) _))) hb
  clear hb hb2 s2
  (go_wp2_with fail; repeat (any_goals (go_quiet (fail); go_wp2_with fail)))
  refine bodyPost_ret (v := .tuple #[.slice none 0 0, .int .i64 1, .iface 226 (.pointer (some a))]) (by simp [results, Tryd.results21, go_sem]) rfl ⟨rfl, hb3⟩

/-- Two blocks that are kept, beside what lay below. -/
structure Two (w0 : World) (a b : Array Value) (t : TypeId) (w : World) : Prop where
  fst : w.heap[w0.heap.size]? = some (.cells a t (0, 0))
  snd : w.heap[w0.heap.size + 1]? = some (.cells b t (0, 0))
  bel : Below w0.heap.size w0 w
theorem Two.call {w0 : World} {a b : Array Value} {t : TypeId} {w w1 : World} (h : Two w0 a b t w) (hb : Below w.heap.size w w1) : Two w0 a b t w1 := ⟨box_next h.fst hb, box_next h.snd hb, bcall h.bel hb⟩
theorem Two.drew {w0 : World} {a b : Array Value} {t : TypeId} {w : World} (h : Two w0 a b t w) : Two w0 a b t w.drew := ⟨h.fst, h.snd, h.bel.drew⟩
theorem Two.lt {w0 : World} {a b : Array Value} {t : TypeId} {w : World} (h : Two w0 a b t w) : w0.heap.size + 1 < w.heap.size := ltB h.snd
theorem Two.cells {w0 : World} {a b c a' b' c' : Value} {t : TypeId} {w : World} (h : Two w0 #[a, b, c] #[a', b', c'] t w) :
    w.cell? ⟨w0.heap.size, 0, none⟩ = some a ∧ w.cell? ⟨w0.heap.size, 1, none⟩ = some b ∧ w.cell? ⟨w0.heap.size, 2, none⟩ = some c ∧
    w.cell? ⟨w0.heap.size + 1, 0, none⟩ = some a' ∧ w.cell? ⟨w0.heap.size + 1, 1, none⟩ = some b' ∧ w.cell? ⟨w0.heap.size + 1, 2, none⟩ = some c' :=
  ⟨cellB h.fst 0 rfl, cellB h.fst 1 rfl, cellB h.fst 2 rfl, cellB h.snd 0 rfl, cellB h.snd 1 rfl, cellB h.snd 2 rfl⟩
theorem Two.mk0 {w W1 : World} {a b : Array Value} {t : TypeId} (hb : Below ((w.alloc (.cells a t (0, 0))).alloc (.cells b t (0, 0))).heap.size ((w.alloc (.cells a t (0, 0))).alloc (.cells b t (0, 0))) W1) : Two w a b t W1 where
  fst := by
    rw [hb.block _ (by simp; omega), Below.heap_alloc _ _ _ (by simp)]
    exact heap_alloc_new w _
  snd := by
    have h := boxed hb
    rw [show (w.alloc (.cells a t (0, 0))).heap.size = w.heap.size + 1 by simp] at h
    exact h
  bel := bcall (balloc (balloc (Below.refl _ _))) hb

set_option maxHeartbeats 2000000 in
set_option maxRecDepth 100000 in
theorem EQ_good {A : Nat → Addr} {B : Nat} (k n k' n' : Int) (t t' : ByteArray) (w : World) (ht : t.size ≤ 140737488351232) (ht' : t'.size ≤ 140737488351232) (h0 : -9223372036854775808 ≤ n) (h1 : n ≤ 9223372036854775807)
    (hE : EnvN A B w) (hv : vCheck ⟨k, n, t⟩ = 0) (hv' : vCheck ⟨k', n', t'⟩ = 0) :
    Calls Tryd.prog 7 #[.agg #[.int .i64 k, .int .i64 n, .string t], .agg #[.int .i64 k', .int .i64 n', .string t']] w fun e w' => e = .returned (.bool true) ∧ Below w.heap.size w w' := by
  have F := Lib.hid (fun w hE => fixed_calls (A := A) (B := B) w hE)
  have C1 := fun w hE => Of_ok (A := A) (B := B) k n t w ht hE hv
  have C2 := fun w hE => Of_ok (A := A) (B := B) k' n' t' w ht' hE hv'
  have L := fun g w hE => List_ok (A := A) (B := B) k' n' k n t' t g w ht' ht hE hv' hv
  have T1 := fun w hE => Text_ok (A := A) (B := B) k n t w ht h0 h1 hE hv
  have P1 := fun w hE => Parse_calls (A := A) (B := B) (vText ⟨k, n, t⟩) w (Nat.le_trans (vText_size hv h0 h1) (by decide)) hE
  rw [vText_back hv h0 h1] at P1
  simp only [ansV, if_true] at P1
  have e12 := fun w => eqV_run hv hv' w
  have e11 := fun w => eqV_run hv hv w
  have e22 := fun w => eqV_run hv' hv' w
  rw [eqPl_iff.2 rfl] at e11 e22
  have ePQ := fun w => eqP_run k n k' n' t t' w
  generalize eqPl ⟨k, n, t⟩ ⟨k', n', t'⟩ = bq at *
  obtain ⟨T, v, _, _, hV, _⟩ := val_at hv
  obtain ⟨T', v', _, _, hV', _⟩ := val_at hv'
  simp only [hV, hV'] at C1 C2 L P1 e12 e11 e22
  clear hV hV'
  generalize vText ⟨k, n, t⟩ = r at *
  clear hv hv' ht ht' h0 h1
  replace C1 := Lib.hid C1
  replace C2 := Lib.hid C2
  replace L := Lib.hid L
  replace T1 := Lib.hid T1
  replace P1 := Lib.hid P1
  go_enter Tryd.func7, Tryd.ntmps7
  (go_wp2_with fail; repeat (any_goals (go_quiet (fail); go_wp2_with fail)))
  refine (F.out _ (hE.next (by repeat (first | assumption | exact Below.refl _ _ | apply Below.drew | apply below_drewN | apply balloc | (refine Below.setCell ?_ (by first | omega | (simp <;> omega)) _))))).mono ?_
  rintro e w1 ⟨rfl, hb⟩
  have K1 := Two.mk0 hb
  have hb1 := K1.bel
  obtain ⟨x0, x1, x2, y0, y1, y2⟩ := K1.cells
  clear hb
  (go_wp2_with fail; repeat (any_goals (go_quiet (fail); go_wp2_with fail)))
  refine (C1.out _ (hE.env.next (by repeat (first | assumption | exact Below.refl _ _ | apply Below.drew | apply below_drewN | apply balloc | (refine Below.setCell ?_ (by first | omega | (simp <;> omega)) _))))).mono ?_
  rintro e w2 ⟨rfl, hb⟩
  have K2 := K1.call hb
  have hb2 := K2.bel
  clear hb x0 x1 x2 y0 y1 y2 K1 hb1
  obtain ⟨x0, x1, x2, y0, y1, y2⟩ := K2.cells
  (go_wp2_with fail; repeat (any_goals (go_quiet (fail); go_wp2_with fail)))
  refine (C2.out _ (hE.env.next (by repeat (first | assumption | exact Below.refl _ _ | apply Below.drew | apply below_drewN | apply balloc | (refine Below.setCell ?_ (by first | omega | (simp <;> omega)) _))))).mono ?_
  rintro e w3 ⟨rfl, hb⟩
  have K3 := K2.call hb
  have hb3 := K3.bel
  clear hb x0 x1 x2 y0 y1 y2 K2 hb2
  obtain ⟨x0, x1, x2, y0, y1, y2⟩ := K3.cells
  have lt3 := K3.lt
  (go_wp2_with fail; repeat (any_goals (go_quiet (fail); go_wp2_with fail)))
  refine (L.out w3.heap.size _ (hE.env.next (by repeat (first | assumption | exact Below.refl _ _ | apply Below.drew | apply below_drewN | apply balloc | (refine Below.setCell ?_ (by first | omega | (simp <;> omega)) _)))) (heap_alloc_new w3 _)).mono ?_
  rintro e w4 ⟨u, rfl, ho, hb⟩
  have K4 := K3.call (bcall (balloc (Below.refl _ _)) hb)
  have hb4 := K4.bel
  obtain ⟨g, cap, hu, hg1, hg2⟩ := ho.form (by decide)
  subst hu
  replace ho := Lib.hid ho
  clear hb x0 x1 x2 y0 y1 y2 K3 hb3 lt3 hg1
  obtain ⟨x0, x1, x2, y0, y1, y2⟩ := K4.cells
  (go_wp2_with fail; repeat (any_goals (go_quiet (fail); go_wp2_with fail)))
  refine (T1.out _ (hE.next (by repeat (first | assumption | exact Below.refl _ _ | apply Below.drew | apply below_drewN | apply balloc | (refine Below.setCell ?_ (by first | omega | (simp <;> omega)) _))))).mono ?_
  rintro e w5 ⟨rfl, hb⟩
  have K5 := K4.call hb
  have hb5 := K5.bel
  replace ho := Lib.hid (own_next2 ho.out hb)
  clear hb x0 x1 x2 y0 y1 y2 K4 hb4
  (go_wp2_with fail; repeat (any_goals (go_quiet (fail); go_wp2_with fail)))
  refine (P1.out _ (hE.env.next (by repeat (first | assumption | exact Below.refl _ _ | apply Below.drew | apply below_drewN | apply balloc | (refine Below.setCell ?_ (by first | omega | (simp <;> omega)) _))))).mono ?_
  rintro e w6 ⟨rfl, hb⟩
  have K6 := K5.call hb
  have hb6 := K6.bel
  replace ho := own_next2 ho.out hb
  clear hb K5 hb5
  obtain ⟨x0, x1, x2, y0, y1, y2⟩ := K6.cells
  have z0 : w6.cell? ⟨g, 0, none⟩ = some (.iface T' v') := ho.cellAt 0 (by decide)
  have z1 : w6.cell? ⟨g, 1, none⟩ = some (.iface T v) := ho.cellAt 1 (by decide)
  replace ho := Lib.hid ho
  cases bq
  all_goals
    (go_wp2_with fail; repeat (any_goals (go_quiet (fail); go_wp2_with fail)))
    go_ret
    exact ⟨rfl, (by repeat (first | assumption | exact Below.refl _ _ | apply Below.drew | apply below_drewN | apply balloc | (refine Below.setCell ?_ (by first | omega | (simp <;> omega)) _)))⟩

set_option maxHeartbeats 2000000 in
set_option maxRecDepth 100000 in
theorem EQ_on {A : Nat → Addr} {B : Nat} (k n k' n' : Int) (t t' : ByteArray) (r1 r2 r3 r4 : Value) (i : Int) (a : Addr) (w : World) (hE : EnvN A B w)
    (C1 : Hid (∀ w, Env A B SV w → Calls Tryd.prog 18 #[.agg #[.int .i64 k, .int .i64 n, .string t]] w fun e w' => e = .returned (.tuple #[r1, .nilIface]) ∧ Below w.heap.size w w'))
    (C2 : Hid (∀ w, Env A B SV w → Calls Tryd.prog 18 #[.agg #[.int .i64 k', .int .i64 n', .string t']] w fun e w' => e = .returned (.tuple #[r3, .iface 226 r4]) ∧ Below w.heap.size w w'))
    (L : Hid (∀ g w, Env A B SV w → w.heap[g]? = some (.cells #[.int .i64 k', .int .i64 n', .string t', .int .i64 k, .int .i64 n, .string t] 46 (0, 0)) →
      Calls Tryd.prog 21 #[.slice (some ⟨g, 0, none⟩) 2 2] w fun e w' => e = .returned (.tuple #[.slice none 0 0, .int .i64 i, .iface 226 (.pointer (some a))]) ∧ Below w.heap.size w w')) :
    Calls Tryd.prog 7 #[.agg #[.int .i64 k, .int .i64 n, .string t], .agg #[.int .i64 k', .int .i64 n', .string t']] w fun e w' => e = .returned (.bool true) ∧ Below w.heap.size w w' := by
  have F := Lib.hid (fun w hE => fixed_calls (A := A) (B := B) w hE)
  go_enter Tryd.func7, Tryd.ntmps7
  (go_wp2_with fail; repeat (any_goals (go_quiet (fail); go_wp2_with fail)))
  refine (F.out _ (hE.next (by repeat (first | assumption | exact Below.refl _ _ | apply Below.drew | apply below_drewN | apply balloc | (refine Below.setCell ?_ (by first | omega | (simp <;> omega)) _))))).mono ?_
  rintro e w1 ⟨rfl, hb⟩
  have K1 := Two.mk0 hb
  have hb1 := K1.bel
  obtain ⟨x0, x1, x2, y0, y1, y2⟩ := K1.cells
  clear hb
  (go_wp2_with fail; repeat (any_goals (go_quiet (fail); go_wp2_with fail)))
  refine (C1.out _ (hE.env.next (by repeat (first | assumption | exact Below.refl _ _ | apply Below.drew | apply below_drewN | apply balloc | (refine Below.setCell ?_ (by first | omega | (simp <;> omega)) _))))).mono ?_
  rintro e w2 ⟨rfl, hb⟩
  have K2 := K1.call hb
  have hb2 := K2.bel
  clear hb x0 x1 x2 y0 y1 y2 K1 hb1
  obtain ⟨x0, x1, x2, y0, y1, y2⟩ := K2.cells
  (go_wp2_with fail; repeat (any_goals (go_quiet (fail); go_wp2_with fail)))
  refine (C2.out _ (hE.env.next (by repeat (first | assumption | exact Below.refl _ _ | apply Below.drew | apply below_drewN | apply balloc | (refine Below.setCell ?_ (by first | omega | (simp <;> omega)) _))))).mono ?_
  rintro e w3 ⟨rfl, hb⟩
  have K3 := K2.call hb
  have hb3 := K3.bel
  clear hb x0 x1 x2 y0 y1 y2 K2 hb2
  obtain ⟨x0, x1, x2, y0, y1, y2⟩ := K3.cells
  have lt3 := K3.lt
  (go_wp2_with fail; repeat (any_goals (go_quiet (fail); go_wp2_with fail)))
  refine (L.out w3.heap.size _ (hE.env.next (by repeat (first | assumption | exact Below.refl _ _ | apply Below.drew | apply below_drewN | apply balloc | (refine Below.setCell ?_ (by first | omega | (simp <;> omega)) _)))) (heap_alloc_new w3 _)).mono ?_
  rintro e w4 ⟨rfl, hb⟩
  have K4 := K3.call (bcall (balloc (Below.refl _ _)) hb)
  have hb4 := K4.bel
  clear hb x0 x1 x2 y0 y1 y2 K3 hb3 lt3
  (go_wp2_with fail; repeat (any_goals (go_quiet (fail); go_wp2_with fail)))
  go_ret
  exact ⟨rfl, hb4⟩
set_option maxHeartbeats 2000000 in
set_option maxRecDepth 100000 in
theorem EQ_no {A : Nat → Addr} {B : Nat} (k n k' n' : Int) (t t' : ByteArray) (r1 r2 r3 r4 : Value) (i : Int) (a : Addr) (w : World) (hE : EnvN A B w)
    (C1 : Hid (∀ w, Env A B SV w → Calls Tryd.prog 18 #[.agg #[.int .i64 k, .int .i64 n, .string t]] w fun e w' => e = .returned (.tuple #[r1, .iface 226 r2]) ∧ Below w.heap.size w w'))
    (C2 : Hid (∀ w, Env A B SV w → Calls Tryd.prog 18 #[.agg #[.int .i64 k', .int .i64 n', .string t']] w fun e w' => e = .returned (.tuple #[r3, .nilIface]) ∧ Below w.heap.size w w'))
    (L : Hid (∀ g w, Env A B SV w → w.heap[g]? = some (.cells #[.int .i64 k', .int .i64 n', .string t', .int .i64 k, .int .i64 n, .string t] 46 (0, 0)) →
      Calls Tryd.prog 21 #[.slice (some ⟨g, 0, none⟩) 2 2] w fun e w' => e = .returned (.tuple #[.slice none 0 0, .int .i64 i, .iface 226 (.pointer (some a))]) ∧ Below w.heap.size w w')) :
    Calls Tryd.prog 7 #[.agg #[.int .i64 k, .int .i64 n, .string t], .agg #[.int .i64 k', .int .i64 n', .string t']] w fun e w' => e = .returned (.bool true) ∧ Below w.heap.size w w' := by
  have F := Lib.hid (fun w hE => fixed_calls (A := A) (B := B) w hE)
  go_enter Tryd.func7, Tryd.ntmps7
  (go_wp2_with fail; repeat (any_goals (go_quiet (fail); go_wp2_with fail)))
  refine (F.out _ (hE.next (by repeat (first | assumption | exact Below.refl _ _ | apply Below.drew | apply below_drewN | apply balloc | (refine Below.setCell ?_ (by first | omega | (simp <;> omega)) _))))).mono ?_
  rintro e w1 ⟨rfl, hb⟩
  have K1 := Two.mk0 hb
  have hb1 := K1.bel
  obtain ⟨x0, x1, x2, y0, y1, y2⟩ := K1.cells
  clear hb
  (go_wp2_with fail; repeat (any_goals (go_quiet (fail); go_wp2_with fail)))
  refine (C1.out _ (hE.env.next (by repeat (first | assumption | exact Below.refl _ _ | apply Below.drew | apply below_drewN | apply balloc | (refine Below.setCell ?_ (by first | omega | (simp <;> omega)) _))))).mono ?_
  rintro e w2 ⟨rfl, hb⟩
  have K2 := K1.call hb
  have hb2 := K2.bel
  clear hb x0 x1 x2 y0 y1 y2 K1 hb1
  obtain ⟨x0, x1, x2, y0, y1, y2⟩ := K2.cells
  (go_wp2_with fail; repeat (any_goals (go_quiet (fail); go_wp2_with fail)))
  refine (C2.out _ (hE.env.next (by repeat (first | assumption | exact Below.refl _ _ | apply Below.drew | apply below_drewN | apply balloc | (refine Below.setCell ?_ (by first | omega | (simp <;> omega)) _))))).mono ?_
  rintro e w3 ⟨rfl, hb⟩
  have K3 := K2.call hb
  have hb3 := K3.bel
  clear hb x0 x1 x2 y0 y1 y2 K2 hb2
  obtain ⟨x0, x1, x2, y0, y1, y2⟩ := K3.cells
  have lt3 := K3.lt
  (go_wp2_with fail; repeat (any_goals (go_quiet (fail); go_wp2_with fail)))
  refine (L.out w3.heap.size _ (hE.env.next (by repeat (first | assumption | exact Below.refl _ _ | apply Below.drew | apply below_drewN | apply balloc | (refine Below.setCell ?_ (by first | omega | (simp <;> omega)) _)))) (heap_alloc_new w3 _)).mono ?_
  rintro e w4 ⟨rfl, hb⟩
  have K4 := K3.call (bcall (balloc (Below.refl _ _)) hb)
  have hb4 := K4.bel
  clear hb x0 x1 x2 y0 y1 y2 K3 hb3 lt3
  (go_wp2_with fail; repeat (any_goals (go_quiet (fail); go_wp2_with fail)))
  go_ret
  exact ⟨rfl, hb4⟩
set_option maxHeartbeats 2000000 in
set_option maxRecDepth 100000 in
theorem EQ_nn {A : Nat → Addr} {B : Nat} (k n k' n' : Int) (t t' : ByteArray) (r1 r2 r3 r4 : Value) (i : Int) (a : Addr) (w : World) (hE : EnvN A B w)
    (C1 : Hid (∀ w, Env A B SV w → Calls Tryd.prog 18 #[.agg #[.int .i64 k, .int .i64 n, .string t]] w fun e w' => e = .returned (.tuple #[r1, .iface 226 r2]) ∧ Below w.heap.size w w'))
    (C2 : Hid (∀ w, Env A B SV w → Calls Tryd.prog 18 #[.agg #[.int .i64 k', .int .i64 n', .string t']] w fun e w' => e = .returned (.tuple #[r3, .iface 226 r4]) ∧ Below w.heap.size w w'))
    (L : Hid (∀ g w, Env A B SV w → w.heap[g]? = some (.cells #[.int .i64 k', .int .i64 n', .string t', .int .i64 k, .int .i64 n, .string t] 46 (0, 0)) →
      Calls Tryd.prog 21 #[.slice (some ⟨g, 0, none⟩) 2 2] w fun e w' => e = .returned (.tuple #[.slice none 0 0, .int .i64 i, .iface 226 (.pointer (some a))]) ∧ Below w.heap.size w w')) :
    Calls Tryd.prog 7 #[.agg #[.int .i64 k, .int .i64 n, .string t], .agg #[.int .i64 k', .int .i64 n', .string t']] w fun e w' => e = .returned (.bool true) ∧ Below w.heap.size w w' := by
  have F := Lib.hid (fun w hE => fixed_calls (A := A) (B := B) w hE)
  go_enter Tryd.func7, Tryd.ntmps7
  (go_wp2_with fail; repeat (any_goals (go_quiet (fail); go_wp2_with fail)))
  refine (F.out _ (hE.next (by repeat (first | assumption | exact Below.refl _ _ | apply Below.drew | apply below_drewN | apply balloc | (refine Below.setCell ?_ (by first | omega | (simp <;> omega)) _))))).mono ?_
  rintro e w1 ⟨rfl, hb⟩
  have K1 := Two.mk0 hb
  have hb1 := K1.bel
  obtain ⟨x0, x1, x2, y0, y1, y2⟩ := K1.cells
  clear hb
  (go_wp2_with fail; repeat (any_goals (go_quiet (fail); go_wp2_with fail)))
  refine (C1.out _ (hE.env.next (by repeat (first | assumption | exact Below.refl _ _ | apply Below.drew | apply below_drewN | apply balloc | (refine Below.setCell ?_ (by first | omega | (simp <;> omega)) _))))).mono ?_
  rintro e w2 ⟨rfl, hb⟩
  have K2 := K1.call hb
  have hb2 := K2.bel
  clear hb x0 x1 x2 y0 y1 y2 K1 hb1
  obtain ⟨x0, x1, x2, y0, y1, y2⟩ := K2.cells
  (go_wp2_with fail; repeat (any_goals (go_quiet (fail); go_wp2_with fail)))
  refine (C2.out _ (hE.env.next (by repeat (first | assumption | exact Below.refl _ _ | apply Below.drew | apply below_drewN | apply balloc | (refine Below.setCell ?_ (by first | omega | (simp <;> omega)) _))))).mono ?_
  rintro e w3 ⟨rfl, hb⟩
  have K3 := K2.call hb
  have hb3 := K3.bel
  clear hb x0 x1 x2 y0 y1 y2 K2 hb2
  obtain ⟨x0, x1, x2, y0, y1, y2⟩ := K3.cells
  have lt3 := K3.lt
  (go_wp2_with fail; repeat (any_goals (go_quiet (fail); go_wp2_with fail)))
  refine (L.out w3.heap.size _ (hE.env.next (by repeat (first | assumption | exact Below.refl _ _ | apply Below.drew | apply below_drewN | apply balloc | (refine Below.setCell ?_ (by first | omega | (simp <;> omega)) _)))) (heap_alloc_new w3 _)).mono ?_
  rintro e w4 ⟨rfl, hb⟩
  have K4 := K3.call (bcall (balloc (Below.refl _ _)) hb)
  have hb4 := K4.bel
  clear hb x0 x1 x2 y0 y1 y2 K3 hb3 lt3
  (go_wp2_with fail; repeat (any_goals (go_quiet (fail); go_wp2_with fail)))
  go_ret
  exact ⟨rfl, hb4⟩

theorem ValuesEqual_calls {A : Nat → Addr} {B : Nat} (k n : Int) (t : ByteArray) (k' n' : Int) (t' : ByteArray) (w : World) (ht : t.size ≤ 140737488351232) (ht' : t'.size ≤ 140737488351232) (h0 : -9223372036854775808 ≤ n) (h1 : n ≤ 9223372036854775807)
    (_h0' : -9223372036854775808 ≤ n') (_h1' : n' ≤ 9223372036854775807) (hE : EnvN A B w) :
    Calls Tryd.prog 7 #[.agg #[.int .i64 k, .int .i64 n, .string t], .agg #[.int .i64 k', .int .i64 n', .string t']] w fun e w' => e = .returned (.bool true) ∧ Below w.heap.size w w' := by
  by_cases hv : vCheck ⟨k, n, t⟩ = 0
  · by_cases hv' : vCheck ⟨k', n', t'⟩ = 0
    · exact EQ_good k n k' n' t t' w ht ht' h0 h1 hE hv hv'
    · exact EQ_on k n k' n' t t' _ .nilIface _ _ _ _ w hE (Lib.hid fun w hE => Of_ok k n t w ht hE hv) (Lib.hid fun w hE => Of_bad k' n' t' w ht' hE (Nat.pos_of_ne_zero hv')) (Lib.hid fun g w hE hg => List_bad1 k' n' k n t' t g w ht' hE (Nat.pos_of_ne_zero hv') hg)
  · by_cases hv' : vCheck ⟨k', n', t'⟩ = 0
    · exact EQ_no k n k' n' t t' _ _ _ .nilIface _ _ w hE (Lib.hid fun w hE => Of_bad k n t w ht hE (Nat.pos_of_ne_zero hv)) (Lib.hid fun w hE => Of_ok k' n' t' w ht' hE hv') (Lib.hid fun g w hE hg => List_bad2 k' n' k n t' t g w ht' ht hE hv' (Nat.pos_of_ne_zero hv) hg)
    · exact EQ_nn k n k' n' t t' _ _ _ _ _ _ w hE (Lib.hid fun w hE => Of_bad k n t w ht hE (Nat.pos_of_ne_zero hv)) (Lib.hid fun w hE => Of_bad k' n' t' w ht' hE (Nat.pos_of_ne_zero hv')) (Lib.hid fun g w hE hg => List_bad1 k' n' k n t' t g w ht' hE (Nat.pos_of_ne_zero hv') hg)

end Go.Proofs.YtfdhklpabhhjjaaDoor
