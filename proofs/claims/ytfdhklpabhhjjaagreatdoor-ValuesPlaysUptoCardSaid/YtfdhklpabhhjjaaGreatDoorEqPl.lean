/- The same plain values; two blocks that are kept. -/
import Derived.Test.YtfdhklpabhhjjaaGreatDoorVal4
namespace Go.Proofs.YtfdhklpabhhjjaaGreatDoor
open Go Go.RowKit

/-- The same plain value? -/
def eqPl (p q : Pl) : Bool := p.kind == q.kind && (p.num == q.num && p.text.toList == q.text.toList)
theorem eqPl_iff {p q : Pl} : eqPl p q = true ↔ p = q := by
  obtain ⟨k, n, t⟩ := p
  obtain ⟨k', n', t'⟩ := q
  simp only [eqPl, Bool.and_eq_true, beq_iff_eq, Pl.mk.injEq, Lib.toList_data]
  constructor
  · rintro ⟨h1, h2, h3⟩
    refine ⟨h1, h2, ?_⟩
    obtain ⟨⟨l⟩⟩ := t
    obtain ⟨⟨l'⟩⟩ := t'
    simp only at h3
    rw [h3]
  · rintro ⟨rfl, rfl, rfl⟩
    exact ⟨rfl, rfl, rfl⟩
theorem eqP_run (k n k' n' : Int) (t t' : ByteArray) (w : World) :
    (binOp .eql 50 (.agg #[.int .i64 k, .int .i64 n, .string t]) (.agg #[.int .i64 k', .int .i64 n', .string t'])).run Tryz.prog w = .ok (.bool (eqPl ⟨k, n, t⟩ ⟨k', n', t'⟩)) w := by
  unfold eqPl
  go_simp
  (repeat' split) <;> simp_all
theorem eqV_num (n n' : Int) (w : World) : (binOp .eql 53 (.iface 157 (.int .i64 n)) (.iface 157 (.int .i64 n'))).run Tryz.prog w = .ok (.bool (n == n')) w := by kernel_rfl
theorem eqV_text (t t' : ByteArray) (w : World) : (binOp .eql 53 (.iface 158 (.string t)) (.iface 158 (.string t'))).run Tryz.prog w = .ok (.bool (t == t')) w := by kernel_rfl
theorem eqV_run {p q : Pl} (hp : vCheck p = 0) (hq : vCheck q = 0) (w : World) : (binOp .eql 53 (valV p) (valV q)).run Tryz.prog w = .ok (.bool (eqPl p q)) w := by
  obtain ⟨k, n, t⟩ := p
  obtain ⟨k', n', t'⟩ := q
  rcases good_cases hp with ⟨rfl, rfl, rfl⟩ | ⟨rfl, rfl, rfl⟩ | ⟨rfl, rfl, rfl⟩ | ⟨rfl, rfl⟩ | ⟨rfl, rfl, h2⟩
  · rcases good_cases hq with ⟨rfl, rfl, rfl⟩ | ⟨rfl, rfl, rfl⟩ | ⟨rfl, rfl, rfl⟩ | ⟨rfl, rfl⟩ | ⟨rfl, rfl, h2⟩ <;> kernel_rfl
  · rcases good_cases hq with ⟨rfl, rfl, rfl⟩ | ⟨rfl, rfl, rfl⟩ | ⟨rfl, rfl, rfl⟩ | ⟨rfl, rfl⟩ | ⟨rfl, rfl, h2⟩ <;> kernel_rfl
  · rcases good_cases hq with ⟨rfl, rfl, rfl⟩ | ⟨rfl, rfl, rfl⟩ | ⟨rfl, rfl, rfl⟩ | ⟨rfl, rfl⟩ | ⟨rfl, rfl, h2⟩ <;> kernel_rfl
  · rcases good_cases hq with ⟨rfl, rfl, rfl⟩ | ⟨rfl, rfl, rfl⟩ | ⟨rfl, rfl, rfl⟩ | ⟨rfl, rfl⟩ | ⟨rfl, rfl, h2⟩
    · kernel_rfl
    · kernel_rfl
    · kernel_rfl
    · refine (eqV_num n n' w).trans ?_
      simp [eqPl]
    · kernel_rfl
  · rcases good_cases hq with ⟨rfl, rfl, rfl⟩ | ⟨rfl, rfl, rfl⟩ | ⟨rfl, rfl, rfl⟩ | ⟨rfl, rfl⟩ | ⟨rfl, rfl, h3⟩
    · kernel_rfl
    · kernel_rfl
    · kernel_rfl
    · kernel_rfl
    · refine (eqV_text t t' w).trans ?_
      simp [eqPl, beq_toListBytes]

/-- Two blocks that are kept, beside what lay below. -/
structure Two (w0 : World) (a b : Array Value) (t : TypeId) (w : World) : Prop where
  fst : w.heap[w0.heap.size]? = some (.cells a t (0, 0))
  snd : w.heap[w0.heap.size + 1]? = some (.cells b t (0, 0))
  bel : Below w0.heap.size w0 w
theorem Two.call {w0 : World} {a b : Array Value} {t : TypeId} {w w1 : World} (h : Two w0 a b t w) (hb : Below w.heap.size w w1) : Two w0 a b t w1 := ⟨box_next h.fst hb, box_next h.snd hb, bcall h.bel hb⟩
theorem Two.drew {w0 : World} {a b : Array Value} {t : TypeId} {w : World} (h : Two w0 a b t w) : Two w0 a b t w.drew := ⟨h.fst, h.snd, h.bel.drew⟩
theorem Two.lt {w0 : World} {a b : Array Value} {t : TypeId} {w : World} (h : Two w0 a b t w) : w0.heap.size + 1 < w.heap.size := ltB h.snd
theorem Two.cells {w0 : World} {a b c a' b' c' : Value} {t : TypeId} {w : World} (h : Two w0 #[a, b, c] #[a', b', c'] t w) :
    w.cell? ⟨w0.heap.size, 0, none⟩ = some a ∧ w.cell? ⟨w0.heap.size, 1, none⟩ = some b ∧ w.cell? ⟨w0.heap.size, 2, none⟩ = some c ∧
    w.cell? ⟨w0.heap.size + 1, 0, none⟩ = some a' ∧ w.cell? ⟨w0.heap.size + 1, 1, none⟩ = some b' ∧ w.cell? ⟨w0.heap.size + 1, 2, none⟩ = some c' :=
  ⟨cellB h.fst 0 rfl, cellB h.fst 1 rfl, cellB h.fst 2 rfl, cellB h.snd 0 rfl, cellB h.snd 1 rfl, cellB h.snd 2 rfl⟩
theorem Two.mk0 {w W1 : World} {a b : Array Value} {t : TypeId} (hb : Below ((w.alloc (.cells a t (0, 0))).alloc (.cells b t (0, 0))).heap.size ((w.alloc (.cells a t (0, 0))).alloc (.cells b t (0, 0))) W1) : Two w a b t W1 where
  fst := by
    rw [hb.block _ (by simp; omega), Below.heap_alloc _ _ _ (by simp)]
    exact heap_alloc_new w _
  snd := by
    have h := boxed hb
    rw [show (w.alloc (.cells a t (0, 0))).heap.size = w.heap.size + 1 by simp] at h
    exact h
  bel := bcall (balloc (balloc (Below.refl _ _))) hb


end Go.Proofs.YtfdhklpabhhjjaaGreatDoor
