/- The reference's UTF-8: decode, Breaks, Utf8. -/
import Derived.Test.YtnldhgkmbighkaaDoorRef2
import Derived.OwnWalk
import Derived.Laws.AppendOwn
namespace Go.Proofs.YtnldhgkmbighkaaDoor
open Go Go.RowKit

theorem refF_bd (b : Nat → Nat) (n : Nat) : (refF b n).2 ≤ n ∧ (refF b n).2 ≤ 4 ∧ (refF b n).1 ≤ 1114111 := by
  unfold refF
  have h4 : rN (b 0) ≤ 4 := by
    unfold rN
    repeat' split
    all_goals omega
  by_cases h : n < rN (b 0)
  · rw [if_pos h]; simp
  · rw [if_neg h]
    split
    · rename_i k
      exact ⟨by simp only; omega, h4, scalarN_le k.1⟩
    · simp
/-- The scalar at a place, and its bytes. -/
def refAt (s : ByteArray) (a : Nat) : Nat × Nat := refF (fun j => bAt s (a + j)) (s.size - a)
/-- The scalars from a place on up to where the text breaks, and that place. -/
def refDec (s : ByteArray) : Nat → Nat → List Nat × Nat
  | 0, a => ([], a)
  | k + 1, a => if a < s.size then (if (refAt s a).2 = 0 then ([], a) else ((refAt s a).1 :: (refDec s k (a + (refAt s a).2)).1, (refDec s k (a + (refAt s a).2)).2)) else ([], a)
def i32s (l : List Nat) : List Value := l.map fun x : Nat => Value.int .i32 (x : Int)
theorem infoI32 : (Tryd.prog.info? 21).map (fun i => (i.zero, i.size, i.bytes)) = some (some (.int .i32 0), 1, 4) := by kernel_rfl
theorem own_next {w w' : World} {base e size : Nat} {v : Value} {n : Nat} {xs : List Value} (h : w.ownsRow base e size v n xs) (hb : Below w.heap.size w w') : w'.ownsRow base e size v n xs :=
  h.kept (row := none) ⟨hb.os, hb.tape, hb.output, hb.size, fun k hk _ => hb.block k hk⟩ (by cases hv : v.ownBlock <;> simp)
theorem own_lit0 {w : World} {base e size : Nat} (h : base ≤ w.heap.size) : (w.alloc (.cells #[] e)).ownsRow base e size (.slice (some ⟨w.heap.size, 0, none⟩) 0 0) 0 [] :=
  World.ownsRow_made w #[] 0 h (by decide) (by simp)
theorem brk_step {s : ByteArray} {k a : Nat} (h : a < s.size) (h0 : (refAt s a).2 ≠ 0) : refDec s (k + 1) a = ((refAt s a).1 :: (refDec s k (a + (refAt s a).2)).1, (refDec s k (a + (refAt s a).2)).2) := by
  rw [refDec, if_pos h, if_neg h0]
theorem brk_end {s : ByteArray} {k a : Nat} (h : ¬ a < s.size ∨ (refAt s a).2 = 0) : refDec s (k + 1) a = ([], a) := by
  rw [refDec]
  rcases h with h | h
  · rw [if_neg h]
  · by_cases h2 : a < s.size
    · rw [if_pos h2, if_pos h]
    · rw [if_neg h2]
set_option maxHeartbeats 1000000 in
set_option maxRecDepth 100000 in
theorem decode_calls (s : ByteArray) (w : World) (hs : s.size ≤ 35184372088830) :
    Calls Tryd.prog 53 #[.string s] w fun e w' => ∃ v, e = .returned (.tuple #[v, .int .i64 (refDec s (s.size + 1) 0).2]) ∧ w'.ownsRow w.heap.size 21 1 v (refDec s (s.size + 1) 0).1.length (i32s (refDec s (s.size + 1) 0).1) ∧ Below w.heap.size w w' := by
  have F := Lib.hid (fun a w h => first_calls s a w (by omega) h)
  obtain ⟨R, R2, hR⟩ : ∃ R R2, (R, R2) = refDec s (s.size + 1) 0 := ⟨_, _, rfl⟩
  rw [← hR]
  replace hR := Lib.hid hR
  replace hs := Lib.hid hs
  obtain ⟨i0, hi, hi2⟩ := Option.map_eq_some_iff.1 infoI32
  simp only [Prod.mk.injEq] at hi2
  obtain ⟨hz0, hz1, hz2⟩ := hi2
  replace hi := Lib.hid hi
  replace hz0 := Lib.hid hz0
  replace hz1 := Lib.hid hz1
  replace hz2 := Lib.hid hz2
  go_enter Tryd.func53, Tryd.ntmps53
  (go_wp2_with fail; repeat (any_goals (go_quiet (fail); go_wp2_with fail)))
  go_loopg [4, 5] (s.size + 1) (fun kq v4 v5 w' => ∃ (l : List Nat) (a : Nat), v5 = .int .i64 (a : Int) ∧ Hid (l ++ (refDec s kq a).1 = R ∧ (refDec s kq a).2 = R2 ∧ a ≤ s.size ∧ l.length ≤ a ∧ s.size < a + kq ∧ w'.ownsRow w.heap.size 21 1 v4 l.length (i32s l)) ∧ Below w.heap.size w w')
  case atStart => exact ⟨[], 0, rfl, Lib.hid ⟨by rw [← hR.out]; rfl, by rw [← hR.out], Nat.zero_le _, Nat.le_refl _, by omega, own_lit0 (Nat.le_refl _)⟩, (by repeat (first | assumption | exact Below.refl _ _ | apply Below.drew | apply below_drewN | apply balloc | (refine Below.setCell ?_ (by first | omega | (simp <;> omega)) _)))⟩
  case round =>
    obtain ⟨l, a, rfl, H, hB⟩ := hrel
    obtain ⟨h1, h2, h3, h4, h5, ho⟩ := H.out
    obtain ⟨kq, rfl⟩ : ∃ k, gk = k + 1 := ⟨gk - 1, by omega⟩
    have hsz := hs.out
    by_cases hlt : a < s.size
    · obtain ⟨b1, b2, b3⟩ := refF_bd (fun j => bAt s (a + j)) (s.size - a)
      have C := Lib.hid (fun w => F.out a w hlt)
      have hI : ((a : Int) < (s.size : Int)) := by omega
      by_cases h0 : (refAt s a).2 = 0
      · rw [brk_end (Or.inr h0)] at h1 h2
        simp only [List.append_nil] at h1 h2
        replace C : Hid (∀ w, Calls Tryd.prog 70 #[.string s, .int .i64 (a : Int)] w fun e w' => e = .returned (.tuple #[.int .i32 ((refAt s a).1 : Int), .int .i64 0]) ∧ Below w.heap.size w w') := Lib.hid (fun w => by
          have := C.out w
          rw [show refF (fun j => bAt s (a + j)) (s.size - a) = refAt s a from rfl, h0] at this
          exact this)
        replace ho := Lib.hid ho
        replace h1 := Lib.hid h1
        replace h2 := Lib.hid h2
        generalize (refAt s a).1 = r at *
        clear H h3 h4 h5 hsz hlt b1 b2 b3 h0
        (go_wp2_with fail; repeat (any_goals (go_quiet (fail); go_wp2_with fail)))
        refine (C.out _).mono ?_
        rintro e w1 ⟨rfl, hb⟩
        have hb1 : Below w.heap.size w w1 := bcall (by repeat (first | assumption | exact Below.refl _ _ | apply Below.drew | apply below_drewN | apply balloc | (refine Below.setCell ?_ (by first | omega | (simp <;> omega)) _))) hb
        replace ho := Lib.hid (own_next ho.out hb)
        clear hb
        (go_wp2_with fail; repeat (any_goals (go_quiet (fail); go_wp2_with fail)))
        go_ret2
        have h1 := h1.out
        have h2 := h2.out
        subst h1 h2
        exact ⟨_, rfl, ho.out, (by repeat (first | assumption | exact Below.refl _ _ | apply Below.drew | apply below_drewN | apply balloc | (refine Below.setCell ?_ (by first | omega | (simp <;> omega)) _)))⟩
      · rw [brk_step hlt h0] at h1 h2
        replace C : Hid (∀ w, Calls Tryd.prog 70 #[.string s, .int .i64 (a : Int)] w fun e w' => e = .returned (.tuple #[.int .i32 ((refAt s a).1 : Int), .int .i64 ((refAt s a).2 : Int)]) ∧ Below w.heap.size w w') := Lib.hid (fun w => C.out w)
        rw [show refF (fun j => bAt s (a + j)) (s.size - a) = refAt s a from rfl] at b1 b2 b3
        replace ho := Lib.hid ho
        replace h1 := Lib.hid h1
        replace h2 := Lib.hid h2
        generalize (refAt s a).1 = r at *
        generalize (refAt s a).2 = m at *
        have hm : ((m : Int) == 0) = false := by simp; omega
        replace h0 := Lib.hid h0
        replace h4 := Lib.hid h4
        replace h5 := Lib.hid h5
        replace h3 := Lib.hid h3
        replace b1 := Lib.hid b1
        replace b3 := Lib.hid b3
        clear H hlt
        have hw : IntKind.i64.wrap ((a : Int) + (m : Int)) = ((a + m : Nat) : Int) := by
          have := h3.out
          simp [IntKind.wrap, IntKind.signed, IntKind.bits]; omega
        (go_wp2_with fail; repeat (any_goals (go_quiet (fail); go_wp2_with fail)))
        refine (C.out _).mono ?_
        rintro e w1 ⟨rfl, hb⟩
        have hb1 : Below w.heap.size w w1 := bcall (by repeat (first | assumption | exact Below.refl _ _ | apply Below.drew | apply below_drewN | apply balloc | (refine Below.setCell ?_ (by first | omega | (simp <;> omega)) _))) hb
        replace ho := Lib.hid (own_next ho.out hb)
        clear hb
        have hsz1 := hb1.size
        go_wp2_with (at_builtin; refine wpList_append_own _ rfl _ _ 133 rfl w.heap.size 21 i0 (.int .i32 0) 1 4 Tryd.underlying133 hi.out hz0.out hz1.out hz2.out rfl (by decide) _ _ _ rfl (ho.out.alloc _) ⟨w1.heap.size, 0, none⟩ 1 1 [.int .i32 (r : Int)] rfl rfl ?c1 ?c2 ?c3 ?c4 ?c5 ?_)
        case c1 =>
          intro j u hj
          match j, hj with
          | 0, hj => simp at hj; subst hj; simp [Addr.add]
        case c2 => intro u hu; simp at hu; subst hu; rfl
        case c3 => have := h4.out; have := h3.out; have := hs.out; unfold maxLen; omega
        case c4 => have := h4.out; have := h3.out; have := hs.out; omega
        case c5 => simp; omega
        intro v' w2 ho2 hg _
        have hb2 : Below w.heap.size w w2 := (hb1.alloc (by omega) _).grown hg (by simp; omega) (fun k hk => (ho.out.lt k hk).1)
        replace ho2 := Lib.hid ho2
        clear hg hb1 hsz1
        (go_wp2_with fail; repeat (any_goals (go_quiet (fail); go_wp2_with fail)))
        go_roundg kq
        case measure => omega
        case rel =>
          have h0 := h0.out
          have h1 := h1.out
          have h2 := h2.out
          have h3 := h3.out
          have h4 := h4.out
          have h5 := h5.out
          have b1 := b1.out
          refine ⟨l ++ [r], a + m, by simp, Lib.hid ⟨by rw [← h1]; simp, by rw [← h2], by omega, by simp; omega, by omega, ?_⟩, by assumption⟩
          have := ho2.out
          simpa [i32s] using this
    · rw [brk_end (Or.inl hlt)] at h1 h2
      simp only [List.append_nil] at h1 h2
      have hI : ¬ ((a : Int) < (s.size : Int)) := by omega
      replace ho := Lib.hid ho
      replace h1 := Lib.hid h1
      replace h2 := Lib.hid h2
      clear H h3 h4 h5 hsz hlt
      (go_wp2_with fail; repeat (any_goals (go_quiet (fail); go_wp2_with fail)))
      go_ret2
      have h1 := h1.out
      have h2 := h2.out
      subst h1 h2
      exact ⟨_, rfl, ho.out, (by repeat (first | assumption | exact Below.refl _ _ | apply Below.drew | apply below_drewN | apply balloc | (refine Below.setCell ?_ (by first | omega | (simp <;> omega)) _)))⟩

end Go.Proofs.YtnldhgkmbighkaaDoor
