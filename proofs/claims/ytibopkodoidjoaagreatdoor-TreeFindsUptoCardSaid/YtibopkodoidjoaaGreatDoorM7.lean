/- Lemmas of the proof, put together: Fmt2, Rd9, Fmt3, StepApp, Fmt4, TreeName, TreeCount, TreeBlPlain, TreeTok, TreeCount2, TreeNum, Strs, TreeFind, TreeFind2, Uq. -/
import Derived.Test.YtibopkodoidjoaaGreatDoorM6
import Derived.Test.YtibopkodoidjoaaGreatDoorM5
import Derived.Test.YtibopkodoidjoaaGreatDoorM2
import Derived.Deep.RegionLaw
import Derived.Test.YtibopkodoidjoaaGreatDoorShelfB
import Derived.Lib.AtoiErrMem
import Derived.Test.YtibopkodoidjoaaGreatDoorM1
import Derived.SliceStrings

/- Package tree: format of a list. -/
namespace Go.Proofs.YtibopkodoidjoaaGreatDoor
open Go Go.RowKit

@[go_sem] theorem as_NodeNull_NodeNull (v : Value) (w : World) : (Instr.typeAssert (.iface 90 v) 24 90 true).run Tryz.prog w = .ok (.tuple #[v, .bool true]) w := by kernel_rfl
@[go_sem] theorem as_NodeNull_NodeFlag (v : Value) (w : World) : (Instr.typeAssert (.iface 90 v) 24 92 true).run Tryz.prog w = .ok (.tuple #[.agg #[.int .i64 0, .bool false], .bool false]) w := by kernel_rfl
@[go_sem] theorem as_NodeNull_NodeNumber (v : Value) (w : World) : (Instr.typeAssert (.iface 90 v) 24 94 true).run Tryz.prog w = .ok (.tuple #[.agg #[.int .i64 0, .string ⟨#[]⟩], .bool false]) w := by kernel_rfl
@[go_sem] theorem as_NodeNull_NodeText (v : Value) (w : World) : (Instr.typeAssert (.iface 90 v) 24 95 true).run Tryz.prog w = .ok (.tuple #[.agg #[.int .i64 0, .string ⟨#[]⟩], .bool false]) w := by kernel_rfl
@[go_sem] theorem as_NodeNull_NodeList (v : Value) (w : World) : (Instr.typeAssert (.iface 90 v) 24 98 true).run Tryz.prog w = .ok (.tuple #[.agg #[.int .i64 0, .slice none 0 0], .bool false]) w := by kernel_rfl
@[go_sem] theorem as_NodeNull_NodeObject (v : Value) (w : World) : (Instr.typeAssert (.iface 90 v) 24 101 true).run Tryz.prog w = .ok (.tuple #[.agg #[.int .i64 0, .slice none 0 0], .bool false]) w := by kernel_rfl
@[go_sem] theorem as_NodeFlag_NodeNull (v : Value) (w : World) : (Instr.typeAssert (.iface 92 v) 24 90 true).run Tryz.prog w = .ok (.tuple #[.agg #[.int .i64 0], .bool false]) w := by kernel_rfl
@[go_sem] theorem as_NodeFlag_NodeFlag (v : Value) (w : World) : (Instr.typeAssert (.iface 92 v) 24 92 true).run Tryz.prog w = .ok (.tuple #[v, .bool true]) w := by kernel_rfl
@[go_sem] theorem as_NodeFlag_NodeNumber (v : Value) (w : World) : (Instr.typeAssert (.iface 92 v) 24 94 true).run Tryz.prog w = .ok (.tuple #[.agg #[.int .i64 0, .string ⟨#[]⟩], .bool false]) w := by kernel_rfl
@[go_sem] theorem as_NodeFlag_NodeText (v : Value) (w : World) : (Instr.typeAssert (.iface 92 v) 24 95 true).run Tryz.prog w = .ok (.tuple #[.agg #[.int .i64 0, .string ⟨#[]⟩], .bool false]) w := by kernel_rfl
@[go_sem] theorem as_NodeFlag_NodeList (v : Value) (w : World) : (Instr.typeAssert (.iface 92 v) 24 98 true).run Tryz.prog w = .ok (.tuple #[.agg #[.int .i64 0, .slice none 0 0], .bool false]) w := by kernel_rfl
@[go_sem] theorem as_NodeFlag_NodeObject (v : Value) (w : World) : (Instr.typeAssert (.iface 92 v) 24 101 true).run Tryz.prog w = .ok (.tuple #[.agg #[.int .i64 0, .slice none 0 0], .bool false]) w := by kernel_rfl
@[go_sem] theorem as_NodeNumber_NodeNull (v : Value) (w : World) : (Instr.typeAssert (.iface 94 v) 24 90 true).run Tryz.prog w = .ok (.tuple #[.agg #[.int .i64 0], .bool false]) w := by kernel_rfl
@[go_sem] theorem as_NodeNumber_NodeFlag (v : Value) (w : World) : (Instr.typeAssert (.iface 94 v) 24 92 true).run Tryz.prog w = .ok (.tuple #[.agg #[.int .i64 0, .bool false], .bool false]) w := by kernel_rfl
@[go_sem] theorem as_NodeNumber_NodeNumber (v : Value) (w : World) : (Instr.typeAssert (.iface 94 v) 24 94 true).run Tryz.prog w = .ok (.tuple #[v, .bool true]) w := by kernel_rfl
@[go_sem] theorem as_NodeNumber_NodeText (v : Value) (w : World) : (Instr.typeAssert (.iface 94 v) 24 95 true).run Tryz.prog w = .ok (.tuple #[.agg #[.int .i64 0, .string ⟨#[]⟩], .bool false]) w := by kernel_rfl
@[go_sem] theorem as_NodeNumber_NodeList (v : Value) (w : World) : (Instr.typeAssert (.iface 94 v) 24 98 true).run Tryz.prog w = .ok (.tuple #[.agg #[.int .i64 0, .slice none 0 0], .bool false]) w := by kernel_rfl
@[go_sem] theorem as_NodeNumber_NodeObject (v : Value) (w : World) : (Instr.typeAssert (.iface 94 v) 24 101 true).run Tryz.prog w = .ok (.tuple #[.agg #[.int .i64 0, .slice none 0 0], .bool false]) w := by kernel_rfl
@[go_sem] theorem as_NodeText_NodeNull (v : Value) (w : World) : (Instr.typeAssert (.iface 95 v) 24 90 true).run Tryz.prog w = .ok (.tuple #[.agg #[.int .i64 0], .bool false]) w := by kernel_rfl
@[go_sem] theorem as_NodeText_NodeFlag (v : Value) (w : World) : (Instr.typeAssert (.iface 95 v) 24 92 true).run Tryz.prog w = .ok (.tuple #[.agg #[.int .i64 0, .bool false], .bool false]) w := by kernel_rfl
@[go_sem] theorem as_NodeText_NodeNumber (v : Value) (w : World) : (Instr.typeAssert (.iface 95 v) 24 94 true).run Tryz.prog w = .ok (.tuple #[.agg #[.int .i64 0, .string ⟨#[]⟩], .bool false]) w := by kernel_rfl
@[go_sem] theorem as_NodeText_NodeText (v : Value) (w : World) : (Instr.typeAssert (.iface 95 v) 24 95 true).run Tryz.prog w = .ok (.tuple #[v, .bool true]) w := by kernel_rfl
@[go_sem] theorem as_NodeText_NodeList (v : Value) (w : World) : (Instr.typeAssert (.iface 95 v) 24 98 true).run Tryz.prog w = .ok (.tuple #[.agg #[.int .i64 0, .slice none 0 0], .bool false]) w := by kernel_rfl
@[go_sem] theorem as_NodeText_NodeObject (v : Value) (w : World) : (Instr.typeAssert (.iface 95 v) 24 101 true).run Tryz.prog w = .ok (.tuple #[.agg #[.int .i64 0, .slice none 0 0], .bool false]) w := by kernel_rfl
@[go_sem] theorem as_NodeList_NodeNull (v : Value) (w : World) : (Instr.typeAssert (.iface 98 v) 24 90 true).run Tryz.prog w = .ok (.tuple #[.agg #[.int .i64 0], .bool false]) w := by kernel_rfl
@[go_sem] theorem as_NodeList_NodeFlag (v : Value) (w : World) : (Instr.typeAssert (.iface 98 v) 24 92 true).run Tryz.prog w = .ok (.tuple #[.agg #[.int .i64 0, .bool false], .bool false]) w := by kernel_rfl
@[go_sem] theorem as_NodeList_NodeNumber (v : Value) (w : World) : (Instr.typeAssert (.iface 98 v) 24 94 true).run Tryz.prog w = .ok (.tuple #[.agg #[.int .i64 0, .string ⟨#[]⟩], .bool false]) w := by kernel_rfl
@[go_sem] theorem as_NodeList_NodeText (v : Value) (w : World) : (Instr.typeAssert (.iface 98 v) 24 95 true).run Tryz.prog w = .ok (.tuple #[.agg #[.int .i64 0, .string ⟨#[]⟩], .bool false]) w := by kernel_rfl
@[go_sem] theorem as_NodeList_NodeList (v : Value) (w : World) : (Instr.typeAssert (.iface 98 v) 24 98 true).run Tryz.prog w = .ok (.tuple #[v, .bool true]) w := by kernel_rfl
@[go_sem] theorem as_NodeList_NodeObject (v : Value) (w : World) : (Instr.typeAssert (.iface 98 v) 24 101 true).run Tryz.prog w = .ok (.tuple #[.agg #[.int .i64 0, .slice none 0 0], .bool false]) w := by kernel_rfl
@[go_sem] theorem as_NodeObject_NodeNull (v : Value) (w : World) : (Instr.typeAssert (.iface 101 v) 24 90 true).run Tryz.prog w = .ok (.tuple #[.agg #[.int .i64 0], .bool false]) w := by kernel_rfl
@[go_sem] theorem as_NodeObject_NodeFlag (v : Value) (w : World) : (Instr.typeAssert (.iface 101 v) 24 92 true).run Tryz.prog w = .ok (.tuple #[.agg #[.int .i64 0, .bool false], .bool false]) w := by kernel_rfl
@[go_sem] theorem as_NodeObject_NodeNumber (v : Value) (w : World) : (Instr.typeAssert (.iface 101 v) 24 94 true).run Tryz.prog w = .ok (.tuple #[.agg #[.int .i64 0, .string ⟨#[]⟩], .bool false]) w := by kernel_rfl
@[go_sem] theorem as_NodeObject_NodeText (v : Value) (w : World) : (Instr.typeAssert (.iface 101 v) 24 95 true).run Tryz.prog w = .ok (.tuple #[.agg #[.int .i64 0, .string ⟨#[]⟩], .bool false]) w := by kernel_rfl
@[go_sem] theorem as_NodeObject_NodeList (v : Value) (w : World) : (Instr.typeAssert (.iface 101 v) 24 98 true).run Tryz.prog w = .ok (.tuple #[.agg #[.int .i64 0, .slice none 0 0], .bool false]) w := by kernel_rfl
@[go_sem] theorem as_NodeObject_NodeObject (v : Value) (w : World) : (Instr.typeAssert (.iface 101 v) 24 101 true).run Tryz.prog w = .ok (.tuple #[v, .bool true]) w := by kernel_rfl
/-- The texts are small enough for Quote. -/
def smallT (t : ByteArray) : Prop := t.size ≤ 3518437208882
/-- What is asked of format at a node that lay in world w0. -/
def FmtC (A : Nat → Addr) (B : Nat) (w0 : World) (lo hi : Nat) (u : Value) (x : Nd) : Prop := ∀ w base v l, (∀ k, lo ≤ k → k < hi → w.heap[k]? = w0.heap[k]?) → Env A B SU w → hi ≤ base → base ≤ w.heap.size → B ≤ base → OwnB w base v l →
  l.length + (fmtN x).length ≤ 140737488355328 → allT smallT x → Calls Tryz.prog 39 #[v, u] w (OutR base w (l ++ fmtN x))
theorem sizeL (t : ByteArray) : t.data.toList.length = t.size := by rw [Array.length_toList]; rfl
section
variable {A : Nat → Addr} {B : Nat} {w0 : World}
set_option maxHeartbeats 1000000 in
set_option maxRecDepth 100000 in
theorem fmt_null (lo hi p : Nat)  : FmtC A B w0 lo hi (.iface 90 (.agg #[.int .i64 (p : Int)])) (.null p) := by
  intro w base v l hw hE hh hb hB ho hl hA
  rw [fmtN] at hl ⊢
  replace hw := Lib.hid hw
  replace ho := Lib.hid ho
  go_enter Tryz.func39, Tryz.ntmps39
  go_wp2_with (at_builtin; refine app_str rfl _ _ rfl base v l rfl (ho.out.alloc _) _ rfl hl (by simp; omega) ?_)
  intro v' w2 ho2 hg
  go_wp2_with fail
  go_ret
  exact ⟨v', rfl, ho2, ((FB.refl base w).alloc hb _).row (ho.out.alloc _) hg (by simp; omega)⟩
set_option maxHeartbeats 1000000 in
set_option maxRecDepth 100000 in
theorem fmt_num (lo hi p : Nat) (t : ByteArray) : FmtC A B w0 lo hi (.iface 94 (.agg #[.int .i64 (p : Int), .string t])) (.num p t) := by
  intro w base v l hw hE hh hb hB ho hl hA
  rw [fmtN] at hl ⊢
  replace hw := Lib.hid hw
  replace ho := Lib.hid ho
  go_enter Tryz.func39, Tryz.ntmps39
  go_wp2_with (at_builtin; refine app_str rfl _ _ rfl base v l rfl (ho.out.alloc _) _ rfl (by rw [← sizeL t]; exact hl) (by simp; omega) ?_)
  intro v' w2 ho2 hg
  go_wp2_with fail
  go_ret
  exact ⟨v', rfl, ho2, ((FB.refl base w).alloc hb _).row (ho.out.alloc _) hg (by simp; omega)⟩
set_option maxHeartbeats 1000000 in
set_option maxRecDepth 100000 in
theorem fmt_flag (lo hi p : Nat) (b : Bool) : FmtC A B w0 lo hi (.iface 92 (.agg #[.int .i64 (p : Int), .bool b])) (.flag p b) := by
  intro w base v l hw hE hh hb hB ho hl hA
  rw [fmtN] at hl ⊢
  replace hw := Lib.hid hw
  replace ho := Lib.hid ho
  go_enter Tryz.func39, Tryz.ntmps39
  (go_wp2_with fail; repeat (any_goals (go_quiet (fail); go_wp2_with fail)))
  refine (appBool_calls b v l _ (ho.out.alloc _) (by simp; omega) hl).mono ?_
  rintro e w2 ⟨v', rfl, ho2, hb2⟩
  go_wp2_with fail
  go_ret
  exact ⟨v', rfl, ho2, ((FB.refl _ _).alloc hb _).trans hb2⟩
set_option maxHeartbeats 1000000 in
set_option maxRecDepth 100000 in
theorem fmt_text (lo hi p : Nat) (t : ByteArray) : FmtC A B w0 lo hi (.iface 95 (.agg #[.int .i64 (p : Int), .string t])) (.text p t) := by
  intro w base v l hw hE hh hb hB ho hl hA
  rw [fmtN] at hl ⊢
  replace hw := Lib.hid hw
  replace ho := Lib.hid ho
  go_enter Tryz.func39, Tryz.ntmps39
  (go_wp2_with fail; repeat (any_goals (go_quiet (fail); go_wp2_with fail)))
  refine (quoted_calls t v l _ (hE.next (by repeat (first | assumption | exact Below.refl _ _ | apply Below.drew | apply below_drewN | apply balloc | (refine Below.setCell ?_ (by first | omega | (simp <;> omega)) _)))) (ho.out.alloc _) (by simp; omega) hA hl).mono ?_
  rintro e w2 ⟨⟨v', rfl, ho2, hb2⟩, _⟩
  go_wp2_with fail
  go_ret
  exact ⟨v', rfl, ho2, ((FB.refl _ _).alloc hb _).trans hb2⟩
end
theorem fmtL_app2 : ∀ (xs ys : List Nd) (b : Bool), fmtL b (xs ++ ys) = fmtL b xs ++ fmtL (b && xs.isEmpty) ys
  | [], ys, b => by rw [List.nil_append, fmtL]; simp
  | x :: xs, ys, b => by
    rw [List.cons_append, fmtL, fmtL, fmtL_app2 xs ys false]
    simp
theorem fmtM_app2 : ∀ (xs ys : List (ByteArray × Nat × Nd)) (b : Bool), fmtM b (xs ++ ys) = fmtM b xs ++ fmtM (b && xs.isEmpty) ys
  | [], ys, b => by rw [List.nil_append, fmtM]; simp
  | (k, p, x) :: xs, ys, b => by
    rw [List.cons_append, fmtM, fmtM, fmtM_app2 xs ys false]
    simp
theorem fmtL_take {xs : List Nd} {k : Nat} {x : Nd} (h : xs[k]? = some x) : fmtL true (xs.take (k + 1)) = fmtL true (xs.take k) ++ ((if k = 0 then [] else [44]) ++ fmtN x) := by
  have hk := (List.getElem?_eq_some_iff.1 h)
  obtain ⟨hk, hx⟩ := hk
  rw [List.take_succ_eq_append_getElem hk, hx, fmtL_app]
  congr 2
  by_cases h0 : k = 0
  · subst h0; simp
  · rw [if_neg h0, if_neg]
    simp
    exact ⟨h0, fun e => by rw [e] at hk; simp at hk⟩
theorem fmtM_take {xs : List (ByteArray × Nat × Nd)} {k : Nat} {t : ByteArray} {p : Nat} {x : Nd} (h : xs[k]? = some (t, p, x)) : fmtM true (xs.take (k + 1)) = fmtM true (xs.take k) ++ ((if k = 0 then [] else [44]) ++ (qN t ++ (58 :: fmtN x))) := by
  have hk := (List.getElem?_eq_some_iff.1 h)
  obtain ⟨hk, hx⟩ := hk
  rw [List.take_succ_eq_append_getElem hk, hx, fmtM_app]
  congr 2
  by_cases h0 : k = 0
  · subst h0; simp
  · rw [if_neg h0, if_neg]
    simp
    exact ⟨h0, fun e => by rw [e] at hk; simp at hk⟩
theorem fmtL_pre (xs : List Nd) (k : Nat) : (fmtL true (xs.take k)).length ≤ (fmtL true xs).length := by
  conv => rhs; rw [← List.take_append_drop k xs, fmtL_app2]
  rw [List.length_append]
  omega
theorem fmtM_pre (xs : List (ByteArray × Nat × Nd)) (k : Nat) : (fmtM true (xs.take k)).length ≤ (fmtM true xs).length := by
  conv => rhs; rw [← List.take_append_drop k xs, fmtM_app2]
  rw [List.length_append]
  omega
theorem rowCells {w : World} {base g n cap : Nat} {e : TypeId} {size : Nat} {xs : List Value} (h : w.ownsRow base e size (.slice (some ⟨g, 0, none⟩) n cap) n xs) {j : Nat} {u : Value} (hj : xs[j]? = some u) : w.cell? ⟨g, j, none⟩ = some u := by
  obtain ⟨h1, ⟨h2, _⟩ | ⟨g', cap', cur, h2, hbg, hg, hn, hc, hz, ht⟩⟩ := h
  · cases h2
  · cases h2
    refine cellB hg j ?_
    have hjl : j < xs.length := (List.getElem?_eq_some_iff.1 hj).1
    rw [← ht, List.getElem?_take_of_lt (by omega), Array.getElem?_toList] at hj
    exact hj
theorem rowForm2 {w : World} {base : Nat} {e : TypeId} {size : Nat} {v : Value} {n : Nat} {xs : List Value} (h : w.ownsRow base e size v n xs) : (n = 0 ∧ v = .slice none 0 0) ∨ ∃ g cap, v = .slice (some ⟨g, 0, none⟩) n cap ∧ base ≤ g ∧ g < w.heap.size ∧ n ≤ cap ∧ cap ≤ maxLen := by
  obtain ⟨h1, ⟨rfl, h3⟩ | ⟨g, cap, cur, rfl, hbg, hg, hn, hc, hz, ht⟩⟩ := h
  · exact Or.inl ⟨h3, rfl⟩
  · exact Or.inr ⟨g, cap, rfl, hbg, ltB hg, hn, hc⟩

end Go.Proofs.YtibopkodoidjoaaGreatDoor

/- The reference's tree: what the reader's objects need. -/
namespace Go.Proofs.YtibopkodoidjoaaGreatDoor
open Go Go.RowKit

/-- The three rows of an object's members. -/
structure R3 (base : Nat) (w : World) (vi vk vp : Value) (cs : List RKid) : Prop where
  i : w.ownsRow base 33 7 vi cs.length (cs.flatMap RKid.u)
  k : w.ownsRow base 9 1 vk cs.length (cs.map fun c => .string c.key)
  p : w.ownsRow base 3 1 vp cs.length (cs.map fun c => .int .i64 (c.pl : Int))
theorem R3.nil (base : Nat) (w : World) : R3 base w (.slice none 0 0) (.slice none 0 0) (.slice none 0 0) [] := ⟨World.ownsRow_nil _ _ _ _, World.ownsRow_nil _ _ _ _, World.ownsRow_nil _ _ _ _⟩
theorem R3.grown {base c : Nat} {w w' : World} {vi vk vp : Value} {cs : List RKid} (h : R3 base w vi vk vp cs) (hg : w.grownBy w' (some c)) (hc : c < base) : R3 base w' vi vk vp cs := ⟨row_grown h.i hg hc, row_grown h.k hg hc, row_grown h.p hg hc⟩
theorem R3.below {base : Nat} {w w' : World} {vi vk vp : Value} {cs : List RKid} (h : R3 base w vi vk vp cs) (hb : Below w.heap.size w w') : R3 base w' vi vk vp cs := ⟨row_below h.i hb, row_below h.k hb, row_below h.p hb⟩
theorem R3.base {n0 n1 : Nat} {w : World} {vi vk vp : Value} {cs : List RKid} (h : R3 n0 w vi vk vp cs) (hn : n1 ≤ n0) : R3 n1 w vi vk vp cs := ⟨ownsRow_base h.i hn, ownsRow_base h.k hn, ownsRow_base h.p hn⟩
theorem R3.sl {base : Nat} {w : World} {vi vk vp : Value} {cs : List RKid} (h : R3 base w vi vk vp cs) : isSl vi ∧ isSl vk ∧ isSl vp := ⟨ownsRow_sl h.i, ownsRow_sl h.k, ownsRow_sl h.p⟩
/-- Rows of elements of unlike types lie in unlike blocks. -/
theorem rows_ne {w : World} {n1 n2 s1 s2 m1 m2 : Nat} {e1 e2 : TypeId} {v1 v2 : Value} {xs1 xs2 : List Value} (h1 : w.ownsRow n1 e1 s1 v1 m1 xs1) (h2 : w.ownsRow n2 e2 s2 v2 m2 xs2) (he : e1 ≠ e2) : ∀ k, v1.ownBlock = some k → v2.ownBlock ≠ some k := by
  intro k hk hk2
  obtain ⟨_, h3 | ⟨g, cap, cur, rfl, _, hg, _⟩⟩ := h1
  · rw [h3.1] at hk; cases hk
  obtain ⟨_, h4 | ⟨g2, cap2, cur2, rfl, _, hg2, _⟩⟩ := h2
  · rw [h4.1] at hk2; cases hk2
  cases hk
  cases hk2
  rw [hg] at hg2
  simp only [Option.some.injEq, Obj.cells.injEq] at hg2
  exact he hg2.2.1
/-- A world behind another: only these blocks have turned. -/
structure GB (w w' : World) (S : List (Option Nat)) : Prop where
  os : w'.os = w.os
  tape : w'.tape = w.tape
  output : w'.output = w.output
  size : w.heap.size ≤ w'.heap.size
  block : ∀ k, k < w.heap.size → (∀ o ∈ S, o ≠ some k) → w'.heap[k]? = w.heap[k]?
theorem GB.of {w w' : World} {S : List (Option Nat)} (hb : Below w.heap.size w w') : GB w w' S := ⟨hb.os, hb.tape, hb.output, hb.size, fun k h _ => hb.block k h⟩
theorem GB.app {w w' w'' : World} {S : List (Option Nat)} {o : Option Nat} (h : GB w w' S) (hg : w'.grownBy w'' o) (ho : o ∈ S) : GB w w'' S :=
  ⟨hg.os.trans h.os, hg.tape.trans h.tape, hg.output.trans h.output, Nat.le_trans h.size hg.size, fun k hk hS => (hg.block k (Nat.lt_of_lt_of_le hk h.size) (fun e => hS o ho e.symm)).trans (h.block k hk hS)⟩
theorem GB.al {w w' : World} {S : List (Option Nat)} (h : GB w w' S) (o : Obj) : GB w (w'.alloc o) S :=
  ⟨h.os, h.tape, h.output, by have := h.size; simp; omega, fun k hk hS => by
    have h1 := (Below.refl w'.heap.size w').alloc (Nat.le_refl _) o
    exact (h1.block k (Nat.lt_of_lt_of_le hk h.size)).trans (h.block k hk hS)⟩
theorem GB.grown {w w' : World} {S : List (Option Nat)} {b : Nat} {a : World} (h : GB w w' S) (k : a.grownBy w (some b)) (hS : ∀ j, some j ∈ S → a.heap.size ≤ j) : a.grownBy w' (some b) :=
  ⟨h.os.trans k.os, h.tape.trans k.tape, h.output.trans k.output, Nat.le_trans k.size h.size, fun i hi hr => (h.block i (Nat.lt_of_lt_of_le hi k.size) (fun o ho e => by subst e; have := hS i ho; omega)).trans (k.block i hi hr)⟩
theorem GB.keep {w w' : World} {S : List (Option Nat)} {g : Nat} {o : Obj} (h : GB w w' S) (hg : w.heap[g]? = some o) (hS : ∀ j, some j ∈ S → g ≠ j) : w'.heap[g]? = some o :=
  (h.block g (ltB hg) (fun o ho e => by subst e; exact hS g ho rfl)).trans hg
theorem RKids.gb {n0 n : Nat} {w w' : World} {oi ok op oi' ok' op' : Option Nat} {cs : List RKid} (h : RKids n0 w [oi, ok, op] cs) (hg : GB w w' [some n, ok, op, oi]) (hn : n < n0)
    (h1 : oi' = oi ∨ ∃ g, oi' = some g ∧ w.heap.size ≤ g) (h2 : ok' = ok ∨ ∃ g, ok' = some g ∧ w.heap.size ≤ g) (h3 : op' = op ∨ ∃ g, op' = some g ∧ w.heap.size ≤ g) : RKids n0 w' [oi', ok', op'] cs := by
  refine ⟨fun c hm => (h.fit c hm).wide (Nat.le_refl _) hg.size, fun c hm o' ho' k hk => ?_, fun c hm => (h.kid c hm).keep fun k k1 k2 => hg.block k (Nat.lt_of_lt_of_le k2 (h.fit c hm).2.2) fun o ho e => ?_⟩
  · have hnew : ∀ (o o' : Option Nat), (o' = o ∨ ∃ g, o' = some g ∧ w.heap.size ≤ g) → o ∈ [oi, ok, op] → o' = some k → k < c.l ∨ c.h ≤ k := by
      intro o o' hh ho e
      rcases hh with rfl | ⟨g, rfl, hg2⟩
      · exact h.off c hm o' ho k e
      · cases e
        exact Or.inr (Nat.le_trans (h.fit c hm).2.2 hg2)
    simp only [List.mem_cons, List.not_mem_nil, or_false] at ho'
    rcases ho' with rfl | rfl | rfl
    · exact hnew _ _ h1 (by simp) hk
    · exact hnew _ _ h2 (by simp) hk
    · exact hnew _ _ h3 (by simp) hk
  · have hoff : ∀ o ∈ [oi, ok, op], o = some k → False := fun o ho e => by have := h.off c hm o ho k e; omega
    simp only [List.mem_cons, List.not_mem_nil, or_false] at ho
    rcases ho with rfl | rfl | rfl | rfl
    · cases e; have := (h.fit c hm).1; omega
    · exact hoff _ (by simp) e
    · exact hoff _ (by simp) e
    · exact hoff _ (by simp) e
theorem al_keep {W : World} {g : Nat} {o o' : Obj} (h : W.heap[g]? = some o) : (W.alloc o').heap[g]? = some o := (((Below.refl W.heap.size W).alloc (Nat.le_refl _) o').block g (ltB h)).trans h
theorem gr_keep {W w1 : World} {g : Nat} {o : Obj} {b : Option Nat} (hg : W.grownBy w1 b) (h : W.heap[g]? = some o) (hne : b ≠ some g) : w1.heap[g]? = some o := (hg.block g (ltB h) (fun e => hne e.symm)).trans h
theorem gr_row {W w1 : World} {n0 n size : Nat} {e : TypeId} {v : Value} {xs : List Value} {b : Option Nat} (hg : W.grownBy w1 b) (h : W.ownsRow n0 e size v n xs) (hne : ∀ k, v.ownBlock = some k → b ≠ some k) : w1.ownsRow n0 e size v n xs :=
  ownsRow_heap h fun k hk => hg.block k (h.lt k hk).2 (fun e => hne k hk e.symm)
section
variable {ops : Array Oper} {o : Oper} {a : Act} {Q : Exit → Act → World → Prop} {w : World} {K : Act → World → Prop} {E : Prop}
/-- append(row, one), in a region that draws. -/
theorem step_app_row (hgd : o.guard = none) (sl x : Operand) (t e : TypeId) (size bytes : Nat) (z : Value) (hi : (Tryz.prog.info? e).map (fun i => (i.zero, i.size, i.bytes)) = some (some z, size, bytes)) (hz : z.cells.size = size) (hsz : 0 < size) (hby : bytes ≤ 112)
    (ht : Tryz.prog.underlying t = some (.slice e)) (ho : o.op = .call { callee := .builtin .append, args := #[sl, x], argTypes := #[t, t] }) (n0 : Nat) (v : Value) (n : Nat) (xs : List Value) (hs : a.eval sl = v) (hK : w.ownsRow n0 e size v n xs)
    (g cp : Nat) (ys : List Value) (cur : Array Value) (t' : TypeId) (hx : a.eval x = .slice (some ⟨g, 0, none⟩) 1 cp) (hg : w.heap[g]? = some (.cells cur t' (0, 0))) (hcur : cur = ys.toArray) (hys : ys.length = size)
    (hlen : n + 1 ≤ 2097152) (hn : n0 ≤ w.heap.size) (h1 : ∀ u ∈ ys, u.oneCell' = true)
    (h : ∀ v' w', w'.ownsRow n0 e size v' (n + 1) (xs ++ ys) → w.grownBy w' v.ownBlock → (v'.ownBlock = v.ownBlock ∨ ∃ g, v'.ownBlock = some g ∧ w.heap.size ≤ g) → isSl v' → K (a.put o.dst v') w') : if Region.wanted o (yielded ops a.tmps) = true then Oper.wp Tryz.prog o a w K Q else E := by
  obtain ⟨i0, hi, hi2⟩ := Option.map_eq_some_iff.1 hi
  simp only [Prod.mk.injEq] at hi2
  refine step_append_lies w hgd sl x t ho n0 e i0 z size bytes ht hi hi2.1 hi2.2.1 hi2.2.2 hz hsz v n xs hs hK ⟨g, 0, none⟩ 1 cp ys hx (by rw [hys]; omega) ?_ h1 (by decide) (by unfold maxLen; omega) ?_ hn w.heap.size rfl ?_
  · intro j u hj
    have : (⟨g, 0, none⟩ : Addr).add j = ⟨g, j, none⟩ := by simp only [Addr.add, Nat.zero_add]; split <;> simp_all
    rw [this]
    refine cellB hg j ?_
    rw [hcur, List.getElem?_toArray]
    exact hj
  · have := Nat.mul_le_mul hlen hby
    omega
  · intro g2 cap w' ho2 hg2 hv _
    refine h _ w' ho2 hg2 ?_ ⟨_, _, _, rfl⟩
    rcases hv with hv | hv
    · exact Or.inl hv.symm
    · exact Or.inr ⟨g2, rfl, by omega⟩
end
/-- What members answers. -/
def PostRM (s : ByteArray) (v : Value) (n pl0 P b : Nat) (w : World) (r : PR (List (ByteArray × Nat × Nd))) (e : Ending) (w' : World) : Prop :=
  w.grownBy w' (some b) ∧ ∃ vi vk vp, e = .returned (.agg #[.int .i64 5, .int .i64 (P : Int), .bool false, .string ⟨#[]⟩, vi, vk, vp]) ∧ match r with
    | .ok xs q => ∃ cs : List RKid, R3 w.heap.size w' vi vk vp cs ∧ RKids w.heap.size w' [vi.ownBlock, vk.ownBlock, vp.ownBlock] cs ∧ cs.map RKid.mem = xs ∧ RdB s v q pl0 0 b w'
    | .err k pl => (isSl vi ∧ isSl vk ∧ isSl vp) ∧ ∃ q, q ≤ n ∧ RdB s v q pl k b w'
    | .out => True
theorem text_eq {s t : ByteArray} (h : s.data.toList = t.data.toList) : s = t := by
  apply ByteArray.ext
  exact Array.toList_inj.1 h
theorem text_ne {s t : ByteArray} (h : s ≠ t) : (s.toList == t.toList) = false := by
  rw [toL, toL]
  simp
  intro h2
  exact h (text_eq (by simpa using h2))
/-- fail, whatever the fault. -/
theorem rfail_u (s : ByteArray) (v : Value) (p pl k b q kk : Nat) (w : World) (hr : RdB s v p pl k b w) :
    Calls Tryz.prog 35 #[.pointer (some ⟨b, 0, none⟩), .int .i64 (q : Int), .int .i64 (kk : Int)] w fun e w' => e = .returned (.tuple #[]) ∧ w.grownBy w' (some b) ∧
      ∃ pl' k', RdB s v p pl' k' b w' ∧ ((k ≠ 0 ∧ pl' = pl ∧ k' = k) ∨ (k = 0 ∧ pl' = q ∧ k' = kk)) := by
  by_cases h0 : k = 0
  · subst h0
    refine (rfail_new s v p pl b q kk w hr).mono ?_
    rintro e w' ⟨rfl, h1, h2⟩
    exact ⟨rfl, h2, _, _, h1, Or.inr ⟨rfl, rfl, rfl⟩⟩
  · refine (rfail_old s v p pl b q kk k w hr h0).mono ?_
    rintro e w' ⟨rfl, hb⟩
    exact ⟨rfl, grown_of_below hb, _, _, hr.next hb, Or.inl ⟨h0, rfl, rfl⟩⟩
theorem knows_iff (l : List ByteArray) (t : ByteArray) : knows l t = true ↔ t ∈ l := by
  unfold knows
  rw [List.any_eq_true]
  constructor
  · rintro ⟨u, hu, h⟩
    have := of_decide_eq_true h
    subst this
    exact hu
  · intro h
    exact ⟨t, h, decide_eq_true rfl⟩

theorem infoS18 : (Tryz.prog.info? 9).map (fun i => (i.zero, i.size, i.bytes)) = some (some (.string ⟨#[]⟩), 1, 16) := by kernel_rfl
theorem infoI18 : (Tryz.prog.info? 3).map (fun i => (i.zero, i.size, i.bytes)) = some (some (.int .i64 0), 1, 8) := by kernel_rfl
theorem tf {b : Bool} {p : Prop} (h : b = true) : b = false → p := fun h2 => by rw [h] at h2; cases h2
theorem own_tr {o o' : Option Nat} {a b : Nat} (h : o' = o ∨ ∃ g, o' = some g ∧ a ≤ g) (hb : b ≤ a) : o' = o ∨ ∃ g, o' = some g ∧ b ≤ g := by
  rcases h with h | ⟨g, h1, h2⟩
  · exact Or.inl h
  · exact Or.inr ⟨g, h1, Nat.le_trans hb h2⟩
theorem drewR {w : World} {n0 n size : Nat} {e : TypeId} {v : Value} {xs : List Value} (h : w.ownsRow n0 e size v n xs) : w.drew.ownsRow n0 e size v n xs := ownsRow_heap h fun _ _ => rfl
/-- The three rows with one more member. -/
structure A3 (base : Nat) (w : World) (vi vk vp : Value) (m : Nat) (cs : List RKid) (key : ByteArray) (P : Nat) (u : List Value) : Prop where
  i : w.ownsRow base 33 7 vi (m + 1) (cs.flatMap RKid.u ++ u)
  k : w.ownsRow base 9 1 vk (m + 1) ((cs.map fun c => .string c.key) ++ [.string key])
  p : w.ownsRow base 3 1 vp (m + 1) ((cs.map fun c => .int .i64 (c.pl : Int)) ++ [.int .i64 (P : Int)])
theorem A3.r3 {base : Nat} {w : World} {vi vk vp : Value} {m : Nat} {cs : List RKid} {c : RKid} (h : A3 base w vi vk vp m cs c.key c.pl c.u) (hm : m = cs.length) : R3 base w vi vk vp (cs ++ [c]) := by
  refine ⟨?_, ?_, ?_⟩
  · rw [List.length_append, List.flatMap_append, List.flatMap_cons, List.flatMap_nil, List.append_nil, ← hm]; exact h.i
  · rw [List.length_append, List.map_append, ← hm]; exact h.k
  · rw [List.length_append, List.map_append, ← hm]; exact h.p
theorem A3.sl {base : Nat} {w : World} {vi vk vp : Value} {m : Nat} {cs : List RKid} {key : ByteArray} {P : Nat} {u : List Value} (h : A3 base w vi vk vp m cs key P u) : isSl vi ∧ isSl vk ∧ isSl vp := ⟨ownsRow_sl h.i, ownsRow_sl h.k, ownsRow_sl h.p⟩
theorem ne_hi {o : Option Nat} {lo hi g : Nat} (h : ∀ k, o = some k → lo ≤ k ∧ k < hi) (hg : hi ≤ g) : o ≠ some g := fun e => Nat.lt_irrefl _ (Nat.lt_of_lt_of_le (h g e).2 hg)
theorem ne_lo {o : Option Nat} {lo hi g : Nat} (h : ∀ k, o = some k → lo ≤ k ∧ k < hi) (hg : g < lo) : o ≠ some g := fun e => Nat.lt_irrefl _ (Nat.lt_of_lt_of_le hg (h g e).1)

end Go.Proofs.YtibopkodoidjoaaGreatDoor

/- Package tree: format of a list and of an object. -/
namespace Go.Proofs.YtibopkodoidjoaaGreatDoor
open Go Go.RowKit

theorem new2 (w : World) (a b : Obj) : ((w.alloc a).alloc b).heap[w.heap.size + 1]? = some b := by
  have := heap_alloc_new (w.alloc a) b
  simpa using this
theorem old2 (w : World) (a b : Obj) : ((w.alloc a).alloc b).heap[w.heap.size]? = some a := by
  rw [Below.heap_alloc _ _ _ (by simp)]
  exact heap_alloc_new w a
/-- A box that the call made, behind a write to a list of bytes that is not that box. -/
theorem box_row {w w' : World} {g : Nat} {o : Option Nat} {x : Obj} (h : w.heap[g]? = some x) (hg : w.grownBy w' o) (hne : o ≠ some g) : w'.heap[g]? = some x := (hg.block g (ltB h) (fun e => hne e.symm)).trans h
set_option maxHeartbeats 2000000 in
set_option maxRecDepth 100000 in
theorem fmt_lst {A : Nat → Addr} {B : Nat} {w0 : World} (lo hi p : Nat) (vr : Value) (cs : List Kid) (hr : w0.ownsRow lo 24 1 vr cs.length (cs.map Kid.u)) (hb0 : ∀ k, vr.ownBlock = some k → k < hi)
    (hk : ∀ c ∈ cs, c.fits lo hi vr.ownBlock) (ih : ∀ c ∈ cs, FmtC A B w0 c.l c.h c.u c.x) : FmtC A B w0 lo hi (.iface 98 (.agg #[.int .i64 (p : Int), vr])) (.lst p (cs.map Kid.x)) := by
  intro w base v l hw hE hh hb hB ho hl hA
  rw [fmtN] at hl ⊢
  have hr1 : w.ownsRow lo 24 1 vr cs.length (cs.map Kid.u) := ownsRow_heap hr (fun k e => hw k (hr.lt k e).1 (hb0 k e))
  obtain ⟨n, hn⟩ : ∃ n, n = cs.length := ⟨_, rfl⟩
  obtain ⟨xs, hxs⟩ : ∃ xs, xs = cs.map Kid.x := ⟨_, rfl⟩
  have hA' : allL smallT xs := by rw [hxs]; exact hA
  rw [← hxs] at hl ⊢
  rw [← hn] at hr1
  rw [List.length_cons, List.length_append, List.length_singleton] at hl
  have hpre := Lib.hid (fmtL_pre xs)
  have htk := Lib.hid (fun k x (h : xs[k]? = some x) => fmtL_take h)
  have hall : xs.take n = xs := List.take_of_length_le (by rw [hxs, hn]; simp)
  replace hall := Lib.hid hall
  have hF : ∃ a c, vr = .slice a n c := by
    obtain ⟨a, c, h⟩ := rowForm hr1
    exact ⟨a, c, h⟩
  obtain ⟨va, vc, rfl⟩ := hF
  have hnm : n ≤ maxLen := by
    rcases rowForm2 hr1 with ⟨h, _⟩ | ⟨g, cap, h, _, _, h1, h2⟩
    · omega
    · omega
  unfold maxLen at hnm
  have hnI : (n : Int) ≤ 9223372036854775807 := by omega
  replace hr1 := Lib.hid hr1
  replace hw := Lib.hid hw
  replace ho := Lib.hid ho
  replace hA := Lib.hid hA'
  replace hn := Lib.hid hn
  replace hxs := Lib.hid hxs
  replace hl := Lib.hid hl
  clear hA'
  go_enter Tryz.func39, Tryz.ntmps39
  go_wp2_with (at_builtin; refine app_lit rfl _ _ rfl base v l rfl ((ho.out.alloc _).alloc _) _ 1 1 _ _ _ [91] rfl (new2 w _ _) rfl rfl (by have := hl.out; omega) (by simp; omega) ?_)
  intro v1 w1 ho1 hg1
  have hB1 : FB base w w1 := (((FB.refl base w).alloc hb _).alloc (by simp; omega) _).row ((ho.out.alloc _).alloc _) hg1 (by simp; omega)
  have hvb : v.ownBlock ≠ some w.heap.size := fun e => by have := (World.ownsRow.lt ho.out _ e).2; omega
  have t1 : w1.heap[w.heap.size]? = some (.cells #[.int .i64 (p : Int), .slice va n vc] 98 (0, 0)) := box_row (old2 w _ _) hg1 hvb
  have y0 := cellB t1 1 rfl
  have hz1 := hB1.size
  have hzb : base ≤ w1.heap.size := by omega
  have hz : w.heap.size < w1.heap.size := ltB t1
  clear hg1 hvb
  replace t1 := Lib.hid t1
  replace ho1 := Lib.hid ho1
  go_wp2_with fail
  go_loopw [0, 51] (fun v0 v51 wr => ∃ k : Nat, k ≤ n ∧ v51 = .int .i64 (k : Int) ∧ Hid (OwnB wr base v0 (l ++ 91 :: fmtL true (xs.take k))) ∧ FB base w wr) (fun _ v _ => n - (intOf v).toNat)
  case atStart => exact ⟨0, Nat.zero_le _, rfl, Lib.hid (by rw [List.take_zero, fmtL]; exact ho1.out), hB1⟩
  case round =>
    obtain ⟨k, hkn, rfl, hoR, hBr⟩ := hrel
    have hzr := hBr.size
    clear hB1 ho1 hz1 hzb hz y0
    have hbr : base ≤ wr.heap.size := by omega
    by_cases hlt : k < n
    · have hltI : (k : Int) < (n : Int) := by omega
      obtain ⟨c, hc⟩ : ∃ c, cs[k]? = some c := ⟨cs[k]'(by rw [← hn.out]; exact hlt), List.getElem?_eq_getElem _⟩
      have hcm := List.mem_of_getElem? hc
      have hcx : xs[k]? = some c.x := by rw [hxs.out, List.getElem?_map, hc]; rfl
      have hcu : (cs.map Kid.u)[k]? = some c.u := by rw [List.getElem?_map, hc]; rfl
      have ihc := Lib.hid (ih c hcm)
      have hcf := hk c hcm
      have hAc := Lib.hid (allL_mem hA.out c.x (List.mem_of_getElem? hcx))
      have htk1 := htk.out k c.x hcx
      have hp1 := hpre.out (k + 1)
      rw [htk1] at hp1
      obtain ⟨g, rfl⟩ : ∃ g, va = some ⟨g, 0, none⟩ := by
        rcases rowForm2 hr1.out with ⟨h, _⟩ | ⟨g, cap, h, _⟩
        · omega
        · cases h; exact ⟨g, rfl⟩
      have hagree : Hid (∀ w', FB base w w' → ∀ j, c.l ≤ j → j < c.h → w'.heap[j]? = w0.heap[j]?) := Lib.hid (fun w' h j a b => (h.bel.block j (by have := hcf.2.2.1; omega)).trans (hw.out j (Nat.le_trans hcf.1 a) (Nat.lt_of_lt_of_le b hcf.2.2.1)))
      have hrow : wr.cell? ⟨g, k, none⟩ = some c.u := by
        refine rowCells (ownsRow_heap hr1.out fun j e => hBr.bel.block j ?_) hcu
        have := hb0 j e
        omega
      have hch : c.h ≤ base := Nat.le_trans hcf.2.2.1 hh
      have hEr := Lib.hid (hE.below (hBr.bel.mono hB))
      generalize c.u = cu at *
      generalize c.x = cx at *
      replace hcf := Lib.hid hcf
      replace hc := Lib.hid hc
      replace hcx := Lib.hid hcx
      replace hcu := Lib.hid hcu
      by_cases h0 : k = 0
      · subst h0
        rw [if_pos rfl] at htk1 hp1
        have hq : Hid ((l ++ 91 :: fmtL true (xs.take 0)).length + (fmtN cx).length ≤ 140737488355328) := Lib.hid (by
          rw [List.length_append] at hp1
          simp only [List.nil_append] at hp1
          rw [List.length_append, List.length_cons]
          have := hl.out
          omega)
        replace htk1 := Lib.hid htk1
        replace hp1 := Lib.hid hp1
        go_wp2_with fail
        refine (ihc.out _ base _ _ (hagree.out _ hBr) hEr.out hch hbr hB hoR.out hq.out hAc.out).mono ?_
        rintro e w4 ⟨v4, rfl, ho4, hb4⟩
        have hB4 := hBr.trans hb4
        replace ho4 := Lib.hid ho4
        clear hb4
        go_wp2_with fail
        go_roundw
        case measure => simp [intOf]; omega
        case rel => exact ⟨1, by omega, rfl, Lib.hid (by rw [htk1.out]; have := ho4.out; simpa using this), hB4⟩
      · rw [if_neg h0] at htk1 hp1
        have h0I : (0 : Int) < (k : Int) := by omega
        have hq : Hid ((l ++ 91 :: fmtL true (xs.take k) ++ [44]).length + (fmtN cx).length ≤ 140737488355328) := Lib.hid (by
          rw [List.length_append, List.length_append] at hp1
          rw [List.length_append, List.length_append, List.length_cons]
          have := hl.out
          omega)
        replace htk1 := Lib.hid htk1
        replace hp1 := Lib.hid hp1
        go_wp2_with (at_builtin; refine app_lit rfl _ _ rfl base _ _ rfl (hoR.out.alloc _) _ 1 1 _ _ _ [44] rfl (heap_alloc_new _ _) rfl rfl (by have := hq.out; rw [List.length_append] at this; simp only [List.length_singleton] at this; omega) (by simp; omega) ?_)
        intro v3 w3 ho3 hg3
        have hB3 : FB base w w3 := (hBr.alloc hbr _).row (hoR.out.alloc _) hg3 (by simp; omega)
        have hz3 := hB3.size
        clear hg3
        replace ho3 := Lib.hid ho3
        have hE3 := Lib.hid (hE.below (hB3.bel.mono hB))
        go_wp2_with fail
        refine (ihc.out _ base _ _ (hagree.out _ hB3) hE3.out hch (by omega) hB ho3.out (by have := hq.out; simp only [List.length_append, List.length_cons] at this ⊢; omega) hAc.out).mono ?_
        rintro e w4 ⟨v4, rfl, ho4, hb4⟩
        have hB4 := hB3.trans hb4
        replace ho4 := Lib.hid ho4
        clear hb4
        go_wp2_with fail
        go_roundw
        case measure => simp [intOf]; omega
        case rel => exact ⟨k + 1, by omega, by go_num, Lib.hid (by rw [htk1.out]; have := ho4.out; simpa using this), hB4⟩
    · obtain rfl : k = n := by omega
      have hlt' : ¬ (k : Int) < (k : Int) := by omega
      go_wp2_with (at_builtin; refine app_lit rfl _ _ rfl base _ _ rfl (hoR.out.alloc _) _ 1 1 _ _ _ [93] rfl (heap_alloc_new _ _) rfl rfl (by rw [hall.out, List.length_append, List.length_cons]; have := hl.out; omega) (by simp; omega) ?_)
      intro v3 w3 ho3 hg3
      have hB3 : FB base w w3 := (hBr.alloc hbr _).row (hoR.out.alloc _) hg3 (by simp; omega)
      rw [hall.out] at ho3
      clear hg3
      go_wp2_with fail
      go_ret
      exact ⟨v3, rfl, by simpa using ho3, hB3⟩

end Go.Proofs.YtibopkodoidjoaaGreatDoor

/- append of bytes of the call's own, in a region that draws its order. -/
namespace Go.Proofs.YtibopkodoidjoaaGreatDoor
open Go Go.RowKit

theorem step_app_lit {ops : Array Oper} {o : Oper} {a : Act} {w : World} {K : Act → World → Prop} {Q : Exit → Act → World → Prop} {E : Prop}
    (hgd : o.guard = none) (sl x : Operand) (ho : o.op = .call { callee := .builtin .append, args := #[sl, x], argTypes := #[104, 104] }) (base : Nat) (v : Value) (l : List UInt8) (hs : a.eval sl = v) (hown : OwnB w base v l)
    (g k c : Nat) (cs : Array Value) (t : TypeId) (fr : Nat × Nat) (news : List UInt8) (hx : a.eval x = .slice (some ⟨g, 0, none⟩) k c) (hg : w.heap[g]? = some (.cells cs t fr)) (hcs : cs = (u8c news).toArray) (hk : news.length = k)
    (hlen : l.length + k ≤ 140737488355328) (hbase : base ≤ w.heap.size)
    (h : ∀ v' w', OwnB w' base v' (l ++ news) → w.grownBy w' v.ownBlock → K (a.put o.dst v') w') : if Region.wanted o (yielded ops a.tmps) = true then Oper.wp Tryz.prog o a w K Q else E := by
  have hw : Region.wanted o (yielded ops a.tmps) = true := by simp [Region.wanted, hgd]
  rw [if_pos hw]
  obtain ⟨i0, hi, hi2⟩ := Option.map_eq_some_iff.1 infoU8
  simp only [Prod.mk.injEq] at hi2
  refine wp_append_own _ sl x 104 ho base 5 i0 (.int .u8 0) 1 1 Tryz.underlying104 hi hi2.1 hi2.2.1 hi2.2.2 rfl (by decide) v l.length (u8c l) hs hown ⟨g, 0, none⟩ k c (u8c news) hx (by rw [u8c_len]; omega) ?_ ?_ (by unfold maxLen; omega) (by omega) hbase ?_
  · intro j u hj
    have : (⟨g, 0, none⟩ : Addr).add j = ⟨g, j, none⟩ := by simp only [Addr.add, Nat.zero_add]; split <;> simp_all
    rw [this]
    refine cellB hg j ?_
    rw [hcs, List.getElem?_toArray]
    exact hj
  · intro u hu
    obtain ⟨b, _, rfl⟩ := List.mem_map.1 hu
    rfl
  · intro v' w' h1 h2 _
    refine h v' w' ?_ h2
    unfold OwnB
    rw [u8c_append, List.length_append, hk]
    exact h1

end Go.Proofs.YtibopkodoidjoaaGreatDoor

/- Package tree: format of an object. -/
namespace Go.Proofs.YtibopkodoidjoaaGreatDoor
open Go Go.RowKit

theorem flat_get3 : ∀ (cs : List Kid) (j : Nat) (c : Kid) (i : Nat), cs[j]? = some c → i < 3 → (cs.flatMap memC)[j * 3 + i]? = (memC c)[i]?
  | [], j, c, i, h, _ => by simp at h
  | t :: ts, 0, c, i, h, hi => by
    simp at h
    subst h
    rw [List.flatMap_cons, Nat.zero_mul, Nat.zero_add, List.getElem?_append_left (by show i < 3; exact hi)]
  | t :: ts, j + 1, c, i, h, hi => by
    simp at h
    rw [List.flatMap_cons, List.getElem?_append_right (by show 3 ≤ (j + 1) * 3 + i; omega)]
    have : (j + 1) * 3 + i - (memC t).length = j * 3 + i := by show (j + 1) * 3 + i - 3 = _; omega
    rw [this]
    exact flat_get3 ts j c i h hi
theorem rowMem {w : World} {base g n cap : Nat} {cs : List Kid} (h : w.ownsRow base 103 3 (.slice (some ⟨g, 0, none⟩) n cap) n (cs.flatMap memC)) {j : Nat} {c : Kid} (hj : cs[j]? = some c) :
    w.cell? ⟨g, j * 3, none⟩ = some (.string c.key) ∧ w.cell? ⟨g, j * 3 + 1, none⟩ = some (.int .i64 (c.pl : Int)) ∧ w.cell? ⟨g, j * 3 + 2, none⟩ = some c.u := by
  have h0 := flat_get3 cs j c 0 hj (by decide)
  have h1 := flat_get3 cs j c 1 hj (by decide)
  have h2 := flat_get3 cs j c 2 hj (by decide)
  exact ⟨rowCells h h0, rowCells h h1, rowCells h h2⟩
/-- A member lies in block g. -/
def MemHeld (g : Nat) (key : ByteArray) (pl : Nat) (u : Value) (w : World) : Prop := w.heap[g]? = some (.cells #[.string key, .int .i64 (pl : Int), u] 103 (0, 0))
theorem MemHeld.cells {g : Nat} {key : ByteArray} {pl : Nat} {u : Value} {w : World} (h : MemHeld g key pl u w) : w.cell? ⟨g, 0, none⟩ = some (.string key) ∧ w.cell? ⟨g, 2, none⟩ = some u ∧ MemHeld g key pl u w := ⟨cellB h 0 rfl, cellB h 2 rfl, h⟩
theorem MemHeld.drew {g : Nat} {key : ByteArray} {pl : Nat} {u : Value} {w : World} (h : MemHeld g key pl u w) : MemHeld g key pl u w.drew := h
theorem MemHeld.alloc {g : Nat} {key : ByteArray} {pl : Nat} {u : Value} {w : World} (h : MemHeld g key pl u w) (o : Obj) : MemHeld g key pl u (w.alloc o) := box_next h ((Below.refl _ _).alloc (Nat.le_refl _) _)
theorem MemHeld.fb {g base : Nat} {key : ByteArray} {pl : Nat} {u : Value} {w w' : World} (h : MemHeld g key pl u w) (hf : FB base w w') : MemHeld g key pl u w' := hf.keep _ _ h (fun cs fr e => by cases e)
/-- The ':' in a block of its own. -/
abbrev Col : Obj := .cells #[.int .u8 58] 5 (0, 0)
set_option maxHeartbeats 2000000 in
set_option maxRecDepth 100000 in
theorem fmt_obj {A : Nat → Addr} {B : Nat} {w0 : World} (lo hi p : Nat) (vr : Value) (cs : List Kid) (hr : w0.ownsRow lo 103 3 vr cs.length (cs.flatMap memC)) (hb0 : ∀ k, vr.ownBlock = some k → k < hi)
    (hk : ∀ c ∈ cs, c.fits lo hi vr.ownBlock) (hform : ∀ c ∈ cs, ∃ t a, c.u = .iface t a) (ih : ∀ c ∈ cs, FmtC A B w0 c.l c.h c.u c.x) : FmtC A B w0 lo hi (.iface 101 (.agg #[.int .i64 (p : Int), vr])) (.obj p (cs.map Kid.mem)) := by
  intro w base v l hw hE hh hb hB ho hl hA
  rw [fmtN] at hl ⊢
  have hr1 : w.ownsRow lo 103 3 vr cs.length (cs.flatMap memC) := ownsRow_heap hr (fun k e => hw k (hr.lt k e).1 (hb0 k e))
  obtain ⟨n, hn⟩ : ∃ n, n = cs.length := ⟨_, rfl⟩
  obtain ⟨xs, hxs⟩ : ∃ xs, xs = cs.map Kid.mem := ⟨_, rfl⟩
  have hA' : allM smallT xs := by rw [hxs]; exact hA
  rw [← hxs] at hl ⊢
  rw [← hn] at hr1
  rw [List.length_cons, List.length_append, List.length_singleton] at hl
  have hpre := Lib.hid (fmtM_pre xs)
  have htk := Lib.hid (fun k t p x (h : xs[k]? = some (t, p, x)) => fmtM_take h)
  have hall : xs.take n = xs := List.take_of_length_le (by rw [hxs, hn]; simp)
  replace hall := Lib.hid hall
  have hF : ∃ a c, vr = .slice a n c := by
    obtain ⟨a, c, h⟩ := rowForm hr1
    exact ⟨a, c, h⟩
  obtain ⟨va, vc, rfl⟩ := hF
  have hnm : n ≤ maxLen := by
    rcases rowForm2 hr1 with ⟨h, _⟩ | ⟨g, cap, h, _, _, h1, h2⟩
    · omega
    · omega
  unfold maxLen at hnm
  have hnI : (n : Int) ≤ 9223372036854775807 := by omega
  replace hr1 := Lib.hid hr1
  replace hw := Lib.hid hw
  replace ho := Lib.hid ho
  replace hA := Lib.hid hA'
  replace hn := Lib.hid hn
  replace hxs := Lib.hid hxs
  replace hl := Lib.hid hl
  clear hA'
  go_enter Tryz.func39, Tryz.ntmps39
  go_wp2_with (at_builtin; refine app_lit rfl _ _ rfl base v l rfl ((ho.out.alloc _).alloc _) _ 1 1 _ _ _ [123] rfl (new2 w _ _) rfl rfl (by have := hl.out; omega) (by simp; omega) ?_)
  intro v1 w1 ho1 hg1
  have hB1 : FB base w w1 := (((FB.refl base w).alloc hb _).alloc (by simp; omega) _).row ((ho.out.alloc _).alloc _) hg1 (by simp; omega)
  have hvb : v.ownBlock ≠ some w.heap.size := fun e => by have := (World.ownsRow.lt ho.out _ e).2; omega
  have t1 : w1.heap[w.heap.size]? = some (.cells #[.int .i64 (p : Int), .slice va n vc] 101 (0, 0)) := box_row (old2 w _ _) hg1 hvb
  have y0 := cellB t1 1 rfl
  have hz1 := hB1.size
  have hzb : base ≤ w1.heap.size := by omega
  have hz : w.heap.size < w1.heap.size := ltB t1
  clear hg1 hvb
  replace t1 := Lib.hid t1
  replace ho1 := Lib.hid ho1
  go_wp2_with fail
  go_loopw [0, 77] (fun v0 v77 wr => ∃ k : Nat, k ≤ n ∧ v77 = .int .i64 (k : Int) ∧ Hid (OwnB wr base v0 (l ++ 123 :: fmtM true (xs.take k))) ∧ FB base w wr) (fun _ v _ => n - (intOf v).toNat)
  case atStart => exact ⟨0, Nat.zero_le _, rfl, Lib.hid (by rw [List.take_zero, fmtM]; exact ho1.out), hB1⟩
  case round =>
    obtain ⟨k, hkn, rfl, hoR, hBr⟩ := hrel
    have hzr := hBr.size
    clear hB1 ho1 hz1 hzb hz y0
    have hbr : base ≤ wr.heap.size := by omega
    by_cases hlt : k < n
    · have hltI : (k : Int) < (n : Int) := by omega
      obtain ⟨c, hc⟩ : ∃ c, cs[k]? = some c := ⟨cs[k]'(by rw [← hn.out]; exact hlt), List.getElem?_eq_getElem _⟩
      have hcm := List.mem_of_getElem? hc
      have hcx : xs[k]? = some (c.key, c.pl, c.x) := by rw [hxs.out, List.getElem?_map, hc]; rfl
      have ihc := Lib.hid (ih c hcm)
      have hcf := hk c hcm
      have hA2 := allM_mem hA.out _ (List.mem_of_getElem? hcx)
      have hAk := Lib.hid (show c.key.size ≤ 3518437208882 from hA2.1)
      have hAc := Lib.hid hA2.2
      clear hA2
      have htk1 := htk.out k _ _ _ hcx
      have hp1 := hpre.out (k + 1)
      rw [htk1] at hp1
      obtain ⟨g, rfl⟩ : ∃ g, va = some ⟨g, 0, none⟩ := by
        rcases rowForm2 hr1.out with ⟨h, _⟩ | ⟨g, cap, h, _⟩
        · omega
        · cases h; exact ⟨g, rfl⟩
      have hagree : Hid (∀ w', FB base w w' → ∀ j, c.l ≤ j → j < c.h → w'.heap[j]? = w0.heap[j]?) := Lib.hid (fun w' h j a b => (h.bel.block j (by have := hcf.2.2.1; omega)).trans (hw.out j (Nat.le_trans hcf.1 a) (Nat.lt_of_lt_of_le b hcf.2.2.1)))
      have hrow := rowMem (ownsRow_heap hr1.out fun j e => hBr.bel.block j (by have := hb0 j e; omega)) hc
      obtain ⟨q0, q1, q2⟩ := hrow
      have hch : c.h ≤ base := Nat.le_trans hcf.2.2.1 hh
      have hEr := Lib.hid (hE.below (hBr.bel.mono hB))
      obtain ⟨ut, ua, hu⟩ := hform c hcm
      rw [hu] at q2 ihc
      replace hu := Lib.hid hu
      generalize c.x = cx at *
      generalize c.key = key at *
      generalize c.pl = pl at *
      replace hcf := Lib.hid hcf
      replace hc := Lib.hid hc
      replace hcx := Lib.hid hcx
      by_cases h0 : k = 0
      · subst h0
        rw [if_pos rfl] at htk1 hp1
        have hq : Hid ((l ++ 123 :: fmtM true (xs.take 0) ++ qN key ++ [58]).length + (fmtN cx).length ≤ 140737488355328) := Lib.hid (by
          rw [List.length_append] at hp1
          simp only [List.nil_append, List.length_append, List.length_cons] at hp1
          simp only [List.length_append, List.length_cons, List.length_nil]
          have := hl.out
          omega)
        replace htk1 := Lib.hid htk1
        replace hp1 := Lib.hid hp1
        have hMX : MemHeld wr.heap.size key pl (.iface ut ua) (wr.alloc (.cells #[.string key, .int .i64 (pl : Int), .iface ut ua] 103 (0, 0))) := heap_alloc_new wr _
        have hoX : Hid (OwnB (wr.alloc (.cells #[.string key, .int .i64 (pl : Int), .iface ut ua] 103 (0, 0))) base u0 (l ++ 123 :: fmtM true (xs.take 0))) := Lib.hid (hoR.out.alloc _)
        have hBX : FB base w (wr.alloc (.cells #[.string key, .int .i64 (pl : Int), .iface ut ua] 103 (0, 0))) := hBr.alloc hbr _
        go_wp2_with fail
        generalize wr.alloc (.cells #[.string key, .int .i64 (pl : Int), .iface ut ua] 103 (0, 0)) = X at *
        have QC : Hid (∀ W, OwnB W base u0 (l ++ 123 :: fmtM true (xs.take 0)) → Env A B SU W → base ≤ W.heap.size → Calls Tryz.prog 70 #[u0, .string key] W (fun e w' => OutR base W (l ++ 123 :: fmtM true (xs.take 0) ++ qN key) e w' ∧ W.grownBy w' (u0).ownBlock)) := Lib.hid (fun W h1 h2 h3 => quoted_calls key u0 _ W h2 h1 h3 hAk.out (by have := hq.out; simp only [List.length_append, List.length_cons] at this ⊢; omega))
        have AP : Hid (∀ x : Nat, x = (l ++ 123 :: fmtM true (xs.take 0) ++ qN key).length → x + 1 ≤ 140737488355328) := Lib.hid (fun x hx => by have := hq.out; simp only [List.length_append, List.length_cons, List.length_nil] at this hx; omega)
        have hlv : Hid (∀ k, (u0).ownBlock = some k → k < X.heap.size) := Lib.hid (fun k e => (World.ownsRow.lt hoX.out k e).2)
        have hsX := hBX.size
        have hbX : base ≤ X.heap.size := by omega
        have hEX : Hid (∀ W, FB base X W → Env A B SU W) := Lib.hid (fun W h => hE.below ((hBX.trans h).bel.mono hB))
        have hXd : FB base X X.drew := FB.ofB (below_drewN (Below.refl _ _) 1) hbX
        have hXc : FB base X (X.alloc Col).drew := (FB.alloc (FB.refl _ _) hbX Col).trans (FB.ofB (below_drewN (Below.refl _ _) 1) (by simp; omega))
        have hbXd : base ≤ X.drew.heap.size := hbX
        have hbXc : base ≤ (X.alloc Col).drew.heap.size := by have := hXc.size; omega
        have hoXd : Hid (OwnB X.drew base u0 (l ++ 123 :: fmtM true (xs.take 0))) := Lib.hid (hoX.out.next (below_drewN (Below.refl _ _) 1))
        have hoXc : Hid (OwnB (X.alloc Col).drew base u0 (l ++ 123 :: fmtM true (xs.take 0))) := Lib.hid ((OwnB.alloc hoX.out Col).next (below_drewN (Below.refl _ _) 1))
        go_wp2_with fail
        go_region_held3 (fun w' => w'.cell? ⟨wr.heap.size, 0, none⟩ = some (.string key) ∧ w'.cell? ⟨wr.heap.size, 2, none⟩ = some (.iface ut ua) ∧ MemHeld wr.heap.size key pl (.iface ut ua) w') (first | exact MemHeld.cells ‹_› | exact MemHeld.cells (MemHeld.alloc ‹_› _) | exact MemHeld.cells (MemHeld.alloc hMX _).drew | exact MemHeld.cells hMX.drew) (first
          | (go_at_call 70; (with_reducible refine (QC.out X.drew hoXd.out (hEX.out _ hXd) hbXd).mono ?_); rintro e w5 ⟨⟨v5, rfl, ho5, hF5⟩, hG5⟩; have hM5 := MemHeld.fb hMX.drew hF5; have hz5 := FB.size hF5; have hF5' := hXd.trans hF5)
          | (go_at_call 70; (with_reducible refine (QC.out (X.alloc Col).drew hoXc.out (hEX.out _ hXc) hbXc).mono ?_); rintro e w5 ⟨⟨v5, rfl, ho5, hF5⟩, hG5⟩; have hM5 := MemHeld.fb (MemHeld.alloc hMX Col).drew hF5; have hz5 := FB.size hF5; have hlit := box_row (show (X.alloc Col).drew.heap[X.heap.size]? = some Col from heap_alloc_new X Col) hG5 (fun e => by have := hlv.out _ e; omega); have hF5' := hXc.trans hF5)
          | (refine step_app_lit rfl _ _ rfl base v5 (l ++ 123 :: fmtM true (xs.take 0) ++ qN key) rfl (ho5.alloc Col) w5.heap.size 1 1 #[.int .u8 58] 5 (0, 0) [58] rfl (heap_alloc_new w5 _) rfl rfl (AP.out _ rfl) (by have := FB.size hF5'; simp; omega) ?_; intro v6 w6 ho6 hg6; have hF6 := FB.row (FB.alloc hF5' (by have := FB.size hF5'; omega) Col) (ho5.alloc Col) hg6 (by have := FB.size hF5'; simp; omega); have hM6 := MemHeld.fb hMX hF6)
          | (refine step_app_lit rfl _ _ rfl base v5 (l ++ 123 :: fmtM true (xs.take 0) ++ qN key) rfl ho5 X.heap.size 1 1 #[.int .u8 58] 5 (0, 0) [58] rfl hlit rfl rfl (AP.out _ rfl) (by have := FB.size hF5'; omega) ?_; intro v6 w6 ho6 hg6; have hF6 := FB.row hF5' ho5 hg6 (by have := FB.size hF5'; omega); have hM6 := MemHeld.fb hMX hF6)
          | (go_at_call 39; have hz6 : base ≤ w6.heap.size := Nat.le_trans hbX (FB.size hF6); have Q := ihc.out w6 base v6 _ (hagree.out _ (hBX.trans hF6)) (hEX.out _ hF6) hch hz6 hB ho6 hq.out hAc.out; (with_reducible refine Q.mono ?_); rintro e w7 ⟨v7, rfl, ho7, hF7⟩; have hM7 := MemHeld.fb hM6 hF7; have hB7 := (hBX.trans hF6).trans hF7; replace ho7 := Lib.hid ho7))
        all_goals
          go_wp2_with fail
          go_roundw
          case measure => simp [intOf]; omega
          case rel => exact ⟨1, by omega, rfl, Lib.hid (by rw [htk1.out]; have := ho7.out; simpa using this), hB7⟩
      · rw [if_neg h0] at htk1 hp1
        have h0I : (0 : Int) < (k : Int) := by omega
        have hq : Hid ((l ++ 123 :: fmtM true (xs.take k) ++ [44] ++ qN key ++ [58]).length + (fmtN cx).length ≤ 140737488355328) := Lib.hid (by
          rw [List.length_append] at hp1
          simp only [List.length_append, List.length_cons, List.length_nil] at hp1
          simp only [List.length_append, List.length_cons, List.length_nil]
          have := hl.out
          omega)
        replace htk1 := Lib.hid htk1
        replace hp1 := Lib.hid hp1
        have hvb2 : ∀ k, u0.ownBlock = some k → k < wr.heap.size := fun k e => (World.ownsRow.lt hoR.out k e).2
        go_wp2_with (at_builtin; refine app_lit rfl _ _ rfl base _ _ rfl ((hoR.out.alloc _).alloc _) _ 1 1 _ _ _ [44] rfl (new2 wr _ _) rfl rfl (by have := hq.out; simp only [List.length_append, List.length_cons, List.length_nil] at this ⊢; omega) (by simp; omega) ?_)
        intro v3 X ho3 hg3
        have hBX : FB base w X := ((hBr.alloc hbr _).alloc (by simp; omega) _).row ((hoR.out.alloc _).alloc _) hg3 (by simp; omega)
        have hMX : MemHeld wr.heap.size key pl (.iface ut ua) X := box_row (old2 wr _ _) hg3 (fun e => by have := hvb2 _ e; omega)
        have hoX : Hid (OwnB X base v3 (l ++ 123 :: fmtM true (xs.take k) ++ [44])) := Lib.hid (by simpa using ho3)
        clear hg3 ho3 hvb2
        have QC : Hid (∀ W, OwnB W base v3 (l ++ 123 :: fmtM true (xs.take k) ++ [44]) → Env A B SU W → base ≤ W.heap.size → Calls Tryz.prog 70 #[v3, .string key] W (fun e w' => OutR base W (l ++ 123 :: fmtM true (xs.take k) ++ [44] ++ qN key) e w' ∧ W.grownBy w' (v3).ownBlock)) := Lib.hid (fun W h1 h2 h3 => quoted_calls key v3 _ W h2 h1 h3 hAk.out (by have := hq.out; simp only [List.length_append, List.length_cons] at this ⊢; omega))
        have AP : Hid (∀ x : Nat, x = (l ++ 123 :: fmtM true (xs.take k) ++ [44] ++ qN key).length → x + 1 ≤ 140737488355328) := Lib.hid (fun x hx => by have := hq.out; simp only [List.length_append, List.length_cons, List.length_nil] at this hx; omega)
        have hlv : Hid (∀ k, (v3).ownBlock = some k → k < X.heap.size) := Lib.hid (fun k e => (World.ownsRow.lt hoX.out k e).2)
        have hsX := hBX.size
        have hbX : base ≤ X.heap.size := by omega
        have hEX : Hid (∀ W, FB base X W → Env A B SU W) := Lib.hid (fun W h => hE.below ((hBX.trans h).bel.mono hB))
        have hXd : FB base X X.drew := FB.ofB (below_drewN (Below.refl _ _) 1) hbX
        have hXc : FB base X (X.alloc Col).drew := (FB.alloc (FB.refl _ _) hbX Col).trans (FB.ofB (below_drewN (Below.refl _ _) 1) (by simp; omega))
        have hbXd : base ≤ X.drew.heap.size := hbX
        have hbXc : base ≤ (X.alloc Col).drew.heap.size := by have := hXc.size; omega
        have hoXd : Hid (OwnB X.drew base v3 (l ++ 123 :: fmtM true (xs.take k) ++ [44])) := Lib.hid (hoX.out.next (below_drewN (Below.refl _ _) 1))
        have hoXc : Hid (OwnB (X.alloc Col).drew base v3 (l ++ 123 :: fmtM true (xs.take k) ++ [44])) := Lib.hid ((OwnB.alloc hoX.out Col).next (below_drewN (Below.refl _ _) 1))
        go_wp2_with fail
        go_region_held3 (fun w' => w'.cell? ⟨wr.heap.size, 0, none⟩ = some (.string key) ∧ w'.cell? ⟨wr.heap.size, 2, none⟩ = some (.iface ut ua) ∧ MemHeld wr.heap.size key pl (.iface ut ua) w') (first | exact MemHeld.cells ‹_› | exact MemHeld.cells (MemHeld.alloc ‹_› _) | exact MemHeld.cells (MemHeld.alloc hMX _).drew | exact MemHeld.cells hMX.drew) (first
          | (go_at_call 70; (with_reducible refine (QC.out X.drew hoXd.out (hEX.out _ hXd) hbXd).mono ?_); rintro e w5 ⟨⟨v5, rfl, ho5, hF5⟩, hG5⟩; have hM5 := MemHeld.fb hMX.drew hF5; have hz5 := FB.size hF5; have hF5' := hXd.trans hF5)
          | (go_at_call 70; (with_reducible refine (QC.out (X.alloc Col).drew hoXc.out (hEX.out _ hXc) hbXc).mono ?_); rintro e w5 ⟨⟨v5, rfl, ho5, hF5⟩, hG5⟩; have hM5 := MemHeld.fb (MemHeld.alloc hMX Col).drew hF5; have hz5 := FB.size hF5; have hlit := box_row (show (X.alloc Col).drew.heap[X.heap.size]? = some Col from heap_alloc_new X Col) hG5 (fun e => by have := hlv.out _ e; omega); have hF5' := hXc.trans hF5)
          | (refine step_app_lit rfl _ _ rfl base v5 (l ++ 123 :: fmtM true (xs.take k) ++ [44] ++ qN key) rfl (ho5.alloc Col) w5.heap.size 1 1 #[.int .u8 58] 5 (0, 0) [58] rfl (heap_alloc_new w5 _) rfl rfl (AP.out _ rfl) (by have := FB.size hF5'; simp; omega) ?_; intro v6 w6 ho6 hg6; have hF6 := FB.row (FB.alloc hF5' (by have := FB.size hF5'; omega) Col) (ho5.alloc Col) hg6 (by have := FB.size hF5'; simp; omega); have hM6 := MemHeld.fb hMX hF6)
          | (refine step_app_lit rfl _ _ rfl base v5 (l ++ 123 :: fmtM true (xs.take k) ++ [44] ++ qN key) rfl ho5 X.heap.size 1 1 #[.int .u8 58] 5 (0, 0) [58] rfl hlit rfl rfl (AP.out _ rfl) (by have := FB.size hF5'; omega) ?_; intro v6 w6 ho6 hg6; have hF6 := FB.row hF5' ho5 hg6 (by have := FB.size hF5'; omega); have hM6 := MemHeld.fb hMX hF6)
          | (go_at_call 39; have hz6 : base ≤ w6.heap.size := Nat.le_trans hbX (FB.size hF6); have Q := ihc.out w6 base v6 _ (hagree.out _ (hBX.trans hF6)) (hEX.out _ hF6) hch hz6 hB ho6 hq.out hAc.out; (with_reducible refine Q.mono ?_); rintro e w7 ⟨v7, rfl, ho7, hF7⟩; have hM7 := MemHeld.fb hM6 hF7; have hB7 := (hBX.trans hF6).trans hF7; replace ho7 := Lib.hid ho7))
        all_goals
          go_wp2_with fail
          go_roundw
          case measure => simp [intOf]; omega
          case rel => exact ⟨k + 1, by omega, by go_num, Lib.hid (by rw [htk1.out]; have := ho7.out; simpa using this), hB7⟩
    · obtain rfl : k = n := by omega
      have hlt' : ¬ (k : Int) < (k : Int) := by omega
      go_wp2_with (at_builtin; refine app_lit rfl _ _ rfl base _ _ rfl (hoR.out.alloc _) _ 1 1 _ _ _ [125] rfl (heap_alloc_new _ _) rfl rfl (by rw [hall.out, List.length_append, List.length_cons]; have := hl.out; omega) (by simp; omega) ?_)
      intro v3 w3 ho3 hg3
      have hB3 : FB base w w3 := (hBr.alloc hbr _).row (hoR.out.alloc _) hg3 (by simp; omega)
      rw [hall.out] at ho3
      clear hg3
      go_wp2_with fail
      go_ret
      exact ⟨v3, rfl, by simpa using ho3, hB3⟩
theorem format_calls {A : Nat → Addr} {B : Nat} {w0 : World} {lo hi : Nat} {u : Value} {x : Nd} (h : OwnN w0 lo hi u x) : FmtC A B w0 lo hi u x := by
  induction h with
  | null lo hi p => exact fmt_null lo hi p
  | flag lo hi p b => exact fmt_flag lo hi p b
  | num lo hi p t => exact fmt_num lo hi p t
  | text lo hi p t => exact fmt_text lo hi p t
  | lst lo hi p v cs ho hb hk hp hc ih => exact fmt_lst lo hi p v cs ho hb hk ih
  | obj lo hi p v cs ho hb hk hp hc ih => exact fmt_obj lo hi p v cs ho hb hk (fun c hm => (hc c hm).form) ih
/-- A text's own form, or nothing. -/
def formS (s : ByteArray) : ByteArray := match parseS s with | .ok x _ => ⟨(fmtN x).toArray⟩ | _ => ⟨#[]⟩
/-- What a function answers that parses first: its value, or the zero value and the error. -/
def ErrR (A : Nat → Addr) (lo : Nat) (r : PR Nd) (ok zero : Value) (e : Ending) (w' : World) : Prop := match r with
  | .ok _ _ => e = .returned (.tuple #[ok, .nilIface])
  | .err k pl => ∃ g, lo ≤ g ∧ e = .returned (.tuple #[zero, .iface 69 (.pointer (some ⟨g, 0, none⟩))]) ∧ AtB (pl : Int) (.iface 237 (.pointer (some (A k)))) g w'
  | .out => False
theorem parse_len {s : ByteArray} {x : Nd} {q : Nat} (hs : s.size ≤ 4194304) (h : parseS s = .ok x q) : (fmtN x).length ≤ 140737488355328 := by
  unfold parseS at h
  by_cases h0 : (someS s).2.1 = 0
  · rw [if_pos h0] at h
    obtain ⟨h1, h2⟩ := parse_pV h
    have hO := some_ok (by omega) h0
    obtain ⟨hu, hch, _⟩ := some_chain h0
    have hv0 := (utfE_brk s).1 hu
    have hbd := chain_bd _ 0 hv0 (Nat.zero_le _) hch
    have hlen := chain_len _ 0 hv0 (Nat.zero_le _) hch
    have ht : ∀ T ∈ (someS s).1, T.text.size ≤ s.size := fun T hT => by
      obtain ⟨h1, h2, h3, h4, h5, h6⟩ := hbd T hT
      have h7 := one_fr (by omega) h4 h6
      have := h7.2.2.2.2.1
      omega
    have := (p_len (s := s) (ts := (someS s).1) (m := s.size) (M := 6 * s.size + 8) (Nat.le_refl _) (textT_le ht) (wordT_le (Nat.le_refl _)) _).1 _ _ _ _ h1
    rw [h2] at this
    have h3 := Nat.mul_le_mul (show (someS s).1.length ≤ 4194304 by omega) (show 6 * s.size + 8 ≤ 25165832 by omega)
    omega
  · rw [if_neg h0] at h; cases h
theorem parse_small {s : ByteArray} {x : Nd} {q : Nat} (hs : s.size ≤ 3518437208882) (h : parseS s = .ok x q) : allT smallT x := by
  unfold parseS at h
  by_cases h0 : (someS s).2.1 = 0
  · rw [if_pos h0] at h
    obtain ⟨h1, h2⟩ := parse_pV h
    obtain ⟨hu, hch, _⟩ := some_chain h0
    have hv0 := (utfE_brk s).1 hu
    have hbd := chain_bd _ 0 hv0 (Nat.zero_le _) hch
    have ht : ∀ T ∈ (someS s).1, T.text.size ≤ s.size := fun T hT => by
      obtain ⟨h1, h2, h3, h4, h5, h6⟩ := hbd T hT
      have h7 := one_fr (by omega) h4 h6
      have := h7.2.2.2.2.1
      omega
    exact (p_all (P := smallT) (fun p _ => Nat.le_trans (textT_le ht p) hs) _).1 _ _ _ _ h1
  · rw [if_neg h0] at h; cases h
set_option maxHeartbeats 1000000 in
set_option maxRecDepth 100000 in
theorem Format_len {A : Nat → Addr} {B : Nat} (s : ByteArray) (w : World) (hE : Env A B SVN w) (hs : s.size ≤ 3518437208882) (hL : ∀ x q, parseS s = .ok x q → (fmtN x).length ≤ 140737488355328) :
    Calls Tryz.prog 15 #[.string s] w fun e w' => ErrR A w.heap.size (parseS s) (.string (formS s)) (.string ⟨#[]⟩) e w' ∧ Below w.heap.size w w' := by
  have P := Lib.hid (fun w hE => Parse_calls (A := A) (B := B) s w hE (by omega))
  have hlen := Lib.hid hL
  clear hL
  have hsm := Lib.hid (fun x q => parse_small (s := s) (x := x) (q := q) (by omega))
  have hf : formS s = match parseS s with | .ok x _ => ⟨(fmtN x).toArray⟩ | _ => ⟨#[]⟩ := rfl
  have hBw := hE.hB
  replace hE := Lib.hid hE
  generalize formS s = F at *
  generalize parseS s = R at *
  cases R with
  | out =>
    replace hf := Lib.hid hf
    go_enter Tryz.func15, Tryz.ntmps15
    (go_wp2_with fail; repeat (any_goals (go_quiet (fail); go_wp2_with fail)))
    refine (P.out _ (hE.out.next (by repeat (first | assumption | exact Below.refl _ _ | apply Below.drew | apply below_drewN | apply balloc | (refine Below.setCell ?_ (by first | omega | (simp <;> omega)) _))))).mono ?_
    rintro e w1 ⟨hr, hb⟩
    exact hr.elim
  | err k pl =>
    replace hf := Lib.hid hf
    go_enter Tryz.func15, Tryz.ntmps15
    (go_wp2_with fail; repeat (any_goals (go_quiet (fail); go_wp2_with fail)))
    refine (P.out _ (hE.out.next (by repeat (first | assumption | exact Below.refl _ _ | apply Below.drew | apply below_drewN | apply balloc | (refine Below.setCell ?_ (by first | omega | (simp <;> omega)) _))))).mono ?_
    rintro e w1 ⟨⟨g, hg, rfl, hat⟩, hb⟩
    have hb1 : Below w.heap.size w w1 := bcall (by repeat (first | assumption | exact Below.refl _ _ | apply Below.drew | apply below_drewN | apply balloc | (refine Below.setCell ?_ (by first | omega | (simp <;> omega)) _))) hb
    replace hat := Lib.hid hat
    (go_wp2_with fail; repeat (any_goals (go_quiet (fail); go_wp2_with fail)))
    go_ret2
    exact ⟨⟨g, hg, rfl, hat.out⟩, hb1⟩
  | ok x q =>
    have hlen := Lib.hid (hlen.out x q rfl)
    have hsm := Lib.hid (hsm.out x q rfl)
    replace hf := Lib.hid hf
    go_enter Tryz.func15, Tryz.ntmps15
    (go_wp2_with fail; repeat (any_goals (go_quiet (fail); go_wp2_with fail)))
    refine (P.out _ (hE.out.next (by repeat (first | assumption | exact Below.refl _ _ | apply Below.drew | apply below_drewN | apply balloc | (refine Below.setCell ?_ (by first | omega | (simp <;> omega)) _))))).mono ?_
    rintro e w1 ⟨⟨u, rfl, hN⟩, hb⟩
    have hb1 : Below w.heap.size w w1 := bcall (by repeat (first | assumption | exact Below.refl _ _ | apply Below.drew | apply below_drewN | apply balloc | (refine Below.setCell ?_ (by first | omega | (simp <;> omega)) _))) hb
    have hz := hb1.size
    obtain ⟨ut, ua, rfl⟩ := hN.form
    have FC := Lib.hid (format_calls (A := A) (B := B) hN)
    replace hN := Lib.hid hN
    go_wp2_with fail
    refine (FC.out w1 w1.heap.size _ [] (fun _ _ _ => rfl) ((hE.out.next hb1).sub (by decide)) (Nat.le_refl _) (Nat.le_refl _) (by omega) (OwnB.nil _ _) (by have := hlen.out; simpa using this) hsm.out).mono ?_
    rintro e w2 ⟨v', rfl, ho, hF⟩
    have hcv := conv_own ho
    rw [List.nil_append, ← hf.out] at hcv
    have hb2 : Below w.heap.size w w2 := hb1.trans (hF.bel.mono hz)
    clear ho hF
    go_wp2_with fail
    go_ret2
    exact ⟨rfl, hb2⟩
theorem Format_calls {A : Nat → Addr} {B : Nat} (s : ByteArray) (w : World) (hE : Env A B SVN w) (hs : s.size ≤ 4194304) :
    Calls Tryz.prog 15 #[.string s] w fun e w' => ErrR A w.heap.size (parseS s) (.string (formS s)) (.string ⟨#[]⟩) e w' ∧ Below w.heap.size w w' := Format_len s w hE (by omega) (fun _ _ h => parse_len hs h)

end Go.Proofs.YtibopkodoidjoaaGreatDoor

/- Package tree: kind, names, Name. -/
namespace Go.Proofs.YtibopkodoidjoaaGreatDoor
open Go Go.RowKit

/-- The number of a node's name. -/
def nameN : Nd → Nat
  | .null _ => 0
  | .flag _ _ => 1
  | .num _ _ => 2
  | .text _ _ => 3
  | .lst _ _ => 4
  | .obj _ _ => 5
def nameV : Array Value := #[.string ⟨#[110, 117, 108, 108]⟩, .string ⟨#[102, 108, 97, 103]⟩, .string ⟨#[110, 117, 109, 98, 101, 114]⟩, .string ⟨#[116, 101, 120, 116]⟩, .string ⟨#[108, 105, 115, 116]⟩, .string ⟨#[111, 98, 106, 101, 99, 116]⟩]
def nameS (n : Nat) : ByteArray := match n with | 0 => ⟨#[110, 117, 108, 108]⟩ | 1 => ⟨#[102, 108, 97, 103]⟩ | 2 => ⟨#[110, 117, 109, 98, 101, 114]⟩ | 3 => ⟨#[116, 101, 120, 116]⟩ | 4 => ⟨#[108, 105, 115, 116]⟩ | _ => ⟨#[111, 98, 106, 101, 99, 116]⟩
set_option maxHeartbeats 1000000 in
set_option maxRecDepth 100000 in
theorem kind_calls {w0 : World} {lo hi : Nat} {u : Value} {x : Nd} (h : OwnN w0 lo hi u x) (w : World) :
    Calls Tryz.prog 41 #[u] w fun e w' => e = .returned (.int .i64 (nameN x : Int)) ∧ Below w.heap.size w w' := by
  cases h with
  | null p =>
    go_enter Tryz.func41, Tryz.ntmps41
    (go_wp2_with fail; repeat (any_goals (go_quiet (fail); go_wp2_with fail)))
    go_ret
    exact ⟨rfl, (by repeat (first | assumption | exact Below.refl _ _ | apply Below.drew | apply below_drewN | apply balloc | (refine Below.setCell ?_ (by first | omega | (simp <;> omega)) _)))⟩
  | flag p b =>
    go_enter Tryz.func41, Tryz.ntmps41
    (go_wp2_with fail; repeat (any_goals (go_quiet (fail); go_wp2_with fail)))
    go_ret
    exact ⟨rfl, (by repeat (first | assumption | exact Below.refl _ _ | apply Below.drew | apply below_drewN | apply balloc | (refine Below.setCell ?_ (by first | omega | (simp <;> omega)) _)))⟩
  | num p t =>
    go_enter Tryz.func41, Tryz.ntmps41
    (go_wp2_with fail; repeat (any_goals (go_quiet (fail); go_wp2_with fail)))
    go_ret
    exact ⟨rfl, (by repeat (first | assumption | exact Below.refl _ _ | apply Below.drew | apply below_drewN | apply balloc | (refine Below.setCell ?_ (by first | omega | (simp <;> omega)) _)))⟩
  | text p t =>
    go_enter Tryz.func41, Tryz.ntmps41
    (go_wp2_with fail; repeat (any_goals (go_quiet (fail); go_wp2_with fail)))
    go_ret
    exact ⟨rfl, (by repeat (first | assumption | exact Below.refl _ _ | apply Below.drew | apply below_drewN | apply balloc | (refine Below.setCell ?_ (by first | omega | (simp <;> omega)) _)))⟩
  | lst _ _ p v cs ho hb hk hp hc =>
    clear ho hb hk hp hc
    go_enter Tryz.func41, Tryz.ntmps41
    (go_wp2_with fail; repeat (any_goals (go_quiet (fail); go_wp2_with fail)))
    go_ret
    exact ⟨rfl, (by repeat (first | assumption | exact Below.refl _ _ | apply Below.drew | apply below_drewN | apply balloc | (refine Below.setCell ?_ (by first | omega | (simp <;> omega)) _)))⟩
  | obj _ _ p v cs ho hb hk hp hc =>
    clear ho hb hk hp hc
    go_enter Tryz.func41, Tryz.ntmps41
    (go_wp2_with fail; repeat (any_goals (go_quiet (fail); go_wp2_with fail)))
    go_ret
    exact ⟨rfl, (by repeat (first | assumption | exact Below.refl _ _ | apply Below.drew | apply below_drewN | apply balloc | (refine Below.setCell ?_ (by first | omega | (simp <;> omega)) _)))⟩
set_option maxHeartbeats 1000000 in
theorem names_calls (w : World) : Calls Tryz.prog 40 #[] w fun e w' => e = .returned (.agg nameV) ∧ Below w.heap.size w w' := by
  go_enter Tryz.func40, Tryz.ntmps40
  (go_wp2_with fail; repeat (any_goals (go_quiet (fail); go_wp2_with fail)))
  exact bodyPost_ret (v := .agg nameV) (by simp [results, Tryz.results40, go_sem, nameV]) rfl ⟨rfl, (by repeat (first | assumption | exact Below.refl _ _ | apply Below.drew | apply below_drewN | apply balloc | (refine Below.setCell ?_ (by first | omega | (simp <;> omega)) _)))⟩
theorem name_index (n : Nat) (h : n < 6) (w : World) : (Instr.index 107 (.agg nameV) (.int .i64 (n : Int))).run Tryz.prog w = .ok (.string (nameS n)) w := by
  rcases (show n = 0 ∨ n = 1 ∨ n = 2 ∨ n = 3 ∨ n = 4 ∨ n = 5 by omega) with rfl | rfl | rfl | rfl | rfl | rfl <;> kernel_rfl
theorem nameN_lt (x : Nd) : nameN x < 6 := by cases x <;> simp [nameN]
set_option maxHeartbeats 1000000 in
set_option maxRecDepth 100000 in
theorem Name_calls {A : Nat → Addr} {B : Nat} (s : ByteArray) (w : World) (hE : Env A B SVN w) (hs : s.size ≤ 3518437208882) :
    Calls Tryz.prog 16 #[.string s] w fun e w' => ErrR A w.heap.size (parseS s) (.string (nameS (match parseS s with | .ok x _ => nameN x | _ => 0))) (.string ⟨#[]⟩) e w' ∧ Below w.heap.size w w' := by
  have P := Lib.hid (fun w hE => Parse_calls (A := A) (B := B) s w hE (by omega))
  replace hE := Lib.hid hE
  generalize parseS s = R at *
  cases R with
  | out =>
    go_enter Tryz.func16, Tryz.ntmps16
    (go_wp2_with fail; repeat (any_goals (go_quiet (fail); go_wp2_with fail)))
    refine (P.out _ (hE.out.next (by repeat (first | assumption | exact Below.refl _ _ | apply Below.drew | apply below_drewN | apply balloc | (refine Below.setCell ?_ (by first | omega | (simp <;> omega)) _))))).mono ?_
    rintro e w1 ⟨hr, hb⟩
    exact hr.elim
  | err k pl =>
    go_enter Tryz.func16, Tryz.ntmps16
    (go_wp2_with fail; repeat (any_goals (go_quiet (fail); go_wp2_with fail)))
    refine (P.out _ (hE.out.next (by repeat (first | assumption | exact Below.refl _ _ | apply Below.drew | apply below_drewN | apply balloc | (refine Below.setCell ?_ (by first | omega | (simp <;> omega)) _))))).mono ?_
    rintro e w1 ⟨⟨g, hg, rfl, hat⟩, hb⟩
    have hb1 : Below w.heap.size w w1 := bcall (by repeat (first | assumption | exact Below.refl _ _ | apply Below.drew | apply below_drewN | apply balloc | (refine Below.setCell ?_ (by first | omega | (simp <;> omega)) _))) hb
    replace hat := Lib.hid hat
    (go_wp2_with fail; repeat (any_goals (go_quiet (fail); go_wp2_with fail)))
    go_ret2
    exact ⟨⟨g, hg, rfl, hat.out⟩, hb1⟩
  | ok x q =>
    dsimp only
    have hix := name_index (nameN x) (nameN_lt x)
    have NC := Lib.hid names_calls
    have KC : Hid (∀ w0 lo hi u, OwnN w0 lo hi u x → ∀ w, Calls Tryz.prog 41 #[u] w fun e w' => e = .returned (.int .i64 (nameN x : Int)) ∧ Below w.heap.size w w') := Lib.hid (fun _ _ _ _ h w => kind_calls h w)
    generalize nameN x = n at *
    generalize nameS n = ns at *
    generalize nameV = nv at *
    go_enter Tryz.func16, Tryz.ntmps16
    (go_wp2_with fail; repeat (any_goals (go_quiet (fail); go_wp2_with fail)))
    refine (P.out _ (hE.out.next (by repeat (first | assumption | exact Below.refl _ _ | apply Below.drew | apply below_drewN | apply balloc | (refine Below.setCell ?_ (by first | omega | (simp <;> omega)) _))))).mono ?_
    rintro e w1 ⟨⟨u, rfl, hN⟩, hb⟩
    have hb1 : Below w.heap.size w w1 := bcall (by repeat (first | assumption | exact Below.refl _ _ | apply Below.drew | apply below_drewN | apply balloc | (refine Below.setCell ?_ (by first | omega | (simp <;> omega)) _))) hb
    obtain ⟨ut, ua, rfl⟩ := hN.form
    replace hN := Lib.hid hN
    go_wp2_with fail
    refine (NC.out _).mono ?_
    rintro e w2 ⟨rfl, hb⟩
    have hb2 : Below w.heap.size w w2 := bcall hb1 hb
    clear hb
    go_wp2_with fail
    refine (KC.out _ _ _ _ hN.out _).mono ?_
    rintro e w3 ⟨rfl, hb⟩
    have hb3 : Below w.heap.size w w3 := bcall hb2 hb
    clear hb
    go_wp2_with fail
    go_ret2
    exact ⟨rfl, hb3⟩

end Go.Proofs.YtibopkodoidjoaaGreatDoor

/- Package tree: count, Count. -/
namespace Go.Proofs.YtibopkodoidjoaaGreatDoor
open Go Go.RowKit

def one6 (n : Nat) (i : Nat) : Nat := if i = n then 1 else 0
mutual
/-- How many nodes of each name. -/
def cntN : Nd → Nat → Nat
  | .null _, i => one6 0 i
  | .flag _ _, i => one6 1 i
  | .num _ _, i => one6 2 i
  | .text _ _, i => one6 3 i
  | .lst _ xs, i => one6 4 i + cntL xs i
  | .obj _ xs, i => one6 5 i + cntM xs i
def cntL : List Nd → Nat → Nat
  | [], _ => 0
  | x :: xs, i => cntN x i + cntL xs i
def cntM : List (ByteArray × Nat × Nd) → Nat → Nat
  | [], _ => 0
  | (_, _, x) :: xs, i => cntN x i + cntM xs i
end
mutual
theorem cnt_strip : ∀ (x : Nd) (i : Nat), cntN x.strip i = cntN x i
  | .null _, _ => rfl
  | .flag _ _, _ => rfl
  | .num _ _, _ => rfl
  | .text _ _, _ => rfl
  | .lst _ xs, i => by rw [Nd.strip, cntN, cntN, cntL_strip]
  | .obj _ xs, i => by rw [Nd.strip, cntN, cntN, cntM_strip]
theorem cntL_strip : ∀ (xs : List Nd) (i : Nat), cntL (stripL xs) i = cntL xs i
  | [], _ => by rw [stripL]
  | x :: xs, i => by rw [stripL, cntL, cntL, cnt_strip x, cntL_strip xs]
theorem cntM_strip : ∀ (xs : List (ByteArray × Nat × Nd)) (i : Nat), cntM (stripM xs) i = cntM xs i
  | [], _ => by rw [stripM]
  | (k, p, x) :: xs, i => by rw [stripM, cntM, cntM, cnt_strip x, cntM_strip xs]
end
/-- The six counts as values. -/
def intsC (f : Nat → Nat) : Array Value := #[.int .i64 (f 0 : Int), .int .i64 (f 1 : Int), .int .i64 (f 2 : Int), .int .i64 (f 3 : Int), .int .i64 (f 4 : Int), .int .i64 (f 5 : Int)]
def CntB (b : Nat) (f : Nat → Nat) (w : World) : Prop := w.heap[b]? = some (.cells (intsC f) 44 (0, 0))
theorem CntB.at {b : Nat} {f : Nat → Nat} {w : World} (h : CntB b f w) {n : Nat} (hn : n < 6) : w.cell? ⟨b, n, none⟩ = some (.int .i64 (f n : Int)) := by
  refine cellB h n ?_
  rcases (show n = 0 ∨ n = 1 ∨ n = 2 ∨ n = 3 ∨ n = 4 ∨ n = 5 by omega) with rfl | rfl | rfl | rfl | rfl | rfl <;> rfl
theorem CntB.inc {b : Nat} {f : Nat → Nat} {w : World} (h : CntB b f w) {n : Nat} (hn : n < 6) : CntB b (fun i => f i + one6 n i) (w.setCell ⟨b, n, none⟩ (.int .i64 ((f n : Int) + 1))) := by
  unfold CntB at h ⊢
  rw [Lib.heap_setCell_same (i := n) h]
  rcases (show n = 0 ∨ n = 1 ∨ n = 2 ∨ n = 3 ∨ n = 4 ∨ n = 5 by omega) with rfl | rfl | rfl | rfl | rfl | rfl <;> simp [intsC, one6]
theorem CntB.grown {b : Nat} {f : Nat → Nat} {w w' : World} (h : CntB b f w) (hb : Below w.heap.size w w') : CntB b f w' := box_next h hb
theorem CntB.congr {b : Nat} {f g : Nat → Nat} {w : World} (h : CntB b f w) (e : ∀ i, g i = f i) : CntB b g w := by
  have : g = f := funext e
  rw [this]; exact h
/-- What is asked of count at a node that lay in world w0. -/
def CntC (w0 : World) (lo hi : Nat) (u : Value) (x : Nd) : Prop := ∀ w b f, (∀ k, lo ≤ k → k < hi → w.heap[k]? = w0.heap[k]?) → (b < lo ∨ hi ≤ b) → hi ≤ w.heap.size → CntB b f w → (∀ i, f i + cntN x i ≤ 4611686018427387904) →
  Calls Tryz.prog 42 #[.pointer (some ⟨b, 0, none⟩), u] w fun e w' => e = .returned (.tuple #[]) ∧ CntB b (fun i => f i + cntN x i) w' ∧ w.grownBy w' (some b)
section
variable {w0 : World}
end
end Go.Proofs.YtibopkodoidjoaaGreatDoor

/- Package tree, a plain law: blanks put between the tokens of a text change neither its form nor the kind of its error. No program in sight. -/
namespace Go.Proofs.YtibopkodoidjoaaGreatDoor
open Go Go.RowKit

/-- The blank that a byte stands for. -/
def blkB (c : Nat) : UInt8 := if c % 4 = 0 then 32 else if c % 4 = 1 then 9 else if c % 4 = 2 then 10 else 13
/-- k blanks of a text. -/
def gapK (b : ByteArray) (k : Nat) : List UInt8 := (List.range k).map fun j => blkB (bAt b j)
/-- The blanks that a text stands for. -/
def gapB (b : ByteArray) : List UInt8 := if b.size = 0 then [32] else gapK b (min b.size 9)
/-- The tokens with the blanks ahead of each. -/
def itemsS (bs : List ByteArray) : Nat → List Tk → List (List UInt8 × Tk)
  | _, [] => []
  | i, T :: r => (gapB (bs.getD (i % bs.length) noS), T) :: itemsS bs (i + 1) r
/-- The text that the statement makes of the first k tokens. -/
def spacedK (s : ByteArray) (bs : List ByteArray) (ts : List Tk) : List UInt8 := layL s [] (itemsS bs 0 ts)
/-- Two parses that are the same, places aside. -/
def SameR : PR Nd → PR Nd → Prop
  | .ok x q, .ok x' q' => x'.strip = x.strip ∧ q' = q
  | .err k _, .err k' _ => k' = k
  | .out, .out => True
  | _, _ => False
/-- The statement's text, whole. -/
def spacedS (s : ByteArray) (bs : List ByteArray) : ByteArray := ⟨(spacedK s bs (someS s).1 ++ [10]).toArray⟩
end Go.Proofs.YtibopkodoidjoaaGreatDoor

/- Package tree, plain laws: the tokens of a node's text; the text's scan is just these tokens. No program in sight. -/
namespace Go.Proofs.YtibopkodoidjoaaGreatDoor
open Go Go.RowKit

/-- A token as it stands in a text of one form: its kind, its text, its bytes. -/
structure CT where
  kind : Nat
  text : ByteArray
  bytes : List UInt8
def pun (k : Nat) (c : UInt8) : CT := ⟨k, noS, [c]⟩
mutual
def toksN : Nd → List CT
  | .null _ => [⟨1, noS, litNull⟩]
  | .flag _ b => [⟨if b then 2 else 3, noS, litFlag b⟩]
  | .num _ t => [⟨4, noS, t.data.toList⟩]
  | .text _ t => [⟨5, t, qN t⟩]
  | .lst _ xs => pun 8 91 :: (toksL true xs ++ [pun 9 93])
  | .obj _ xs => pun 6 123 :: (toksM true xs ++ [pun 7 125])
def toksL : Bool → List Nd → List CT
  | _, [] => []
  | b, x :: xs => (if b then [] else [pun 11 44]) ++ (toksN x ++ toksL false xs)
def toksM : Bool → List (ByteArray × Nat × Nd) → List CT
  | _, [] => []
  | b, (k, _, x) :: xs => (if b then [] else [pun 11 44]) ++ (⟨5, k, qN k⟩ :: pun 10 58 :: (toksN x ++ toksM false xs))
end
def flatC (cs : List CT) : List UInt8 := cs.flatMap CT.bytes
theorem flatC_app (a b : List CT) : flatC (a ++ b) = flatC a ++ flatC b := by unfold flatC; rw [List.flatMap_append]
theorem flatC_cons (a : CT) (b : List CT) : flatC (a :: b) = a.bytes ++ flatC b := by unfold flatC; rw [List.flatMap_cons]
theorem flatC_nil : flatC [] = [] := rfl
mutual
theorem flat_fmt : ∀ x : Nd, flatC (toksN x) = fmtN x
  | .null _ => by rw [toksN, fmtN, flatC_cons, flatC_nil, List.append_nil]
  | .flag _ b => by rw [toksN, fmtN, flatC_cons, flatC_nil, List.append_nil]
  | .num _ t => by rw [toksN, fmtN, flatC_cons, flatC_nil, List.append_nil]
  | .text _ t => by rw [toksN, fmtN, flatC_cons, flatC_nil, List.append_nil]
  | .lst _ xs => by
    rw [toksN, fmtN, flatC_cons, flatC_app, flat_fmtL true xs]
    rfl
  | .obj _ xs => by
    rw [toksN, fmtN, flatC_cons, flatC_app, flat_fmtM true xs]
    rfl
theorem flat_fmtL : ∀ (b : Bool) (xs : List Nd), flatC (toksL b xs) = fmtL b xs
  | _, [] => by rw [toksL, fmtL]; rfl
  | b, x :: xs => by
    rw [toksL, fmtL, flatC_app, flatC_app, flat_fmt x, flat_fmtL false xs]
    cases b <;> rfl
theorem flat_fmtM : ∀ (b : Bool) (xs : List (ByteArray × Nat × Nd)), flatC (toksM b xs) = fmtM b xs
  | _, [] => by rw [toksM, fmtM]; rfl
  | b, (k, p, x) :: xs => by
    rw [toksM, fmtM, flatC_app, flatC_cons, flatC_cons, flatC_app, flat_fmt x, flat_fmtM false xs]
    cases b <;> rfl
end
/-- What comes next stops a number. -/
def stopsC : List CT → Prop
  | [] => True
  | b :: _ => stopB (nthN b.bytes 0) ∧ b.bytes ≠ []
/-- Behind each number stands what stops it. -/
def adjC : List CT → Prop
  | [] => True
  | a :: r => (a.kind = 4 → stopsC r) ∧ adjC r
theorem stop44 : stopB 44 := ⟨by decide, by decide, by decide, by decide⟩
theorem stop93 : stopB 93 := ⟨by decide, by decide, by decide, by decide⟩
theorem stop125 : stopB 125 := ⟨by decide, by decide, by decide, by decide⟩
mutual
theorem adj_toks : ∀ (x : Nd) (r : List CT), stopsC r → adjC r → adjC (toksN x ++ r)
  | .null _, r, h, h2 => by rw [toksN]; exact ⟨(fun e => by cases e), h2⟩
  | .flag _ b, r, h, h2 => by rw [toksN]; exact ⟨(fun e => by cases b <;> cases e), h2⟩
  | .num _ t, r, h, h2 => by rw [toksN]; exact ⟨(fun _ => h), h2⟩
  | .text _ t, r, h, h2 => by rw [toksN]; exact ⟨(fun e => by cases e), h2⟩
  | .lst _ xs, r, h, h2 => by
    rw [toksN, List.cons_append, List.append_assoc]
    exact ⟨(fun e => by cases e), adj_toksL true xs _ ⟨stop93, List.cons_ne_nil _ _⟩ ⟨(fun e => by cases e), h2⟩⟩
  | .obj _ xs, r, h, h2 => by
    rw [toksN, List.cons_append, List.append_assoc]
    exact ⟨(fun e => by cases e), adj_toksM true xs _ ⟨stop125, List.cons_ne_nil _ _⟩ ⟨(fun e => by cases e), h2⟩⟩
theorem adj_toksL : ∀ (b : Bool) (xs : List Nd) (r : List CT), stopsC r → adjC r → adjC (toksL b xs ++ r)
  | _, [], r, h, h2 => by rw [toksL]; exact h2
  | b, x :: xs, r, h, h2 => by
    have h3 := adj_toksL false xs r h h2
    have h4 : stopsC (toksL false xs ++ r) := by
      cases xs with
      | nil => rw [toksL]; exact h
      | cons y ys => rw [toksL]; exact ⟨stop44, List.cons_ne_nil _ _⟩
    have h5 := adj_toks x _ h4 h3
    rw [toksL, List.append_assoc, List.append_assoc]
    cases b with
    | true => exact h5
    | false => exact ⟨(fun e => by cases e), h5⟩
theorem adj_toksM : ∀ (b : Bool) (xs : List (ByteArray × Nat × Nd)) (r : List CT), stopsC r → adjC r → adjC (toksM b xs ++ r)
  | _, [], r, h, h2 => by rw [toksM]; exact h2
  | b, (k, p, x) :: xs, r, h, h2 => by
    have h3 := adj_toksM false xs r h h2
    have h4 : stopsC (toksM false xs ++ r) := by
      cases xs with
      | nil => rw [toksM]; exact h
      | cons y ys => obtain ⟨k', p', y⟩ := y; rw [toksM]; exact ⟨stop44, List.cons_ne_nil _ _⟩
    have h5 := adj_toks x _ h4 h3
    rw [toksM, List.append_assoc, List.cons_append, List.cons_append, List.append_assoc]
    cases b with
    | true => exact ⟨(fun e => by cases e), (fun e => by cases e), h5⟩
    | false => exact ⟨(fun e => by cases e), (fun e => by cases e), (fun e => by cases e), h5⟩
end
/-- Wherever it stands, it is that one token. -/
structure okC (c : CT) : Prop where
  one : ∀ B Z : List UInt8, (c.kind = 4 → stopB (nthN Z 0)) → oneAt ⟨(B ++ (c.bytes ++ Z)).toArray⟩ B.length = (0, 0, ⟨c.kind, B.length, B.length + c.bytes.length, c.text⟩)
  pos : 0 < c.bytes.length
  vl : VL (c.bytes.map UInt8.toNat)
def wantC : Nat → List CT → List Tk
  | _, [] => []
  | p, c :: r => ⟨c.kind, p, p + c.bytes.length, c.text⟩ :: wantC (p + c.bytes.length) r
/-- How long the tokens are together. -/
def sumT : List Tk → Nat
  | [] => 0
  | T :: r => (T.to - T.fr) + sumT r
/-! ### The tokens of a parsed text -/
def bytesI (s : ByteArray) (ts : List Tk) (p : Nat) : List UInt8 :=
  if kindT ts p = 1 then litNull else if kindT ts p = 2 then litFlag true else if kindT ts p = 3 then litFlag false else if kindT ts p = 4 then (wordT s ts p).data.toList
  else if kindT ts p = 5 then qN (textT ts p) else if kindT ts p = 6 then [123] else if kindT ts p = 7 then [125] else if kindT ts p = 8 then [91] else if kindT ts p = 9 then [93] else if kindT ts p = 10 then [58] else [44]
def canI (s : ByteArray) (ts : List Tk) (p : Nat) : CT := ⟨kindT ts p, textT ts p, bytesI s ts p⟩
def segI (s : ByteArray) (ts : List Tk) (p n : Nat) : List CT := (List.range' p n).map (canI s ts)
theorem segI_one (s : ByteArray) (ts : List Tk) (p : Nat) : segI s ts p 1 = [canI s ts p] := rfl
theorem segI_cons (s : ByteArray) (ts : List Tk) (p n : Nat) : segI s ts p (n + 1) = canI s ts p :: segI s ts (p + 1) n := by unfold segI; rw [List.range'_succ, List.map_cons]
theorem segI_app (s : ByteArray) (ts : List Tk) (p m n : Nat) : segI s ts p m ++ segI s ts (p + m) n = segI s ts p (m + n) := by
  unfold segI
  rw [← List.map_append, List.range'_append_1]
theorem p_toks {s : ByteArray} {ts : List Tk} (hno : ∀ p, kindT ts p ≠ 5 → textT ts p = noS) : ∀ f,
    (∀ deep p x q, pV s ts f deep p = .ok x q → p < q ∧ toksN x = segI s ts p (q - p)) ∧
    (∀ deep p xs q, pI s ts f deep p = .ok xs q → p < q ∧ xs ≠ [] ∧ toksL true xs ++ [pun 9 93] = segI s ts p (q - p)) ∧
    (∀ deep seen p xs q, pM s ts f deep seen p = .ok xs q → p < q ∧ xs ≠ [] ∧ toksM true xs ++ [pun 7 125] = segI s ts p (q - p))
  | 0 => ⟨(fun _ _ _ _ h => by rw [pV] at h; cases h), (fun _ _ _ _ h => by rw [pI] at h; cases h), (fun _ _ _ _ _ h => by rw [pM] at h; cases h)⟩
  | f + 1 => by
    obtain ⟨iV, iI, iM⟩ := p_toks hno f
    have c8 : ∀ p, kindT ts p = 8 → canI s ts p = pun 8 91 := fun p h => by unfold canI bytesI; rw [hno p (by omega), h]; rfl
    have c6 : ∀ p, kindT ts p = 6 → canI s ts p = pun 6 123 := fun p h => by unfold canI bytesI; rw [hno p (by omega), h]; rfl
    have c9 : ∀ p, kindT ts p = 9 → canI s ts p = pun 9 93 := fun p h => by unfold canI bytesI; rw [hno p (by omega), h]; rfl
    have c7 : ∀ p, kindT ts p = 7 → canI s ts p = pun 7 125 := fun p h => by unfold canI bytesI; rw [hno p (by omega), h]; rfl
    have c10 : ∀ p, kindT ts p = 10 → canI s ts p = pun 10 58 := fun p h => by unfold canI bytesI; rw [hno p (by omega), h]; rfl
    have c11 : ∀ p, kindT ts p = 11 → canI s ts p = pun 11 44 := fun p h => by unfold canI bytesI; rw [hno p (by omega), h]; rfl
    have c5 : ∀ p, kindT ts p = 5 → canI s ts p = ⟨5, textT ts p, qN (textT ts p)⟩ := fun p h => by unfold canI bytesI; rw [h]; rfl
    have one : ∀ p, p + 1 - p = 1 := fun p => by omega
    have rst : ∀ stop r b r', rest s ts stop r = .ok b r' → r' = r + 1 ∧ (b = true → kindT ts r = stop) ∧ (b = false → kindT ts r = 11) := fun stop r b r' h => by
      unfold rest at h
      split at h
      · cases h; exact ⟨rfl, (fun _ => by assumption), (fun e => by cases e)⟩
      · split at h
        · cases h; exact ⟨rfl, (fun e => by cases e), (fun _ => by assumption)⟩
        · cases h
    have commaL : ∀ ys, toksL false ys = if ys = [] then [] else pun 11 44 :: toksL true ys := fun ys => by
      cases ys with
      | nil => rw [toksL]; rfl
      | cons y ys => rw [if_neg (List.cons_ne_nil _ _), toksL, toksL]; rfl
    have commaM : ∀ ys, toksM false ys = if ys = [] then [] else pun 11 44 :: toksM true ys := fun ys => by
      cases ys with
      | nil => rw [toksM]; rfl
      | cons y ys => obtain ⟨k, p, y⟩ := y; rw [if_neg (List.cons_ne_nil _ _), toksM, toksM]; rfl
    refine ⟨?_, ?_, ?_⟩
    · intro deep p x q h
      rw [pV] at h
      split at h
      · rename_i k; cases h; exact ⟨Nat.lt_succ_self _, by rw [one, segI_one, toksN]; unfold canI bytesI; rw [hno p (by omega), k]; rfl⟩
      split at h
      · rename_i k; cases h; exact ⟨Nat.lt_succ_self _, by rw [one, segI_one, toksN]; unfold canI bytesI; rw [hno p (by omega), k]; rfl⟩
      split at h
      · rename_i k; cases h; exact ⟨Nat.lt_succ_self _, by rw [one, segI_one, toksN]; unfold canI bytesI; rw [hno p (by omega), k]; rfl⟩
      split at h
      · rename_i k; cases h; exact ⟨Nat.lt_succ_self _, by rw [one, segI_one, toksN]; unfold canI bytesI; rw [hno p (by omega), k]; rfl⟩
      split at h
      · rename_i k; cases h; exact ⟨Nat.lt_succ_self _, by rw [one, segI_one, toksN, c5 p k]⟩
      split at h
      · rename_i k8
        split at h
        · cases h
        · by_cases h9 : kindT ts (p + 1) = 9
          · rw [if_pos h9] at h; cases h
            refine ⟨by omega, ?_⟩
            rw [show p + 2 - p = 1 + 1 by omega, segI_cons, segI_one, c8 p k8, c9 _ h9, toksN, toksL]; rfl
          · rw [if_neg h9] at h
            cases hI : pI s ts f deep (p + 1) with
            | ok xs r =>
              rw [hI] at h; cases h
              obtain ⟨h1, _, h2⟩ := iI _ _ _ _ hI
              refine ⟨by omega, ?_⟩
              rw [show q - p = (q - (p + 1)) + 1 by omega, segI_cons, c8 p k8, toksN, h2]
            | err k pl => rw [hI] at h; cases h
            | out => rw [hI] at h; cases h
      split at h
      · rename_i k6
        split at h
        · cases h
        · by_cases h9 : kindT ts (p + 1) = 7
          · rw [if_pos h9] at h; cases h
            refine ⟨by omega, ?_⟩
            rw [show p + 2 - p = 1 + 1 by omega, segI_cons, segI_one, c6 p k6, c7 _ h9, toksN, toksM]; rfl
          · rw [if_neg h9] at h
            cases hI : pM s ts f deep [] (p + 1) with
            | ok xs r =>
              rw [hI] at h; cases h
              obtain ⟨h1, _, h2⟩ := iM _ _ _ _ _ hI
              refine ⟨by omega, ?_⟩
              rw [show q - p = (q - (p + 1)) + 1 by omega, segI_cons, c6 p k6, toksN, h2]
            | err k pl => rw [hI] at h; cases h
            | out => rw [hI] at h; cases h
      cases h
    · intro deep p xs q h
      rw [pI] at h
      cases hV : pV s ts f (deep + 1) p with
      | err k pl => rw [hV] at h; cases h
      | out => rw [hV] at h; cases h
      | ok x r =>
        rw [hV] at h
        dsimp only at h
        obtain ⟨h1, h2⟩ := iV _ _ _ _ hV
        cases hr : rest s ts 9 r with
        | err k pl => rw [hr] at h; cases h
        | out => rw [hr] at h; cases h
        | ok b r' =>
          obtain ⟨rfl, hb1, hb2⟩ := rst _ _ _ _ hr
          rw [hr] at h
          cases b with
          | true =>
            cases h
            refine ⟨by omega, List.cons_ne_nil _ _, ?_⟩
            rw [toksL, toksL, h2, show r + 1 - p = (r - p) + 1 by omega, ← segI_app, segI_one, show p + (r - p) = r by omega, c9 r (hb1 rfl)]
            simp
          | false =>
            dsimp only at h
            cases hI : pI s ts f deep (r + 1) with
            | ok ys r2 =>
              rw [hI] at h; cases h
              obtain ⟨h3, hne, h4⟩ := iI _ _ _ _ hI
              refine ⟨by omega, List.cons_ne_nil _ _, ?_⟩
              rw [toksL, commaL, if_neg hne, h2]
              rw [show q - p = (r - p) + ((q - (r + 1)) + 1) by omega, ← segI_app, show p + (r - p) = r by omega, segI_cons, c11 r (hb2 rfl), ← h4]
              simp
            | err k pl => rw [hI] at h; cases h
            | out => rw [hI] at h; cases h
    · intro deep seen p xs q h
      rw [pM] at h
      split at h
      · rename_i k5
        split at h
        · cases h
        · split at h
          · rename_i k10
            cases hV : pV s ts f (deep + 1) (p + 2) with
            | err k pl => rw [hV] at h; cases h
            | out => rw [hV] at h; cases h
            | ok x r =>
              rw [hV] at h
              dsimp only at h
              obtain ⟨h1, h2⟩ := iV _ _ _ _ hV
              cases hr : rest s ts 7 r with
              | err k pl => rw [hr] at h; cases h
              | out => rw [hr] at h; cases h
              | ok b r' =>
                obtain ⟨rfl, hb1, hb2⟩ := rst _ _ _ _ hr
                rw [hr] at h
                cases b with
                | true =>
                  cases h
                  refine ⟨by omega, List.cons_ne_nil _ _, ?_⟩
                  rw [toksM, toksM, h2, show r + 1 - p = ((r - (p + 2)) + 1 + 1) + 1 by omega, segI_cons, segI_cons, ← segI_app, segI_one, show p + 1 + 1 + (r - (p + 2)) = r by omega, c7 r (hb1 rfl), c5 p k5, c10 _ k10]
                  simp
                | false =>
                  dsimp only at h
                  cases hI : pM s ts f deep (seen ++ [textT ts p]) (r + 1) with
                  | ok ys r2 =>
                    rw [hI] at h; cases h
                    obtain ⟨h3, hne, h4⟩ := iM _ _ _ _ _ hI
                    refine ⟨by omega, List.cons_ne_nil _ _, ?_⟩
                    rw [toksM, commaM, if_neg hne, h2]
                    rw [show q - p = ((r - (p + 2)) + ((q - (r + 1)) + 1) + 1) + 1 by omega, segI_cons, segI_cons, ← segI_app, show p + 1 + 1 + (r - (p + 2)) = r by omega, segI_cons, c11 r (hb2 rfl), ← h4, c5 p k5, c10 _ k10]
                    simp
                  | err k pl => rw [hI] at h; cases h
                  | out => rw [hI] at h; cases h
          · cases h
      · cases h

end Go.Proofs.YtibopkodoidjoaaGreatDoor

/- Package tree: Count; a parse's node is small. -/
namespace Go.Proofs.YtibopkodoidjoaaGreatDoor
open Go Go.RowKit

theorem one6_le (n i : Nat) : one6 n i ≤ 1 := by unfold one6; split <;> omega
mutual
theorem cnt_le : ∀ (x : Nd) (i : Nat), cntN x i ≤ (toksN x).length
  | .null _, i => by rw [cntN, toksN]; exact one6_le _ _
  | .flag _ _, i => by rw [cntN, toksN]; exact one6_le _ _
  | .num _ _, i => by rw [cntN, toksN]; exact one6_le _ _
  | .text _ _, i => by rw [cntN, toksN]; exact one6_le _ _
  | .lst _ xs, i => by
    have h1 := one6_le 4 i
    have h2 := cntL_le true xs i
    rw [cntN, toksN, List.length_cons, List.length_append]
    omega
  | .obj _ xs, i => by
    have h1 := one6_le 5 i
    have h2 := cntM_le true xs i
    rw [cntN, toksN, List.length_cons, List.length_append]
    omega
theorem cntL_le : ∀ (b : Bool) (xs : List Nd) (i : Nat), cntL xs i ≤ (toksL b xs).length
  | _, [], i => by rw [cntL]; exact Nat.zero_le _
  | b, x :: xs, i => by
    have h1 := cnt_le x i
    have h2 := cntL_le false xs i
    rw [cntL, toksL, List.length_append, List.length_append]
    omega
theorem cntM_le : ∀ (b : Bool) (xs : List (ByteArray × Nat × Nd)) (i : Nat), cntM xs i ≤ (toksM b xs).length
  | _, [], i => by rw [cntM]; exact Nat.zero_le _
  | b, (k, p, x) :: xs, i => by
    have h1 := cnt_le x i
    have h2 := cntM_le false xs i
    rw [cntM, toksM, List.length_append, List.length_cons, List.length_cons, List.length_append]
    omega
end
/-- Only a text's token has a text. -/
theorem one_text_no {s : ByteArray} {i : Nat} {T : Tk} (h : oneAt s i = (0, 0, T)) (hk : T.kind ≠ 5) : T.text = noS := by
  unfold oneAt at h
  simp only at h
  split at h
  · cases h; rfl
  split at h
  · split at h
    · cases h; rfl
    · cases h
  split at h
  · split at h
    · cases h; rfl
    · cases h
  split at h
  · split at h
    · cases h; rfl
    · cases h
  split at h
  · split at h
    · cases h; rfl
    · cases h
  split at h
  · split at h
    · cases h; exact absurd rfl hk
    · rename_i h5
      simp only [Prod.mk.injEq] at h
      exact absurd h.1 h5
  · cases h
/-- Of a text that scans: its tokens, each by itself. -/
theorem some_tok {s : ByteArray} (h : (someS s).2.1 = 0) : ∀ T ∈ (someS s).1, T.fr < T.to ∧ T.to ≤ s.size ∧ brkAt s T.fr = s.size ∧ oneAt s T.fr = (0, 0, T) := by
  obtain ⟨hu, hch, _⟩ := some_chain h
  intro T hT
  obtain ⟨h1, h2, h3, h4, h5, h6⟩ := chain_bd _ 0 ((utfE_brk s).1 hu) (Nat.zero_le _) hch T hT
  exact ⟨h2, h3, h4, h6⟩
theorem some_no {s : ByteArray} (h : (someS s).2.1 = 0) (p : Nat) (hk : kindT (someS s).1 p ≠ 5) : textT (someS s).1 p = noS := by
  unfold textT
  unfold kindT at hk
  cases hT : (someS s).1[p]? with
  | none => rfl
  | some T =>
    rw [hT] at hk
    exact one_text_no (some_tok h T (List.mem_of_getElem? hT)).2.2.2 hk
theorem parse_toks {s : ByteArray} {x : Nd} {q : Nat} (h : parseS s = .ok x q) : (someS s).2.1 = 0 ∧ q = (someS s).1.length ∧ toksN x = segI s (someS s).1 0 (someS s).1.length := by
  unfold parseS at h
  by_cases h0 : (someS s).2.1 = 0
  · rw [if_pos h0] at h
    obtain ⟨h1, h2⟩ := parse_pV h
    have := (p_toks (s := s) (some_no h0) _).1 _ _ _ _ h1
    rw [h2, Nat.sub_zero] at this
    exact ⟨h0, h2, this.2⟩
  · rw [if_neg h0] at h; cases h
def set6 (w : World) (r : Nat) (v0 v1 v2 v3 v4 v5 : Value) : World := (((((w.setCell ⟨r, 0, none⟩ v0).setCell ⟨r, 1, none⟩ v1).setCell ⟨r, 2, none⟩ v2).setCell ⟨r, 3, none⟩ v3).setCell ⟨r, 4, none⟩ v4).setCell ⟨r, 5, none⟩ v5
end Go.Proofs.YtibopkodoidjoaaGreatDoor

/- Package tree: number. -/
namespace Go.Proofs.YtibopkodoidjoaaGreatDoor
open Go Go.RowKit

def digB (c : Nat) : Bool := 48 ≤ c && c ≤ 57
/-- The first byte from i on that is no digit's; the text's size, if there is none. -/
def digE (s : ByteArray) : Nat → Nat → Nat
  | 0, i => i
  | f + 1, i => if i < s.size ∧ digB (bAt s i) = true then digE s f (i + 1) else i
/-- Does a text tell an item's number? -/
def numOk (t : ByteArray) : Bool := decide (t.size ≠ 0 ∧ ¬ (bAt t 0 = 48 ∧ t ≠ ⟨#[48]⟩) ∧ ∀ j, j < t.size → digB (bAt t j) = true)
/-- The number. -/
def numV (t : ByteArray) : Int := match Lib.atoiAll t.data.toList with | .ok v => v | _ => -1
def KeyR (t : ByteArray) : Value := if numOk t = true then .tuple #[.int .i64 (numV t), .bool true] else .tuple #[.int .i64 0, .bool false]
theorem numOk_iff (t : ByteArray) : numOk t = true ↔ (t.size ≠ 0 ∧ ¬ (bAt t 0 = 48 ∧ t ≠ ⟨#[48]⟩) ∧ ∀ j, j < t.size → digB (bAt t j) = true) := by unfold numOk; exact decide_eq_true_iff
theorem atoi_any {A : Nat → Addr} {B : Nat} (t : ByteArray) (w : World) (hE : Env A B [20, 21] w) (ht : t.size ≤ 281474976710656) :
    Calls Tryz.prog 103 #[.string t] w fun e w' => (∃ v, Lib.atoiAll t.data.toList = .ok v ∧ e = .returned (.tuple #[.int .i64 v, .nilIface]) ∨ ∃ v N, (∀ v, Lib.atoiAll t.data.toList ≠ .ok v) ∧ e = .returned (.tuple #[.int .i64 v, .iface 206 (.pointer (some ⟨N, 0, none⟩))])) ∧ Below w.heap.size w w' := by
  generalize h : Lib.atoiAll t.data.toList = r
  cases r
  case ok v =>
    refine (Tryz.strconv_Atoi_ok t (by omega) v h w).mono ?_
    rintro e w' ⟨rfl, hw⟩
    refine ⟨⟨v, Or.inl ⟨rfl, rfl⟩⟩, ?_⟩
    rcases hw with rfl | ⟨x, rfl⟩
    · exact Below.refl _ _
    · exact Lib.bytesWorld_below _ _ _
  all_goals
    first
    | (refine (Tryz.strconv_Atoi_syntax t ht h _ w hE.e21 (Or.inr ⟨_, _, rfl⟩)).mono ?_
       rintro e w' ⟨N, rfl, h1, h2, h3⟩
       exact ⟨⟨0, Or.inr ⟨_, N, (fun v h => by cases h), rfl⟩⟩, h3⟩)
    | (refine (Tryz.strconv_Atoi_range t ht h _ w hE.e20 (Or.inr ⟨_, _, rfl⟩)).mono ?_
       rintro e w' ⟨N, rfl, h1, h2, h3⟩
       exact ⟨⟨0, Or.inr ⟨_, N, (fun v h => by cases h), rfl⟩⟩, h3⟩)
theorem not_empty {b : ByteArray} (h : b.size ≠ 0) : b.toList.isEmpty = false := by
  rw [toL]
  have hl : b.data.toList.length = b.size := by rw [Array.length_toList]; rfl
  cases hd : b.data.toList with
  | nil => rw [hd] at hl; exact absurd hl.symm h
  | cons c l => rfl
theorem one_is {t : ByteArray} (h : t.toList = [48]) : t = ⟨#[48]⟩ := by
  rw [toL] at h
  apply ByteArray.ext
  apply Array.toList_inj.1
  exact h
theorem digB_iff {c : Nat} : digB c = true ↔ 48 ≤ c ∧ c ≤ 57 := by unfold digB; simp
set_option maxHeartbeats 2000000 in
set_option maxRecDepth 100000 in
theorem tnumber_calls {A : Nat → Addr} {B : Nat} (t : ByteArray) (w : World) (hE : Env A B [20, 21] w) (ht : t.size ≤ 281474976710656) :
    Calls Tryz.prog 83 #[.string t] w fun e w' => e = .returned (KeyR t) ∧ Below w.heap.size w w' := by
  have AT := Lib.hid (fun w hE => atoi_any (A := A) (B := B) t w hE ht)
  replace hE := Lib.hid hE
  have htI : (t.size : Int) ≤ 281474976710656 := by omega
  by_cases h0 : t.size = 0
  · have hR : KeyR t = .tuple #[.int .i64 0, .bool false] := by unfold KeyR; rw [if_neg]; rw [numOk_iff]; exact fun h => h.1 h0
    rw [hR]
    replace hR := Lib.hid hR
    have hem : t = ⟨#[]⟩ := ByteArray.ext (Array.eq_empty_of_size_eq_zero h0)
    subst hem
    go_enter Tryz.func83, Tryz.ntmps83
    go_wp2_with fail
    go_ret2
    exact ⟨rfl, (by repeat (first | assumption | exact Below.refl _ _ | apply Below.drew | apply below_drewN | apply balloc | (refine Below.setCell ?_ (by first | omega | (simp <;> omega)) _)))⟩
  have hpos : (0 : Int) < (t.size : Int) := by omega
  have hne0 : t.toList.isEmpty = false := not_empty h0
  have hb0 := byte_at t 0
  by_cases hz : bAt t 0 = 48 ∧ t ≠ ⟨#[48]⟩
  · have hR : KeyR t = .tuple #[.int .i64 0, .bool false] := by unfold KeyR; rw [if_neg]; rw [numOk_iff]; exact fun h => h.2.1 hz
    rw [hR]
    replace hR := Lib.hid hR
    obtain ⟨hz1, hz2⟩ := hz
    rw [hz1] at hb0
    replace hz1 := Lib.hid hz1
    replace h0 := Lib.hid h0
    have hq : (!t.toList == [48]) = true := by simp; intro h; exact hz2 (one_is h)
    go_enter Tryz.func83, Tryz.ntmps83
    go_wp2_with fail
    go_ret2
    exact ⟨rfl, (by repeat (first | assumption | exact Below.refl _ _ | apply Below.drew | apply below_drewN | apply balloc | (refine Below.setCell ?_ (by first | omega | (simp <;> omega)) _)))⟩
  · have hq : Hid ((bAt t 0 = 48 → t = ⟨#[48]⟩)) := Lib.hid (fun h => Classical.byContradiction fun h2 => hz ⟨h, h2⟩)
    by_cases h48 : bAt t 0 = 48
    · obtain rfl := hq.out h48
      replace hq := Lib.hid hq
      have hdig : numOk ⟨#[48]⟩ = true := by decide +kernel
      replace hz := Lib.hid hz
      clear hb0 h48
      have hq2 : (!(⟨#[48]⟩ : ByteArray).toList == [48]) = false := by rw [toL]; rfl
      go_enter Tryz.func83, Tryz.ntmps83
      go_wp2_with fail
      go_loop [20] (fun v => ∃ k : Nat, k ≤ 1 ∧ v = .int .i64 (k : Int) ∧ Hid (∀ j, j < k → digB (bAt (⟨#[48]⟩) j) = true)) (fun v => 1 - (intOf v).toNat)
      case atStart => exact ⟨0, Nat.zero_le _, rfl, Lib.hid (fun j h => absurd h (Nat.not_lt_zero _))⟩
      case round =>
        obtain ⟨k, hk, rfl, hd⟩ := hrel
        by_cases hlt : k < 1
        · have hltI : (k : Int) < (1 : Int) := by omega
          have hbk := byte_at (⟨#[48]⟩) k
          have hbl := bAt_lt (⟨#[48]⟩) k
          by_cases hdk : digB (bAt (⟨#[48]⟩) k) = true
          · have hd2 := digB_iff.1 hdk
            have e1 : ¬ (bAt (⟨#[48]⟩) k : Int) < 48 := by omega
            have e2 : ¬ (57 : Int) < (bAt (⟨#[48]⟩) k : Int) := by omega
            replace hd2 := Lib.hid hd2
            replace hdk := Lib.hid hdk
            go_wp2_with fail
            go_round
            case measure => simp [intOf]; omega
            case rel => exact ⟨k + 1, by omega, by go_num, Lib.hid (fun j h => by
              rcases Nat.lt_or_ge j k with h2 | h2
              · exact hd.out j h2
              · rw [show j = k by omega]; exact hdk.out)⟩
          · have hR : Hid (KeyR (⟨#[48]⟩) = .tuple #[.int .i64 0, .bool false]) := Lib.hid (by unfold KeyR; rw [if_neg]; rw [numOk_iff]; exact fun h => hdk (h.2.2 k hlt))
            have hd2 : bAt (⟨#[48]⟩) k < 48 ∨ 57 < bAt (⟨#[48]⟩) k := by
              rw [digB_iff] at hdk
              omega
            replace hdk := Lib.hid hdk
            rcases hd2 with e | e
            · have e1 : (bAt (⟨#[48]⟩) k : Int) < 48 := by omega
              go_wp2_with fail
              go_ret2
              rw [hR.out]
              exact ⟨rfl, Below.refl _ _⟩
            · have e1 : ¬ (bAt (⟨#[48]⟩) k : Int) < 48 := by omega
              have e2 : (57 : Int) < (bAt (⟨#[48]⟩) k : Int) := by omega
              go_wp2_with fail
              go_ret2
              rw [hR.out]
              exact ⟨rfl, Below.refl _ _⟩
        · have hkN : k = 1 := by omega
          have hlt' : ¬ (k : Int) < (1 : Int) := by omega
          have hR : Hid (KeyR (⟨#[48]⟩) = .tuple #[.int .i64 (numV (⟨#[48]⟩)), .bool true]) := Lib.hid (by
            unfold KeyR
            rw [if_pos ((numOk_iff _).2 ⟨h0, fun h => h.2 rfl, fun j hj => hd.out j (by rw [hkN]; exact hj)⟩)])
          replace hkN := Lib.hid hkN
          go_wp2_with fail
          refine (AT.out _ hE.out).mono ?_
          rintro e w1 ⟨⟨v, hv⟩, hb⟩
          rcases hv with ⟨hv, rfl⟩ | ⟨v2, N, hv, rfl⟩
          · have hnv : Hid (numV (⟨#[48]⟩) = v) := Lib.hid (by unfold numV; rw [hv])
            replace hv := Lib.hid hv
            go_wp2_with fail
            go_ret2
            rw [hR.out, hnv.out]
            exact ⟨rfl, hb⟩
          · have hnv : Hid (numV (⟨#[48]⟩) = -1) := Lib.hid (by
              unfold numV
              cases hx : Lib.atoiAll (⟨#[48]⟩ : ByteArray).data.toList
              case ok z => exact absurd hx (hv z)
              all_goals rfl)
            replace hv := Lib.hid hv
            go_wp2_with fail
            go_ret2
            rw [hR.out, hnv.out]
            exact ⟨rfl, hb⟩
    · have h48' : ¬ (bAt t 0 : Int) = 48 := by omega
      have h48b : ((bAt t 0 : Int) == 48) = false := by simp; omega
      replace hz := Lib.hid hz
      replace h48 := Lib.hid h48
      go_enter Tryz.func83, Tryz.ntmps83
      go_wp2_with fail
      go_loop [20] (fun v => ∃ k : Nat, k ≤ t.size ∧ v = .int .i64 (k : Int) ∧ Hid (∀ j, j < k → digB (bAt (t) j) = true)) (fun v => t.size - (intOf v).toNat)
      case atStart => exact ⟨0, Nat.zero_le _, rfl, Lib.hid (fun j h => absurd h (Nat.not_lt_zero _))⟩
      case round =>
        obtain ⟨k, hk, rfl, hd⟩ := hrel
        by_cases hlt : k < t.size
        · have hltI : (k : Int) < (t.size : Int) := by omega
          have hbk := byte_at (t) k
          have hbl := bAt_lt (t) k
          by_cases hdk : digB (bAt (t) k) = true
          · have hd2 := digB_iff.1 hdk
            have e1 : ¬ (bAt (t) k : Int) < 48 := by omega
            have e2 : ¬ (57 : Int) < (bAt (t) k : Int) := by omega
            replace hd2 := Lib.hid hd2
            replace hdk := Lib.hid hdk
            go_wp2_with fail
            go_round
            case measure => simp [intOf]; omega
            case rel => exact ⟨k + 1, by omega, by go_num, Lib.hid (fun j h => by
              rcases Nat.lt_or_ge j k with h2 | h2
              · exact hd.out j h2
              · rw [show j = k by omega]; exact hdk.out)⟩
          · have hR : Hid (KeyR (t) = .tuple #[.int .i64 0, .bool false]) := Lib.hid (by unfold KeyR; rw [if_neg]; rw [numOk_iff]; exact fun h => hdk (h.2.2 k hlt))
            have hd2 : bAt (t) k < 48 ∨ 57 < bAt (t) k := by
              rw [digB_iff] at hdk
              omega
            replace hdk := Lib.hid hdk
            rcases hd2 with e | e
            · have e1 : (bAt (t) k : Int) < 48 := by omega
              go_wp2_with fail
              go_ret2
              rw [hR.out]
              exact ⟨rfl, Below.refl _ _⟩
            · have e1 : ¬ (bAt (t) k : Int) < 48 := by omega
              have e2 : (57 : Int) < (bAt (t) k : Int) := by omega
              go_wp2_with fail
              go_ret2
              rw [hR.out]
              exact ⟨rfl, Below.refl _ _⟩
        · have hkN : k = t.size := by omega
          have hlt' : ¬ (k : Int) < (t.size : Int) := by omega
          have hR : Hid (KeyR (t) = .tuple #[.int .i64 (numV (t)), .bool true]) := Lib.hid (by
            unfold KeyR
            rw [if_pos ((numOk_iff _).2 ⟨h0, hz.out, fun j hj => hd.out j (by rw [hkN]; exact hj)⟩)])
          replace hkN := Lib.hid hkN
          go_wp2_with fail
          refine (AT.out _ hE.out).mono ?_
          rintro e w1 ⟨⟨v, hv⟩, hb⟩
          rcases hv with ⟨hv, rfl⟩ | ⟨v2, N, hv, rfl⟩
          · have hnv : Hid (numV (t) = v) := Lib.hid (by unfold numV; rw [hv])
            replace hv := Lib.hid hv
            go_wp2_with fail
            go_ret2
            rw [hR.out, hnv.out]
            exact ⟨rfl, hb⟩
          · have hnv : Hid (numV (t) = -1) := Lib.hid (by
              unfold numV
              cases hx : Lib.atoiAll (t : ByteArray).data.toList
              case ok z => exact absurd hx (hv z)
              all_goals rfl)
            replace hv := Lib.hid hv
            go_wp2_with fail
            go_ret2
            rw [hR.out, hnv.out]
            exact ⟨rfl, hb⟩

end Go.Proofs.YtibopkodoidjoaaGreatDoor

/- A list of texts that came in, as it lies in memory. -/
namespace Go.Proofs.YtibopkodoidjoaaGreatDoor
open Go Go.RowKit Go.WideShapes Go.ChangeShapes Go.ChangeAt

/-- v is a list of texts that lies in w. -/
def StrsAt (w : World) (v : Value) (bs : List ByteArray) : Prop :=
  (bs = [] ∧ ∃ a c, v = .slice a 0 c) ∨ ∃ b off cap, v = .slice (some ⟨b, off, none⟩) bs.length cap ∧ bs.length ≤ cap ∧ cap ≤ maxLen ∧ b < w.heap.size ∧ (∀ i s, bs[i]? = some s → w.cell? ⟨b, off + i, none⟩ = some (.string s)) ∧ ∀ s ∈ bs, s.size ≤ maxLen
theorem StrsAt.next {w w' : World} {v : Value} {bs : List ByteArray} (h : StrsAt w v bs) (hb : Below w.heap.size w w') : StrsAt w' v bs := by
  rcases h with h | ⟨b, off, cap, h1, h2, h3, h4, h5, h6⟩
  · exact Or.inl h
  · exact Or.inr ⟨b, off, cap, h1, h2, h3, Nat.lt_of_lt_of_le h4 hb.size, fun i z hz => (hb.cell (p := ⟨b, off + i, none⟩) h4).trans (h5 i z hz), h6⟩
theorem StrsAt.form {w : World} {v : Value} {bs : List ByteArray} (h : StrsAt w v bs) : ∃ a c, v = .slice a bs.length c := by
  rcases h with ⟨rfl, a, c, rfl⟩ | ⟨b, off, cap, rfl, _⟩
  · exact ⟨a, c, rfl⟩
  · exact ⟨_, _, rfl⟩
theorem StrsAt.le {w : World} {v : Value} {bs : List ByteArray} (h : StrsAt w v bs) : bs.length ≤ 9223372036854775807 := by
  rcases h with ⟨rfl, _⟩ | ⟨b, off, cap, rfl, h1, h2, _⟩
  · exact Nat.zero_le _
  · unfold maxLen at h2; omega
theorem cells_str : Tryz.prog.cellsOf 9 = 1 := by kernel_rfl
end Go.Proofs.YtibopkodoidjoaaGreatDoor

/- Package tree: step, Find. -/
namespace Go.Proofs.YtibopkodoidjoaaGreatDoor
open Go Go.RowKit

def findM (key : ByteArray) : List (ByteArray × Nat × Nd) → Option Nd
  | [] => none
  | (k, _, x) :: r => if k = key then some x else findM key r
/-- The node to which a step leads, or an error's number. -/
def stepN : Nd → ByteArray → PR Nd
  | .obj _ xs, key => match findM key xs with | some y => .ok y 0 | none => .err 6 0
  | .lst _ xs, key => if numOk key = true then (if numV key < 0 ∨ (xs.length : Int) ≤ numV key then .err 12 0 else match xs[(numV key).toNat]? with | some y => .ok y 0 | none => .err 12 0) else .err 5 0
  | _, _ => .err 5 0
def StepR (A : Nat → Addr) (w0 : World) (lo hi : Nat) (r : PR Nd) (e : Ending) : Prop := match r with
  | .ok y _ => ∃ u lo' hi', e = .returned (.tuple #[u, .nilIface]) ∧ lo ≤ lo' ∧ hi' ≤ hi ∧ OwnN w0 lo' hi' u y
  | .err k _ => e = .returned (.tuple #[.nilIface, .iface 237 (.pointer (some (A k)))])
  | .out => False
theorem findM_at {key : ByteArray} : ∀ (xs : List (ByteArray × Nat × Nd)) (k : Nat) (m : ByteArray × Nat × Nd), xs[k]? = some m → m.1 = key → (∀ j m', j < k → xs[j]? = some m' → m'.1 ≠ key) → findM key xs = some m.2.2
  | [], k, m, h, _, _ => by simp at h
  | (k', p, x) :: r, 0, m, h, hk, _ => by
    simp at h
    subst h
    rw [findM, if_pos hk]
  | (k', p, x) :: r, k + 1, m, h, hk, hn => by
    simp at h
    rw [findM, if_neg (hn 0 (k', p, x) (Nat.succ_pos _) rfl)]
    exact findM_at r k m h hk (fun j m' hj hm => hn (j + 1) m' (by omega) (by simpa using hm))
theorem findM_none {key : ByteArray} : ∀ (xs : List (ByteArray × Nat × Nd)), (∀ m ∈ xs, m.1 ≠ key) → findM key xs = none
  | [], _ => rfl
  | (k', p, x) :: r, h => by
    rw [findM, if_neg (h (k', p, x) (List.mem_cons_self ..))]
    exact findM_none r (fun m hm => h m (List.mem_cons_of_mem _ hm))
abbrev SVX : List Nat := [1, 2, 3, 4, 5, 6, 7, 8, 9, 10, 11, 12, 13, 14, 15, 16, 17, 18, 19, 20, 21]
/-- What is asked of step at a node that lay in world w0. -/
def StepC (A : Nat → Addr) (B : Nat) (w0 : World) (lo hi : Nat) (u : Value) (x : Nd) : Prop := ∀ w key, (∀ k, lo ≤ k → k < hi → w.heap[k]? = w0.heap[k]?) → hi ≤ w.heap.size → Env A B SVX w → key.size ≤ 281474976710656 →
  Calls Tryz.prog 54 #[u, .string key] w fun e w' => StepR A w0 lo hi (stepN x key) e ∧ Below w.heap.size w w'
section
variable {A : Nat → Addr} {B : Nat} {w0 : World}
set_option maxHeartbeats 1000000 in
set_option maxRecDepth 100000 in
theorem stp_null (lo hi p : Nat)  : StepC A B w0 lo hi (.iface 90 (.agg #[.int .i64 (p : Int)])) (.null p) := by
  intro w key hw hh hE hkey
  have e5 := hE.e5
  replace hw := Lib.hid hw
  go_enter Tryz.func54, Tryz.ntmps54
  (go_wp2_with fail; repeat (any_goals (go_quiet (fail); go_wp2_with fail)))
  go_ret2
  exact ⟨rfl, (by repeat (first | assumption | exact Below.refl _ _ | apply Below.drew | apply below_drewN | apply balloc | (refine Below.setCell ?_ (by first | omega | (simp <;> omega)) _)))⟩
set_option maxHeartbeats 1000000 in
set_option maxRecDepth 100000 in
theorem stp_flag (lo hi p : Nat) (b' : Bool) : StepC A B w0 lo hi (.iface 92 (.agg #[.int .i64 (p : Int), .bool b'])) (.flag p b') := by
  intro w key hw hh hE hkey
  have e5 := hE.e5
  replace hw := Lib.hid hw
  go_enter Tryz.func54, Tryz.ntmps54
  (go_wp2_with fail; repeat (any_goals (go_quiet (fail); go_wp2_with fail)))
  go_ret2
  exact ⟨rfl, (by repeat (first | assumption | exact Below.refl _ _ | apply Below.drew | apply below_drewN | apply balloc | (refine Below.setCell ?_ (by first | omega | (simp <;> omega)) _)))⟩
set_option maxHeartbeats 1000000 in
set_option maxRecDepth 100000 in
theorem stp_num (lo hi p : Nat) (t : ByteArray) : StepC A B w0 lo hi (.iface 94 (.agg #[.int .i64 (p : Int), .string t])) (.num p t) := by
  intro w key hw hh hE hkey
  have e5 := hE.e5
  replace hw := Lib.hid hw
  go_enter Tryz.func54, Tryz.ntmps54
  (go_wp2_with fail; repeat (any_goals (go_quiet (fail); go_wp2_with fail)))
  go_ret2
  exact ⟨rfl, (by repeat (first | assumption | exact Below.refl _ _ | apply Below.drew | apply below_drewN | apply balloc | (refine Below.setCell ?_ (by first | omega | (simp <;> omega)) _)))⟩
set_option maxHeartbeats 1000000 in
set_option maxRecDepth 100000 in
theorem stp_text (lo hi p : Nat) (t : ByteArray) : StepC A B w0 lo hi (.iface 95 (.agg #[.int .i64 (p : Int), .string t])) (.text p t) := by
  intro w key hw hh hE hkey
  have e5 := hE.e5
  replace hw := Lib.hid hw
  go_enter Tryz.func54, Tryz.ntmps54
  (go_wp2_with fail; repeat (any_goals (go_quiet (fail); go_wp2_with fail)))
  go_ret2
  exact ⟨rfl, (by repeat (first | assumption | exact Below.refl _ _ | apply Below.drew | apply below_drewN | apply balloc | (refine Below.setCell ?_ (by first | omega | (simp <;> omega)) _)))⟩
set_option maxHeartbeats 2000000 in
set_option maxRecDepth 100000 in
theorem stp_lst (lo hi p : Nat) (vr : Value) (cs : List Kid) (hr : w0.ownsRow lo 24 1 vr cs.length (cs.map Kid.u)) (hb0 : ∀ k, vr.ownBlock = some k → k < hi)
    (hk : ∀ c ∈ cs, c.fits lo hi vr.ownBlock) (hc : ∀ c ∈ cs, OwnN w0 c.l c.h c.u c.x) : StepC A B w0 lo hi (.iface 98 (.agg #[.int .i64 (p : Int), vr])) (.lst p (cs.map Kid.x)) := by
  intro w key hw hh hE hkey
  have NC := Lib.hid (fun w hE => tnumber_calls (A := A) (B := B) key w hE hkey)
  obtain ⟨m, hm⟩ : ∃ m, m = cs.length := ⟨_, rfl⟩
  rw [← hm] at hr
  obtain ⟨va, vc, rfl⟩ : ∃ a c, vr = .slice a m c := by
    obtain ⟨a, c, h⟩ := rowForm hr
    exact ⟨a, c, h⟩
  have hnm : m ≤ maxLen := by
    rcases rowForm2 hr with ⟨h, _⟩ | ⟨g, cap, h, _, _, h1, h2⟩
    · omega
    · omega
  unfold maxLen at hnm
  have hnI : (m : Int) ≤ 9223372036854775807 := by omega
  have hwk := Lib.hid hw
  have hr1 := Lib.hid (ownsRow_heap hr (fun k e => hw k (hr.lt k e).1 (hb0 k e)))
  have hlen : (cs.map Kid.x).length = m := by rw [List.length_map, hm]
  have e5 := hE.e5
  have e12 := hE.e12
  have l5 := hE.l5
  have l12 := hE.l12
  replace hE := Lib.hid hE
  replace hr := Lib.hid hr
  replace hm := Lib.hid hm
  replace hw := Lib.hid hw
  by_cases hn : numOk key = true
  · have hK : KeyR key = .tuple #[.int .i64 (numV key), .bool true] := by unfold KeyR; rw [if_pos hn]
    rw [hK] at NC
    replace hK := Lib.hid hK
    obtain ⟨z, hz⟩ : ∃ z, z = numV key := ⟨_, rfl⟩
    rw [← hz] at NC
    have hS : stepN (.lst p (cs.map Kid.x)) key = if z < 0 ∨ (m : Int) ≤ z then .err 12 0 else match (cs.map Kid.x)[z.toNat]? with | some y => .ok y 0 | none => .err 12 0 := by
      rw [stepN, if_pos hn, hlen, hz]
    rw [hS]
    replace hS := Lib.hid hS
    replace hz := Lib.hid hz
    replace hlen := Lib.hid hlen
    by_cases hzn : z < 0 ∨ (m : Int) ≤ z
    · rw [if_pos hzn]
      rcases hzn with h1 | h1
      all_goals
        try (have h2 : ¬ z < 0 := by omega)
        go_enter Tryz.func54, Tryz.ntmps54
        (go_wp2_with fail; repeat (any_goals (go_quiet (fail); go_wp2_with fail)))
        refine (NC.out _ ((hE.out.next (by repeat (first | assumption | exact Below.refl _ _ | apply Below.drew | apply below_drewN | apply balloc | (refine Below.setCell ?_ (by first | omega | (simp <;> omega)) _)))).sub (by decide))).mono ?_
        rintro e w1 ⟨rfl, hb⟩
        have t1 := boxed hb
        have c1 := cellB t1 1 rfl
        have hb1 : Below w.heap.size w w1 := bcall (by repeat (first | assumption | exact Below.refl _ _ | apply Below.drew | apply below_drewN | apply balloc | (refine Below.setCell ?_ (by first | omega | (simp <;> omega)) _))) hb
        have e12 := (hE.out.next hb1).e12
        clear hb
        replace t1 := Lib.hid t1
        (go_wp2_with fail; repeat (any_goals (go_quiet (fail); go_wp2_with fail)))
        go_ret2
        exact ⟨rfl, (by repeat (first | assumption | exact Below.refl _ _ | apply Below.drew | apply below_drewN | apply balloc | (refine Below.setCell ?_ (by first | omega | (simp <;> omega)) _)))⟩
    · rw [if_neg hzn]
      have h1 : ¬ z < 0 := by omega
      have h2 : ¬ (m : Int) ≤ z := by omega
      have h3 : z < (m : Int) := by omega
      have h4 : 0 ≤ z := by omega
      obtain ⟨j, rfl⟩ : ∃ j : Nat, z = (j : Int) := ⟨z.toNat, by omega⟩
      have hj : j < m := by omega
      obtain ⟨c, hcj⟩ : ∃ c, cs[j]? = some c := ⟨cs[j]'(by rw [← hm.out]; exact hj), List.getElem?_eq_getElem _⟩
      have hcm := List.mem_of_getElem? hcj
      have hxj : (cs.map Kid.x)[((j : Int)).toNat]? = some c.x := by rw [Int.toNat_natCast, List.getElem?_map, hcj]; rfl
      have huj : (cs.map Kid.u)[j]? = some c.u := by rw [List.getElem?_map, hcj]; rfl
      rw [hxj]
      dsimp only
      have hcf := hk c hcm
      have hcn := Lib.hid (hc c hcm)
      obtain ⟨g, rfl⟩ : ∃ g, va = some ⟨g, 0, none⟩ := by
        rcases rowForm2 hr.out with ⟨h, _⟩ | ⟨g, cap, h, _⟩
        · omega
        · cases h; exact ⟨g, rfl⟩
      replace hcj := Lib.hid hcj
      replace hxj := Lib.hid hxj
      replace hzn := Lib.hid hzn
      go_enter Tryz.func54, Tryz.ntmps54
      (go_wp2_with fail; repeat (any_goals (go_quiet (fail); go_wp2_with fail)))
      refine (NC.out _ ((hE.out.next (by repeat (first | assumption | exact Below.refl _ _ | apply Below.drew | apply below_drewN | apply balloc | (refine Below.setCell ?_ (by first | omega | (simp <;> omega)) _)))).sub (by decide))).mono ?_
      rintro e w1 ⟨rfl, hb⟩
      have t1 := boxed hb
      have c1 := cellB t1 1 rfl
      have hb1 : Below w.heap.size w w1 := bcall (by repeat (first | assumption | exact Below.refl _ _ | apply Below.drew | apply below_drewN | apply balloc | (refine Below.setCell ?_ (by first | omega | (simp <;> omega)) _))) hb
      have q2 : w1.cell? ⟨g, j, none⟩ = some c.u := rowCells (ownsRow_heap hr1.out fun k e => hb1.block k (by have := hb0 k e; omega)) huj
      clear hb
      replace t1 := Lib.hid t1
      replace huj := Lib.hid huj
      (go_wp2_with fail; repeat (any_goals (go_quiet (fail); go_wp2_with fail)))
      go_ret2
      exact ⟨⟨c.u, c.l, c.h, rfl, hcf.1, hcf.2.2.1, hcn.out⟩, hb1⟩
  · have hK : KeyR key = .tuple #[.int .i64 0, .bool false] := by unfold KeyR; rw [if_neg hn]
    rw [hK] at NC
    have hS : stepN (.lst p (cs.map Kid.x)) key = .err 5 0 := by rw [stepN, if_neg hn]
    rw [hS]
    replace hS := Lib.hid hS
    replace hK := Lib.hid hK
    replace hn := Lib.hid hn
    replace hlen := Lib.hid hlen
    go_enter Tryz.func54, Tryz.ntmps54
    (go_wp2_with fail; repeat (any_goals (go_quiet (fail); go_wp2_with fail)))
    refine (NC.out _ ((hE.out.next (by repeat (first | assumption | exact Below.refl _ _ | apply Below.drew | apply below_drewN | apply balloc | (refine Below.setCell ?_ (by first | omega | (simp <;> omega)) _)))).sub (by decide))).mono ?_
    rintro e w1 ⟨rfl, hb⟩
    have hb1 : Below w.heap.size w w1 := bcall (by repeat (first | assumption | exact Below.refl _ _ | apply Below.drew | apply below_drewN | apply balloc | (refine Below.setCell ?_ (by first | omega | (simp <;> omega)) _))) hb
    have e5 := (hE.out.next hb1).e5
    clear hb
    (go_wp2_with fail; repeat (any_goals (go_quiet (fail); go_wp2_with fail)))
    go_ret2
    exact ⟨rfl, (by repeat (first | assumption | exact Below.refl _ _ | apply Below.drew | apply below_drewN | apply balloc | (refine Below.setCell ?_ (by first | omega | (simp <;> omega)) _)))⟩
end

end Go.Proofs.YtibopkodoidjoaaGreatDoor

/- Package tree: step of an object; Find. -/
namespace Go.Proofs.YtibopkodoidjoaaGreatDoor
open Go Go.RowKit

theorem text_same {s t : ByteArray} (h : s.data.toList = t.data.toList) : s = t := by
  apply ByteArray.ext
  exact Array.toList_inj.1 h
set_option maxHeartbeats 2000000 in
set_option maxRecDepth 100000 in
theorem stp_obj {A : Nat → Addr} {B : Nat} {w0 : World} (lo hi p : Nat) (vr : Value) (cs : List Kid) (hr : w0.ownsRow lo 103 3 vr cs.length (cs.flatMap memC)) (hb0 : ∀ k, vr.ownBlock = some k → k < hi)
    (hk : ∀ c ∈ cs, c.fits lo hi vr.ownBlock) (hc : ∀ c ∈ cs, OwnN w0 c.l c.h c.u c.x) : StepC A B w0 lo hi (.iface 101 (.agg #[.int .i64 (p : Int), vr])) (.obj p (cs.map Kid.mem)) := by
  intro w key hw hh hE hkey
  obtain ⟨m, hm⟩ : ∃ m, m = cs.length := ⟨_, rfl⟩
  rw [← hm] at hr
  obtain ⟨va, vc, rfl⟩ : ∃ a c, vr = .slice a m c := by
    obtain ⟨a, c, h⟩ := rowForm hr
    exact ⟨a, c, h⟩
  have hnm : m ≤ maxLen := by
    rcases rowForm2 hr with ⟨h, _⟩ | ⟨g, cap, h, _, _, h1, h2⟩
    · omega
    · omega
  unfold maxLen at hnm
  have hnI : (m : Int) ≤ 9223372036854775807 := by omega
  have hr1 := Lib.hid (ownsRow_heap hr (fun k e => hw k (hr.lt k e).1 (hb0 k e)))
  obtain ⟨R, hR⟩ : ∃ R, R = stepN (.obj p (cs.map Kid.mem)) key := ⟨_, rfl⟩
  rw [← hR]
  replace hR := Lib.hid hR
  replace hE := Lib.hid hE
  replace hr := Lib.hid hr
  replace hm := Lib.hid hm
  replace hw := Lib.hid hw
  go_enter Tryz.func54, Tryz.ntmps54
  (go_wp2_with fail; repeat (any_goals (go_quiet (fail); go_wp2_with fail)))
  go_loopw [19] (fun v19 wr => ∃ k : Nat, k ≤ m ∧ v19 = .int .i64 (k : Int) ∧ Hid (∀ j c, j < k → cs[j]? = some c → c.key ≠ key) ∧ Below w.heap.size w wr) (fun v _ => m - (intOf v).toNat)
  case atStart => exact ⟨0, Nat.zero_le _, rfl, Lib.hid (fun j c h _ => absurd h (Nat.not_lt_zero _)), (by repeat (first | assumption | exact Below.refl _ _ | apply Below.drew | apply below_drewN | apply balloc | (refine Below.setCell ?_ (by first | omega | (simp <;> omega)) _)))⟩
  case round =>
    obtain ⟨k, hkn, rfl, hno, hB⟩ := hrel
    by_cases hlt : k < m
    · have hltI : (k : Int) < (m : Int) := by omega
      obtain ⟨c, hcj⟩ : ∃ c, cs[k]? = some c := ⟨cs[k]'(by rw [← hm.out]; exact hlt), List.getElem?_eq_getElem _⟩
      have hcm := List.mem_of_getElem? hcj
      obtain ⟨g, rfl⟩ : ∃ g, va = some ⟨g, 0, none⟩ := by
        rcases rowForm2 hr.out with ⟨h, _⟩ | ⟨g, cap, h, _⟩
        · omega
        · cases h; exact ⟨g, rfl⟩
      obtain ⟨q0, q1, q2⟩ := rowMem (ownsRow_heap hr1.out fun j e => hB.block j (by have := hb0 j e; omega)) hcj
      have hcf := hk c hcm
      have hcn := Lib.hid (hc c hcm)
      obtain ⟨ut, ua, hu⟩ := (hc c hcm).form
      rw [hu] at q2
      have hBn : Below w.heap.size w (wr.alloc (.cells #[.string c.key, .int .i64 (c.pl : Int), .iface ut ua] 103 (0, 0))) := balloc hB
      by_cases he : c.key = key
      · have hf : findM key (cs.map Kid.mem) = some c.x := by
          refine findM_at _ k c.mem (by rw [List.getElem?_map, hcj]; rfl) he (fun j m' hj hm' => ?_)
          rw [List.getElem?_map] at hm'
          obtain ⟨c', hc', rfl⟩ := Option.map_eq_some_iff.1 hm'
          exact hno.out j c' hj hc'
        have hR1 : R = .ok c.x 0 := by rw [hR.out, stepN, hf]
        rw [he] at q0 hBn
        replace hf := Lib.hid hf
        replace he := Lib.hid he
        replace hu := Lib.hid hu
        replace hcj := Lib.hid hcj
        replace hR1 := Lib.hid hR1
        generalize c.pl = pl at *
        go_wp2_with fail
        go_ret2
        refine ⟨?_, hBn⟩
        rw [hR1.out]
        exact ⟨_, c.l, c.h, rfl, hcf.1, hcf.2.2.1, by rw [← hu.out]; exact hcn.out⟩
      · have hne : (c.key.toList == key.toList) = false := by
          rw [toL, toL]
          simp
          intro h
          exact he (text_same (by simpa using h))
        have hno2 : Hid (∀ j c, j < k + 1 → cs[j]? = some c → c.key ≠ key) := Lib.hid (fun j c' hj hc' => by
          rcases Nat.lt_or_ge j k with h | h
          · exact hno.out j c' h hc'
          · have : j = k := by omega
            subst this
            rw [hcj] at hc'
            cases hc'
            exact he)
        replace he := Lib.hid he
        replace hu := Lib.hid hu
        replace hcj := Lib.hid hcj
        generalize c.pl = pl at *
        generalize c.key = ck at *
        go_wp2_with fail
        go_roundw
        case measure => simp [intOf]; omega
        case rel => exact ⟨k + 1, by omega, by go_num, hno2, hBn⟩
    · obtain rfl : k = m := by omega
      have hlt' : ¬ (k : Int) < (k : Int) := by omega
      have hR1 : R = .err 6 0 := by
        rw [hR.out, stepN, findM_none]
        intro x hx
        obtain ⟨c, hc', rfl⟩ := List.mem_map.1 hx
        obtain ⟨j, hj, hjc⟩ := List.getElem_of_mem hc'
        exact hno.out j c (by rw [hm.out]; exact hj) (by rw [List.getElem?_eq_getElem hj, hjc])
      have e6 := (hE.out.next hB).e6
      replace hR1 := Lib.hid hR1
      (go_wp2_with fail; repeat (any_goals (go_quiet (fail); go_wp2_with fail)))
      go_ret2
      refine ⟨?_, (by repeat (first | assumption | exact Below.refl _ _ | apply Below.drew | apply below_drewN | apply balloc | (refine Below.setCell ?_ (by first | omega | (simp <;> omega)) _)))⟩
      rw [hR1.out]
      exact rfl
theorem step_calls {A : Nat → Addr} {B : Nat} {w0 : World} {lo hi : Nat} {u : Value} {x : Nd} (h : OwnN w0 lo hi u x) : StepC A B w0 lo hi u x := by
  cases h with
  | null _ _ p => exact stp_null lo hi p
  | flag _ _ p b => exact stp_flag lo hi p b
  | num _ _ p t => exact stp_num lo hi p t
  | text _ _ p t => exact stp_text lo hi p t
  | lst _ _ p v cs ho hb hk hp hc => exact stp_lst lo hi p v cs ho hb hk hc
  | obj _ _ p v cs ho hb hk hp hc => exact stp_obj lo hi p v cs ho hb hk hc
/-- The node to which a path leads. -/
def pathN : Nd → List ByteArray → PR Nd
  | x, [] => .ok x 0
  | x, key :: r => match stepN x key with | .ok y _ => pathN y r | .err k _ => .err k 0 | .out => .out
def findS (s : ByteArray) (bs : List ByteArray) : PR Nd := match parseS s with | .ok x _ => pathN x bs | .err k pl => .err k pl | .out => .out
/-- What Find answers at a text that parses. -/
def FindR (A : Nat → Addr) (lo : Nat) (r : PR Nd) (e : Ending) (w' : World) : Prop := match r with
  | .ok y _ => ∃ u, e = .returned (.tuple #[u, .nilIface]) ∧ OwnN w' lo w'.heap.size u y
  | .err k _ => e = .returned (.tuple #[.nilIface, .iface 237 (.pointer (some (A k)))])
  | .out => False
theorem stepN_in (x : Nd) (key : ByteArray) : stepN x key ≠ .out := by
  cases x <;> simp [stepN]
  · split
    · split
      · simp
      · split <;> simp
    · simp
  · split <;> simp
set_option maxHeartbeats 2000000 in
set_option maxRecDepth 100000 in
theorem Find_calls {A : Nat → Addr} {B : Nat} (s : ByteArray) (bv : Value) (bs : List ByteArray) (w : World) (hE : Env A B SVX w) (hs : s.size ≤ 3518437208882) (hg : StrsAt w bv bs) (hkl : ∀ b ∈ bs, b.size ≤ 281474976710656) {x : Nd} {q : Nat} (hx : parseS s = .ok x q) :
    Calls Tryz.prog 27 #[.string s, bv] w fun e w' => FindR A w.heap.size (pathN x bs) e w' ∧ Below w.heap.size w w' := by
  have P := Lib.hid (fun w hE => Parse_calls (A := A) (B := B) s w hE hs)
  rw [hx] at P
  replace hx := Lib.hid hx
  obtain ⟨n, hn⟩ : ∃ n, n = bs.length := ⟨_, rfl⟩
  have hnle := hg.le
  obtain ⟨ga, gc, rfl⟩ := hg.form
  rw [← hn] at hg hnle ⊢
  have hnle' : (n : Int) ≤ 9223372036854775807 := by omega
  obtain ⟨R, hR⟩ : ∃ R, R = pathN x bs := ⟨_, rfl⟩
  rw [← hR]
  have SC : Hid (∀ w0 lo hi u x, OwnN w0 lo hi u x → StepC A B w0 lo hi u x) := Lib.hid (fun _ _ _ _ _ h => step_calls h)
  replace hR := Lib.hid hR
  replace hE := Lib.hid hE
  replace hg := Lib.hid hg
  replace hn := Lib.hid hn
  go_enter Tryz.func27, Tryz.ntmps27
  (go_wp2_with fail; repeat (any_goals (go_quiet (fail); go_wp2_with fail)))
  refine (P.out _ ((hE.out.next (by repeat (first | assumption | exact Below.refl _ _ | apply Below.drew | apply below_drewN | apply balloc | (refine Below.setCell ?_ (by first | omega | (simp <;> omega)) _)))).sub (by decide))).mono ?_
  rintro e w1 ⟨⟨u, rfl, hN⟩, hb⟩
  have hb1 : Below w.heap.size w w1 := bcall (by repeat (first | assumption | exact Below.refl _ _ | apply Below.drew | apply below_drewN | apply balloc | (refine Below.setCell ?_ (by first | omega | (simp <;> omega)) _))) hb
  obtain ⟨ut, ua, rfl⟩ := hN.form
  clear hb
  have hst : Hid (pathN x bs = pathN x (bs.drop 0)) := Lib.hid (by rw [List.drop_zero])
  replace hN := Lib.hid hN
  go_wp2_with fail
  go_loopw [6, 7, 20] (fun v6 v7 v20 wr => ∃ k : Nat, k ≤ n ∧ v20 = .int .i64 (k : Int) ∧ v7 = .nilIface ∧ (∃ y lo' hi' t a, v6 = .iface t a ∧ Hid (OwnN w1 lo' hi' (.iface t a) y ∧ w.heap.size ≤ lo' ∧ hi' ≤ w1.heap.size) ∧ Hid (pathN x bs = pathN y (bs.drop k))) ∧ Below w1.heap.size w1 wr) (fun _ _ v _ => n - (intOf v).toNat)
  case atStart => exact ⟨0, Nat.zero_le _, rfl, rfl, ⟨x, _, _, _, _, rfl, Lib.hid ⟨hN.out, Nat.le_refl _, Nat.le_refl _⟩, hst⟩, Below.refl _ _⟩
  case round =>
    obtain ⟨k, hk, rfl, rfl, ⟨y, lo', hi', t, a, rfl, hy, hp⟩, hB⟩ := hrel
    have hBw := bcall hb1 hB
    by_cases hlt : k < n
    · have hltI : (k : Int) < (n : Int) := by omega
      obtain ⟨key, hkey⟩ : ∃ key, bs[k]? = some key := ⟨bs[k]'(by rw [← hn.out]; exact hlt), List.getElem?_eq_getElem _⟩
      have hksz := hkl key (List.mem_of_getElem? hkey)
      obtain ⟨gb, off, rfl, hread⟩ : ∃ b' off, ga = some ⟨b', off, none⟩ ∧ Hid (∀ W, Below w.heap.size w W → W.cell? ⟨b', off + k, none⟩ = some (.string key)) := by
        rcases hg.out with ⟨h, _⟩ | ⟨b', off, cap, h1, _, _, h4, h5, h6⟩
        · rw [h] at hkey; simp at hkey
        · injection h1 with e1 e2 e3
          exact ⟨b', off, e1, Lib.hid (fun W hW => (hW.cell (p := ⟨b', off + k, none⟩) h4).trans (h5 _ key hkey))⟩
      have hrd := hread.out wr hBw
      have hdrop : bs.drop k = key :: bs.drop (k + 1) := by
        obtain ⟨h1, h2⟩ := List.getElem?_eq_some_iff.1 hkey
        rw [List.drop_eq_getElem_cons h1, h2]
      have hp1 : pathN x bs = match stepN y key with | .ok z _ => pathN z (bs.drop (k + 1)) | .err k _ => .err k 0 | .out => .out := by
        rw [hp.out, hdrop, pathN]
      have S1 := Lib.hid (SC.out w1 lo' hi' _ y hy.out.1 wr key (fun j _ hj => hB.block j (Nat.lt_of_lt_of_le hj hy.out.2.2)) (Nat.le_trans hy.out.2.2 hB.size) (hE.out.next hBw) hksz)
      replace hkey := Lib.hid hkey
      replace hdrop := Lib.hid hdrop
      generalize hSR : stepN y key = SR at *
      replace hSR := Lib.hid hSR
      cases SR with
      | out => exact absurd hSR.out (stepN_in y key)
      | err j pl =>
        replace hp1 := Lib.hid hp1
        go_wp2_with fail
        refine S1.out.mono ?_
        rintro e w3 ⟨rfl, hb⟩
        have hb3 := bcall hBw hb
        clear hb
        go_wp2_with fail
        go_ret2
        refine ⟨?_, hb3⟩
        rw [hR.out, hp1.out]
        exact rfl
      | ok z j =>
        replace hp1 := Lib.hid hp1
        go_wp2_with fail
        refine S1.out.mono ?_
        rintro e w3 ⟨⟨u', l2, h2, rfl, hl2, hh2, hz⟩, hb⟩
        have hb3 := bcall hB hb
        obtain ⟨t', a', rfl⟩ := hz.form
        have hz2 := Lib.hid hz
        clear hb hz
        go_wp2_with fail
        go_roundw
        case measure => simp [intOf]; omega
        case rel => exact ⟨k + 1, by omega, by go_num, rfl, ⟨z, l2, h2, _, _, rfl, Lib.hid ⟨hz2.out, Nat.le_trans hy.out.2.1 hl2, Nat.le_trans hh2 hy.out.2.2⟩, Lib.hid hp1.out⟩, hb3⟩
    · obtain rfl : k = n := by omega
      have hlt' : ¬ (k : Int) < (k : Int) := by omega
      have hR1 : R = .ok y 0 := by
        rw [hR.out, hp.out, List.drop_eq_nil_of_le (by rw [← hn.out]; exact Nat.le_refl _), pathN]
      replace hR1 := Lib.hid hR1
      have hz := hB.size
      go_wp2_with fail
      go_ret2
      refine ⟨?_, hBw⟩
      rw [hR1.out]
      exact ⟨_, rfl, (hy.out.1.keep fun j _ hj => hB.block j (Nat.lt_of_lt_of_le hj hy.out.2.2)).wide hy.out.2.1 (Nat.le_trans hy.out.2.2 hz)⟩

end Go.Proofs.YtibopkodoidjoaaGreatDoor

/- The parser's objects: no key stands twice. -/
namespace Go.Proofs.YtibopkodoidjoaaGreatDoor
open Go Go.RowKit

mutual
def uqN : Nd → Prop
  | .null _ => True
  | .flag _ _ => True
  | .num _ _ => True
  | .text _ _ => True
  | .lst _ xs => uqL xs
  | .obj _ xs => uqM xs ∧ (xs.map fun m => m.1).Nodup
def uqL : List Nd → Prop
  | [] => True
  | x :: xs => uqN x ∧ uqL xs
def uqM : List (ByteArray × Nat × Nd) → Prop
  | [] => True
  | (_, _, x) :: xs => uqN x ∧ uqM xs
end
theorem uqL_mem : ∀ {xs : List Nd}, uqL xs → ∀ x ∈ xs, uqN x
  | [], _, x, h => by cases h
  | y :: ys, hu, x, h => by
    rcases List.mem_cons.1 h with rfl | h
    · exact hu.1
    · exact uqL_mem hu.2 x h
theorem uqM_mem : ∀ {xs : List (ByteArray × Nat × Nd)}, uqM xs → ∀ m ∈ xs, uqN m.2.2
  | [], _, x, h => by cases h
  | (k, p, y) :: ys, hu, x, h => by
    rcases List.mem_cons.1 h with rfl | h
    · exact hu.1
    · exact uqM_mem hu.2 x h
theorem p_uq {s : ByteArray} {ts : List Tk} : ∀ f,
    (∀ deep p x q, pV s ts f deep p = .ok x q → uqN x) ∧
    (∀ deep p xs q, pI s ts f deep p = .ok xs q → uqL xs) ∧
    (∀ deep seen p xs q, pM s ts f deep seen p = .ok xs q → uqM xs ∧ (xs.map fun m => m.1).Nodup ∧ ∀ k ∈ xs.map (fun m => m.1), k ∉ seen)
  | 0 => ⟨(fun _ _ _ _ h => by rw [pV] at h; cases h), (fun _ _ _ _ h => by rw [pI] at h; cases h), (fun _ _ _ _ _ h => by rw [pM] at h; cases h)⟩
  | f + 1 => by
    obtain ⟨iV, iI, iM⟩ := p_uq (s := s) (ts := ts) f
    refine ⟨?_, ?_, ?_⟩
    · intro deep p x q h
      rw [pV] at h
      split at h
      · cases h; trivial
      split at h
      · cases h; trivial
      split at h
      · cases h; trivial
      split at h
      · cases h; trivial
      split at h
      · cases h; trivial
      split at h
      · split at h
        · cases h
        · by_cases h9 : kindT ts (p + 1) = 9
          · rw [if_pos h9] at h; cases h; trivial
          · rw [if_neg h9] at h
            cases hI : pI s ts f deep (p + 1) with
            | ok xs r => rw [hI] at h; cases h; exact iI _ _ _ _ hI
            | err k pl => rw [hI] at h; cases h
            | out => rw [hI] at h; cases h
      split at h
      · split at h
        · cases h
        · by_cases h9 : kindT ts (p + 1) = 7
          · rw [if_pos h9] at h; cases h; exact ⟨trivial, List.nodup_nil⟩
          · rw [if_neg h9] at h
            cases hI : pM s ts f deep [] (p + 1) with
            | ok xs r =>
              rw [hI] at h
              cases h
              obtain ⟨h1, h2, _⟩ := iM _ _ _ _ _ hI
              exact ⟨h1, h2⟩
            | err k pl => rw [hI] at h; cases h
            | out => rw [hI] at h; cases h
      cases h
    · intro deep p xs q h
      rw [pI] at h
      cases hV : pV s ts f (deep + 1) p with
      | err k pl => rw [hV] at h; cases h
      | out => rw [hV] at h; cases h
      | ok x r =>
        rw [hV] at h
        dsimp only at h
        cases hr : rest s ts 9 r with
        | err k pl => rw [hr] at h; cases h
        | out => rw [hr] at h; cases h
        | ok b r' =>
          rw [hr] at h
          cases b with
          | true => cases h; exact ⟨iV _ _ _ _ hV, trivial⟩
          | false =>
            dsimp only at h
            cases hI : pI s ts f deep r' with
            | ok ys r => rw [hI] at h; cases h; exact ⟨iV _ _ _ _ hV, iI _ _ _ _ hI⟩
            | err k pl => rw [hI] at h; cases h
            | out => rw [hI] at h; cases h
    · intro deep seen p xs q h
      rw [pM] at h
      split at h
      · split at h
        · cases h
        · rename_i hkn
          have hnot : textT ts p ∉ seen := fun hm => hkn ((knows_iff _ _).2 hm)
          split at h
          · cases hV : pV s ts f (deep + 1) (p + 2) with
            | err k pl => rw [hV] at h; cases h
            | out => rw [hV] at h; cases h
            | ok x r =>
              rw [hV] at h
              dsimp only at h
              cases hr : rest s ts 7 r with
              | err k pl => rw [hr] at h; cases h
              | out => rw [hr] at h; cases h
              | ok b r' =>
                rw [hr] at h
                cases b with
                | true =>
                  cases h
                  refine ⟨⟨iV _ _ _ _ hV, trivial⟩, by simp, fun k hk => ?_⟩
                  simp at hk
                  rw [hk]
                  exact hnot
                | false =>
                  dsimp only at h
                  cases hI : pM s ts f deep (seen ++ [textT ts p]) r' with
                  | ok ys r =>
                    rw [hI] at h
                    cases h
                    obtain ⟨h1, h2, h3⟩ := iM _ _ _ _ _ hI
                    refine ⟨⟨iV _ _ _ _ hV, h1⟩, ?_, fun k hk => ?_⟩
                    · rw [List.map_cons, List.nodup_cons]
                      exact ⟨fun hm => h3 _ hm (by simp), h2⟩
                    · rw [List.map_cons] at hk
                      rcases List.mem_cons.1 hk with rfl | hk
                      · exact hnot
                      · exact fun hm => h3 _ hk (List.mem_append_left _ hm)
                  | err k pl => rw [hI] at h; cases h
                  | out => rw [hI] at h; cases h
          · cases h
      · cases h
theorem parse_uq {s : ByteArray} {x : Nd} {q : Nat} (h : parseS s = .ok x q) : uqN x := by
  unfold parseS at h
  by_cases h0 : (someS s).2.1 = 0
  · rw [if_pos h0] at h
    obtain ⟨h1, _⟩ := parse_pV h
    exact (p_uq _).1 _ _ _ _ h1
  · rw [if_neg h0] at h; cases h
theorem nodup_at {xs : List (ByteArray × Nat × Nd)} (h : (xs.map fun m => m.1).Nodup) {i j : Nat} {a b : ByteArray × Nat × Nd} (ha : xs[i]? = some a) (hb : xs[j]? = some b) (he : a.1 = b.1) : i = j := by
  obtain ⟨hi, rfl⟩ := List.getElem?_eq_some_iff.1 ha
  obtain ⟨hj, rfl⟩ := List.getElem?_eq_some_iff.1 hb
  rcases Nat.lt_trichotomy i j with h1 | h1 | h1
  · have := (List.pairwise_iff_getElem.1 h) i j (by simpa using hi) (by simpa using hj) h1
    simp at this
    exact absurd he this
  · exact h1
  · have := (List.pairwise_iff_getElem.1 h) j i (by simpa using hj) (by simpa using hi) h1
    simp at this
    exact absurd he.symm this

end Go.Proofs.YtibopkodoidjoaaGreatDoor
