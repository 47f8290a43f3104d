/- Lists of bytes that a call makes: append and string(..). -/
import Derived.Test.YtnldhgkmbighkaaDoorRef3
import Derived.Lib.AppendStr
import Derived.Laws.BytesArg
namespace Go.Proofs.YtnldhgkmbighkaaDoor
open Go Go.RowKit

def u8c (l : List UInt8) : List Value := l.map fun b => Value.int .u8 (b.toNat : Int)
theorem u8c_append (l m : List UInt8) : u8c (l ++ m) = u8c l ++ u8c m := List.map_append
theorem u8c_len (l : List UInt8) : (u8c l).length = l.length := List.length_map ..
/-- v is a list of bytes of the call's own, in a block from base on. -/
def OwnB (w : World) (base : Nat) (v : Value) (l : List UInt8) : Prop := w.ownsRow base 5 1 v l.length (u8c l)
theorem OwnB.nil (w : World) (base : Nat) : OwnB w base (.slice none 0 0) [] := World.ownsRow_nil _ _ _ _
theorem OwnB.next {w w' : World} {base : Nat} {v : Value} {l : List UInt8} (h : OwnB w base v l) (hb : Below w.heap.size w w') : OwnB w' base v l := own_next h hb
theorem OwnB.lit {w : World} {base : Nat} (l : List UInt8) (cs : Array Value) (hcs : cs = (u8c l).toArray) (hb : base ≤ w.heap.size) (hm : l.length ≤ maxLen) {k c : Nat} (hk : k = l.length) (hc : c = l.length) : OwnB (w.alloc (.cells cs 5 (0, 0))) base (.slice (some ⟨w.heap.size, 0, none⟩) k c) l := by
  subst hcs hk hc
  refine ⟨by rw [u8c_len]; omega, Or.inr ⟨w.heap.size, l.length, (u8c l).toArray, rfl, hb, heap_alloc_new w _, Nat.le_refl _, hm, by simp [u8c], ?_⟩⟩
  rw [Nat.mul_one]
  exact List.take_of_length_le (by simp [u8c])
theorem OwnB.lt {w : World} {base : Nat} {v : Value} {l : List UInt8} (h : OwnB w base v l) : ∀ k, v.ownBlock = some k → base ≤ k := fun k hk => (World.ownsRow.lt h k hk).1
theorem infoU8 : (Tryd.prog.info? 5).map (fun i => (i.zero, i.size, i.bytes)) = some (some (.int .u8 0), 1, 1) := by kernel_rfl
section
variable {ops : Array Oper} {rest : List Oper} {o : Oper} {a : Act} {Q : Exit → Act → World → Prop} {w : World}
/-- append(b, s...) of a text. -/
theorem app_str (hgd : o.guard = none) (sl x : Operand) (ho : o.op = .call { callee := .builtin .append, args := #[sl, x], argTypes := #[29, 9] }) (base : Nat) (v : Value) (l : List UInt8) (hs : a.eval sl = v) (hown : OwnB w base v l)
    (s : ByteArray) (hx : a.eval x = .string s) (hlen : l.length + s.size ≤ 140737488355328) (hbase : base ≤ w.heap.size)
    (h : ∀ v' w', OwnB w' base v' (l ++ s.data.toList) → w.grownBy w' v.ownBlock → wpList Tryd.prog ops Q rest (a.put o.dst v') w') : wpList Tryd.prog ops Q (o :: rest) a w := by
  obtain ⟨i0, hi, hi2⟩ := Option.map_eq_some_iff.1 infoU8
  simp only [Prod.mk.injEq] at hi2
  refine Lib.wpList_append_own_string _ hgd sl x 29 9 ho base 5 i0 Tryd.underlying29 Tryd.underlying9 hi hi2.1 hi2.2.1 hi2.2.2 v l.length (u8c l) hs hown s hx (by unfold maxLen; omega) hlen hbase ?_
  intro v' w' h1 h2 _
  refine h v' w' ?_ h2
  unfold OwnB
  rw [u8c_append, List.length_append]
  have : s.data.toList.length = s.size := by rw [Array.length_toList]; rfl
  rw [this]
  exact h1
/-- append(b, c, ..): the new bytes lie in a block of their own. -/
theorem app_lit (hgd : o.guard = none) (sl x : Operand) (ho : o.op = .call { callee := .builtin .append, args := #[sl, x], argTypes := #[29, 29] }) (base : Nat) (v : Value) (l : List UInt8) (hs : a.eval sl = v) (hown : OwnB w base v l)
    (g k c : Nat) (cs : Array Value) (t : TypeId) (fr : Nat × Nat) (news : List UInt8) (hx : a.eval x = .slice (some ⟨g, 0, none⟩) k c) (hg : w.heap[g]? = some (.cells cs t fr)) (hcs : cs = (u8c news).toArray) (hk : news.length = k)
    (hlen : l.length + k ≤ 140737488355328) (hbase : base ≤ w.heap.size)
    (h : ∀ v' w', OwnB w' base v' (l ++ news) → w.grownBy w' v.ownBlock → wpList Tryd.prog ops Q rest (a.put o.dst v') w') : wpList Tryd.prog ops Q (o :: rest) a w := by
  obtain ⟨i0, hi, hi2⟩ := Option.map_eq_some_iff.1 infoU8
  simp only [Prod.mk.injEq] at hi2
  refine wpList_append_own _ hgd sl x 29 ho base 5 i0 (.int .u8 0) 1 1 Tryd.underlying29 hi hi2.1 hi2.2.1 hi2.2.2 rfl (by decide) v l.length (u8c l) hs hown ⟨g, 0, none⟩ k c (u8c news) hx (by rw [u8c_len]; omega) ?_ ?_ (by unfold maxLen; omega) (by omega) hbase ?_
  · intro j u hj
    have : (⟨g, 0, none⟩ : Addr).add j = ⟨g, j, none⟩ := by simp only [Addr.add, Nat.zero_add]; split <;> simp_all
    rw [this]
    refine cellB hg j ?_
    rw [hcs, List.getElem?_toArray]
    exact hj
  · intro u hu
    obtain ⟨b, _, rfl⟩ := List.mem_map.1 hu
    rfl
  · intro v' w' h1 h2 _
    refine h v' w' ?_ h2
    unfold OwnB
    rw [u8c_append, List.length_append, hk]
    exact h1
end
theorem conv_own {w : World} {base : Nat} {v : Value} {l : List UInt8} (h : OwnB w base v l) : (convert 29 9 v).run Tryd.prog w = .ok (.string ⟨l.toArray⟩) w := by
  obtain ⟨h1, ⟨rfl, h3⟩ | ⟨g, cap, cur, rfl, hbg, hg, hn, hc, hz, ht⟩⟩ := h
  · have : l = [] := List.eq_nil_of_length_eq_zero h3
    subst this
    exact run_convert_bytes_nil w _ 5 Tryd.underlying29 Tryd.underlying5 0 0 _ Tryd.underlying9
  · have := run_convert_bytes_arg w 29 5 Tryd.underlying29 Tryd.underlying5 g 0 l.length cap (l.map fun b => (b.toNat : Int)) (List.length_map ..) (fun i hi => by
      rw [Nat.zero_add]
      refine cellB hg i ?_
      have h2 : (cur.toList.take (l.length * 1))[i]? = (u8c l)[i]? := by rw [ht]
      rw [Nat.mul_one, List.getElem?_take_of_lt hi, Array.getElem?_toList] at h2
      rw [h2]
      unfold u8c
      simp [List.getElem?_eq_getElem hi]) _ Tryd.underlying9
    rw [this]
    have e : (l.map fun b => (b.toNat : Int)).map (fun n => UInt8.ofNat n.toNat) = l := by
      rw [List.map_map]
      conv => rhs; rw [← List.map_id l]
      apply List.map_congr_left
      intro b _
      show UInt8.ofNat ((b.toNat : Int).toNat) = b
      simp
    unfold strOfNums
    rw [e]
theorem below_own {w w1 w2 : World} {base : Nat} {v : Value} {l : List UInt8} (h1 : Below base w w1) (ho : OwnB w1 base v l) (hg : w1.grownBy w2 v.ownBlock) (hb : base ≤ w1.heap.size) : Below base w w2 := h1.grown hg hb (fun k hk => ho.lt k hk)

end Go.Proofs.YtnldhgkmbighkaaDoor
