/- Package scan: the closure of Scan. -/
import Derived.Test.YtnldhgkmbighkaaDoorScan9
import Derived.Maps.AppendAt
namespace Go.Proofs.YtnldhgkmbighkaaDoor
open Go Go.RowKit

def tkC (t : Tk) : List Value := [.int .i64 (t.kind : Int), .int .i64 (t.fr : Int), .int .i64 (t.to : Int), .string t.text]
theorem infoTk : (Tryd.prog.info? 28).map (fun i => (i.zero, i.size, i.bytes)) = some (some (.agg #[.int .i64 0, .int .i64 0, .int .i64 0, .string ⟨#[]⟩]), 4, 40) := by kernel_rfl
/-- All blocks but c and o are as they were. -/
structure Keep2 (c : Nat) (o : Option Nat) (w w' : World) : Prop where
  os : w'.os = w.os
  tape : w'.tape = w.tape
  output : w'.output = w.output
  size : w.heap.size ≤ w'.heap.size
  block : ∀ k, k < w.heap.size → k ≠ c → some k ≠ o → w'.heap[k]? = w.heap[k]?
set_option maxHeartbeats 1000000 in
set_option maxRecDepth 100000 in
theorem yield_calls (t : Tk) (c base n : Nat) (xs : List Value) (v : Value) (w : World) (hc : w.heap[c]? = some (.cells #[v] 24 (0, 0))) (ho : w.ownsRow base 28 4 v n xs) (hbase : base ≤ w.heap.size) (hcb : c < base) (hn : n + 1 ≤ 3518437208883) :
    Calls Tryd.prog 36 #[tkV t, .pointer (some ⟨c, 0, none⟩)] w fun e w' => e = .returned (.bool true) ∧ ∃ v', w'.heap[c]? = some (.cells #[v'] 24 (0, 0)) ∧ w'.ownsRow base 28 4 v' (n + 1) (xs ++ tkC t) ∧
      (v'.ownBlock = v.ownBlock ∨ ∃ g, v'.ownBlock = some g ∧ w.heap.size ≤ g) ∧ Keep2 c v.ownBlock w w' := by
  obtain ⟨i0, hi, hi2⟩ := Option.map_eq_some_iff.1 infoTk
  simp only [Prod.mk.injEq] at hi2
  obtain ⟨hz0, hz1, hz2⟩ := hi2
  replace hi := Lib.hid hi
  replace hz0 := Lib.hid hz0
  replace hz1 := Lib.hid hz1
  replace hz2 := Lib.hid hz2
  have x0 : w.cell? ⟨c, 0, none⟩ = some v := cellB hc 0 rfl
  have f0 := freeB hc 0
  have hcl := ltB hc
  replace hc := Lib.hid hc
  replace ho := Lib.hid ho
  replace hn := Lib.hid hn
  unfold tkV tkC
  obtain ⟨tk, tf, tt, tx⟩ := t
  simp only
  have hcne : c ≠ w.heap.size := by omega
  generalize (tk : Int) = k1
  generalize (tf : Int) = k2
  generalize (tt : Int) = k3
  go_enter Tryd.func36, Tryd.ntmps36
  go_wp2_with (at_builtin; refine wpList_append_own_at _ rfl _ _ 24 rfl base 28 i0 (.agg #[.int .i64 0, .int .i64 0, .int .i64 0, .string ⟨#[]⟩]) 4 40 Tryd.underlying24 hi.out hz0.out hz1.out hz2.out rfl (by decide) _ _ _ rfl (own_next ho.out ?c0) ⟨w.heap.size + 1, 0, none⟩ 1 1 [.int .i64 k1, .int .i64 k2, .int .i64 k3, .string tx] rfl rfl ?c1 ?c2 ?c3 ?c4 ?c5 ?_)
  case c0 => exact (by repeat (first | assumption | exact Below.refl _ _ | apply Below.drew | apply below_drewN | apply balloc | (refine Below.setCell ?_ (by first | omega | (simp <;> omega)) _)))
  case c1 =>
    intro j u hj
    match j, hj with
    | 0, hj => simp at hj; subst hj; simp [Addr.add]
    | 1, hj => simp at hj; subst hj; simp [Addr.add]
    | 2, hj => simp at hj; subst hj; simp [Addr.add]
    | 3, hj => simp at hj; subst hj; simp [Addr.add]
  case c2 => intro u hu; simp at hu; rcases hu with rfl | rfl | rfl | rfl <;> rfl
  case c3 => have := hn.out; unfold maxLen; omega
  case c4 => have := hn.out; omega
  case c5 => simp; omega
  intro v' w2 ho2 hg _ hown
  have hlt := ho.out.lt
  obtain ⟨g', cap', rfl⟩ : ∃ g cap, v' = .slice (some ⟨g, 0, none⟩) (n + 1) cap := by
    rcases ho2.2 with ⟨_, h⟩ | ⟨g, cap, _, rfl, _⟩
    · omega
    · exact ⟨g, cap, rfl⟩
  have hlt2 := (ho2.lt g' rfl).1
  have hgc : w2.heap[c]? = some (.cells #[v] 24 (0, 0)) := by
    rw [hg.block c (by simp; omega) (fun h => by have := hlt c h.symm; omega)]
    rw [Below.heap_alloc _ _ _ (by simp; omega), Below.heap_alloc _ _ _ (by omega)]
    exact hc.out
  have y0 : w2.cell? ⟨c, 0, none⟩ = some v := cellB hgc 0 rfl
  have g0 := freeB hgc 0
  replace hgc := Lib.hid hgc
  replace hg := Lib.hid hg
  replace hown := Lib.hid hown
  replace ho2 := Lib.hid ho2
  clear x0 f0
  (go_wp2_with fail; repeat (any_goals (go_quiet (fail); go_wp2_with fail)))
  go_ret
  have h1 : w.heap.size ≤ w2.heap.size := by have := hg.out.size; simp at this; omega
  refine ⟨rfl, .slice (some ⟨g', 0, none⟩) (n + 1) cap', ?_, ho2.out.kept (grown_set _ _ _ _) (Or.inr (by show some g' ≠ some c; intro h; cases h; omega)), ?_, ?_⟩
  · rw [Lib.heap_setCell_same (i := 0) hgc.out]; rfl
  · rcases hown.out with h | h
    · exact Or.inl h
    · exact Or.inr ⟨_, h, by first | omega | (simp; omega)⟩
  · have hs := grown_set w2 c 0 (.slice (some ⟨g', 0, none⟩) (n + 1) cap')
    have hg := hg.out
    refine ⟨hs.os.trans hg.os, hs.tape.trans hg.tape, hs.output.trans hg.output, Nat.le_trans h1 hs.size, fun k hk hkc hko => ?_⟩
    rw [hs.block k (by omega) (fun h => hkc (by cases h; rfl)), hg.block k (by simp; omega) hko]
    rw [Below.heap_alloc _ _ _ (by simp; omega), Below.heap_alloc _ _ _ (by omega)]

end Go.Proofs.YtnldhgkmbighkaaDoor
