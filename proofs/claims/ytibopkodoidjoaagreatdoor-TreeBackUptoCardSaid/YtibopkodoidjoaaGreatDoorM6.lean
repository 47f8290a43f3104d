/- Lemmas of the proof, put together: Num, Tok, Tree1, TreeSpec, Tree2, Tree3, Tree4, Tree5, TreeMap. -/
import Derived.Test.YtibopkodoidjoaaGreatDoorM1
import Derived.Great.Walk
import Derived.Laws.Rows
import Derived.Laws.Tables
import Derived.Laws.CopyOwn
import Derived.Test.YtibopkodoidjoaaGreatDoorM5
import Derived.RegionDies
import Derived.Maps.OwnSet

/- The errors' numbers. -/
namespace Go.Proofs.YtibopkodoidjoaaGreatDoor
open Go Go.RowKit
abbrev SVN : List Nat := [1, 2, 3, 4, 5, 6, 7, 8, 9, 10, 11, 12, 13, 14, 15, 16, 17, 18, 19]

theorem load_glob {w : World} {o : Oper} {g : Nat} {v : Value} (hc : w.cell? ⟨g, 0, none⟩ = some v) :
    ∀ ρ : Operand → Value, ρ (.global g) = .pointer (some ⟨g, 0, none⟩) → (execOp ρ { o with op := .load 26 (.global g) }).run Tryz.prog w = .ok (.value v) w := by
  intro ρ h
  have hu := Tryz.underlying26
  simp [execOp, h, Instr.loadAt, Instr.sureAddr, loadVar, isAgg, underlying, hu, hc, Result.andThen, Sem.run_bind]
theorem wpList_buildIs {P : Program} {w : World} {ops : Array Oper} {rest : List Oper} {o : Oper} {a : Act} {Q : Exit → Act → World → Prop} (hg : o.guard = none) (t : TypeId) (parts : Array (Nat × Operand)) (ho : o.op = .build t parts) {cells : Array Value}
    (hf : P.built t (parts.map fun (i, x) => (i, a.eval x)).toList = some cells)
    (h : wpList P ops Q rest (a.put o.dst (.agg cells)) w) : wpList P ops Q (o :: rest) a w :=
  wpList_build hg t parts ho (by rw [hf]; rfl) (by rw [hf]; exact h)
theorem info_list : (Tryz.prog.info? 123).map (·.size) = some 19 := by kernel_rfl
set_option maxHeartbeats 1000000 in
set_option maxRecDepth 100000 in
theorem list_calls {A : Nat → Addr} {B : Nat} (w : World) (hE : Env A B SVN w) :
    Calls Tryz.prog 55 #[] w fun e w' => e = .returned (.agg #[errV A 1, errV A 2, errV A 3, errV A 4, errV A 5, errV A 6, errV A 7, errV A 8, errV A 9, errV A 10, errV A 11, errV A 12, errV A 13, errV A 14, errV A 15, errV A 16, errV A 17, errV A 18, errV A 19]) ∧ Below w.heap.size w w' := by
  obtain ⟨o, ho⟩ : ∃ o, o = Obj.cells (Array.replicate 19 Value.nilIface) 123 (0, 0) := ⟨_, rfl⟩
  have c1 : (w.alloc o).cell? ⟨3, 0, none⟩ = some (.iface 237 (.pointer (some (A 1)))) := (hE.next (balloc (Below.refl _ _))).e1
  have c2 : (w.alloc o).cell? ⟨0, 0, none⟩ = some (.iface 237 (.pointer (some (A 2)))) := (hE.next (balloc (Below.refl _ _))).e2
  have c3 : (w.alloc o).cell? ⟨1, 0, none⟩ = some (.iface 237 (.pointer (some (A 3)))) := (hE.next (balloc (Below.refl _ _))).e3
  have c4 : (w.alloc o).cell? ⟨4, 0, none⟩ = some (.iface 237 (.pointer (some (A 4)))) := (hE.next (balloc (Below.refl _ _))).e4
  have c5 : (w.alloc o).cell? ⟨6, 0, none⟩ = some (.iface 237 (.pointer (some (A 5)))) := (hE.next (balloc (Below.refl _ _))).e5
  have c6 : (w.alloc o).cell? ⟨5, 0, none⟩ = some (.iface 237 (.pointer (some (A 6)))) := (hE.next (balloc (Below.refl _ _))).e6
  have c7 : (w.alloc o).cell? ⟨8, 0, none⟩ = some (.iface 237 (.pointer (some (A 7)))) := (hE.next (balloc (Below.refl _ _))).e7
  have c8 : (w.alloc o).cell? ⟨9, 0, none⟩ = some (.iface 237 (.pointer (some (A 8)))) := (hE.next (balloc (Below.refl _ _))).e8
  have c9 : (w.alloc o).cell? ⟨10, 0, none⟩ = some (.iface 237 (.pointer (some (A 9)))) := (hE.next (balloc (Below.refl _ _))).e9
  have c10 : (w.alloc o).cell? ⟨11, 0, none⟩ = some (.iface 237 (.pointer (some (A 10)))) := (hE.next (balloc (Below.refl _ _))).e10
  have c11 : (w.alloc o).cell? ⟨12, 0, none⟩ = some (.iface 237 (.pointer (some (A 11)))) := (hE.next (balloc (Below.refl _ _))).e11
  have c12 : (w.alloc o).cell? ⟨7, 0, none⟩ = some (.iface 237 (.pointer (some (A 12)))) := (hE.next (balloc (Below.refl _ _))).e12
  have c13 : (w.alloc o).cell? ⟨13, 0, none⟩ = some (.iface 237 (.pointer (some (A 13)))) := (hE.next (balloc (Below.refl _ _))).e13
  have c14 : (w.alloc o).cell? ⟨14, 0, none⟩ = some (.iface 237 (.pointer (some (A 14)))) := (hE.next (balloc (Below.refl _ _))).e14
  have c15 : (w.alloc o).cell? ⟨15, 0, none⟩ = some (.iface 237 (.pointer (some (A 15)))) := (hE.next (balloc (Below.refl _ _))).e15
  have c16 : (w.alloc o).cell? ⟨16, 0, none⟩ = some (.iface 237 (.pointer (some (A 16)))) := (hE.next (balloc (Below.refl _ _))).e16
  have c17 : (w.alloc o).cell? ⟨17, 0, none⟩ = some (.iface 237 (.pointer (some (A 17)))) := (hE.next (balloc (Below.refl _ _))).e17
  have c18 : (w.alloc o).cell? ⟨18, 0, none⟩ = some (.iface 237 (.pointer (some (A 18)))) := (hE.next (balloc (Below.refl _ _))).e18
  have c19 : (w.alloc o).cell? ⟨19, 0, none⟩ = some (.iface 237 (.pointer (some (A 19)))) := (hE.next (balloc (Below.refl _ _))).e19
  have hlast : (w.alloc o).heap[w.heap.size]? = some (.cells (Array.replicate 19 Value.nilIface) 123 (0, 0)) := by rw [ho]; exact heap_alloc_new w _
  have hbel : ∀ cs, Below w.heap.size w ((w.alloc o).setRow w.heap.size cs) := fun cs => below_setRow (balloc (Below.refl _ _)) (Nat.le_refl _) cs
  simp only [errV]
  generalize A 1 = a1 at *
  generalize A 2 = a2 at *
  generalize A 3 = a3 at *
  generalize A 4 = a4 at *
  generalize A 5 = a5 at *
  generalize A 6 = a6 at *
  generalize A 7 = a7 at *
  generalize A 8 = a8 at *
  generalize A 9 = a9 at *
  generalize A 10 = a10 at *
  generalize A 11 = a11 at *
  generalize A 12 = a12 at *
  generalize A 13 = a13 at *
  generalize A 14 = a14 at *
  generalize A 15 = a15 at *
  generalize A 16 = a16 at *
  generalize A 17 = a17 at *
  generalize A 18 = a18 at *
  generalize A 19 = a19 at *
  clear hE
  go_enter Tryz.func55, Tryz.ntmps55
  refine wp_seq ?_
  refine wp_region_lit ?_
  refine Great.wpList_allocTo rfl (some 0) rfl (.pointer (some ⟨w.heap.size, 0, none⟩)) o (by subst ho; kernel_rfl) ?_
  refine wpList_nil ?_
  refine wp_seq ?_
  refine wp_region_lit ?_
  refine Great.wpList_loadVarTo rfl (some 1) rfl 26 3 rfl (.iface 237 (.pointer (some a1))) (load_glob c1) ?_
  refine Great.wpList_loadVarTo rfl (some 2) rfl 26 0 rfl (.iface 237 (.pointer (some a2))) (load_glob c2) ?_
  refine Great.wpList_loadVarTo rfl (some 3) rfl 26 1 rfl (.iface 237 (.pointer (some a3))) (load_glob c3) ?_
  refine Great.wpList_loadVarTo rfl (some 4) rfl 26 4 rfl (.iface 237 (.pointer (some a4))) (load_glob c4) ?_
  refine Great.wpList_loadVarTo rfl (some 5) rfl 26 6 rfl (.iface 237 (.pointer (some a5))) (load_glob c5) ?_
  refine Great.wpList_loadVarTo rfl (some 6) rfl 26 5 rfl (.iface 237 (.pointer (some a6))) (load_glob c6) ?_
  refine Great.wpList_loadVarTo rfl (some 7) rfl 26 8 rfl (.iface 237 (.pointer (some a7))) (load_glob c7) ?_
  refine Great.wpList_loadVarTo rfl (some 8) rfl 26 9 rfl (.iface 237 (.pointer (some a8))) (load_glob c8) ?_
  refine Great.wpList_loadVarTo rfl (some 9) rfl 26 10 rfl (.iface 237 (.pointer (some a9))) (load_glob c9) ?_
  refine Great.wpList_loadVarTo rfl (some 10) rfl 26 11 rfl (.iface 237 (.pointer (some a10))) (load_glob c10) ?_
  refine Great.wpList_loadVarTo rfl (some 11) rfl 26 12 rfl (.iface 237 (.pointer (some a11))) (load_glob c11) ?_
  refine Great.wpList_loadVarTo rfl (some 12) rfl 26 7 rfl (.iface 237 (.pointer (some a12))) (load_glob c12) ?_
  refine Great.wpList_loadVarTo rfl (some 13) rfl 26 13 rfl (.iface 237 (.pointer (some a13))) (load_glob c13) ?_
  refine Great.wpList_loadVarTo rfl (some 14) rfl 26 14 rfl (.iface 237 (.pointer (some a14))) (load_glob c14) ?_
  refine Great.wpList_loadVarTo rfl (some 15) rfl 26 15 rfl (.iface 237 (.pointer (some a15))) (load_glob c15) ?_
  refine Great.wpList_loadVarTo rfl (some 16) rfl 26 16 rfl (.iface 237 (.pointer (some a16))) (load_glob c16) ?_
  refine Great.wpList_loadVarTo rfl (some 17) rfl 26 17 rfl (.iface 237 (.pointer (some a17))) (load_glob c17) ?_
  refine Great.wpList_loadVarTo rfl (some 18) rfl 26 18 rfl (.iface 237 (.pointer (some a18))) (load_glob c18) ?_
  refine Great.wpList_loadVarTo rfl (some 19) rfl 26 19 rfl (.iface 237 (.pointer (some a19))) (load_glob c19) ?_
  refine wpList_buildIs rfl _ _ rfl (cells := #[.iface 237 (.pointer (some a1)), .iface 237 (.pointer (some a2)), .iface 237 (.pointer (some a3)), .iface 237 (.pointer (some a4)), .iface 237 (.pointer (some a5)), .iface 237 (.pointer (some a6)), .iface 237 (.pointer (some a7)), .iface 237 (.pointer (some a8)), .iface 237 (.pointer (some a9)), .iface 237 (.pointer (some a10)), .iface 237 (.pointer (some a11)), .iface 237 (.pointer (some a12)), .iface 237 (.pointer (some a13)), .iface 237 (.pointer (some a14)), .iface 237 (.pointer (some a15)), .iface 237 (.pointer (some a16)), .iface 237 (.pointer (some a17)), .iface 237 (.pointer (some a18)), .iface 237 (.pointer (some a19))]) (by kernel_rfl) ?_
  refine wpList_store_row rfl 123 (.tmp 0) (.tmp 20) rfl w.heap.size #[.iface 237 (.pointer (some a1)), .iface 237 (.pointer (some a2)), .iface 237 (.pointer (some a3)), .iface 237 (.pointer (some a4)), .iface 237 (.pointer (some a5)), .iface 237 (.pointer (some a6)), .iface 237 (.pointer (some a7)), .iface 237 (.pointer (some a8)), .iface 237 (.pointer (some a9)), .iface 237 (.pointer (some a10)), .iface 237 (.pointer (some a11)), .iface 237 (.pointer (some a12)), .iface 237 (.pointer (some a13)), .iface 237 (.pointer (some a14)), .iface 237 (.pointer (some a15)), .iface 237 (.pointer (some a16)), .iface 237 (.pointer (some a17)), .iface 237 (.pointer (some a18)), .iface 237 (.pointer (some a19))] (by kernel_rfl) (by kernel_rfl) 123 _ hlast info_list (by kernel_rfl) (by kernel_rfl) ?_
  refine wpList_nil ?_
  simp only [Exit.then]
  refine wp_ret ?_
  refine bodyPost_ret (results_cell_row rfl _ _ w.heap.size 123 #[.iface 237 (.pointer (some a1)), .iface 237 (.pointer (some a2)), .iface 237 (.pointer (some a3)), .iface 237 (.pointer (some a4)), .iface 237 (.pointer (some a5)), .iface 237 (.pointer (some a6)), .iface 237 (.pointer (some a7)), .iface 237 (.pointer (some a8)), .iface 237 (.pointer (some a9)), .iface 237 (.pointer (some a10)), .iface 237 (.pointer (some a11)), .iface 237 (.pointer (some a12)), .iface 237 (.pointer (some a13)), .iface 237 (.pointer (some a14)), .iface 237 (.pointer (some a15)), .iface 237 (.pointer (some a16)), .iface 237 (.pointer (some a17)), .iface 237 (.pointer (some a18)), .iface 237 (.pointer (some a19))] (0, 0) _ (by kernel_rfl) (setRow_heap _ _ _ _ _ _ hlast) Tryz.underlying123 rfl info_list) rfl ⟨rfl, hbel _⟩

theorem run_index19 (cs : Array Value) (v : Value) (j : Nat) (hj : j < 19) (hv : cs[j]? = some v) (w : World) :
    (Instr.index 123 (.agg cs) (.int .i64 (j : Int))).run Tryz.prog w = .ok v w := by
  have h1 : (sizeOf 26).run Tryz.prog w = .ok 1 w := by kernel_rfl
  have h2 : (isAgg 26).run Tryz.prog w = .ok false w := by kernel_rfl
  have h0 : (0 : Int) ≤ (j : Int) ∧ (j : Int) < 19 := by omega
  simp [Instr.index, asIntOf, run_underlying Tryz.underlying123, h0, h1, h2, Result.andThen, Sem.run_bind, part, hv]
  intro h; omega
def ErrCells (A : Nat → Addr) (cs : Array Value) : Prop := ∀ j, j < 19 → cs[j]? = some (.iface 237 (.pointer (some (A (j + 1)))))
theorem errCells (A : Nat → Addr) : ErrCells A #[errV A 1, errV A 2, errV A 3, errV A 4, errV A 5, errV A 6, errV A 7, errV A 8, errV A 9, errV A 10, errV A 11, errV A 12, errV A 13, errV A 14, errV A 15, errV A 16, errV A 17, errV A 18, errV A 19] := by
  intro j hj
  have : j = 0 ∨ j = 1 ∨ j = 2 ∨ j = 3 ∨ j = 4 ∨ j = 5 ∨ j = 6 ∨ j = 7 ∨ j = 8 ∨ j = 9 ∨ j = 10 ∨ j = 11 ∨ j = 12 ∨ j = 13 ∨ j = 14 ∨ j = 15 ∨ j = 16 ∨ j = 17 ∨ j = 18 := by omega
  rcases this with rfl | rfl | rfl | rfl | rfl | rfl | rfl | rfl | rfl | rfl | rfl | rfl | rfl | rfl | rfl | rfl | rfl | rfl | rfl <;> rfl
theorem list_calls' {A : Nat → Addr} {B : Nat} (w : World) (hE : Env A B SVN w) :
    Calls Tryz.prog 55 #[] w fun e w' => ∃ cs, ErrCells A cs ∧ e = .returned (.agg cs) ∧ Below w.heap.size w w' :=
  (list_calls w hE).mono fun _ _ ⟨he, hb⟩ => ⟨_, errCells A, he, hb⟩
theorem Num_nil (w : World) : Calls Tryz.prog 28 #[.nilIface] w fun e w' => e = .returned (.int .i64 0) ∧ Below w.heap.size w w' := by
  go_enter Tryz.func28, Tryz.ntmps28
  (go_wp2_with fail; repeat (any_goals (go_quiet (fail); go_wp2_with fail)))
  go_ret
  exact ⟨rfl, (by repeat (first | assumption | exact Below.refl _ _ | apply Below.drew | apply below_drewN | apply balloc | (refine Below.setCell ?_ (by first | omega | (simp <;> omega)) _)))⟩
set_option maxHeartbeats 1000000 in
set_option maxRecDepth 100000 in
theorem Num_err {A : Nat → Addr} {B : Nat} (k : Nat) (w : World) (h1 : 1 ≤ k) (h2 : k ≤ 19) (hE : Env A B SVN w) :
    Calls Tryz.prog 28 #[.iface 237 (.pointer (some (A k)))] w fun e w' => e = .returned (.int .i64 k) ∧ Below w.heap.size w w' := by
  go_enter Tryz.func28, Tryz.ntmps28
  (go_wp2_with fail; repeat (any_goals (go_quiet (fail); go_wp2_with fail)))
  refine (list_calls' _ hE).mono ?_
  rintro e w1 ⟨cs, hcs, rfl, hb⟩
  have hE1 := hE.next hb
  replace hcs := Lib.hid hcs
  (go_wp2_with fail; repeat (any_goals (go_quiet (fail); go_wp2_with fail)))
  go_loop [8] (fun c => ∃ j : Nat, j < k ∧ c = .int .i64 (j : Int)) (fun c => 19 - (intOf c).toNat)
  case atStart => exact ⟨0, by omega, rfl⟩
  case round =>
    obtain ⟨j, hj, rfl⟩ := hrel
    have ix := fun w => run_index19 cs _ j (by omega) (hcs.out j (by omega)) w
    by_cases hl : j + 1 = k
    · subst hl
      (go_wp2_with fail; repeat (any_goals (go_quiet (fail); go_wp2_with fail)))
      go_ret
      exact ⟨by simp, hb⟩
    · have ms : ∀ m, 1 ≤ m → m ≤ 19 → m ∈ SVN := fun m h1 h2 => by simp [SVN]; omega
      obtain ⟨ca, ta, ba⟩ := hE1.blk k (ms k h1 h2)
      obtain ⟨cb, tb, bb⟩ := hE1.blk (j + 1) (ms (j + 1) (by omega) (by omega))
      have q := eqErr_other w1 (hE1.ne k (j + 1) (ms k h1 h2) (ms (j + 1) (by omega) (by omega)) (by omega)) ba bb
      replace ba := Lib.hid ba
      replace bb := Lib.hid bb
      replace hl := Lib.hid hl
      clear ms
      (go_wp2_with fail; repeat (any_goals (go_quiet (fail); go_wp2_with fail)))
      go_round
      case rel => exact ⟨j + 1, by have := hl.out; omega, by go_num⟩
      case measure => simp [intOf]; omega
theorem Num_calls {A : Nat → Addr} {B : Nat} (k : Nat) (w : World) (h2 : k ≤ 19) (hE : Env A B SVN w) :
    Calls Tryz.prog 28 #[errV A k] w fun e w' => e = .returned (.int .i64 k) ∧ Below w.heap.size w w' := by
  rcases Nat.eq_zero_or_pos k with rfl | h
  · exact Num_nil w
  · rw [errV_pos A h]; exact Num_err k w h h2 hE

end Go.Proofs.YtibopkodoidjoaaGreatDoor

/- Lists of tokens in memory; the statements' same; vellumnum.Place. -/
namespace Go.Proofs.YtibopkodoidjoaaGreatDoor
open Go Go.RowKit

theorem flat_get : ∀ (ts : List Tk) (j : Nat) (T : Tk) (i : Nat), ts[j]? = some T → i < 4 → (ts.flatMap tkC)[j * 4 + i]? = (tkC T)[i]?
  | [], j, T, i, h, _ => by simp at h
  | t :: ts, 0, T, i, h, hi => by
    simp at h
    subst h
    rw [List.flatMap_cons, Nat.zero_mul, Nat.zero_add, List.getElem?_append_left (by show i < 4; exact hi)]
  | t :: ts, j + 1, T, i, h, hi => by
    simp at h
    rw [List.flatMap_cons, List.getElem?_append_right (by show 4 ≤ (j + 1) * 4 + i; omega)]
    have : (j + 1) * 4 + i - (tkC t).length = j * 4 + i := by show (j + 1) * 4 + i - 4 = _; omega
    rw [this]
    exact flat_get ts j T i h hi
theorem OwnT.form {w : World} {base : Nat} {v : Value} {ts : List Tk} (h : OwnT w base v ts) : (ts = [] ∧ v = .slice none 0 0) ∨ ∃ g cap, v = .slice (some ⟨g, 0, none⟩) ts.length cap ∧ base ≤ g ∧ g < w.heap.size ∧ ts.length ≤ cap ∧ cap ≤ maxLen := by
  obtain ⟨h1, ⟨rfl, h3⟩ | ⟨g, cap, cur, rfl, hbg, hg, hn, hc, hz, ht⟩⟩ := h
  · exact Or.inl ⟨List.eq_nil_of_length_eq_zero h3, rfl⟩
  · exact Or.inr ⟨g, cap, rfl, hbg, ltB hg, hn, hc⟩
theorem OwnT.form2 {w : World} {base : Nat} {v : Value} {l : List Tk} (h : OwnT w base v l) : ∃ a cap, v = .slice a l.length cap := by
  obtain ⟨h1, ⟨rfl, h3⟩ | ⟨g, cap, cur, rfl, hbg, hg, hn, hc, hz, ht⟩⟩ := h
  · exact ⟨none, 0, by rw [h3]⟩
  · exact ⟨some ⟨g, 0, none⟩, cap, rfl⟩
theorem OwnT.at {w : World} {base g n cap : Nat} {ts : List Tk} (h : OwnT w base (.slice (some ⟨g, 0, none⟩) n cap) ts) {j : Nat} {T : Tk} (hj : ts[j]? = some T) :
    w.cell? ⟨g, j * 4, none⟩ = some (.int .i64 (T.kind : Int)) ∧ w.cell? ⟨g, j * 4 + 1, none⟩ = some (.int .i64 (T.fr : Int)) ∧ w.cell? ⟨g, j * 4 + 2, none⟩ = some (.int .i64 (T.to : Int)) ∧ w.cell? ⟨g, j * 4 + 3, none⟩ = some (.string T.text) := by
  obtain ⟨h1, ⟨h2, _⟩ | ⟨g', cap', cur, h2, hbg, hg, hn, hc, hz, ht⟩⟩ := h
  · cases h2
  · cases h2
    have hjl : j < ts.length := by
      rcases Nat.lt_or_ge j ts.length with h | h
      · exact h
      · rw [List.getElem?_eq_none h] at hj; cases hj
    have key : ∀ i u, i < 4 → (tkC T)[i]? = some u → w.cell? ⟨g, j * 4 + i, none⟩ = some u := by
      intro i u hi hu
      refine cellB hg (j * 4 + i) ?_
      have h3 := flat_get ts j T i hj hi
      rw [← ht, List.getElem?_take_of_lt (by omega), Array.getElem?_toList] at h3
      rw [h3, hu]
    exact ⟨key 0 _ (by decide) rfl, key 1 _ (by decide) rfl, key 2 _ (by decide) rfl, key 3 _ (by decide) rfl⟩

end Go.Proofs.YtibopkodoidjoaaGreatDoor

/- Package tree: the parser's small functions. -/
namespace Go.Proofs.YtibopkodoidjoaaGreatDoor
open Go Go.RowKit

/-- The parser's block. -/
def PsB (s : ByteArray) (v : Value) (p : Nat) (b : Nat) (w : World) : Prop := w.heap[b]? = some (.cells #[.string s, v, .int .i64 (p : Int)] 75 (0, 0))
theorem PsB.next {s : ByteArray} {v : Value} {p b : Nat} {w w' : World} (h : PsB s v p b w) (hb : Below w.heap.size w w') : PsB s v p b w' := box_next h hb
theorem PsB.c0 {s : ByteArray} {v : Value} {p b : Nat} {w : World} (h : PsB s v p b w) : w.cell? ⟨b, 0, none⟩ = some (.string s) := cellB h 0 rfl
theorem PsB.c1 {s : ByteArray} {v : Value} {p b : Nat} {w : World} (h : PsB s v p b w) : w.cell? ⟨b, 1, none⟩ = some v := cellB h 1 rfl
theorem PsB.c2 {s : ByteArray} {v : Value} {p b : Nat} {w : World} (h : PsB s v p b w) : w.cell? ⟨b, 2, none⟩ = some (.int .i64 (p : Int)) := cellB h 2 rfl
/-- The next token's kind; its place. -/
def kindT (ts : List Tk) (p : Nat) : Nat := match ts[p]? with | some T => T.kind | none => 0
def placeT (s : ByteArray) (ts : List Tk) (p : Nat) : Nat := match ts[p]? with | some T => T.fr | none => s.size
/-- The parser gives up. -/
def GaveUp (A : Nat → Addr) (base k : Nat) (p : Nat) (e : Ending) (w' : World) : Prop := ∃ g, base ≤ g ∧ e = .panicked [{ v := .iface 71 (.agg #[.pointer (some ⟨g, 0, none⟩)]), recovered := false }] ∧ AtB (p : Int) (.iface 237 (.pointer (some (A k)))) g w'
set_option maxHeartbeats 1000000 in
theorem fail_calls (A : Nat → Addr) (k p : Nat) (w : World) : Calls Tryz.prog 32 #[.int .i64 (p : Int), .iface 237 (.pointer (some (A k)))] w fun e w' => GaveUp A w.heap.size k p e w' ∧ Below w.heap.size w w' := by
  go_enter Tryz.func32, Tryz.ntmps32
  (go_wp2_with fail; repeat (any_goals (go_quiet (fail); go_wp2_with fail)))
  exact ⟨rfl, ⟨w.heap.size, Nat.le_refl _, rfl, heap_alloc_new w _⟩, (by repeat (first | assumption | exact Below.refl _ _ | apply Below.drew | apply below_drewN | apply balloc | (refine Below.setCell ?_ (by first | omega | (simp <;> omega)) _)))⟩
set_option maxHeartbeats 1000000 in
set_option maxRecDepth 100000 in
theorem tnext_calls {base : Nat} {v : Value} {ts : List Tk} (s : ByteArray) (p b : Nat) (w : World) (hp : p ≤ ts.length) (hsc : PsB s v p b w) (ho : OwnT w base v ts) :
    Calls Tryz.prog 57 #[.pointer (some ⟨b, 0, none⟩)] w fun e w' => e = .returned (.int .i64 (kindT ts p : Int)) ∧ Below w.heap.size w w' := by
  have x1 := hsc.c1
  have x2 := hsc.c2
  have hbl := ltB hsc
  replace hsc := Lib.hid hsc
  by_cases h : p = ts.length
  · have hk : kindT ts p = 0 := by unfold kindT; rw [List.getElem?_eq_none (by omega)]
    rw [hk]
    obtain ⟨a, c, rfl⟩ := ho.form2
    replace ho := Lib.hid ho
    have he : ((p : Int) == (ts.length : Int)) = true := by simp; omega
    replace h := Lib.hid h
    replace hk := Lib.hid hk
    generalize ts.length = n at *
    go_enter Tryz.func57, Tryz.ntmps57
    (go_wp2_with fail; repeat (any_goals (go_quiet (fail); go_wp2_with fail)))
    go_ret
    exact ⟨rfl, (by repeat (first | assumption | exact Below.refl _ _ | apply Below.drew | apply below_drewN | apply balloc | (refine Below.setCell ?_ (by first | omega | (simp <;> omega)) _)))⟩
  · rcases ho.form with ⟨rfl, rfl⟩ | ⟨g, cap, rfl, hbg, hgl, hnl, hcm⟩
    · simp at hp h; omega
    have hT : ts[p]? = some (ts[p]'(by omega)) := List.getElem?_eq_getElem _
    have hk : kindT ts p = (ts[p]'(by omega)).kind := by unfold kindT; rw [hT]
    rw [hk]
    obtain ⟨y0, _, _, _⟩ := ho.at hT
    generalize ts[p]'(by omega) = T at *
    have he : ((p : Int) == (ts.length : Int)) = false := by simp; omega
    have hlt : (p : Int) < (ts.length : Int) := by omega
    unfold maxLen at hcm
    replace h := Lib.hid h
    replace hk := Lib.hid hk
    replace hT := Lib.hid hT
    replace ho := Lib.hid ho
    generalize ts.length = n at *
    go_enter Tryz.func57, Tryz.ntmps57
    (go_wp2_with fail; repeat (any_goals (go_quiet (fail); go_wp2_with fail)))
    go_ret
    exact ⟨rfl, (by repeat (first | assumption | exact Below.refl _ _ | apply Below.drew | apply below_drewN | apply balloc | (refine Below.setCell ?_ (by first | omega | (simp <;> omega)) _)))⟩
set_option maxHeartbeats 1000000 in
set_option maxRecDepth 100000 in
theorem tplace_calls {base : Nat} {v : Value} {ts : List Tk} (s : ByteArray) (p b : Nat) (w : World) (hp : p ≤ ts.length) (hsc : PsB s v p b w) (ho : OwnT w base v ts) :
    Calls Tryz.prog 33 #[.pointer (some ⟨b, 0, none⟩)] w fun e w' => e = .returned (.int .i64 (placeT s ts p : Int)) ∧ Below w.heap.size w w' := by
  have x0 := hsc.c0
  have x1 := hsc.c1
  have x2 := hsc.c2
  have hbl := ltB hsc
  replace hsc := Lib.hid hsc
  by_cases h : p = ts.length
  · have hk : placeT s ts p = s.size := by unfold placeT; rw [List.getElem?_eq_none (by omega)]
    rw [hk]
    obtain ⟨a, c, rfl⟩ := ho.form2
    replace ho := Lib.hid ho
    have he : ((p : Int) == (ts.length : Int)) = true := by simp; omega
    replace h := Lib.hid h
    replace hk := Lib.hid hk
    generalize ts.length = n at *
    go_enter Tryz.func33, Tryz.ntmps33
    (go_wp2_with fail; repeat (any_goals (go_quiet (fail); go_wp2_with fail)))
    go_ret
    exact ⟨rfl, (by repeat (first | assumption | exact Below.refl _ _ | apply Below.drew | apply below_drewN | apply balloc | (refine Below.setCell ?_ (by first | omega | (simp <;> omega)) _)))⟩
  · rcases ho.form with ⟨rfl, rfl⟩ | ⟨g, cap, rfl, hbg, hgl, hnl, hcm⟩
    · simp at hp h; omega
    have hT : ts[p]? = some (ts[p]'(by omega)) := List.getElem?_eq_getElem _
    have hk : placeT s ts p = (ts[p]'(by omega)).fr := by unfold placeT; rw [hT]
    rw [hk]
    obtain ⟨_, y1, _, _⟩ := ho.at hT
    generalize ts[p]'(by omega) = T at *
    have he : ((p : Int) == (ts.length : Int)) = false := by simp; omega
    have hlt : (p : Int) < (ts.length : Int) := by omega
    unfold maxLen at hcm
    replace h := Lib.hid h
    replace hk := Lib.hid hk
    replace hT := Lib.hid hT
    replace ho := Lib.hid ho
    generalize ts.length = n at *
    go_enter Tryz.func33, Tryz.ntmps33
    (go_wp2_with fail; repeat (any_goals (go_quiet (fail); go_wp2_with fail)))
    go_ret
    exact ⟨rfl, (by repeat (first | assumption | exact Below.refl _ _ | apply Below.drew | apply below_drewN | apply balloc | (refine Below.setCell ?_ (by first | omega | (simp <;> omega)) _)))⟩

end Go.Proofs.YtibopkodoidjoaaGreatDoor

/- Package tree: the parser as a plain function. -/
namespace Go.Proofs.YtibopkodoidjoaaGreatDoor
open Go Go.RowKit

/-- A node. -/
inductive Nd where
  | null (p : Nat)
  | flag (p : Nat) (b : Bool)
  | num (p : Nat) (t : ByteArray)
  | text (p : Nat) (t : ByteArray)
  | lst (p : Nat) (xs : List Nd)
  | obj (p : Nat) (xs : List (ByteArray × Nat × Nd))
/-- What a part of the parser answers: the thing and the place behind it, an error's number and place, or nothing yet. -/
inductive PR (α : Type) where
  | ok (x : α) (p : Nat)
  | err (k pl : Nat)
  | out
def textT (ts : List Tk) (p : Nat) : ByteArray := match ts[p]? with | some T => T.text | none => noS
def wordT (s : ByteArray) (ts : List Tk) (p : Nat) : ByteArray := match ts[p]? with | some T => s.extract T.fr T.to | none => noS
/-- Behind a member of a list or an object: it ends, or goes on. -/
def rest (s : ByteArray) (ts : List Tk) (stop p : Nat) : PR Bool := if kindT ts p = stop then .ok true (p + 1) else if kindT ts p = 11 then .ok false (p + 1) else .err 2 (placeT s ts p)
/-- Is a key among those? -/
def knows (seen : List ByteArray) (t : ByteArray) : Bool := seen.any fun u => decide (u = t)
mutual
def pV (s : ByteArray) (ts : List Tk) : Nat → Nat → Nat → PR Nd
  | 0, _, _ => .out
  | f + 1, deep, p =>
    if kindT ts p = 1 then .ok (.null (placeT s ts p)) (p + 1)
    else if kindT ts p = 2 then .ok (.flag (placeT s ts p) true) (p + 1)
    else if kindT ts p = 3 then .ok (.flag (placeT s ts p) false) (p + 1)
    else if kindT ts p = 4 then .ok (.num (placeT s ts p) (wordT s ts p)) (p + 1)
    else if kindT ts p = 5 then .ok (.text (placeT s ts p) (textT ts p)) (p + 1)
    else if kindT ts p = 8 then
      if deep = 64 then .err 3 (placeT s ts p)
      else match (if kindT ts (p + 1) = 9 then .ok [] (p + 2) else pI s ts f deep (p + 1)) with
        | .ok xs q => .ok (.lst (placeT s ts p) xs) q
        | .err k pl => .err k pl
        | .out => .out
    else if kindT ts p = 6 then
      if deep = 64 then .err 3 (placeT s ts p)
      else match (if kindT ts (p + 1) = 7 then .ok [] (p + 2) else pM s ts f deep [] (p + 1)) with
        | .ok xs q => .ok (.obj (placeT s ts p) xs) q
        | .err k pl => .err k pl
        | .out => .out
    else .err 2 (placeT s ts p)
def pI (s : ByteArray) (ts : List Tk) : Nat → Nat → Nat → PR (List Nd)
  | 0, _, _ => .out
  | f + 1, deep, p => match pV s ts f (deep + 1) p with
    | .ok x q => match rest s ts 9 q with
      | .ok true q' => .ok [x] q'
      | .ok false q' => match pI s ts f deep q' with
        | .ok xs q'' => .ok (x :: xs) q''
        | .err k pl => .err k pl
        | .out => .out
      | .err k pl => .err k pl
      | .out => .out
    | .err k pl => .err k pl
    | .out => .out
def pM (s : ByteArray) (ts : List Tk) : Nat → Nat → List ByteArray → Nat → PR (List (ByteArray × Nat × Nd))
  | 0, _, _, _ => .out
  | f + 1, deep, seen, p =>
    if kindT ts p = 5 then
      if knows seen (textT ts p) = true then .err 6 (placeT s ts p)
      else if kindT ts (p + 1) = 10 then
        match pV s ts f (deep + 1) (p + 2) with
        | .ok x q => match rest s ts 7 q with
          | .ok true q' => .ok [(textT ts p, placeT s ts p, x)] q'
          | .ok false q' => match pM s ts f deep (seen ++ [textT ts p]) q' with
            | .ok xs q'' => .ok ((textT ts p, placeT s ts p, x) :: xs) q''
            | .err k pl => .err k pl
            | .out => .out
          | .err k pl => .err k pl
          | .out => .out
        | .err k pl => .err k pl
        | .out => .out
      else .err 2 (placeT s ts (p + 1))
    else .err 2 (placeT s ts p)
end
theorem kindT_lt {ts : List Tk} {p : Nat} (h : kindT ts p ≠ 0) : p < ts.length := by
  rcases Nat.lt_or_ge p ts.length with h1 | h1
  · exact h1
  · exfalso
    apply h
    unfold kindT
    rw [List.getElem?_eq_none h1]
/-- A part goes on, and not behind the end. -/
def PR.fits {α : Type} (n p : Nat) : PR α → Prop
  | .ok _ q => p < q ∧ q ≤ n
  | .err k _ => k = 2 ∨ k = 3 ∨ k = 6
  | .out => False
theorem rest_fits (s : ByteArray) (ts : List Tk) (stop p : Nat) (h : stop ≠ 0) : (rest s ts stop p).fits ts.length p := by
  unfold rest
  split
  · have := kindT_lt (ts := ts) (p := p) (by omega)
    exact ⟨by omega, by omega⟩
  · split
    · have := kindT_lt (ts := ts) (p := p) (by omega)
      exact ⟨by omega, by omega⟩
    · exact Or.inl rfl
theorem p_fits (s : ByteArray) (ts : List Tk) : ∀ f,
    (∀ deep p, 2 * (ts.length - p) + 1 ≤ f → (pV s ts f deep p).fits ts.length p) ∧
    (∀ deep p, 2 * (ts.length - p) + 2 ≤ f → (pI s ts f deep p).fits ts.length p) ∧
    (∀ deep seen p, 2 * (ts.length - p) + 2 ≤ f → (pM s ts f deep seen p).fits ts.length p)
  | 0 => ⟨fun _ _ h => by omega, fun _ _ h => by omega, fun _ _ _ h => by omega⟩
  | f + 1 => by
    obtain ⟨iV, iI, iM⟩ := p_fits s ts f
    refine ⟨?_, ?_, ?_⟩
    · intro deep p hf
      rw [pV]
      by_cases k0 : kindT ts p = 0
      · simp only [k0]
        exact Or.inl rfl
      have hlt := kindT_lt k0
      have one : p < p + 1 ∧ p + 1 ≤ ts.length := ⟨by omega, by omega⟩
      split; · exact one
      split; · exact one
      split; · exact one
      split; · exact one
      split; · exact one
      split
      · split
        · exact Or.inr (Or.inl rfl)
        · by_cases h9 : kindT ts (p + 1) = 9
          · have := kindT_lt (ts := ts) (p := p + 1) (by omega)
            rw [if_pos h9]
            exact ⟨by omega, by omega⟩
          · rw [if_neg h9]
            have := iI deep (p + 1) (by omega)
            revert this
            cases pI s ts f deep (p + 1) with
            | ok xs q => rintro ⟨h1, h2⟩; exact ⟨by omega, h2⟩
            | err k pl => exact id
            | out => exact id
      · split
        · split
          · exact Or.inr (Or.inl rfl)
          · by_cases h9 : kindT ts (p + 1) = 7
            · have := kindT_lt (ts := ts) (p := p + 1) (by omega)
              rw [if_pos h9]
              exact ⟨by omega, by omega⟩
            · rw [if_neg h9]
              have := iM deep [] (p + 1) (by omega)
              revert this
              cases pM s ts f deep [] (p + 1) with
              | ok xs q => rintro ⟨h1, h2⟩; exact ⟨by omega, h2⟩
              | err k pl => exact id
              | out => exact id
        · exact Or.inl rfl
    · intro deep p hf
      rw [pI]
      have := iV (deep + 1) p (by omega)
      revert this
      cases pV s ts f (deep + 1) p with
      | err k pl => exact id
      | out => exact id
      | ok x q =>
        rintro ⟨h1, h2⟩
        have := rest_fits s ts 9 q (by decide)
        revert this
        show _ → PR.fits ts.length p (match rest s ts 9 q with | .ok true q' => _ | .ok false q' => _ | .err k pl => _ | .out => _)
        cases rest s ts 9 q with
        | err k pl => exact id
        | out => exact id
        | ok b q' =>
          rintro ⟨h3, h4⟩
          cases b with
          | true => exact ⟨by omega, h4⟩
          | false =>
            have := iI deep q' (by omega)
            revert this
            show _ → PR.fits ts.length p (match pI s ts f deep q' with | .ok xs q'' => _ | .err k pl => _ | .out => _)
            cases pI s ts f deep q' with
            | ok xs q'' => rintro ⟨h5, h6⟩; exact ⟨by omega, h6⟩
            | err k pl => exact id
            | out => exact id
    · intro deep seen p hf
      rw [pM]
      split
      · rename_i k5
        have hlt := kindT_lt (ts := ts) (p := p) (by omega)
        split
        · exact Or.inr (Or.inr rfl)
        · split
          · rename_i k10
            have hlt2 := kindT_lt (ts := ts) (p := p + 1) (by omega)
            have := iV (deep + 1) (p + 2) (by omega)
            revert this
            cases pV s ts f (deep + 1) (p + 2) with
            | err k pl => exact id
            | out => exact id
            | ok x q =>
              rintro ⟨h1, h2⟩
              have := rest_fits s ts 7 q (by decide)
              revert this
              show _ → PR.fits ts.length p (match rest s ts 7 q with | .ok true q' => _ | .ok false q' => _ | .err k pl => _ | .out => _)
              cases rest s ts 7 q with
              | err k pl => exact id
              | out => exact id
              | ok b q' =>
                rintro ⟨h3, h4⟩
                cases b with
                | true => exact ⟨by omega, h4⟩
                | false =>
                  have := iM deep (seen ++ [textT ts p]) q' (by omega)
                  revert this
                  show _ → PR.fits ts.length p (match pM s ts f deep (seen ++ [textT ts p]) q' with | .ok xs q'' => _ | .err k pl => _ | .out => _)
                  cases pM s ts f deep (seen ++ [textT ts p]) q' with
                  | ok xs q'' => rintro ⟨h5, h6⟩; exact ⟨by omega, h6⟩
                  | err k pl => exact id
                  | out => exact id
          · exact Or.inl rfl
      · exact Or.inl rfl
/-- The same, whatever the fuel. -/
def PR.goes {α : Type} (n p : Nat) : PR α → Prop
  | .ok _ q => p < q ∧ q ≤ n
  | .err k _ => k = 2 ∨ k = 3 ∨ k = 6
  | .out => True
theorem rest_goes (s : ByteArray) (ts : List Tk) (stop p : Nat) (h : stop ≠ 0) : (rest s ts stop p).goes ts.length p := by
  have := rest_fits s ts stop p h
  revert this
  cases rest s ts stop p with
  | ok b q => exact id
  | err k pl => exact id
  | out => exact fun h => h.elim
theorem p_goes (s : ByteArray) (ts : List Tk) : ∀ f,
    (∀ deep p, (pV s ts f deep p).goes ts.length p) ∧
    (∀ deep p, (pI s ts f deep p).goes ts.length p) ∧
    (∀ deep seen p, (pM s ts f deep seen p).goes ts.length p)
  | 0 => ⟨fun _ _ => by rw [pV]; trivial, fun _ _ => by rw [pI]; trivial, fun _ _ _ => by rw [pM]; trivial⟩
  | f + 1 => by
    obtain ⟨iV, iI, iM⟩ := p_goes s ts f
    refine ⟨?_, ?_, ?_⟩
    · intro deep p
      rw [pV]
      by_cases k0 : kindT ts p = 0
      · simp only [k0]
        exact Or.inl rfl
      have hlt := kindT_lt k0
      have one : p < p + 1 ∧ p + 1 ≤ ts.length := ⟨by omega, by omega⟩
      split; · exact one
      split; · exact one
      split; · exact one
      split; · exact one
      split; · exact one
      split
      · split
        · exact Or.inr (Or.inl rfl)
        · by_cases h9 : kindT ts (p + 1) = 9
          · have := kindT_lt (ts := ts) (p := p + 1) (by omega)
            rw [if_pos h9]
            exact ⟨by omega, by omega⟩
          · rw [if_neg h9]
            have := iI deep (p + 1)
            revert this
            cases pI s ts f deep (p + 1) with
            | ok xs q => rintro ⟨h1, h2⟩; exact ⟨by omega, h2⟩
            | err k pl => exact id
            | out => exact fun _ => trivial
      · split
        · split
          · exact Or.inr (Or.inl rfl)
          · by_cases h9 : kindT ts (p + 1) = 7
            · have := kindT_lt (ts := ts) (p := p + 1) (by omega)
              rw [if_pos h9]
              exact ⟨by omega, by omega⟩
            · rw [if_neg h9]
              have := iM deep [] (p + 1)
              revert this
              cases pM s ts f deep [] (p + 1) with
              | ok xs q => rintro ⟨h1, h2⟩; exact ⟨by omega, h2⟩
              | err k pl => exact id
              | out => exact fun _ => trivial
        · exact Or.inl rfl
    · intro deep p
      rw [pI]
      have := iV (deep + 1) p
      revert this
      cases pV s ts f (deep + 1) p with
      | err k pl => exact id
      | out => exact fun _ => trivial
      | ok x q =>
        rintro ⟨h1, h2⟩
        have := rest_fits s ts 9 q (by decide)
        revert this
        show _ → PR.goes ts.length p (match rest s ts 9 q with | .ok true q' => _ | .ok false q' => _ | .err k pl => _ | .out => _)
        cases rest s ts 9 q with
        | err k pl => exact id
        | out => exact fun _ => trivial
        | ok b q' =>
          rintro ⟨h3, h4⟩
          cases b with
          | true => exact ⟨by omega, h4⟩
          | false =>
            have := iI deep q'
            revert this
            show _ → PR.goes ts.length p (match pI s ts f deep q' with | .ok xs q'' => _ | .err k pl => _ | .out => _)
            cases pI s ts f deep q' with
            | ok xs q'' => rintro ⟨h5, h6⟩; exact ⟨by omega, h6⟩
            | err k pl => exact id
            | out => exact fun _ => trivial
    · intro deep seen p
      rw [pM]
      split
      · rename_i k5
        have hlt := kindT_lt (ts := ts) (p := p) (by omega)
        split
        · exact Or.inr (Or.inr rfl)
        · split
          · rename_i k10
            have hlt2 := kindT_lt (ts := ts) (p := p + 1) (by omega)
            have := iV (deep + 1) (p + 2)
            revert this
            cases pV s ts f (deep + 1) (p + 2) with
            | err k pl => exact id
            | out => exact fun _ => trivial
            | ok x q =>
              rintro ⟨h1, h2⟩
              have := rest_fits s ts 7 q (by decide)
              revert this
              show _ → PR.goes ts.length p (match rest s ts 7 q with | .ok true q' => _ | .ok false q' => _ | .err k pl => _ | .out => _)
              cases rest s ts 7 q with
              | err k pl => exact id
              | out => exact fun _ => trivial
              | ok b q' =>
                rintro ⟨h3, h4⟩
                cases b with
                | true => exact ⟨by omega, h4⟩
                | false =>
                  have := iM deep (seen ++ [textT ts p]) q'
                  revert this
                  show _ → PR.goes ts.length p (match pM s ts f deep (seen ++ [textT ts p]) q' with | .ok xs q'' => _ | .err k pl => _ | .out => _)
                  cases pM s ts f deep (seen ++ [textT ts p]) q' with
                  | ok xs q'' => rintro ⟨h5, h6⟩; exact ⟨by omega, h6⟩
                  | err k pl => exact id
                  | out => exact fun _ => trivial
          · exact Or.inl rfl
      · exact Or.inl rfl
/-- The whole parser, the tokens at hand. -/
def pP (s : ByteArray) (ts : List Tk) : PR Nd := match pV s ts (2 * ts.length + 1) 0 0 with
  | .ok x q => if q < ts.length then .err 2 (placeT s ts q) else .ok x q
  | .err k pl => .err k pl
  | .out => .out
theorem pV_fits (s : ByteArray) (ts : List Tk) : (pV s ts (2 * ts.length + 1) 0 0).fits ts.length 0 := (p_fits s ts _).1 0 0 (by omega)
theorem pP_fits (s : ByteArray) (ts : List Tk) : (pP s ts).fits ts.length 0 := by
  have := pV_fits s ts
  unfold pP
  revert this
  cases pV s ts (2 * ts.length + 1) 0 0 with
  | err k pl => exact id
  | out => exact id
  | ok x q =>
    intro h
    show PR.fits ts.length 0 (if q < ts.length then _ else _)
    split
    · exact Or.inl rfl
    · exact h

end Go.Proofs.YtibopkodoidjoaaGreatDoor

/- Package tree: the parser takes a token. -/
namespace Go.Proofs.YtibopkodoidjoaaGreatDoor
open Go Go.RowKit

theorem PsB.set {s : ByteArray} {v : Value} {p q b : Nat} {w : World} (h : PsB s v p b w) : PsB s v q b (w.setCell ⟨b, 2, none⟩ (.int .i64 (q : Int))) := by
  unfold PsB at h ⊢
  rw [Lib.heap_setCell_same (i := 2) h]
  rfl
theorem PsB.setOther {s : ByteArray} {v : Value} {p b c : Nat} {w : World} (h : PsB s v p b w) (hc : b ≠ c) (i : Nat) (u : Value) : PsB s v p b (w.setCell ⟨c, i, none⟩ u) := by
  unfold PsB at h ⊢
  rw [Below.heap_setCell _ _ _ _ (fun e => hc (by first | exact e | exact e.symm)), h]
theorem _root_.Go.World.grownBy.setNew {a w : World} {b : Nat} (h : a.grownBy w (some b)) {c : Nat} (hc : a.heap.size ≤ c) (i : Nat) (u : Value) : a.grownBy (w.setCell ⟨c, i, none⟩ u) (some b) := by
  have hs := grown_set w c i u
  refine ⟨hs.os.trans h.os, hs.tape.trans h.tape, hs.output.trans h.output, Nat.le_trans h.size hs.size, fun k hk hr => ?_⟩
  rw [hs.block k (Nat.lt_of_lt_of_le hk h.size) (fun e => by cases e; omega), h.block k hk hr]
theorem OwnT.grown {w w' : World} {base b : Nat} {v : Value} {ts : List Tk} (h : OwnT w base v ts) (hg : w.grownBy w' (some b)) (hb : b ∉ v.ownBlock) : OwnT w' base v ts :=
  World.ownsRow.kept h hg (by
    rcases h.form with ⟨rfl, rfl⟩ | ⟨g, cap, rfl, _⟩
    · exact Or.inl rfl
    · exact Or.inr (fun e => hb (by cases e; rfl)))
set_option maxHeartbeats 1000000 in
set_option maxRecDepth 100000 in
theorem take_bad {A : Nat → Addr} {B base : Nat} {v : Value} {ts : List Tk} (s : ByteArray) (k p b : Nat) (w : World) (hE : Env A B SVN w) (hp : p ≤ ts.length) (hsc : PsB s v p b w) (ho : OwnT w base v ts) (hk : kindT ts p ≠ k) :
    Calls Tryz.prog 58 #[.pointer (some ⟨b, 0, none⟩), .int .i64 (k : Int)] w fun e w' => GaveUp A w.heap.size 2 (placeT s ts p) e w' ∧ Below w.heap.size w w' := by
  have N := Lib.hid (fun w hsc ho => tnext_calls (base := base) (v := v) (ts := ts) s p b w hp hsc ho)
  have Pl := Lib.hid (fun w hsc ho => tplace_calls (base := base) (v := v) (ts := ts) s p b w hp hsc ho)
  have F := Lib.hid (fun n w => fail_calls A 2 n w)
  replace hsc := Lib.hid hsc
  replace ho := Lib.hid ho
  replace hE := Lib.hid hE
  have hne : ((kindT ts p : Int) == (k : Int)) = false := by simp; omega
  have hne' : ¬ (kindT ts p : Int) = (k : Int) := by omega
  replace hk := Lib.hid hk
  generalize kindT ts p = K at *
  go_enter Tryz.func58, Tryz.ntmps58
  (go_wp2_with fail; repeat (any_goals (go_quiet (fail); go_wp2_with fail)))
  refine (N.out _ (hsc.out.next (by repeat (first | assumption | exact Below.refl _ _ | apply Below.drew | apply below_drewN | apply balloc | (refine Below.setCell ?_ (by first | omega | (simp <;> omega)) _)))) (ho.out.next (by repeat (first | assumption | exact Below.refl _ _ | apply Below.drew | apply below_drewN | apply balloc | (refine Below.setCell ?_ (by first | omega | (simp <;> omega)) _))))).mono ?_
  rintro e w1 ⟨rfl, hb⟩
  have hb1 : Below w.heap.size w w1 := bcall (by repeat (first | assumption | exact Below.refl _ _ | apply Below.drew | apply below_drewN | apply balloc | (refine Below.setCell ?_ (by first | omega | (simp <;> omega)) _))) hb
  clear hb
  (go_wp2_with fail; repeat (any_goals (go_quiet (fail); go_wp2_with fail)))
  have x0 := (hE.out.next hb1).e2
  go_region_dies
  all_goals
    refine (Pl.out _ (hsc.out.next (by repeat (first | assumption | exact Below.refl _ _ | apply Below.drew | apply below_drewN | apply balloc | (refine Below.setCell ?_ (by first | omega | (simp <;> omega)) _)))) (ho.out.next (by repeat (first | assumption | exact Below.refl _ _ | apply Below.drew | apply below_drewN | apply balloc | (refine Below.setCell ?_ (by first | omega | (simp <;> omega)) _))))).mono ?_
    rintro e w2 ⟨rfl, hb⟩
    have hb2 : Below w.heap.size w w2 := bcall (by repeat (first | assumption | exact Below.refl _ _ | apply Below.drew | apply below_drewN | apply balloc | (refine Below.setCell ?_ (by first | omega | (simp <;> omega)) _))) hb
    clear hb
    have x1 := (hE.out.next hb2).e2
    rename_i K9 hK9
    refine hK9 _ _ ?_
    clear hK9 K9
  · (refine wpAny_ready (rs := [2]) (by kernel_rfl) (by simp) ?_; refine AllReady.cons rfl (fun K hK => ?_) AllReady.nil; go_simp)
    refine hK _ _ ?_
    clear hK K
    (refine wpAny_ready (rs := [3]) (by kernel_rfl) (by simp) ?_; refine AllReady.cons rfl (fun K hK => ?_) AllReady.nil; go_simp)
    refine (F.out _ _).mono ?_
    rintro e w8 ⟨⟨g, hg, rfl, hat⟩, hb⟩
    have hz := hb2.size
    exact ⟨rfl, ⟨g, by omega, rfl, hat⟩, bcall hb2 hb⟩
  · (refine wpAny_ready (rs := [3]) (by kernel_rfl) (by simp) ?_; refine AllReady.cons rfl (fun K hK => ?_) AllReady.nil; go_simp)
    refine (F.out _ _).mono ?_
    rintro e w8 ⟨⟨g, hg, rfl, hat⟩, hb⟩
    have hz := hb2.size
    exact ⟨rfl, ⟨g, by omega, rfl, hat⟩, bcall hb2 hb⟩
set_option maxHeartbeats 1000000 in
set_option maxRecDepth 100000 in
theorem take_ok {base : Nat} {v : Value} {ts : List Tk} {T : Tk} (s : ByteArray) (k p b : Nat) (w : World) (hT : ts[p]? = some T) (hsc : PsB s v p b w) (ho : OwnT w base v ts) (hbn : b ∉ v.ownBlock) (hk : T.kind = k) :
    Calls Tryz.prog 58 #[.pointer (some ⟨b, 0, none⟩), .int .i64 (k : Int)] w fun e w' => e = .returned (tkV T) ∧ PsB s v (p + 1) b w' ∧ w.grownBy w' (some b) := by
  have hpl : p < ts.length := (List.getElem?_eq_some_iff.1 hT).1
  have N := Lib.hid (fun w hsc ho => tnext_calls (base := base) (v := v) (ts := ts) s p b w (Nat.le_of_lt hpl) hsc ho)
  have hkT : kindT ts p = k := by unfold kindT; rw [hT]; exact hk
  rw [hkT] at N
  rcases ho.form with ⟨rfl, rfl⟩ | ⟨g, cap, rfl, hbg, hgl, hnl, hcm⟩
  · simp at hpl
  unfold tkV
  rw [hk]
  have hgb : g ≠ b := fun e => hbn (by rw [e]; rfl)
  have hbl := ltB hsc
  have hpl' : (p : Int) < (ts.length : Int) := by omega
  unfold maxLen at hcm
  obtain ⟨n, hn⟩ : ∃ n, n = ts.length := ⟨_, rfl⟩
  rw [← hn] at ho hsc hnl hpl hpl' N
  have hcells := Lib.hid (fun w (ho : OwnT w base (.slice (some ⟨g, 0, none⟩) n cap) ts) => OwnT.at ho hT)
  have hke : (k : Int) = (T.kind : Int) := by rw [hk]
  replace hsc := Lib.hid hsc
  replace ho := Lib.hid ho
  replace hT := Lib.hid hT
  replace hk := Lib.hid hk
  replace hkT := Lib.hid hkT
  replace hn := Lib.hid hn
  have hke := Lib.hid hke
  have hbn := Lib.hid hbn
  go_enter Tryz.func58, Tryz.ntmps58
  (go_wp2_with fail; repeat (any_goals (go_quiet (fail); go_wp2_with fail)))
  refine (N.out _ (hsc.out.next (by repeat (first | assumption | exact Below.refl _ _ | apply Below.drew | apply below_drewN | apply balloc | (refine Below.setCell ?_ (by first | omega | (simp <;> omega)) _)))) (ho.out.next (by repeat (first | assumption | exact Below.refl _ _ | apply Below.drew | apply below_drewN | apply balloc | (refine Below.setCell ?_ (by first | omega | (simp <;> omega)) _))))).mono ?_
  rintro e w1 ⟨rfl, hb⟩
  have hb1 : Below w.heap.size w w1 := bcall (by repeat (first | assumption | exact Below.refl _ _ | apply Below.drew | apply below_drewN | apply balloc | (refine Below.setCell ?_ (by first | omega | (simp <;> omega)) _))) hb
  have t0 : w1.heap[w.heap.size]? = some (.cells #[.int .i64 0, .int .i64 0, .int .i64 0, .string ⟨#[]⟩] 59 (0, 0)) := boxed hb
  clear hb
  have hsc1 := hsc.out.next hb1
  obtain ⟨y0, y1, y2, y3⟩ := hcells.out _ (ho.out.next hb1)
  have x1 := hsc1.c1
  have x2 := hsc1.c2
  have f2 := freeB hsc1 2
  have t1 := freeB t0 0
  have t2 := freeB t0 1
  have t3 := freeB t0 2
  have t4 := freeB t0 3
  have u1 : w1.cell? ⟨w.heap.size, 0, none⟩ = some (.int .i64 0) := cellB t0 0 rfl
  have u2 : w1.cell? ⟨w.heap.size, 1, none⟩ = some (.int .i64 0) := cellB t0 1 rfl
  have u3 : w1.cell? ⟨w.heap.size, 2, none⟩ = some (.int .i64 0) := cellB t0 2 rfl
  have u4 : w1.cell? ⟨w.heap.size, 3, none⟩ = some (.string ⟨#[]⟩) := cellB t0 3 rfl
  have hbs : b ≠ w.heap.size := by omega
  have hsz := hb1.size
  replace hsc1 := Lib.hid hsc1
  replace t0 := Lib.hid t0
  (go_wp2_with fail; repeat (any_goals (go_quiet (fail); go_wp2_with fail)))
  go_region
  (go_wp2_with fail; repeat (any_goals (go_quiet (fail); go_wp2_with fail)))
  refine bodyPost_ret (v := .agg #[.int .i64 (T.kind : Int), .int .i64 (T.fr : Int), .int .i64 (T.to : Int), .string T.text]) (by simp [results, Tryz.results58, go_sem, *]) rfl ?_
  refine ⟨by rw [hke.out], ?_, ?_⟩
  · have h1 := (((((hsc1.out.set (q := p + 1)).setOther (c := w.heap.size) hbs 0 (.int .i64 (T.kind : Int))).setOther (c := w.heap.size) hbs 1 (.int .i64 (T.fr : Int))).setOther (c := w.heap.size) hbs 2 (.int .i64 (T.to : Int))).setOther (c := w.heap.size) hbs 3 (.string T.text))
    rw [hn.out] at h1
    exact h1
  · have h1 := grown_trans (grown_of_below (r := some b) hb1) (grown_set w1 b 2 (.int .i64 ((p : Int) + 1)))
    exact grown_drew ((((h1.setNew (Nat.le_refl _) 0 (.int .i64 (T.kind : Int))).setNew (Nat.le_refl _) 1 (.int .i64 (T.fr : Int))).setNew (Nat.le_refl _) 2 (.int .i64 (T.to : Int))).setNew (Nat.le_refl _) 3 (.string T.text))

end Go.Proofs.YtibopkodoidjoaaGreatDoor

/- Package tree: nodes in memory. -/
namespace Go.Proofs.YtibopkodoidjoaaGreatDoor
open Go Go.RowKit

/-- A member of a list or an object: its key and the key's place, the blocks it lies in, its value, the node. -/
structure Kid where
  key : ByteArray
  pl : Nat
  l : Nat
  h : Nat
  u : Value
  x : Nd
/-- A member's blocks lie within lo .. hi, and the row o is none of them. -/
def Kid.fits (lo hi : Nat) (o : Option Nat) (c : Kid) : Prop := lo ≤ c.l ∧ c.l ≤ c.h ∧ c.h ≤ hi ∧ ∀ k, o = some k → k < c.l ∨ c.h ≤ k
def Kid.mem (c : Kid) : ByteArray × Nat × Nd := (c.key, c.pl, c.x)
def memC (c : Kid) : List Value := [.string c.key, .int .i64 (c.pl : Int), c.u]
/-- A node as a value, its rows in blocks lo .. hi. -/
inductive OwnN (w : World) : Nat → Nat → Value → Nd → Prop
  | null (lo hi p : Nat) : OwnN w lo hi (.iface 90 (.agg #[.int .i64 (p : Int)])) (.null p)
  | flag (lo hi p : Nat) (b : Bool) : OwnN w lo hi (.iface 92 (.agg #[.int .i64 (p : Int), .bool b])) (.flag p b)
  | num (lo hi p : Nat) (t : ByteArray) : OwnN w lo hi (.iface 94 (.agg #[.int .i64 (p : Int), .string t])) (.num p t)
  | text (lo hi p : Nat) (t : ByteArray) : OwnN w lo hi (.iface 95 (.agg #[.int .i64 (p : Int), .string t])) (.text p t)
  | lst (lo hi p : Nat) (v : Value) (cs : List Kid) (ho : w.ownsRow lo 24 1 v cs.length (cs.map Kid.u)) (hb : ∀ k, v.ownBlock = some k → k < hi)
      (hk : ∀ c ∈ cs, c.fits lo hi v.ownBlock) (hp : cs.Pairwise fun a b => a.h ≤ b.l) (hc : ∀ c ∈ cs, OwnN w c.l c.h c.u c.x) :
      OwnN w lo hi (.iface 98 (.agg #[.int .i64 (p : Int), v])) (.lst p (cs.map Kid.x))
  | obj (lo hi p : Nat) (v : Value) (cs : List Kid) (ho : w.ownsRow lo 103 3 v cs.length (cs.flatMap memC)) (hb : ∀ k, v.ownBlock = some k → k < hi)
      (hk : ∀ c ∈ cs, c.fits lo hi v.ownBlock) (hp : cs.Pairwise fun a b => a.h ≤ b.l) (hc : ∀ c ∈ cs, OwnN w c.l c.h c.u c.x) :
      OwnN w lo hi (.iface 101 (.agg #[.int .i64 (p : Int), v])) (.obj p (cs.map Kid.mem))
theorem ownsRow_heap {w w' : World} {base : Nat} {e : TypeId} {size : Nat} {v : Value} {n : Nat} {xs : List Value} (h : w.ownsRow base e size v n xs) (hk : ∀ k, v.ownBlock = some k → w'.heap[k]? = w.heap[k]?) : w'.ownsRow base e size v n xs := by
  obtain ⟨h1, h2 | ⟨g, cap, cur, rfl, hbg, hg, h3⟩⟩ := h
  · exact ⟨h1, Or.inl h2⟩
  · exact ⟨h1, Or.inr ⟨g, cap, cur, rfl, hbg, (hk g rfl).trans hg, h3⟩⟩
theorem ownsRow_base {w : World} {base base' : Nat} {e : TypeId} {size : Nat} {v : Value} {n : Nat} {xs : List Value} (h : w.ownsRow base e size v n xs) (hb : base' ≤ base) : w.ownsRow base' e size v n xs := by
  obtain ⟨h1, h2 | ⟨g, cap, cur, rfl, hbg, h3⟩⟩ := h
  · exact ⟨h1, Or.inl h2⟩
  · exact ⟨h1, Or.inr ⟨g, cap, cur, rfl, Nat.le_trans hb hbg, h3⟩⟩
theorem OwnN.keep {w w' : World} {lo hi : Nat} {u : Value} {x : Nd} (h : OwnN w lo hi u x) : (∀ k, lo ≤ k → k < hi → w'.heap[k]? = w.heap[k]?) → OwnN w' lo hi u x := by
  induction h with
  | null lo hi p => exact fun _ => .null lo hi p
  | flag lo hi p b => exact fun _ => .flag lo hi p b
  | num lo hi p t => exact fun _ => .num lo hi p t
  | text lo hi p t => exact fun _ => .text lo hi p t
  | lst lo hi p v cs ho hb hk hp hc ih =>
    intro H
    exact .lst lo hi p v cs (ownsRow_heap ho fun k e => H k (ho.lt k e).1 (hb k e)) hb hk hp (fun c hm => ih c hm fun k h1 h2 => H k (Nat.le_trans (hk c hm).1 h1) (Nat.lt_of_lt_of_le h2 (hk c hm).2.2.1))
  | obj lo hi p v cs ho hb hk hp hc ih =>
    intro H
    exact .obj lo hi p v cs (ownsRow_heap ho fun k e => H k (ho.lt k e).1 (hb k e)) hb hk hp (fun c hm => ih c hm fun k h1 h2 => H k (Nat.le_trans (hk c hm).1 h1) (Nat.lt_of_lt_of_le h2 (hk c hm).2.2.1))
theorem Kid.fits.wide {lo hi lo' hi' : Nat} {o : Option Nat} {c : Kid} (h : c.fits lo hi o) (h1 : lo' ≤ lo) (h2 : hi ≤ hi') : c.fits lo' hi' o := ⟨Nat.le_trans h1 h.1, h.2.1, Nat.le_trans h.2.2.1 h2, h.2.2.2⟩
theorem OwnN.wide {w : World} {lo hi lo' hi' : Nat} {u : Value} {x : Nd} (h : OwnN w lo hi u x) (h1 : lo' ≤ lo) (h2 : hi ≤ hi') : OwnN w lo' hi' u x := by
  cases h with
  | null _ _ p => exact .null lo' hi' _
  | flag _ _ p b => exact .flag lo' hi' _ _
  | num _ _ p t => exact .num lo' hi' _ _
  | text _ _ p t => exact .text lo' hi' _ _
  | lst _ _ p v cs ho hb hk hp hc => exact .lst lo' hi' _ v cs (ownsRow_base ho h1) (fun k e => Nat.lt_of_lt_of_le (hb k e) h2) (fun c hm => (hk c hm).wide h1 h2) hp hc
  | obj _ _ p v cs ho hb hk hp hc => exact .obj lo' hi' _ v cs (ownsRow_base ho h1) (fun k e => Nat.lt_of_lt_of_le (hb k e) h2) (fun c hm => (hk c hm).wide h1 h2) hp hc
theorem OwnN.grown {w w' : World} {lo hi b : Nat} {u : Value} {x : Nd} (h : OwnN w lo hi u x) (hg : w.grownBy w' (some b)) (hh : hi ≤ w.heap.size) (hb : b < lo) : OwnN w' lo hi u x :=
  h.keep fun k h1 h2 => hg.block k (Nat.lt_of_lt_of_le h2 hh) (fun e => by cases e; omega)
/-- The members that a loop has gathered: the row v of size n0 .., in world w. -/
structure Kids (e : TypeId) (size : Nat) (cell : Kid → List Value) (n0 : Nat) (w : World) (v : Value) (cs : List Kid) : Prop where
  own : w.ownsRow n0 e size v cs.length (cs.flatMap cell)
  fit : ∀ c ∈ cs, c.fits n0 w.heap.size v.ownBlock
  pair : cs.Pairwise fun a b => a.h ≤ b.l
  kid : ∀ c ∈ cs, OwnN w c.l c.h c.u c.x
theorem Kids.nil (e : TypeId) (size : Nat) (cell : Kid → List Value) (n0 : Nat) (w : World) : Kids e size cell n0 w (.slice none 0 0) [] :=
  ⟨World.ownsRow_nil _ _ _ _, fun c h => (by cases h), List.Pairwise.nil, fun c h => (by cases h)⟩
theorem Kids.grown {e : TypeId} {size : Nat} {cell : Kid → List Value} {n0 b : Nat} {w w' : World} {v : Value} {cs : List Kid} (h : Kids e size cell n0 w v cs) (hg : w.grownBy w' (some b)) (hb : b < n0) : Kids e size cell n0 w' v cs := by
  refine ⟨h.own.kept hg ?_, fun c hm => (h.fit c hm).wide (Nat.le_refl _) hg.size, h.pair, fun c hm => (h.kid c hm).grown hg (h.fit c hm).2.2.1 (Nat.lt_of_lt_of_le hb (h.fit c hm).1)⟩
  by_cases hn : v.ownBlock = none
  · exact Or.inl hn
  · refine Or.inr fun e => ?_
    have := (h.own.lt b e).1
    omega
/-- One more: it was read between w and w1 (its blocks those that are new), then put behind the row (to w2). -/
theorem Kids.app {e : TypeId} {size : Nat} {cell : Kid → List Value} {n0 n1 : Nat} {w1 w2 : World} {v v' : Value} {cs : List Kid} {c : Kid} (h : Kids e size cell n0 w1 v cs) (hn : n0 ≤ n1) (hle : ∀ c ∈ cs, c.h ≤ n1) (hlv : ∀ k, v.ownBlock = some k → k < n1)
    (hl : c.l = n1) (hh : c.h = w1.heap.size) (h1 : n1 ≤ w1.heap.size) (hx : OwnN w1 c.l c.h c.u c.x) (ho : w2.ownsRow n0 e size v' (cs.length + 1) (cs.flatMap cell ++ cell c)) (hg : w1.grownBy w2 v.ownBlock)
    (hv : v'.ownBlock = v.ownBlock ∨ ∃ g, v'.ownBlock = some g ∧ w1.heap.size ≤ g) : Kids e size cell n0 w2 v' (cs ++ [c]) := by
  have hcf : c.fits n0 w2.heap.size v'.ownBlock := by
    refine ⟨by omega, by omega, by have := hg.size; omega, fun k hk => ?_⟩
    rcases hv with hv | ⟨g, hv, hge⟩
    · rw [hv] at hk; have := hlv k hk; omega
    · rw [hv] at hk; cases hk; omega
  have hck : ∀ a ∈ cs, a.fits n0 w2.heap.size v'.ownBlock := by
    intro a hm
    have hf := h.fit a hm
    refine ⟨hf.1, hf.2.1, Nat.le_trans hf.2.2.1 hg.size, fun k hk => ?_⟩
    rcases hv with hv | ⟨g, hv, hge⟩
    · rw [hv] at hk; exact hf.2.2.2 k hk
    · rw [hv] at hk; cases hk; have := hf.2.2.1; omega
  refine ⟨?_, ?_, ?_, ?_⟩
  · rw [List.length_append, List.length_singleton, List.flatMap_append]
    rw [show [c].flatMap cell = cell c by rw [List.flatMap_cons, List.flatMap_nil, List.append_nil]]
    exact ho
  · intro a hm
    rcases List.mem_append.1 hm with hm | hm
    · exact hck a hm
    · rw [List.mem_singleton.1 hm]; exact hcf
  · rw [List.pairwise_append]
    refine ⟨h.pair, List.pairwise_singleton _ _, fun a ha b hb => ?_⟩
    rw [List.mem_singleton.1 hb, hl]
    exact hle a ha
  · intro a hm
    rcases List.mem_append.1 hm with hm | hm
    · have hf := h.fit a hm
      exact (h.kid a hm).keep fun k h1 h2 => hg.block k (by have := hf.2.2.1; omega) (fun e => by have := hf.2.2.2 k e.symm; omega)
    · rw [List.mem_singleton.1 hm]
      refine hx.keep fun k h1 h2 => hg.block k (by omega) (fun e => by have := hlv k e.symm; omega)
theorem flat_u : ∀ cs : List Kid, cs.flatMap (fun c => [c.u]) = cs.map Kid.u
  | [] => rfl
  | c :: cs => by rw [List.flatMap_cons, List.map_cons, flat_u cs]; rfl
theorem Kids.lst {n0 p : Nat} {w : World} {v : Value} {cs : List Kid} (h : Kids 24 1 (fun c => [c.u]) n0 w v cs) : OwnN w n0 w.heap.size (.iface 98 (.agg #[.int .i64 (p : Int), v])) (.lst p (cs.map Kid.x)) := by
  refine .lst _ _ p v cs ?_ (fun k e => (h.own.lt k e).2) h.fit h.pair h.kid
  rw [← flat_u cs]
  exact h.own
theorem Kids.obj {n0 p : Nat} {w : World} {v : Value} {cs : List Kid} (h : Kids 103 3 memC n0 w v cs) : OwnN w n0 w.heap.size (.iface 101 (.agg #[.int .i64 (p : Int), v])) (.obj p (cs.map Kid.mem)) :=
  .obj _ _ p v cs h.own (fun k e => (h.own.lt k e).2) h.fit h.pair h.kid

end Go.Proofs.YtibopkodoidjoaaGreatDoor

/- Package tree: the parser's lists. -/
namespace Go.Proofs.YtibopkodoidjoaaGreatDoor
open Go Go.RowKit

theorem infoNd : (Tryz.prog.info? 24).map (fun i => (i.zero, i.size, i.bytes)) = some (some .nilIface, 1, 16) := by kernel_rfl
theorem infoMem : (Tryz.prog.info? 103).map (fun i => (i.zero, i.size, i.bytes)) = some (some (.agg #[.string ⟨#[]⟩, .int .i64 0, .nilIface]), 3, 40) := by kernel_rfl
theorem OwnN.one {w : World} {lo hi : Nat} {u : Value} {x : Nd} (h : OwnN w lo hi u x) : u.oneCell' = true := by cases h <;> rfl
section
variable {ops : Array Oper} {rest : List Oper} {o : Oper} {a : Act} {Q : Exit → Act → World → Prop} {w : World}
/-- append(list, c) of a member. -/
theorem app_kid (hgd : o.guard = none) (sl x : Operand) (t e : TypeId) (size bytes : Nat) (cell : Kid → List Value) (z : Value) (hi : (Tryz.prog.info? e).map (fun i => (i.zero, i.size, i.bytes)) = some (some z, size, bytes)) (hz : z.cells.size = size) (hsz : 0 < size) (hby : bytes ≤ 40) (hcl : ∀ c, (cell c).length = size)
    (ht : Tryz.prog.underlying t = some (.slice e)) (ho : o.op = .call { callee := .builtin .append, args := #[sl, x], argTypes := #[t, t] }) (n0 n1 : Nat) (v : Value) (cs : List Kid) (hs : a.eval sl = v) (hK : Kids e size cell n0 w v cs)
    (g cp : Nat) (c : Kid) (cur : Array Value) (t' : TypeId) (hx : a.eval x = .slice (some ⟨g, 0, none⟩) 1 cp) (hg : w.heap[g]? = some (.cells cur t' (0, 0))) (hcur : cur = (cell c).toArray)
    (hlen : cs.length + 1 ≤ 3518437208883) (hn : n0 ≤ n1) (hn1 : n1 ≤ w.heap.size) (hle : ∀ c ∈ cs, c.h ≤ n1) (hlv : ∀ k, v.ownBlock = some k → k < n1) (hl : c.l = n1) (hh : c.h = w.heap.size) (hN : OwnN w c.l c.h c.u c.x) (h1 : ∀ u ∈ cell c, u.oneCell' = true)
    (h : ∀ v' w', Kids e size cell n0 w' v' (cs ++ [c]) → w.grownBy w' v.ownBlock → (∀ k, v'.ownBlock = some k → k < w'.heap.size) → wpList Tryz.prog ops Q rest (a.put o.dst v') w') : wpList Tryz.prog ops Q (o :: rest) a w := by
  obtain ⟨i0, hi, hi2⟩ := Option.map_eq_some_iff.1 hi
  simp only [Prod.mk.injEq] at hi2
  refine wpList_append_own_at _ hgd sl x t ho n0 e i0 z size bytes ht hi hi2.1 hi2.2.1 hi2.2.2 hz hsz v cs.length (cs.flatMap cell) hs hK.own ⟨g, 0, none⟩ 1 cp (cell c) hx (by rw [hcl]; omega) ?_ h1 (by unfold maxLen; omega) ?_ (Nat.le_trans hn hn1) ?_
  · intro j u hj
    have : (⟨g, 0, none⟩ : Addr).add j = ⟨g, j, none⟩ := by simp only [Addr.add, Nat.zero_add]; split <;> simp_all
    rw [this]
    refine cellB hg j ?_
    rw [hcur, List.getElem?_toArray]
    exact hj
  · have := Nat.mul_le_mul hlen hby
    omega
  · intro v' w' ho2 hg2 _ hv
    refine h v' w' (hK.app hn hle hlv hl hh hn1 hN ho2 hg2 ?_) hg2 (fun k hk => (ho2.lt k hk).2)
    rcases hv with hv | hv
    · exact Or.inl hv
    · exact Or.inr ⟨_, hv, Nat.le_refl _⟩
end
theorem Kids.alloc {e : TypeId} {size : Nat} {cell : Kid → List Value} {n0 : Nat} {w : World} {v : Value} {cs : List Kid} (h : Kids e size cell n0 w v cs) (o : Obj) : Kids e size cell n0 (w.alloc o) v cs :=
  ⟨h.own.alloc o, fun c hm => (h.fit c hm).wide (Nat.le_refl _) (by simp), h.pair, fun c hm => (h.kid c hm).keep fun k _ h2 => Below.heap_alloc _ _ _ (Nat.lt_of_lt_of_le h2 (h.fit c hm).2.2.1)⟩
theorem Kids.below {e : TypeId} {size : Nat} {cell : Kid → List Value} {n0 : Nat} {w w' : World} {v : Value} {cs : List Kid} (h : Kids e size cell n0 w v cs) (hb : Below w.heap.size w w') : Kids e size cell n0 w' v cs :=
  ⟨ownsRow_heap h.own (fun k e => hb.block k (h.own.lt k e).2), fun c hm => (h.fit c hm).wide (Nat.le_refl _) hb.size, h.pair, fun c hm => (h.kid c hm).keep fun k _ h2 => hb.block k (Nat.lt_of_lt_of_le h2 (h.fit c hm).2.2.1)⟩
/-- What value answers. -/
def PostV (A : Nat → Addr) (s : ByteArray) (v : Value) (b : Nat) (w : World) (r : PR Nd) (e : Ending) (w' : World) : Prop :=
  w.grownBy w' (some b) ∧ match r with
    | .ok x q => ∃ u, e = .returned u ∧ OwnN w' w.heap.size w'.heap.size u x ∧ PsB s v q b w'
    | .err k pl => GaveUp A w.heap.size k pl e w'
    | .out => True
/-- What items answers. -/
def PostI (A : Nat → Addr) (s : ByteArray) (v : Value) (b : Nat) (w : World) (r : PR (List Nd)) (e : Ending) (w' : World) : Prop :=
  w.grownBy w' (some b) ∧ match r with
    | .ok xs q => ∃ u cs, e = .returned u ∧ Kids 24 1 (fun c => [c.u]) w.heap.size w' u cs ∧ cs.map Kid.x = xs ∧ PsB s v q b w'
    | .err k pl => GaveUp A w.heap.size k pl e w'
    | .out => True
/-- What members answers. -/
def PostM (A : Nat → Addr) (s : ByteArray) (v : Value) (b : Nat) (w : World) (r : PR (List (ByteArray × Nat × Nd))) (e : Ending) (w' : World) : Prop :=
  w.grownBy w' (some b) ∧ match r with
    | .ok xs q => ∃ u cs, e = .returned u ∧ Kids 103 3 memC w.heap.size w' u cs ∧ cs.map Kid.mem = xs ∧ PsB s v q b w'
    | .err k pl => GaveUp A w.heap.size k pl e w'
    | .out => True
/-- The parser's world: the errors, its block, the tokens. -/
structure PsW (A : Nat → Addr) (B base : Nat) (s : ByteArray) (v : Value) (ts : List Tk) (p b : Nat) (w : World) : Prop where
  env : Env A B SVN w
  ps : PsB s v p b w
  own : OwnT w base v ts
  nb : b ∉ v.ownBlock
  hB : B ≤ b
  hp : p ≤ ts.length
theorem PsW.next {A : Nat → Addr} {B base : Nat} {s : ByteArray} {v : Value} {ts : List Tk} {p b : Nat} {w w' : World} (h : PsW A B base s v ts p b w) (hb : Below w.heap.size w w') : PsW A B base s v ts p b w' :=
  ⟨h.env.next hb, h.ps.next hb, h.own.next hb, h.nb, h.hB, h.hp⟩
theorem PsW.step {A : Nat → Addr} {B base : Nat} {s : ByteArray} {v : Value} {ts : List Tk} {p q b : Nat} {w w' : World} (h : PsW A B base s v ts p b w) (hg : w.grownBy w' (some b)) (hq : PsB s v q b w') (hl : q ≤ ts.length) : PsW A B base s v ts q b w' :=
  ⟨h.env.below (grown_below hg h.env.hB h.hB), hq, h.own.grown hg h.nb, h.nb, h.hB, hl⟩
theorem PsW.lt {A : Nat → Addr} {B base : Nat} {s : ByteArray} {v : Value} {ts : List Tk} {p b : Nat} {w : World} (h : PsW A B base s v ts p b w) : b < w.heap.size := ltB h.ps
theorem PsW.next_calls {A : Nat → Addr} {B base : Nat} {s : ByteArray} {v : Value} {ts : List Tk} {p b : Nat} {w : World} (h : PsW A B base s v ts p b w) {k : Nat} (hk : kindT ts p = k) :
    Calls Tryz.prog 57 #[.pointer (some ⟨b, 0, none⟩)] w fun e w' => e = .returned (.int .i64 (k : Int)) ∧ Below w.heap.size w w' := hk ▸ tnext_calls s p b w h.hp h.ps h.own
theorem PsW.place_calls {A : Nat → Addr} {B base : Nat} {s : ByteArray} {v : Value} {ts : List Tk} {p b : Nat} {w : World} (h : PsW A B base s v ts p b w) :
    Calls Tryz.prog 33 #[.pointer (some ⟨b, 0, none⟩)] w fun e w' => e = .returned (.int .i64 (placeT s ts p : Int)) ∧ Below w.heap.size w w' := tplace_calls s p b w h.hp h.ps h.own
theorem PsW.take_bad {A : Nat → Addr} {B base : Nat} {s : ByteArray} {v : Value} {ts : List Tk} {p b : Nat} {w : World} (h : PsW A B base s v ts p b w) {k : Nat} (hk : kindT ts p ≠ k) :
    Calls Tryz.prog 58 #[.pointer (some ⟨b, 0, none⟩), .int .i64 (k : Int)] w fun e w' => GaveUp A w.heap.size 2 (placeT s ts p) e w' ∧ Below w.heap.size w w' := Go.Proofs.YtibopkodoidjoaaGreatDoor.take_bad s k p b w h.env h.hp h.ps h.own hk
theorem PsW.take_ok {A : Nat → Addr} {B base : Nat} {s : ByteArray} {v : Value} {ts : List Tk} {p b : Nat} {w : World} (h : PsW A B base s v ts p b w) {k : Nat} (hk : kindT ts p = k) (h0 : k ≠ 0) :
    Calls Tryz.prog 58 #[.pointer (some ⟨b, 0, none⟩), .int .i64 (k : Int)] w fun e w' => (∃ T, ts[p]? = some T ∧ e = .returned (tkV T)) ∧ PsW A B base s v ts (p + 1) b w' ∧ w.grownBy w' (some b) := by
  have hlt := kindT_lt (ts := ts) (p := p) (by omega)
  have hT : ts[p]? = some ts[p] := List.getElem?_eq_getElem _
  refine (Go.Proofs.YtibopkodoidjoaaGreatDoor.take_ok s k p b w hT h.ps h.own h.nb ?_).mono ?_
  · unfold kindT at hk; rw [hT] at hk; exact hk
  · rintro e w' ⟨rfl, h1, h2⟩
    exact ⟨⟨_, hT, rfl⟩, h.step h2 h1 hlt, h2⟩
/-- What is asked of value at a depth and a fuel. -/
def VC (A : Nat → Addr) (B base : Nat) (s : ByteArray) (v : Value) (ts : List Tk) (f : Nat) : Prop := ∀ deep p b w, pV s ts f deep p ≠ .out → deep ≤ 64 → PsW A B base s v ts p b w →
  Calls Tryz.prog 31 #[.pointer (some ⟨b, 0, none⟩), .int .i64 (deep : Int)] w (PostV A s v b w (pV s ts f deep p))

end Go.Proofs.YtibopkodoidjoaaGreatDoor

/- Package tree: the parser reads a list. -/
namespace Go.Proofs.YtibopkodoidjoaaGreatDoor
open Go Go.RowKit

def comb {α : Type} (xs : List α) : PR (List α) → PR (List α)
  | .ok ys q => .ok (xs ++ ys) q
  | .err k pl => .err k pl
  | .out => .out
theorem comb_nil {α : Type} (r : PR (List α)) : comb [] r = r := by cases r <;> rfl
theorem grown_own {a w w' : World} {b : Nat} {o : Option Nat} (h : a.grownBy w (some b)) (k : w.grownBy w' o) (ho : ∀ g, o = some g → a.heap.size ≤ g) : a.grownBy w' (some b) :=
  ⟨k.os.trans h.os, k.tape.trans h.tape, k.output.trans h.output, Nat.le_trans h.size k.size, fun i hi hr => (k.block i (Nat.lt_of_lt_of_le hi h.size) (fun e => by have := ho i e.symm; omega)).trans (h.block i hi hr)⟩
theorem PsB.inc {s : ByteArray} {v : Value} {p b : Nat} {w : World} (h : PsB s v p b w) : PsB s v (p + 1) b (w.setCell ⟨b, 2, none⟩ (.int .i64 ((p : Int) + 1))) := h.set
theorem PsB.row {s : ByteArray} {v : Value} {p b : Nat} {w w' : World} {o : Option Nat} (h : PsB s v p b w) (k : w.grownBy w' o) (ho : o ≠ some b) : PsB s v p b w' := (k.block b (ltB h) (fun e => ho e.symm)).trans h
theorem grown_belowR {a w w' : World} {b : Nat} (h : a.grownBy w (some b)) (k : Below w.heap.size w w') : a.grownBy w' (some b) := grown_trans h (grown_of_below k)
theorem OwnN.form {w : World} {lo hi : Nat} {u : Value} {x : Nd} (h : OwnN w lo hi u x) : ∃ t a, u = .iface t a := by cases h <;> exact ⟨_, _, rfl⟩
set_option maxHeartbeats 4000000 in
set_option maxRecDepth 100000 in
theorem items_calls {A : Nat → Addr} {B base : Nat} {s : ByteArray} {v : Value} {ts : List Tk} (f : Nat) (hV : ∀ f', f' < f → VC A B base s v ts f') (deep p b : Nat) (w : World) (hW : PsW A B base s v ts p b w) (h8 : kindT ts p = 8) (hd : deep < 64) (hl : ts.length ≤ 3518437208882)
    (r : PR (List Nd)) (hr : r = if kindT ts (p + 1) = 9 then .ok [] (p + 2) else pI s ts f deep (p + 1)) (hout : r ≠ .out) :
    Calls Tryz.prog 59 #[.pointer (some ⟨b, 0, none⟩), .int .i64 (deep : Int)] w (PostI A s v b w r) := by
  have hbl := hW.lt
  replace hW := Lib.hid hW
  replace hV := Lib.hid hV
  replace hr := Lib.hid hr
  replace hout := Lib.hid hout
  replace hl := Lib.hid hl
  go_enter Tryz.func59, Tryz.ntmps59
  (go_wp2_with fail; repeat (any_goals (go_quiet (fail); go_wp2_with fail)))
  refine (PsW.take_ok hW.out h8 (by decide)).mono ?_
  rintro e w1 ⟨⟨T, hT, rfl⟩, hW1, hg1⟩
  replace hT := Lib.hid hT
  unfold tkV
  by_cases h9 : kindT ts (p + 1) = 9
  · have hr1 := hr.out
    rw [if_pos h9] at hr1
    replace hr1 := Lib.hid hr1
    have N := Lib.hid (fun w (h : PsW A B base s v ts (p + 1) b w) => h.next_calls h9)
    have hpb : ((p + 1 : Nat) : Int) ≤ 3518437208882 := by have := hW1.hp; have := hl.out; omega
    generalize hp1 : p + 1 = p1 at *
    replace hp1 := Lib.hid hp1
    replace hW1 := Lib.hid hW1
    replace hg1 := Lib.hid hg1
    (go_wp2_with fail; repeat (any_goals (go_quiet (fail); go_wp2_with fail)))
    refine (N.out _ hW1.out).mono ?_
    rintro e w2 ⟨rfl, hb⟩
    have hW2 := hW1.out.next hb
    have hg2 := grown_belowR hg1.out hb
    clear hb
    have x2 := hW2.ps.c2
    have f2 := freeB hW2.ps 2
    replace hW2 := Lib.hid hW2
    replace hg2 := Lib.hid hg2
    (go_wp2_with fail; repeat (any_goals (go_quiet (fail); go_wp2_with fail)))
    go_ret
    refine ⟨grown_trans hg2.out (grown_set _ _ _ _), ?_⟩
    rw [hr1.out]
    refine ⟨_, [], rfl, Kids.nil _ _ _ _ _, rfl, ?_⟩
    have h1 := hW2.out.ps.inc
    rw [show p1 + 1 = p + 2 by have := hp1.out; omega] at h1
    exact h1
  · have hr1 := hr.out
    rw [if_neg h9] at hr1
    replace hr1 := Lib.hid hr1
    have N := Lib.hid (fun w (h : PsW A B base s v ts (p + 1) b w) => h.next_calls (k := kindT ts (p + 1)) rfl)
    have hne : ((kindT ts (p + 1) : Int) == 9) = false := by simp; omega
    have hne' : ¬ (kindT ts (p + 1) : Int) = 9 := by omega
    have hp1le := hW1.hp
    generalize hp1 : p + 1 = p1 at *
    generalize hK : kindT ts p1 = K1 at *
    replace hp1 := Lib.hid hp1
    replace hK := Lib.hid hK
    replace hW1 := Lib.hid hW1
    replace hg1 := Lib.hid hg1
    (go_wp2_with fail; repeat (any_goals (go_quiet (fail); go_wp2_with fail)))
    refine (N.out _ hW1.out).mono ?_
    rintro e w2 ⟨rfl, hb⟩
    have hW2 := hW1.out.next hb
    have hg2 := grown_belowR hg1.out hb
    clear hb
    replace hW2 := Lib.hid hW2
    replace hg2 := Lib.hid hg2
    (go_wp2_with fail; repeat (any_goals (go_quiet (fail); go_wp2_with fail)))
    go_loopg [5] f (fun kq lv wr => ∃ (q : Nat) (cs : List Kid), PsB s v q b wr ∧ Hid (w.grownBy wr (some b)) ∧ Hid (Kids 24 1 (fun c => [c.u]) w.heap.size wr lv cs) ∧ Hid (cs.length ≤ q ∧ q ≤ ts.length ∧ kq ≤ f ∧ comb (cs.map Kid.x) (pI s ts kq deep q) = r))
    case atStart => exact ⟨p1, [], hW2.out.ps, hg2, Lib.hid (Kids.nil _ _ _ _ _), Lib.hid ⟨Nat.zero_le _, hp1le, Nat.le_refl _, by rw [hr1.out]; exact comb_nil _⟩⟩
    case round =>
      obtain ⟨q, cs, hps, hg, hKs, H⟩ := hrel
      clear N hne hne' 
      have hpo := Lib.hid (hW.out.step hg.out hps H.out.2.1)
      have hg1 := hg.out.size
      have hgo := H.out.2.2.2
      cases gk with
      | zero => exact absurd (hgo.symm.trans (by rw [pI]; rfl)) hout.out
      | succ f1 =>
        rw [pI] at hgo
        have hVf := hV.out f1 (by have := H.out.2.2.1; omega)
        have hnv : pV s ts f1 (deep + 1) q ≠ .out := by
          intro h
          rw [h] at hgo
          exact hout.out hgo.symm
        have V := Lib.hid (hVf (deep + 1) q b wr hnv (by omega) hpo.out)
        have hd1 : ((deep + 1 : Nat) : Int) = (deep : Int) + 1 := by omega
        rw [hd1] at V
        have fit := (p_goes s ts f1).1 (deep + 1) q
        generalize hR : pV s ts f1 (deep + 1) q = R at *
        replace hR := Lib.hid hR
        cases R with
        | out => exact absurd rfl hnv
        | err k pl =>
          replace hgo := Lib.hid hgo
          (go_wp2_with fail; repeat (any_goals (go_quiet (fail); go_wp2_with fail)))
          refine V.out.mono ?_
          rintro e w3 ⟨hg3, g, hgg, rfl, hat⟩
          have hg4 := grown_trans hg.out hg3
          have hz := hg.out.size
          refine ⟨rfl, ?_⟩
          show PostI A s v b w r _ w3
          rw [← hgo.out]
          exact ⟨hg4, g, Nat.le_trans hz hgg, rfl, hat⟩
        | ok x q1 =>
          replace hgo := Lib.hid hgo
          (go_wp2_with fail; repeat (any_goals (go_quiet (fail); go_wp2_with fail)))
          refine V.out.mono ?_
          rintro e w3 ⟨hg3, u, rfl, hN, hps3⟩
          have hg4 := grown_trans hg.out hg3
          have hK3 := hKs.out.grown hg3 hbl
          obtain ⟨ut, ua, rfl⟩ := hN.form
          have hfit : q < q1 ∧ q1 ≤ ts.length := fit
          have hle : ∀ c ∈ cs, c.h ≤ wr.heap.size := fun c hm => (hKs.out.fit c hm).2.2.1
          have hlv : ∀ k, u5.ownBlock = some k → k < wr.heap.size := fun k e => (hKs.out.own.lt k e).2
          have hzr := hg3.size
          clear hKs hps
          replace hN := Lib.hid hN
          replace hK3 := Lib.hid hK3
          replace hg4 := Lib.hid hg4
          replace hg3 := Lib.hid hg3
          replace hps3 := Lib.hid hps3
          replace hle := Lib.hid hle
          replace hlv := Lib.hid hlv
          go_wp2_with (at_builtin; refine app_kid rfl _ _ 96 24 1 16 (fun c => [c.u]) .nilIface infoNd rfl (by decide) (by decide) (fun _ => rfl) Tryz.underlying96 rfl w.heap.size wr.heap.size u5 cs rfl (hK3.out.alloc _) w3.heap.size 1 ⟨noS, 0, wr.heap.size, w3.heap.size + 1, .iface ut ua, x⟩ #[.iface ut ua] 24 rfl (heap_alloc_new w3 _) rfl ?c1 hg1 ?c2 hle.out hlv.out rfl ?c3 ?c4 ?c5 ?_)
          case c1 => have := H.out.1; have := H.out.2.1; have := hl.out; omega
          case c2 => simp; omega
          case c4 => exact (hN.out.keep fun k _ h2 => Below.heap_alloc _ _ _ h2).wide (Nat.le_refl _) (by simp)
          case c5 => rfl
          intro v' w4 hK4 hg5 hv'
          have hne5 : u5.ownBlock ≠ some b := fun e => by have := (hK3.out.own.lt b e).1; omega
          have hps4 : PsB s v q1 b w4 := PsB.row (hps3.out.next ((Below.refl w3.heap.size w3).alloc (Nat.le_refl _) _)) hg5 hne5
          have hg6 : w.grownBy w4 (some b) := grown_own (grown_trans hg4.out (World.grownBy_alloc _ _ _)) hg5 (fun k e => (hK3.out.own.lt k e).1)
          have hP4 := hW.out.step hg6 hps4 hfit.2
          clear hg5 hne5 hps3 hg4 hK3 hle hlv hN
          replace hK4 := Lib.hid hK4
          replace hg6 := Lib.hid hg6
          have fitr := rest_fits s ts 9 q1 (by decide)
          have hrs := Lib.hid hgo.out
          unfold rest at fitr hgo
          have N := Lib.hid (fun w (h : PsW A B base s v ts q1 b w) => h.next_calls (k := kindT ts q1) rfl)
          by_cases k9 : kindT ts q1 = 9
          · rw [if_pos k9] at hgo
            rw [k9] at N
            have hqb : (q1 : Int) ≤ 3518437208882 := by have := hl.out; omega
            replace hP4 := Lib.hid hP4
            (go_wp2_with fail; repeat (any_goals (go_quiet (fail); go_wp2_with fail)))
            refine (N.out _ hP4.out).mono ?_
            rintro e w5 ⟨rfl, hb⟩
            have hP5 := hP4.out.next hb
            have hg7 := grown_belowR hg6.out hb
            have hK5 := hK4.out.below hb
            clear hb
            have x2 := hP5.ps.c2
            have f2 := freeB hP5.ps 2
            replace hP5 := Lib.hid hP5
            replace hg7 := Lib.hid hg7
            replace hK5 := Lib.hid hK5
            (go_wp2_with fail; repeat (any_goals (go_quiet (fail); go_wp2_with fail)))
            go_ret
            refine ⟨grown_trans hg7.out (grown_set _ _ _ _), ?_⟩
            rw [← hgo]
            exact ⟨v', _, rfl, hK5.out.grown (grown_set _ _ _ _) hbl, by rw [List.map_append]; rfl, hP5.out.ps.inc⟩
          · rw [if_neg k9] at hgo
            have hne5 : ((kindT ts q1 : Int) == 9) = false := by simp; omega
            have hne6 : ¬ (kindT ts q1 : Int) = 9 := by omega
            by_cases k11 : kindT ts q1 = 11
            · rw [if_pos k11] at hgo
              have TK := Lib.hid (fun w (h : PsW A B base s v ts q1 b w) => h.take_ok k11 (by decide))
              have hql := kindT_lt (ts := ts) (p := q1) (by omega)
              replace k11 := Lib.hid k11
              generalize kindT ts q1 = K2 at *
              replace hP4 := Lib.hid hP4
              replace hgo := Lib.hid hgo
              (go_wp2_with fail; repeat (any_goals (go_quiet (fail); go_wp2_with fail)))
              refine (N.out _ hP4.out).mono ?_
              rintro e w5 ⟨rfl, hb⟩
              have hP5 := hP4.out.next hb
              have hg7 := grown_belowR hg6.out hb
              have hK5 := hK4.out.below hb
              clear hb
              replace hP5 := Lib.hid hP5
              replace hg7 := Lib.hid hg7
              replace hK5 := Lib.hid hK5
              (go_wp2_with fail; repeat (any_goals (go_quiet (fail); go_wp2_with fail)))
              refine (TK.out _ hP5.out).mono ?_
              rintro e w6 ⟨⟨T2, _, rfl⟩, hP6, hg8⟩
              unfold tkV
              have hK6 := hK5.out.grown hg8 hbl
              have hg9 := grown_trans hg7.out hg8
              replace hP6 := Lib.hid hP6
              (go_wp2_with fail; repeat (any_goals (go_quiet (fail); go_wp2_with fail)))
              go_roundg f1
              case measure => omega
              case rel =>
                refine ⟨q1 + 1, cs ++ [_], hP6.out.ps, Lib.hid hg9, Lib.hid hK6, Lib.hid ⟨?_, hql, by have := H.out.2.2.1; omega, ?_⟩⟩
                · rw [List.length_append, List.length_singleton]; have := H.out.1; omega
                · rw [← hgo.out, List.map_append]
                  show comb (cs.map Kid.x ++ [x]) _ = comb (cs.map Kid.x) _
                  cases pI s ts f1 deep (q1 + 1) with
                  | ok ys q => show PR.ok _ _ = PR.ok _ _; rw [List.append_assoc]; rfl
                  | err k pl => rfl
                  | out => rfl
            · rw [if_neg k11] at hgo
              have TK := Lib.hid (fun w (h : PsW A B base s v ts q1 b w) => h.take_bad k11)
              replace k11 := Lib.hid k11
              generalize kindT ts q1 = K2 at *
              replace hP4 := Lib.hid hP4
              replace hgo := Lib.hid hgo
              (go_wp2_with fail; repeat (any_goals (go_quiet (fail); go_wp2_with fail)))
              refine (N.out _ hP4.out).mono ?_
              rintro e w5 ⟨rfl, hb⟩
              have hP5 := hP4.out.next hb
              have hg7 := grown_belowR hg6.out hb
              clear hb
              replace hP5 := Lib.hid hP5
              replace hg7 := Lib.hid hg7
              (go_wp2_with fail; repeat (any_goals (go_quiet (fail); go_wp2_with fail)))
              refine (TK.out _ hP5.out).mono ?_
              rintro e w6 ⟨⟨g, hgg, rfl, hat⟩, hb⟩
              have hz := hg7.out.size
              refine ⟨rfl, ?_⟩
              show PostI A s v b w r _ w6
              rw [← hgo.out]
              exact ⟨grown_belowR hg7.out hb, g, Nat.le_trans hz hgg, rfl, hat⟩

end Go.Proofs.YtibopkodoidjoaaGreatDoor

/- Package tree: the set of keys, map[string]bool. -/
namespace Go.Proofs.YtibopkodoidjoaaGreatDoor
open Go Go.RowKit

theorem plainElem_bool_inv {H : Type} {P : Program} {e : TypeId} (he : P.underlying e = some .bool) {v : Value} {z : DataW H × List MemPlace} (h : plainElem P e v = some z) : ∃ x, v = .bool x ∧ z = (.lit (.bool x), []) := by
  unfold plainElem at h
  rw [he] at h
  cases v <;> simp at h
  exact ⟨_, rfl, h.symm⟩
/-- 'm[k]' at a map[string]bool that the call made. -/
theorem lookup_bool {H : Type} {P : Program} (w : World) {ops : Array Oper} {rest : List Oper} {o : Oper} {a : Act} {Q : Exit → Act → World → Prop}
    (hg : o.guard = none) (m x : Operand) (t : TypeId) (hop : o.op = Op.lookup t m x false)
    (k e : TypeId) (K : Go.Maps.Keyed P k) (ht : P.underlying t = some (.map k e)) (he : P.underlying e = some .bool) (hz : (zeroValue e).run P w = .ok (.bool false) w) (b n : Nat) (D : DataW H)
    (hm : a.eval m = .map (some b)) (hown : w.ownsMap P k (plainElem P e) b n D) (key : Value) (kl : Lit) (hx : a.eval x = key) (hkey : keyOf P k key = some kl) (c : Bool) (hat : D.atKey kl (.lit (.bool false)) = .lit (.bool c))
    (hK : wpList P ops Q rest (a.put o.dst (.bool c)) w) :
    wpList P ops Q (o :: rest) a w := by
  refine wpList_plain hg fun K' hK' => ?_
  obtain ⟨v, ps, hrun, hv⟩ := hown.lookup K ht hz (plainElem_bool he false) hkey
  obtain ⟨y, rfl, hy⟩ := plainElem_bool_inv he hv
  simp only [Prod.mk.injEq] at hy
  have : y = c := by have h := hat.symm.trans hy.1; cases h; rfl
  subst this
  unfold Oper.wp
  simp [execOp, hop, hm, hx, hrun, Result.andThen]
  exact hK' _ _ hK
def keyL (t : ByteArray) : Lit := .string t.data.toList
/-- The map holds just these keys. -/
structure SeenD (D : DataW Unit) (seen : List ByteArray) : Prop where
  isMap : Go.Maps.IsMap D
  at_ : ∀ t, D.atKey (keyL t) (.lit (.bool false)) = .lit (.bool (knows seen t))
theorem SeenD.nil : SeenD (.map []) [] := ⟨Go.Maps.isMap_empty, fun _ => rfl⟩
theorem keyL_inj {a b : ByteArray} (h : keyL a = keyL b) : a = b := by
  unfold keyL at h
  injection h with h
  rcases a with ⟨⟨a⟩⟩; rcases b with ⟨⟨b⟩⟩
  simp at h
  rw [h]
theorem knows_app (seen : List ByteArray) (t u : ByteArray) : knows (seen ++ [t]) u = (knows seen u || decide (t = u)) := by
  unfold knows
  rw [List.any_append]
  simp
theorem SeenD.put {D : DataW Unit} {seen : List ByteArray} (h : SeenD D seen) (t : ByteArray) : SeenD (D.put (keyL t) (.lit (.bool true))) (seen ++ [t]) := by
  refine ⟨?_, fun u => ?_⟩
  · exact h.isMap.put _ _
  · rw [knows_app]
    by_cases e : t = u
    · subst e
      rw [Go.Maps.atKey_put_same h.isMap (show WideAt.IsKeyLit (keyL t) from trivial)]
      simp
    · rw [Go.Maps.atKey_put_other (fun h => e (keyL_inj h).symm), h.at_ u]
      simp [e]

end Go.Proofs.YtibopkodoidjoaaGreatDoor
