/- The errors' numbers. -/
import Derived.Test.YtnldhgkmbighkaaDoorBase
import Derived.Great.Walk
import Derived.Laws.Rows
import Derived.Laws.Tables
import Derived.Laws.CopyOwn
namespace Go.Proofs.YtnldhgkmbighkaaDoor
open Go Go.RowKit
abbrev SVN : List Nat := [1, 2, 3, 4, 5, 6, 7, 8, 9, 10, 11, 12, 13, 14, 15, 16, 17, 18, 19, 20, 21]

theorem load_glob {w : World} {o : Oper} {g : Nat} {v : Value} (hc : w.cell? ⟨g, 0, none⟩ = some v) :
    ∀ ρ : Operand → Value, ρ (.global g) = .pointer (some ⟨g, 0, none⟩) → (execOp ρ { o with op := .load 31 (.global g) }).run Tryd.prog w = .ok (.value v) w := by
  intro ρ h
  have hu := Tryd.underlying31
  simp [execOp, h, Instr.loadAt, Instr.sureAddr, loadVar, isAgg, underlying, hu, hc, Result.andThen, Sem.run_bind]
theorem wpList_buildIs {P : Program} {w : World} {ops : Array Oper} {rest : List Oper} {o : Oper} {a : Act} {Q : Exit → Act → World → Prop} (hg : o.guard = none) (t : TypeId) (parts : Array (Nat × Operand)) (ho : o.op = .build t parts) {cells : Array Value}
    (hf : P.built t (parts.map fun (i, x) => (i, a.eval x)).toList = some cells)
    (h : wpList P ops Q rest (a.put o.dst (.agg cells)) w) : wpList P ops Q (o :: rest) a w :=
  wpList_build hg t parts ho (by rw [hf]; rfl) (by rw [hf]; exact h)
theorem info_list : (Tryd.prog.info? 67).map (·.size) = some 19 := by kernel_rfl
set_option maxHeartbeats 1000000 in
set_option maxRecDepth 100000 in
theorem list_calls {A : Nat → Addr} {B : Nat} (w : World) (hE : Env A B SVN w) :
    Calls Tryd.prog 29 #[] w fun e w' => e = .returned (.agg #[errV A 1, errV A 2, errV A 3, errV A 4, errV A 5, errV A 6, errV A 7, errV A 8, errV A 9, errV A 10, errV A 11, errV A 12, errV A 13, errV A 14, errV A 15, errV A 16, errV A 17, errV A 18, errV A 19]) ∧ Below w.heap.size w w' := by
  obtain ⟨o, ho⟩ : ∃ o, o = Obj.cells (Array.replicate 19 Value.nilIface) 67 (0, 0) := ⟨_, rfl⟩
  have c1 : (w.alloc o).cell? ⟨1, 0, none⟩ = some (.iface 203 (.pointer (some (A 1)))) := (hE.next (balloc (Below.refl _ _))).e1
  have c2 : (w.alloc o).cell? ⟨2, 0, none⟩ = some (.iface 203 (.pointer (some (A 2)))) := (hE.next (balloc (Below.refl _ _))).e2
  have c3 : (w.alloc o).cell? ⟨3, 0, none⟩ = some (.iface 203 (.pointer (some (A 3)))) := (hE.next (balloc (Below.refl _ _))).e3
  have c4 : (w.alloc o).cell? ⟨4, 0, none⟩ = some (.iface 203 (.pointer (some (A 4)))) := (hE.next (balloc (Below.refl _ _))).e4
  have c5 : (w.alloc o).cell? ⟨5, 0, none⟩ = some (.iface 203 (.pointer (some (A 5)))) := (hE.next (balloc (Below.refl _ _))).e5
  have c6 : (w.alloc o).cell? ⟨6, 0, none⟩ = some (.iface 203 (.pointer (some (A 6)))) := (hE.next (balloc (Below.refl _ _))).e6
  have c7 : (w.alloc o).cell? ⟨7, 0, none⟩ = some (.iface 203 (.pointer (some (A 7)))) := (hE.next (balloc (Below.refl _ _))).e7
  have c8 : (w.alloc o).cell? ⟨8, 0, none⟩ = some (.iface 203 (.pointer (some (A 8)))) := (hE.next (balloc (Below.refl _ _))).e8
  have c9 : (w.alloc o).cell? ⟨9, 0, none⟩ = some (.iface 203 (.pointer (some (A 9)))) := (hE.next (balloc (Below.refl _ _))).e9
  have c10 : (w.alloc o).cell? ⟨10, 0, none⟩ = some (.iface 203 (.pointer (some (A 10)))) := (hE.next (balloc (Below.refl _ _))).e10
  have c11 : (w.alloc o).cell? ⟨11, 0, none⟩ = some (.iface 203 (.pointer (some (A 11)))) := (hE.next (balloc (Below.refl _ _))).e11
  have c12 : (w.alloc o).cell? ⟨12, 0, none⟩ = some (.iface 203 (.pointer (some (A 12)))) := (hE.next (balloc (Below.refl _ _))).e12
  have c13 : (w.alloc o).cell? ⟨13, 0, none⟩ = some (.iface 203 (.pointer (some (A 13)))) := (hE.next (balloc (Below.refl _ _))).e13
  have c14 : (w.alloc o).cell? ⟨14, 0, none⟩ = some (.iface 203 (.pointer (some (A 14)))) := (hE.next (balloc (Below.refl _ _))).e14
  have c15 : (w.alloc o).cell? ⟨15, 0, none⟩ = some (.iface 203 (.pointer (some (A 15)))) := (hE.next (balloc (Below.refl _ _))).e15
  have c16 : (w.alloc o).cell? ⟨16, 0, none⟩ = some (.iface 203 (.pointer (some (A 16)))) := (hE.next (balloc (Below.refl _ _))).e16
  have c17 : (w.alloc o).cell? ⟨17, 0, none⟩ = some (.iface 203 (.pointer (some (A 17)))) := (hE.next (balloc (Below.refl _ _))).e17
  have c18 : (w.alloc o).cell? ⟨18, 0, none⟩ = some (.iface 203 (.pointer (some (A 18)))) := (hE.next (balloc (Below.refl _ _))).e18
  have c19 : (w.alloc o).cell? ⟨19, 0, none⟩ = some (.iface 203 (.pointer (some (A 19)))) := (hE.next (balloc (Below.refl _ _))).e19
  have hlast : (w.alloc o).heap[w.heap.size]? = some (.cells (Array.replicate 19 Value.nilIface) 67 (0, 0)) := by rw [ho]; exact heap_alloc_new w _
  have hbel : ∀ cs, Below w.heap.size w ((w.alloc o).setRow w.heap.size cs) := fun cs => below_setRow (balloc (Below.refl _ _)) (Nat.le_refl _) cs
  simp only [errV]
  generalize A 1 = a1 at *
  generalize A 2 = a2 at *
  generalize A 3 = a3 at *
  generalize A 4 = a4 at *
  generalize A 5 = a5 at *
  generalize A 6 = a6 at *
  generalize A 7 = a7 at *
  generalize A 8 = a8 at *
  generalize A 9 = a9 at *
  generalize A 10 = a10 at *
  generalize A 11 = a11 at *
  generalize A 12 = a12 at *
  generalize A 13 = a13 at *
  generalize A 14 = a14 at *
  generalize A 15 = a15 at *
  generalize A 16 = a16 at *
  generalize A 17 = a17 at *
  generalize A 18 = a18 at *
  generalize A 19 = a19 at *
  clear hE
  go_enter Tryd.func29, Tryd.ntmps29
  refine wp_seq ?_
  refine wp_region_lit ?_
  refine Great.wpList_allocTo rfl (some 0) rfl (.pointer (some ⟨w.heap.size, 0, none⟩)) o (by subst ho; kernel_rfl) ?_
  refine wpList_nil ?_
  refine wp_seq ?_
  refine wp_region_lit ?_
  refine Great.wpList_loadVarTo rfl (some 1) rfl 31 1 rfl (.iface 203 (.pointer (some a1))) (load_glob c1) ?_
  refine Great.wpList_loadVarTo rfl (some 2) rfl 31 2 rfl (.iface 203 (.pointer (some a2))) (load_glob c2) ?_
  refine Great.wpList_loadVarTo rfl (some 3) rfl 31 3 rfl (.iface 203 (.pointer (some a3))) (load_glob c3) ?_
  refine Great.wpList_loadVarTo rfl (some 4) rfl 31 4 rfl (.iface 203 (.pointer (some a4))) (load_glob c4) ?_
  refine Great.wpList_loadVarTo rfl (some 5) rfl 31 5 rfl (.iface 203 (.pointer (some a5))) (load_glob c5) ?_
  refine Great.wpList_loadVarTo rfl (some 6) rfl 31 6 rfl (.iface 203 (.pointer (some a6))) (load_glob c6) ?_
  refine Great.wpList_loadVarTo rfl (some 7) rfl 31 7 rfl (.iface 203 (.pointer (some a7))) (load_glob c7) ?_
  refine Great.wpList_loadVarTo rfl (some 8) rfl 31 8 rfl (.iface 203 (.pointer (some a8))) (load_glob c8) ?_
  refine Great.wpList_loadVarTo rfl (some 9) rfl 31 9 rfl (.iface 203 (.pointer (some a9))) (load_glob c9) ?_
  refine Great.wpList_loadVarTo rfl (some 10) rfl 31 10 rfl (.iface 203 (.pointer (some a10))) (load_glob c10) ?_
  refine Great.wpList_loadVarTo rfl (some 11) rfl 31 11 rfl (.iface 203 (.pointer (some a11))) (load_glob c11) ?_
  refine Great.wpList_loadVarTo rfl (some 12) rfl 31 12 rfl (.iface 203 (.pointer (some a12))) (load_glob c12) ?_
  refine Great.wpList_loadVarTo rfl (some 13) rfl 31 13 rfl (.iface 203 (.pointer (some a13))) (load_glob c13) ?_
  refine Great.wpList_loadVarTo rfl (some 14) rfl 31 14 rfl (.iface 203 (.pointer (some a14))) (load_glob c14) ?_
  refine Great.wpList_loadVarTo rfl (some 15) rfl 31 15 rfl (.iface 203 (.pointer (some a15))) (load_glob c15) ?_
  refine Great.wpList_loadVarTo rfl (some 16) rfl 31 16 rfl (.iface 203 (.pointer (some a16))) (load_glob c16) ?_
  refine Great.wpList_loadVarTo rfl (some 17) rfl 31 17 rfl (.iface 203 (.pointer (some a17))) (load_glob c17) ?_
  refine Great.wpList_loadVarTo rfl (some 18) rfl 31 18 rfl (.iface 203 (.pointer (some a18))) (load_glob c18) ?_
  refine Great.wpList_loadVarTo rfl (some 19) rfl 31 19 rfl (.iface 203 (.pointer (some a19))) (load_glob c19) ?_
  refine wpList_buildIs rfl _ _ rfl (cells := #[.iface 203 (.pointer (some a1)), .iface 203 (.pointer (some a2)), .iface 203 (.pointer (some a3)), .iface 203 (.pointer (some a4)), .iface 203 (.pointer (some a5)), .iface 203 (.pointer (some a6)), .iface 203 (.pointer (some a7)), .iface 203 (.pointer (some a8)), .iface 203 (.pointer (some a9)), .iface 203 (.pointer (some a10)), .iface 203 (.pointer (some a11)), .iface 203 (.pointer (some a12)), .iface 203 (.pointer (some a13)), .iface 203 (.pointer (some a14)), .iface 203 (.pointer (some a15)), .iface 203 (.pointer (some a16)), .iface 203 (.pointer (some a17)), .iface 203 (.pointer (some a18)), .iface 203 (.pointer (some a19))]) (by kernel_rfl) ?_
  refine wpList_store_row rfl 67 (.tmp 0) (.tmp 20) rfl w.heap.size #[.iface 203 (.pointer (some a1)), .iface 203 (.pointer (some a2)), .iface 203 (.pointer (some a3)), .iface 203 (.pointer (some a4)), .iface 203 (.pointer (some a5)), .iface 203 (.pointer (some a6)), .iface 203 (.pointer (some a7)), .iface 203 (.pointer (some a8)), .iface 203 (.pointer (some a9)), .iface 203 (.pointer (some a10)), .iface 203 (.pointer (some a11)), .iface 203 (.pointer (some a12)), .iface 203 (.pointer (some a13)), .iface 203 (.pointer (some a14)), .iface 203 (.pointer (some a15)), .iface 203 (.pointer (some a16)), .iface 203 (.pointer (some a17)), .iface 203 (.pointer (some a18)), .iface 203 (.pointer (some a19))] (by kernel_rfl) (by kernel_rfl) 67 _ hlast info_list (by kernel_rfl) (by kernel_rfl) ?_
  refine wpList_nil ?_
  simp only [Exit.then]
  refine wp_ret ?_
  refine bodyPost_ret (results_cell_row rfl _ _ w.heap.size 67 #[.iface 203 (.pointer (some a1)), .iface 203 (.pointer (some a2)), .iface 203 (.pointer (some a3)), .iface 203 (.pointer (some a4)), .iface 203 (.pointer (some a5)), .iface 203 (.pointer (some a6)), .iface 203 (.pointer (some a7)), .iface 203 (.pointer (some a8)), .iface 203 (.pointer (some a9)), .iface 203 (.pointer (some a10)), .iface 203 (.pointer (some a11)), .iface 203 (.pointer (some a12)), .iface 203 (.pointer (some a13)), .iface 203 (.pointer (some a14)), .iface 203 (.pointer (some a15)), .iface 203 (.pointer (some a16)), .iface 203 (.pointer (some a17)), .iface 203 (.pointer (some a18)), .iface 203 (.pointer (some a19))] (0, 0) _ (by kernel_rfl) (setRow_heap _ _ _ _ _ _ hlast) Tryd.underlying67 rfl info_list) rfl ⟨rfl, hbel _⟩

theorem run_index19 (cs : Array Value) (v : Value) (j : Nat) (hj : j < 19) (hv : cs[j]? = some v) (w : World) :
    (Instr.index 67 (.agg cs) (.int .i64 (j : Int))).run Tryd.prog w = .ok v w := by
  have h1 : (sizeOf 31).run Tryd.prog w = .ok 1 w := by kernel_rfl
  have h2 : (isAgg 31).run Tryd.prog w = .ok false w := by kernel_rfl
  have h0 : (0 : Int) ≤ (j : Int) ∧ (j : Int) < 19 := by omega
  simp [Instr.index, asIntOf, run_underlying Tryd.underlying67, h0, h1, h2, Result.andThen, Sem.run_bind, part, hv]
  intro h; omega
def ErrCells (A : Nat → Addr) (cs : Array Value) : Prop := ∀ j, j < 19 → cs[j]? = some (.iface 203 (.pointer (some (A (j + 1)))))
theorem errCells (A : Nat → Addr) : ErrCells A #[errV A 1, errV A 2, errV A 3, errV A 4, errV A 5, errV A 6, errV A 7, errV A 8, errV A 9, errV A 10, errV A 11, errV A 12, errV A 13, errV A 14, errV A 15, errV A 16, errV A 17, errV A 18, errV A 19] := by
  intro j hj
  have : j = 0 ∨ j = 1 ∨ j = 2 ∨ j = 3 ∨ j = 4 ∨ j = 5 ∨ j = 6 ∨ j = 7 ∨ j = 8 ∨ j = 9 ∨ j = 10 ∨ j = 11 ∨ j = 12 ∨ j = 13 ∨ j = 14 ∨ j = 15 ∨ j = 16 ∨ j = 17 ∨ j = 18 := by omega
  rcases this with rfl | rfl | rfl | rfl | rfl | rfl | rfl | rfl | rfl | rfl | rfl | rfl | rfl | rfl | rfl | rfl | rfl | rfl | rfl <;> rfl
theorem list_calls' {A : Nat → Addr} {B : Nat} (w : World) (hE : Env A B SVN w) :
    Calls Tryd.prog 29 #[] w fun e w' => ∃ cs, ErrCells A cs ∧ e = .returned (.agg cs) ∧ Below w.heap.size w w' :=
  (list_calls w hE).mono fun _ _ ⟨he, hb⟩ => ⟨_, errCells A, he, hb⟩
theorem Num_nil (w : World) : Calls Tryd.prog 11 #[.nilIface] w fun e w' => e = .returned (.int .i64 0) ∧ Below w.heap.size w w' := by
  go_enter Tryd.func11, Tryd.ntmps11
  (go_wp2_with fail; repeat (any_goals (go_quiet (fail); go_wp2_with fail)))
  go_ret
  exact ⟨rfl, (by repeat (first | assumption | exact Below.refl _ _ | apply Below.drew | apply below_drewN | apply balloc | (refine Below.setCell ?_ (by first | omega | (simp <;> omega)) _)))⟩
set_option maxHeartbeats 1000000 in
set_option maxRecDepth 100000 in
theorem Num_err {A : Nat → Addr} {B : Nat} (k : Nat) (w : World) (h1 : 1 ≤ k) (h2 : k ≤ 19) (hE : Env A B SVN w) :
    Calls Tryd.prog 11 #[.iface 203 (.pointer (some (A k)))] w fun e w' => e = .returned (.int .i64 k) ∧ Below w.heap.size w w' := by
  go_enter Tryd.func11, Tryd.ntmps11
  (go_wp2_with fail; repeat (any_goals (go_quiet (fail); go_wp2_with fail)))
  refine (list_calls' _ hE).mono ?_
  rintro e w1 ⟨cs, hcs, rfl, hb⟩
  have hE1 := hE.next hb
  replace hcs := Lib.hid hcs
  (go_wp2_with fail; repeat (any_goals (go_quiet (fail); go_wp2_with fail)))
  go_loop [8] (fun c => ∃ j : Nat, j < k ∧ c = .int .i64 (j : Int)) (fun c => 19 - (intOf c).toNat)
  case atStart => exact ⟨0, by omega, rfl⟩
  case round =>
    obtain ⟨j, hj, rfl⟩ := hrel
    have ix := fun w => run_index19 cs _ j (by omega) (hcs.out j (by omega)) w
    by_cases hl : j + 1 = k
    · subst hl
      (go_wp2_with fail; repeat (any_goals (go_quiet (fail); go_wp2_with fail)))
      go_ret
      exact ⟨by simp, hb⟩
    · have ms : ∀ m, 1 ≤ m → m ≤ 19 → m ∈ SVN := fun m h1 h2 => by simp [SVN]; omega
      obtain ⟨ca, ta, ba⟩ := hE1.blk k (ms k h1 h2)
      obtain ⟨cb, tb, bb⟩ := hE1.blk (j + 1) (ms (j + 1) (by omega) (by omega))
      have q := eqErr_other w1 (hE1.ne k (j + 1) (ms k h1 h2) (ms (j + 1) (by omega) (by omega)) (by omega)) ba bb
      replace ba := Lib.hid ba
      replace bb := Lib.hid bb
      replace hl := Lib.hid hl
      clear ms
      (go_wp2_with fail; repeat (any_goals (go_quiet (fail); go_wp2_with fail)))
      go_round
      case rel => exact ⟨j + 1, by have := hl.out; omega, by go_num⟩
      case measure => simp [intOf]; omega
theorem Num_calls {A : Nat → Addr} {B : Nat} (k : Nat) (w : World) (h2 : k ≤ 19) (hE : Env A B SVN w) :
    Calls Tryd.prog 11 #[errV A k] w fun e w' => e = .returned (.int .i64 k) ∧ Below w.heap.size w w' := by
  rcases Nat.eq_zero_or_pos k with rfl | h
  · exact Num_nil w
  · rw [errV_pos A h]; exact Num_err k w h h2 hE

end Go.Proofs.YtnldhgkmbighkaaDoor
