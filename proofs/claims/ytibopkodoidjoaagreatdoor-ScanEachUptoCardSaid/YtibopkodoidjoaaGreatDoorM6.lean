/- Lemmas of the proof, put together: SRef7, Num, Tok, TokW, PInt, Only, NumPlain, DigPlain, Number, QuoteW, Fixed17, RoundReg. -/
import Derived.Test.YtibopkodoidjoaaGreatDoorM5
import Derived.Test.YtibopkodoidjoaaGreatDoorM3
import Derived.Test.YtibopkodoidjoaaGreatDoorM1
import Derived.Great.Walk
import Derived.Laws.Rows
import Derived.Laws.Tables
import Derived.Laws.CopyOwn
import Derived.Test.YtibopkodoidjoaaGreatDoorM4
import Derived.Test.YtibopkodoidjoaaGreatDoorShelf
import Derived.Lib.LaidTab
import Derived.Lib.AppendIntMem
import Derived.WalkSmall
import Derived.Lib.AtoiErrMem
import Derived.Lib.ItoaNum
import Derived.Lib.ParseIntBCases
import Derived.Lib.SlTrimSet
import Derived.Test.YtibopkodoidjoaaGreatDoorM2
import Derived.OrdersIn
import Derived.OrdersHeld
import Derived.ControlIn
import Derived.RangeFuncCalls

/- The reference of chapter 17: Some, Scan. -/
namespace Go.Proofs.YtibopkodoidjoaaGreatDoor
open Go Go.RowKit

/-- v is a list of tokens of the call's own. -/
def OwnT (w : World) (base : Nat) (v : Value) (ts : List Tk) : Prop := w.ownsRow base 59 4 v ts.length (ts.flatMap tkC)
theorem OwnT.nil (w : World) (base : Nat) : OwnT w base (.slice none 0 0) [] := World.ownsRow_nil _ _ _ _
theorem OwnT.next {w w' : World} {base : Nat} {v : Value} {ts : List Tk} (h : OwnT w base v ts) (hb : Below w.heap.size w w') : OwnT w' base v ts := own_next h hb
theorem OwnT.lt {w : World} {base : Nat} {v : Value} {ts : List Tk} (h : OwnT w base v ts) : ∀ k, v.ownBlock = some k → base ≤ k := fun k hk => (World.ownsRow.lt h k hk).1
theorem OwnT.lt_size {w : World} {base : Nat} {v : Value} {ts : List Tk} (h : OwnT w base v ts) : ∀ k, v.ownBlock = some k → k < w.heap.size := fun k hk => (World.ownsRow.lt h k hk).2
theorem below_ownT {w w1 w2 : World} {base : Nat} {v : Value} {ts : List Tk} (h1 : Below base w w1) (ho : OwnT w1 base v ts) (hg : w1.grownBy w2 v.ownBlock) (hb : base ≤ w1.heap.size) : Below base w w2 := h1.grown hg hb (fun k hk => ho.lt k hk)
theorem heap_new1 (w : World) (o o' : Obj) : ((w.alloc o).alloc o').heap[w.heap.size + 1]? = some o' := by
  have := heap_alloc_new (w.alloc o) o'
  rw [World.size_alloc] at this
  exact this
section
variable {ops : Array Oper} {rest : List Oper} {o : Oper} {a : Act} {Q : Exit → Act → World → Prop} {w : World}
/-- append(out, t) of a token. -/
theorem app_tk (hgd : o.guard = none) (sl x : Operand) (ho : o.op = .call { callee := .builtin .append, args := #[sl, x], argTypes := #[49, 49] }) (base : Nat) (v : Value) (ts : List Tk) (hs : a.eval sl = v) (hown : OwnT w base v ts)
    (g c : Nat) (cs : Array Value) (t : TypeId) (fr : Nat × Nat) (T : Tk) (hx : a.eval x = .slice (some ⟨g, 0, none⟩) 1 c) (hg : w.heap[g]? = some (.cells cs t fr)) (hcs : cs = (tkC T).toArray)
    (hlen : ts.length + 1 ≤ 3518437208883) (hbase : base ≤ w.heap.size)
    (h : ∀ v' w', OwnT w' base v' (ts ++ [T]) → w.grownBy w' v.ownBlock → wpList Tryz.prog ops Q rest (a.put o.dst v') w') : wpList Tryz.prog ops Q (o :: rest) a w := by
  obtain ⟨i0, hi, hi2⟩ := Option.map_eq_some_iff.1 infoTk
  simp only [Prod.mk.injEq] at hi2
  refine wpList_append_own _ hgd sl x 49 ho base 59 i0 (.agg #[.int .i64 0, .int .i64 0, .int .i64 0, .string ⟨#[]⟩]) 4 40 Tryz.underlying49 hi hi2.1 hi2.2.1 hi2.2.2 rfl (by decide) v ts.length (ts.flatMap tkC) hs hown ⟨g, 0, none⟩ 1 c (tkC T) hx rfl ?_ ?_ (by unfold maxLen; omega) (by omega) hbase ?_
  · intro j u hj
    have : (⟨g, 0, none⟩ : Addr).add j = ⟨g, j, none⟩ := by simp only [Addr.add, Nat.zero_add]; split <;> simp_all
    rw [this]
    refine cellB hg j ?_
    rw [hcs, List.getElem?_toArray]
    exact hj
  · intro u hu
    unfold tkC at hu
    simp at hu
    rcases hu with rfl | rfl | rfl | rfl <;> rfl
  · intro v' w' h1 h2 _
    refine h v' w' ?_ h2
    unfold OwnT
    rw [List.length_append, List.length_singleton, List.flatMap_append]
    simpa using h1
end
theorem rOne_calls2 (s : ByteArray) (i : Nat) (w : World) (hs : s.size ≤ 35184372088830) (hi : i < s.size) (R : Value) (hR : rOneV (oneAt s i) = R) :
    Calls Tryz.prog 50 #[.string s, .int .i64 (i : Int)] w fun e w' => e = .returned R ∧ Below w.heap.size w w' := by rw [← hR]; exact rOne_calls s i w hs hi
theorem rBlank_calls2 (c : Nat) (b : Bool) (w : World) (h : blankN c = b) : Calls Tryz.prog 49 #[.int .u8 (c : Int)] w fun e w' => e = .returned (.bool b) ∧ w = w' := by rw [← h]; exact (rBlank_calls c w).mono fun _ _ ⟨h, hw⟩ => ⟨h, hw.symm⟩
/-- What Some answers. -/
def rSomeR (base : Nat) (R : List Tk × Nat × Nat) (e : Ending) (w' : World) : Prop := ∃ v, e = .returned (.tuple #[v, .int .i64 (R.2.2 : Int), .int .i64 (R.2.1 : Int)]) ∧ OwnT w' base v R.1
theorem rSomeR_mk {base : Nat} {R : List Tk × Nat × Nat} {w' : World} {v : Value} {ts : List Tk} {e0 p : Nat} (h : R = (ts, e0, p)) (ho : OwnT w' base v ts) : rSomeR base R (.returned (.tuple #[v, .int .i64 (p : Int), .int .i64 (e0 : Int)])) w' := by
  subst h; exact ⟨v, rfl, ho⟩
set_option maxHeartbeats 4000000 in
set_option maxRecDepth 100000 in
theorem rSome_calls (s : ByteArray) (w : World) (hs : s.size ≤ 3518437208882) :
    Calls Tryz.prog 21 #[.string s] w fun e w' => rSomeR w.heap.size (someS s) e w' ∧ Below w.heap.size w w' := by
  have hs' : (s.size : Int) ≤ 3518437208882 := by omega
  have U := Lib.hid (fun w => Utf8_calls s w (by omega))
  have K := Lib.hid (fun w => Breaks_calls s w (by omega))
  obtain ⟨R, hR⟩ : ∃ R, R = someS s := ⟨_, rfl⟩
  rw [← hR]
  replace hR := Lib.hid hR
  replace hs := Lib.hid hs
  by_cases hu : utfE s = 0
  · have hv0 := (utfE_brk s).1 hu
    have hR0 : Hid (R = scanAt s 0) := Lib.hid (by rw [hR.out, someS_eq, if_pos hu])
    replace U : Hid (∀ w, Calls Tryz.prog 47 #[.string s] w fun e w' => e = .returned (.bool true) ∧ Below w.heap.size w w') := Lib.hid (fun w => by have := U.out w; rwa [decide_eq_true hu] at this)
    replace hu := Lib.hid hu
    replace hv0 := Lib.hid hv0
    clear K
    go_enter Tryz.func21, Tryz.ntmps21
    (go_wp2_with fail; repeat (any_goals (go_quiet (fail); go_wp2_with fail)))
    refine (U.out _).mono ?_
    rintro e w1 ⟨rfl, hb⟩
    have hb1 : Below w.heap.size w w1 := bcall (by repeat (first | assumption | exact Below.refl _ _ | apply Below.drew | apply below_drewN | apply balloc | (refine Below.setCell ?_ (by first | omega | (simp <;> omega)) _))) hb
    clear hb U
    (go_wp2_with fail; repeat (any_goals (go_quiet (fail); go_wp2_with fail)))
    go_loopg [5, 6] (s.size + 1) (fun kq v5 v6 wr => ∃ (k : Nat) (ts : List Tk), v6 = .int .i64 (k : Int) ∧ Hid (k ≤ s.size ∧ brkAt s k = s.size ∧ ts.length ≤ k ∧ (ts ++ (scanAt s k).1, (scanAt s k).2) = R ∧ kq + k ≥ s.size + 1 ∧ OwnT wr w.heap.size v5 ts) ∧ Below w.heap.size w wr)
    case atStart => exact ⟨0, [], rfl, Lib.hid ⟨Nat.zero_le _, hv0.out, Nat.zero_le _, hR0.out.symm, by omega, OwnT.nil _ _⟩, hb1⟩
    case round =>
      clear hb1
      obtain ⟨k, ts, rfl, H, hB⟩ := hrel
      have hx := byte_at s k
      have hq := Lib.hid (scanAt_eq s k H.out.2.1)
      have hk := H.out.1
      by_cases hlt : k < s.size
      · have hlt' : (k : Int) < (s.size : Int) := by omega
        cases hbl : blankN (bAt s k) with
        | true =>
          have C := Lib.hid (fun w => rBlank_calls2 (bAt s k) true w hbl)
          have hst : Hid ((ts ++ (scanAt s (k + 1)).1, (scanAt s (k + 1)).2) = R ∧ brkAt s (k + 1) = s.size) := Lib.hid (by
            have h1 := hq.out
            rw [if_pos hlt, if_pos hbl] at h1
            exact ⟨by rw [← h1]; exact H.out.2.2.2.1, brk_ascii H.out.2.1 hlt (blank_ascii hbl).2⟩)
          replace hbl := Lib.hid hbl
          replace hlt := Lib.hid hlt
          clear hq
          (go_wp2_with fail; repeat (any_goals (go_quiet (fail); go_wp2_with fail)))
          refine (C.out _).mono ?_
          rintro e w2 ⟨rfl, rfl⟩
          (go_wp2_with fail; repeat (any_goals (go_quiet (fail); go_wp2_with fail)))
          go_roundg (s.size + 1 - (k + 1))
          case measure => have := H.out.2.2.2.2.1; omega
          case rel =>
            have h3 := H.out.2.2.1
            have h4 := H.out.2.2.2.2.1
            refine ⟨k + 1, ts, by go_num, Lib.hid ⟨hlt.out, hst.out.2, by omega, hst.out.1, by omega, H.out.2.2.2.2.2⟩, by assumption⟩
        | false =>
          have C := Lib.hid (fun w => rBlank_calls2 (bAt s k) false w hbl)
          have h1 := hq.out
          rw [if_pos hlt, if_neg (by rw [hbl]; simp)] at h1
          obtain ⟨O, hO⟩ : ∃ O, oneAt s k = O := ⟨_, rfl⟩
          rw [hO] at h1
          have hfr : ∀ T, O = (0, 0, T) → T.fr = k ∧ k < T.to ∧ T.to ≤ s.size ∧ brkAt s T.to = s.size ∧ T.text.size ≤ T.to - k ∧ 1 ≤ T.kind ∧ T.kind ≤ 11 := fun T h => one_fr hlt H.out.2.1 (by rw [hO, h])
          have hform : O.1 = 0 → O = (0, 0, O.2.2) := fun h => by rw [← hO] at h ⊢; exact oneAt_form s k h
          replace hbl := Lib.hid hbl
          clear hq
          obtain ⟨e0, p, T⟩ := O
          cases e0 with
          | zero =>
            obtain rfl : p = 0 := by have := hform rfl; simp only [Prod.mk.injEq] at this; exact this.2.1
            have hT := hfr T rfl
            have D := Lib.hid (fun w => rOne_calls2 s k w (by have := hs.out; omega) hlt _ (rOneV_ok hO))
            rw [if_pos rfl] at h1
            simp only at h1
            have hst : Hid ((ts ++ [T] ++ (scanAt s T.to).1, (scanAt s T.to).2) = R) := Lib.hid (by
              have h2 := H.out.2.2.2.1
              rw [h1] at h2
              rw [← h2, List.append_assoc]; rfl)
            replace h1 := Lib.hid h1
            replace hO := Lib.hid hO
            replace hT := Lib.hid hT
            replace hlt := Lib.hid hlt
            clear hfr hform
            unfold tkV at D
            have hz := hB.size
            (go_wp2_with fail; repeat (any_goals (go_quiet (fail); go_wp2_with fail)))
            refine (C.out _).mono ?_
            rintro e w2 ⟨rfl, rfl⟩
            (go_wp2_with fail; repeat (any_goals (go_quiet (fail); go_wp2_with fail)))
            refine (D.out _).mono ?_
            rintro e w2 ⟨rfl, hb⟩
            have hb2 : Below w.heap.size w w2 := hB.trans (hb.mono hz)
            have ho2 := Lib.hid (H.out.2.2.2.2.2.next hb)
            have hz2 := hb2.size
            clear hb
            go_wp2_with (at_builtin; refine app_tk rfl _ _ rfl w.heap.size _ ts rfl (show OwnT _ _ _ _ from World.ownsRow.alloc (World.ownsRow.alloc ho2.out _) _) _ 1 _ _ _ T rfl (heap_new1 _ _ _) rfl (by have := H.out.1; have := H.out.2.2.1; have := hs.out; omega) (by simp; omega) ?_)
            intro v' w3 ho3 hg
            have hb3 := below_ownT ((hb2.alloc hz2 _).alloc (by simp; omega) _) (show OwnT _ _ _ _ from World.ownsRow.alloc (World.ownsRow.alloc ho2.out _) _) hg (by simp; omega)
            have y2 : w3.cell? ⟨w2.heap.size, 2, none⟩ = some (.int .i64 (T.to : Int)) := by
              refine hg.cell ?_ ?_
              · refine cellB (box_next (heap_alloc_new w2 _) ((Below.refl _ _).alloc (Nat.le_refl _) _)) 2 rfl
              · intro h
                have := (ho2.out.lt_size _ h.symm)
                simp at this
            replace ho3 := Lib.hid ho3
            clear hg
            (go_wp2_with fail; repeat (any_goals (go_quiet (fail); go_wp2_with fail)))
            go_roundg (s.size + 1 - T.to)
            case measure => have := H.out.2.2.2.2.1; have := hT.out.2.1; omega
            case rel =>
              have h3 := H.out.2.2.1
              have h4 := H.out.2.2.2.2.1
              have h5 := hT.out
              refine ⟨T.to, ts ++ [T], rfl, Lib.hid ⟨h5.2.2.1, h5.2.2.2.1, by rw [List.length_append, List.length_singleton]; omega, hst.out, by omega, ho3.out⟩, by assumption⟩
          | succ e0 =>
            have D := Lib.hid (fun w => rOne_calls2 s k w (by have := hs.out; omega) hlt _ (rOneV_bad hO))
            rw [if_neg (by simp)] at h1
            simp only at h1
            have hR2 : R = (ts, e0 + 1, p) := by
              have h2 := H.out.2.2.2.1
              rw [h1] at h2
              rw [← h2, List.append_nil]
            replace hR2 := Lib.hid hR2
            have hne2 : (((e0 + 1 : Nat) : Int) != 0) = true := by simp; omega
            replace h1 := Lib.hid h1
            replace hO := Lib.hid hO
            replace hlt := Lib.hid hlt
            clear hfr hform
            have hz := hB.size
            obtain ⟨e1, he1⟩ : ∃ e1, e1 = ((e0 + 1 : Nat) : Int) := ⟨_, rfl⟩
            rw [← he1] at D hne2
            replace he1 := Lib.hid he1
            (go_wp2_with fail; repeat (any_goals (go_quiet (fail); go_wp2_with fail)))
            refine (C.out _).mono ?_
            rintro e w2 ⟨rfl, rfl⟩
            (go_wp2_with fail; repeat (any_goals (go_quiet (fail); go_wp2_with fail)))
            refine (D.out _).mono ?_
            rintro e w2 ⟨rfl, hb⟩
            have hb2 : Below w.heap.size w w2 := hB.trans (hb.mono hz)
            have ho2 := Lib.hid (H.out.2.2.2.2.2.next hb)
            have hz2 := hb2.size
            clear hb
            (go_wp2_with fail; repeat (any_goals (go_quiet (fail); go_wp2_with fail)))
            go_ret3
            refine ⟨?_, hb2.alloc hz2 _⟩
            rw [he1.out]
            exact rSomeR_mk hR2.out (World.ownsRow.alloc ho2.out _)
      · have hlt' : ¬ (k : Int) < (s.size : Int) := by omega
        have h1 := hq.out
        rw [if_neg hlt] at h1
        have hR2 : R = (ts, 0, 0) := by
          have h2 := H.out.2.2.2.1
          rw [h1] at h2
          rw [← h2, List.append_nil]
        replace hR2 := Lib.hid hR2
        replace h1 := Lib.hid h1
        replace hlt := Lib.hid hlt
        clear hq
        (go_wp2_with fail; repeat (any_goals (go_quiet (fail); go_wp2_with fail)))
        go_ret3
        exact ⟨rSomeR_mk hR2.out H.out.2.2.2.2.2, (by repeat (first | assumption | exact Below.refl _ _ | apply Below.drew | apply below_drewN | apply balloc | (refine Below.setCell ?_ (by first | omega | (simp <;> omega)) _)))⟩
  · have hR2 : R = ([], 1, brkAt s 0) := by rw [hR.out, someS_eq, if_neg hu]
    replace U : Hid (∀ w, Calls Tryz.prog 47 #[.string s] w fun e w' => e = .returned (.bool false) ∧ Below w.heap.size w w') := Lib.hid (fun w => by have := U.out w; rwa [decide_eq_false hu] at this)
    replace hu := Lib.hid hu
    replace hR2 := Lib.hid hR2
    generalize brkAt s 0 = p at *
    go_enter Tryz.func21, Tryz.ntmps21
    (go_wp2_with fail; repeat (any_goals (go_quiet (fail); go_wp2_with fail)))
    refine (U.out _).mono ?_
    rintro e w1 ⟨rfl, hb⟩
    have hb1 : Below w.heap.size w w1 := bcall (by repeat (first | assumption | exact Below.refl _ _ | apply Below.drew | apply below_drewN | apply balloc | (refine Below.setCell ?_ (by first | omega | (simp <;> omega)) _))) hb
    clear hb
    (go_wp2_with fail; repeat (any_goals (go_quiet (fail); go_wp2_with fail)))
    refine (K.out _).mono ?_
    rintro e w2 ⟨rfl, hb⟩
    have hb2 : Below w.heap.size w w2 := bcall hb1 hb
    clear hb
    (go_wp2_with fail; repeat (any_goals (go_quiet (fail); go_wp2_with fail)))
    go_ret3
    refine ⟨⟨.slice none 0 0, ?_, ?_⟩, hb2⟩
    · rw [hR2.out]; rfl
    · rw [hR2.out]; exact OwnT.nil _ _
/-- What Scan answers. -/
def rScanR (base : Nat) (R : List Tk × Nat × Nat) (e : Ending) (w' : World) : Prop :=
  ∃ v, e = .returned (.tuple #[v, .int .i64 (if R.2.1 = 0 then 0 else (R.2.2 : Int)), .int .i64 (R.2.1 : Int)]) ∧ OwnT w' base v (if R.2.1 = 0 then R.1 else []) ∧ (R.2.1 ≠ 0 → v = .slice none 0 0)
end Go.Proofs.YtibopkodoidjoaaGreatDoor

/- The errors' numbers. -/
namespace Go.Proofs.YtibopkodoidjoaaGreatDoor
open Go Go.RowKit
abbrev SVN : List Nat := [1, 2, 3, 4, 5, 6, 7, 8, 9, 10, 11, 12, 13, 14, 15, 16, 17, 18, 19]

theorem load_glob {w : World} {o : Oper} {g : Nat} {v : Value} (hc : w.cell? ⟨g, 0, none⟩ = some v) :
    ∀ ρ : Operand → Value, ρ (.global g) = .pointer (some ⟨g, 0, none⟩) → (execOp ρ { o with op := .load 26 (.global g) }).run Tryz.prog w = .ok (.value v) w := by
  intro ρ h
  have hu := Tryz.underlying26
  simp [execOp, h, Instr.loadAt, Instr.sureAddr, loadVar, isAgg, underlying, hu, hc, Result.andThen, Sem.run_bind]
theorem wpList_buildIs {P : Program} {w : World} {ops : Array Oper} {rest : List Oper} {o : Oper} {a : Act} {Q : Exit → Act → World → Prop} (hg : o.guard = none) (t : TypeId) (parts : Array (Nat × Operand)) (ho : o.op = .build t parts) {cells : Array Value}
    (hf : P.built t (parts.map fun (i, x) => (i, a.eval x)).toList = some cells)
    (h : wpList P ops Q rest (a.put o.dst (.agg cells)) w) : wpList P ops Q (o :: rest) a w :=
  wpList_build hg t parts ho (by rw [hf]; rfl) (by rw [hf]; exact h)
theorem info_list : (Tryz.prog.info? 123).map (·.size) = some 19 := by kernel_rfl
set_option maxHeartbeats 1000000 in
set_option maxRecDepth 100000 in
theorem list_calls {A : Nat → Addr} {B : Nat} (w : World) (hE : Env A B SVN w) :
    Calls Tryz.prog 55 #[] w fun e w' => e = .returned (.agg #[errV A 1, errV A 2, errV A 3, errV A 4, errV A 5, errV A 6, errV A 7, errV A 8, errV A 9, errV A 10, errV A 11, errV A 12, errV A 13, errV A 14, errV A 15, errV A 16, errV A 17, errV A 18, errV A 19]) ∧ Below w.heap.size w w' := by
  obtain ⟨o, ho⟩ : ∃ o, o = Obj.cells (Array.replicate 19 Value.nilIface) 123 (0, 0) := ⟨_, rfl⟩
  have c1 : (w.alloc o).cell? ⟨3, 0, none⟩ = some (.iface 237 (.pointer (some (A 1)))) := (hE.next (balloc (Below.refl _ _))).e1
  have c2 : (w.alloc o).cell? ⟨0, 0, none⟩ = some (.iface 237 (.pointer (some (A 2)))) := (hE.next (balloc (Below.refl _ _))).e2
  have c3 : (w.alloc o).cell? ⟨1, 0, none⟩ = some (.iface 237 (.pointer (some (A 3)))) := (hE.next (balloc (Below.refl _ _))).e3
  have c4 : (w.alloc o).cell? ⟨4, 0, none⟩ = some (.iface 237 (.pointer (some (A 4)))) := (hE.next (balloc (Below.refl _ _))).e4
  have c5 : (w.alloc o).cell? ⟨6, 0, none⟩ = some (.iface 237 (.pointer (some (A 5)))) := (hE.next (balloc (Below.refl _ _))).e5
  have c6 : (w.alloc o).cell? ⟨5, 0, none⟩ = some (.iface 237 (.pointer (some (A 6)))) := (hE.next (balloc (Below.refl _ _))).e6
  have c7 : (w.alloc o).cell? ⟨8, 0, none⟩ = some (.iface 237 (.pointer (some (A 7)))) := (hE.next (balloc (Below.refl _ _))).e7
  have c8 : (w.alloc o).cell? ⟨9, 0, none⟩ = some (.iface 237 (.pointer (some (A 8)))) := (hE.next (balloc (Below.refl _ _))).e8
  have c9 : (w.alloc o).cell? ⟨10, 0, none⟩ = some (.iface 237 (.pointer (some (A 9)))) := (hE.next (balloc (Below.refl _ _))).e9
  have c10 : (w.alloc o).cell? ⟨11, 0, none⟩ = some (.iface 237 (.pointer (some (A 10)))) := (hE.next (balloc (Below.refl _ _))).e10
  have c11 : (w.alloc o).cell? ⟨12, 0, none⟩ = some (.iface 237 (.pointer (some (A 11)))) := (hE.next (balloc (Below.refl _ _))).e11
  have c12 : (w.alloc o).cell? ⟨7, 0, none⟩ = some (.iface 237 (.pointer (some (A 12)))) := (hE.next (balloc (Below.refl _ _))).e12
  have c13 : (w.alloc o).cell? ⟨13, 0, none⟩ = some (.iface 237 (.pointer (some (A 13)))) := (hE.next (balloc (Below.refl _ _))).e13
  have c14 : (w.alloc o).cell? ⟨14, 0, none⟩ = some (.iface 237 (.pointer (some (A 14)))) := (hE.next (balloc (Below.refl _ _))).e14
  have c15 : (w.alloc o).cell? ⟨15, 0, none⟩ = some (.iface 237 (.pointer (some (A 15)))) := (hE.next (balloc (Below.refl _ _))).e15
  have c16 : (w.alloc o).cell? ⟨16, 0, none⟩ = some (.iface 237 (.pointer (some (A 16)))) := (hE.next (balloc (Below.refl _ _))).e16
  have c17 : (w.alloc o).cell? ⟨17, 0, none⟩ = some (.iface 237 (.pointer (some (A 17)))) := (hE.next (balloc (Below.refl _ _))).e17
  have c18 : (w.alloc o).cell? ⟨18, 0, none⟩ = some (.iface 237 (.pointer (some (A 18)))) := (hE.next (balloc (Below.refl _ _))).e18
  have c19 : (w.alloc o).cell? ⟨19, 0, none⟩ = some (.iface 237 (.pointer (some (A 19)))) := (hE.next (balloc (Below.refl _ _))).e19
  have hlast : (w.alloc o).heap[w.heap.size]? = some (.cells (Array.replicate 19 Value.nilIface) 123 (0, 0)) := by rw [ho]; exact heap_alloc_new w _
  have hbel : ∀ cs, Below w.heap.size w ((w.alloc o).setRow w.heap.size cs) := fun cs => below_setRow (balloc (Below.refl _ _)) (Nat.le_refl _) cs
  simp only [errV]
  generalize A 1 = a1 at *
  generalize A 2 = a2 at *
  generalize A 3 = a3 at *
  generalize A 4 = a4 at *
  generalize A 5 = a5 at *
  generalize A 6 = a6 at *
  generalize A 7 = a7 at *
  generalize A 8 = a8 at *
  generalize A 9 = a9 at *
  generalize A 10 = a10 at *
  generalize A 11 = a11 at *
  generalize A 12 = a12 at *
  generalize A 13 = a13 at *
  generalize A 14 = a14 at *
  generalize A 15 = a15 at *
  generalize A 16 = a16 at *
  generalize A 17 = a17 at *
  generalize A 18 = a18 at *
  generalize A 19 = a19 at *
  clear hE
  go_enter Tryz.func55, Tryz.ntmps55
  refine wp_seq ?_
  refine wp_region_lit ?_
  refine Great.wpList_allocTo rfl (some 0) rfl (.pointer (some ⟨w.heap.size, 0, none⟩)) o (by subst ho; kernel_rfl) ?_
  refine wpList_nil ?_
  refine wp_seq ?_
  refine wp_region_lit ?_
  refine Great.wpList_loadVarTo rfl (some 1) rfl 26 3 rfl (.iface 237 (.pointer (some a1))) (load_glob c1) ?_
  refine Great.wpList_loadVarTo rfl (some 2) rfl 26 0 rfl (.iface 237 (.pointer (some a2))) (load_glob c2) ?_
  refine Great.wpList_loadVarTo rfl (some 3) rfl 26 1 rfl (.iface 237 (.pointer (some a3))) (load_glob c3) ?_
  refine Great.wpList_loadVarTo rfl (some 4) rfl 26 4 rfl (.iface 237 (.pointer (some a4))) (load_glob c4) ?_
  refine Great.wpList_loadVarTo rfl (some 5) rfl 26 6 rfl (.iface 237 (.pointer (some a5))) (load_glob c5) ?_
  refine Great.wpList_loadVarTo rfl (some 6) rfl 26 5 rfl (.iface 237 (.pointer (some a6))) (load_glob c6) ?_
  refine Great.wpList_loadVarTo rfl (some 7) rfl 26 8 rfl (.iface 237 (.pointer (some a7))) (load_glob c7) ?_
  refine Great.wpList_loadVarTo rfl (some 8) rfl 26 9 rfl (.iface 237 (.pointer (some a8))) (load_glob c8) ?_
  refine Great.wpList_loadVarTo rfl (some 9) rfl 26 10 rfl (.iface 237 (.pointer (some a9))) (load_glob c9) ?_
  refine Great.wpList_loadVarTo rfl (some 10) rfl 26 11 rfl (.iface 237 (.pointer (some a10))) (load_glob c10) ?_
  refine Great.wpList_loadVarTo rfl (some 11) rfl 26 12 rfl (.iface 237 (.pointer (some a11))) (load_glob c11) ?_
  refine Great.wpList_loadVarTo rfl (some 12) rfl 26 7 rfl (.iface 237 (.pointer (some a12))) (load_glob c12) ?_
  refine Great.wpList_loadVarTo rfl (some 13) rfl 26 13 rfl (.iface 237 (.pointer (some a13))) (load_glob c13) ?_
  refine Great.wpList_loadVarTo rfl (some 14) rfl 26 14 rfl (.iface 237 (.pointer (some a14))) (load_glob c14) ?_
  refine Great.wpList_loadVarTo rfl (some 15) rfl 26 15 rfl (.iface 237 (.pointer (some a15))) (load_glob c15) ?_
  refine Great.wpList_loadVarTo rfl (some 16) rfl 26 16 rfl (.iface 237 (.pointer (some a16))) (load_glob c16) ?_
  refine Great.wpList_loadVarTo rfl (some 17) rfl 26 17 rfl (.iface 237 (.pointer (some a17))) (load_glob c17) ?_
  refine Great.wpList_loadVarTo rfl (some 18) rfl 26 18 rfl (.iface 237 (.pointer (some a18))) (load_glob c18) ?_
  refine Great.wpList_loadVarTo rfl (some 19) rfl 26 19 rfl (.iface 237 (.pointer (some a19))) (load_glob c19) ?_
  refine wpList_buildIs rfl _ _ rfl (cells := #[.iface 237 (.pointer (some a1)), .iface 237 (.pointer (some a2)), .iface 237 (.pointer (some a3)), .iface 237 (.pointer (some a4)), .iface 237 (.pointer (some a5)), .iface 237 (.pointer (some a6)), .iface 237 (.pointer (some a7)), .iface 237 (.pointer (some a8)), .iface 237 (.pointer (some a9)), .iface 237 (.pointer (some a10)), .iface 237 (.pointer (some a11)), .iface 237 (.pointer (some a12)), .iface 237 (.pointer (some a13)), .iface 237 (.pointer (some a14)), .iface 237 (.pointer (some a15)), .iface 237 (.pointer (some a16)), .iface 237 (.pointer (some a17)), .iface 237 (.pointer (some a18)), .iface 237 (.pointer (some a19))]) (by kernel_rfl) ?_
  refine wpList_store_row rfl 123 (.tmp 0) (.tmp 20) rfl w.heap.size #[.iface 237 (.pointer (some a1)), .iface 237 (.pointer (some a2)), .iface 237 (.pointer (some a3)), .iface 237 (.pointer (some a4)), .iface 237 (.pointer (some a5)), .iface 237 (.pointer (some a6)), .iface 237 (.pointer (some a7)), .iface 237 (.pointer (some a8)), .iface 237 (.pointer (some a9)), .iface 237 (.pointer (some a10)), .iface 237 (.pointer (some a11)), .iface 237 (.pointer (some a12)), .iface 237 (.pointer (some a13)), .iface 237 (.pointer (some a14)), .iface 237 (.pointer (some a15)), .iface 237 (.pointer (some a16)), .iface 237 (.pointer (some a17)), .iface 237 (.pointer (some a18)), .iface 237 (.pointer (some a19))] (by kernel_rfl) (by kernel_rfl) 123 _ hlast info_list (by kernel_rfl) (by kernel_rfl) ?_
  refine wpList_nil ?_
  simp only [Exit.then]
  refine wp_ret ?_
  refine bodyPost_ret (results_cell_row rfl _ _ w.heap.size 123 #[.iface 237 (.pointer (some a1)), .iface 237 (.pointer (some a2)), .iface 237 (.pointer (some a3)), .iface 237 (.pointer (some a4)), .iface 237 (.pointer (some a5)), .iface 237 (.pointer (some a6)), .iface 237 (.pointer (some a7)), .iface 237 (.pointer (some a8)), .iface 237 (.pointer (some a9)), .iface 237 (.pointer (some a10)), .iface 237 (.pointer (some a11)), .iface 237 (.pointer (some a12)), .iface 237 (.pointer (some a13)), .iface 237 (.pointer (some a14)), .iface 237 (.pointer (some a15)), .iface 237 (.pointer (some a16)), .iface 237 (.pointer (some a17)), .iface 237 (.pointer (some a18)), .iface 237 (.pointer (some a19))] (0, 0) _ (by kernel_rfl) (setRow_heap _ _ _ _ _ _ hlast) Tryz.underlying123 rfl info_list) rfl ⟨rfl, hbel _⟩

theorem run_index19 (cs : Array Value) (v : Value) (j : Nat) (hj : j < 19) (hv : cs[j]? = some v) (w : World) :
    (Instr.index 123 (.agg cs) (.int .i64 (j : Int))).run Tryz.prog w = .ok v w := by
  have h1 : (sizeOf 26).run Tryz.prog w = .ok 1 w := by kernel_rfl
  have h2 : (isAgg 26).run Tryz.prog w = .ok false w := by kernel_rfl
  have h0 : (0 : Int) ≤ (j : Int) ∧ (j : Int) < 19 := by omega
  simp [Instr.index, asIntOf, run_underlying Tryz.underlying123, h0, h1, h2, Result.andThen, Sem.run_bind, part, hv]
  intro h; omega
def ErrCells (A : Nat → Addr) (cs : Array Value) : Prop := ∀ j, j < 19 → cs[j]? = some (.iface 237 (.pointer (some (A (j + 1)))))
theorem errCells (A : Nat → Addr) : ErrCells A #[errV A 1, errV A 2, errV A 3, errV A 4, errV A 5, errV A 6, errV A 7, errV A 8, errV A 9, errV A 10, errV A 11, errV A 12, errV A 13, errV A 14, errV A 15, errV A 16, errV A 17, errV A 18, errV A 19] := by
  intro j hj
  have : j = 0 ∨ j = 1 ∨ j = 2 ∨ j = 3 ∨ j = 4 ∨ j = 5 ∨ j = 6 ∨ j = 7 ∨ j = 8 ∨ j = 9 ∨ j = 10 ∨ j = 11 ∨ j = 12 ∨ j = 13 ∨ j = 14 ∨ j = 15 ∨ j = 16 ∨ j = 17 ∨ j = 18 := by omega
  rcases this with rfl | rfl | rfl | rfl | rfl | rfl | rfl | rfl | rfl | rfl | rfl | rfl | rfl | rfl | rfl | rfl | rfl | rfl | rfl <;> rfl
theorem list_calls' {A : Nat → Addr} {B : Nat} (w : World) (hE : Env A B SVN w) :
    Calls Tryz.prog 55 #[] w fun e w' => ∃ cs, ErrCells A cs ∧ e = .returned (.agg cs) ∧ Below w.heap.size w w' :=
  (list_calls w hE).mono fun _ _ ⟨he, hb⟩ => ⟨_, errCells A, he, hb⟩
set_option maxHeartbeats 1000000 in
set_option maxRecDepth 100000 in
theorem Num_err {A : Nat → Addr} {B : Nat} (k : Nat) (w : World) (h1 : 1 ≤ k) (h2 : k ≤ 19) (hE : Env A B SVN w) :
    Calls Tryz.prog 28 #[.iface 237 (.pointer (some (A k)))] w fun e w' => e = .returned (.int .i64 k) ∧ Below w.heap.size w w' := by
  go_enter Tryz.func28, Tryz.ntmps28
  (go_wp2_with fail; repeat (any_goals (go_quiet (fail); go_wp2_with fail)))
  refine (list_calls' _ hE).mono ?_
  rintro e w1 ⟨cs, hcs, rfl, hb⟩
  have hE1 := hE.next hb
  replace hcs := Lib.hid hcs
  (go_wp2_with fail; repeat (any_goals (go_quiet (fail); go_wp2_with fail)))
  go_loop [8] (fun c => ∃ j : Nat, j < k ∧ c = .int .i64 (j : Int)) (fun c => 19 - (intOf c).toNat)
  case atStart => exact ⟨0, by omega, rfl⟩
  case round =>
    obtain ⟨j, hj, rfl⟩ := hrel
    have ix := fun w => run_index19 cs _ j (by omega) (hcs.out j (by omega)) w
    by_cases hl : j + 1 = k
    · subst hl
      (go_wp2_with fail; repeat (any_goals (go_quiet (fail); go_wp2_with fail)))
      go_ret
      exact ⟨by simp, hb⟩
    · have ms : ∀ m, 1 ≤ m → m ≤ 19 → m ∈ SVN := fun m h1 h2 => by simp [SVN]; omega
      obtain ⟨ca, ta, ba⟩ := hE1.blk k (ms k h1 h2)
      obtain ⟨cb, tb, bb⟩ := hE1.blk (j + 1) (ms (j + 1) (by omega) (by omega))
      have q := eqErr_other w1 (hE1.ne k (j + 1) (ms k h1 h2) (ms (j + 1) (by omega) (by omega)) (by omega)) ba bb
      replace ba := Lib.hid ba
      replace bb := Lib.hid bb
      replace hl := Lib.hid hl
      clear ms
      (go_wp2_with fail; repeat (any_goals (go_quiet (fail); go_wp2_with fail)))
      go_round
      case rel => exact ⟨j + 1, by have := hl.out; omega, by go_num⟩
      case measure => simp [intOf]; omega
end Go.Proofs.YtibopkodoidjoaaGreatDoor

/- Lists of tokens in memory; the statements' same; vellumnum.Place. -/
namespace Go.Proofs.YtibopkodoidjoaaGreatDoor
open Go Go.RowKit

theorem flat_get : ∀ (ts : List Tk) (j : Nat) (T : Tk) (i : Nat), ts[j]? = some T → i < 4 → (ts.flatMap tkC)[j * 4 + i]? = (tkC T)[i]?
  | [], j, T, i, h, _ => by simp at h
  | t :: ts, 0, T, i, h, hi => by
    simp at h
    subst h
    rw [List.flatMap_cons, Nat.zero_mul, Nat.zero_add, List.getElem?_append_left (by show i < 4; exact hi)]
  | t :: ts, j + 1, T, i, h, hi => by
    simp at h
    rw [List.flatMap_cons, List.getElem?_append_right (by show 4 ≤ (j + 1) * 4 + i; omega)]
    have : (j + 1) * 4 + i - (tkC t).length = j * 4 + i := by show (j + 1) * 4 + i - 4 = _; omega
    rw [this]
    exact flat_get ts j T i h hi
theorem OwnT.form {w : World} {base : Nat} {v : Value} {ts : List Tk} (h : OwnT w base v ts) : (ts = [] ∧ v = .slice none 0 0) ∨ ∃ g cap, v = .slice (some ⟨g, 0, none⟩) ts.length cap ∧ base ≤ g ∧ g < w.heap.size ∧ ts.length ≤ cap ∧ cap ≤ maxLen := by
  obtain ⟨h1, ⟨rfl, h3⟩ | ⟨g, cap, cur, rfl, hbg, hg, hn, hc, hz, ht⟩⟩ := h
  · exact Or.inl ⟨List.eq_nil_of_length_eq_zero h3, rfl⟩
  · exact Or.inr ⟨g, cap, rfl, hbg, ltB hg, hn, hc⟩
theorem OwnT.at {w : World} {base g n cap : Nat} {ts : List Tk} (h : OwnT w base (.slice (some ⟨g, 0, none⟩) n cap) ts) {j : Nat} {T : Tk} (hj : ts[j]? = some T) :
    w.cell? ⟨g, j * 4, none⟩ = some (.int .i64 (T.kind : Int)) ∧ w.cell? ⟨g, j * 4 + 1, none⟩ = some (.int .i64 (T.fr : Int)) ∧ w.cell? ⟨g, j * 4 + 2, none⟩ = some (.int .i64 (T.to : Int)) ∧ w.cell? ⟨g, j * 4 + 3, none⟩ = some (.string T.text) := by
  obtain ⟨h1, ⟨h2, _⟩ | ⟨g', cap', cur, h2, hbg, hg, hn, hc, hz, ht⟩⟩ := h
  · cases h2
  · cases h2
    have hjl : j < ts.length := by
      rcases Nat.lt_or_ge j ts.length with h | h
      · exact h
      · rw [List.getElem?_eq_none h] at hj; cases hj
    have key : ∀ i u, i < 4 → (tkC T)[i]? = some u → w.cell? ⟨g, j * 4 + i, none⟩ = some u := by
      intro i u hi hu
      refine cellB hg (j * 4 + i) ?_
      have h3 := flat_get ts j T i hj hi
      rw [← ht, List.getElem?_take_of_lt (by omega), Array.getElem?_toList] at h3
      rw [h3, hu]
    exact ⟨key 0 _ (by decide) rfl, key 1 _ (by decide) rfl, key 2 _ (by decide) rfl, key 3 _ (by decide) rfl⟩

end Go.Proofs.YtibopkodoidjoaaGreatDoor

/- The statements' same, over lists of tokens; vellumnum.Place. -/
namespace Go.Proofs.YtibopkodoidjoaaGreatDoor
open Go Go.RowKit

theorem neqTk_same (k n m : Int) (t : ByteArray) (w : World) :
    (binOp .neq 59 (.agg #[.int .i64 k, .int .i64 n, .int .i64 m, .string t]) (.agg #[.int .i64 k, .int .i64 n, .int .i64 m, .string t])).run Tryz.prog w = .ok (.bool false) w := by
  go_simp
set_option maxHeartbeats 2000000 in
set_option maxRecDepth 100000 in
theorem same_true {b1 b2 : Nat} {v1 v2 : Value} {ts : List Tk} (w : World) (h1 : OwnT w b1 v1 ts) (h2 : OwnT w b2 v2 ts) :
    Calls Tryz.prog 23 #[v1, v2] w fun e w' => e = .returned (.bool true) ∧ Below w.heap.size w w' := by
  have neq := neqTk_same
  rcases h1.form with ⟨rfl, rfl⟩ | ⟨g1, c1, rfl, hb1, hg1, hl1, hm1⟩
  · rcases h2.form with ⟨_, rfl⟩ | ⟨g2, c2, rfl, hb2, hg2, hl2, hm2⟩
    · replace h1 := Lib.hid h1
      replace h2 := Lib.hid h2
      go_enter Tryz.func23, Tryz.ntmps23
      (go_wp2_with fail; repeat (any_goals (go_quiet (fail); go_wp2_with fail)))
      go_loopw [13] (fun v wr => v = .int .i64 0 ∧ Below w.heap.size w wr) (fun _ _ => 0)
      case atStart => exact ⟨rfl, (by repeat (first | assumption | exact Below.refl _ _ | apply Below.drew | apply below_drewN | apply balloc | (refine Below.setCell ?_ (by first | omega | (simp <;> omega)) _)))⟩
      case round =>
        obtain ⟨rfl, hB⟩ := hrel
        (go_wp2_with fail; repeat (any_goals (go_quiet (fail); go_wp2_with fail)))
        go_ret
        exact ⟨rfl, (by repeat (first | assumption | exact Below.refl _ _ | apply Below.drew | apply below_drewN | apply balloc | (refine Below.setCell ?_ (by first | omega | (simp <;> omega)) _)))⟩
    · replace h1 := Lib.hid h1
      replace h2 := Lib.hid h2
      go_enter Tryz.func23, Tryz.ntmps23
      (go_wp2_with fail; repeat (any_goals (go_quiet (fail); go_wp2_with fail)))
      go_loopw [13] (fun v wr => v = .int .i64 0 ∧ Below w.heap.size w wr) (fun _ _ => 0)
      case atStart => exact ⟨rfl, (by repeat (first | assumption | exact Below.refl _ _ | apply Below.drew | apply below_drewN | apply balloc | (refine Below.setCell ?_ (by first | omega | (simp <;> omega)) _)))⟩
      case round =>
        obtain ⟨rfl, hB⟩ := hrel
        (go_wp2_with fail; repeat (any_goals (go_quiet (fail); go_wp2_with fail)))
        go_ret
        exact ⟨rfl, (by repeat (first | assumption | exact Below.refl _ _ | apply Below.drew | apply below_drewN | apply balloc | (refine Below.setCell ?_ (by first | omega | (simp <;> omega)) _)))⟩
  · rcases h2.form with ⟨rfl, rfl⟩ | ⟨g2, c2, rfl, hb2, hg2, hl2, hm2⟩
    · replace h1 := Lib.hid h1
      replace h2 := Lib.hid h2
      go_enter Tryz.func23, Tryz.ntmps23
      (go_wp2_with fail; repeat (any_goals (go_quiet (fail); go_wp2_with fail)))
      go_loopw [13] (fun v wr => v = .int .i64 0 ∧ Below w.heap.size w wr) (fun _ _ => 0)
      case atStart => exact ⟨rfl, (by repeat (first | assumption | exact Below.refl _ _ | apply Below.drew | apply below_drewN | apply balloc | (refine Below.setCell ?_ (by first | omega | (simp <;> omega)) _)))⟩
      case round =>
        obtain ⟨rfl, hB⟩ := hrel
        (go_wp2_with fail; repeat (any_goals (go_quiet (fail); go_wp2_with fail)))
        go_ret
        exact ⟨rfl, (by repeat (first | assumption | exact Below.refl _ _ | apply Below.drew | apply below_drewN | apply balloc | (refine Below.setCell ?_ (by first | omega | (simp <;> omega)) _)))⟩
    · replace h1 := Lib.hid h1
      replace h2 := Lib.hid h2
      unfold maxLen at hm1 hm2
      obtain ⟨n, hn⟩ : ∃ n, n = ts.length := ⟨_, rfl⟩
      rw [← hn] at hl1 hl2 h1 h2 ⊢
      have hn1 : (n : Int) ≤ 9223372036854775807 := by omega
      replace hn := Lib.hid hn
      go_enter Tryz.func23, Tryz.ntmps23
      (go_wp2_with fail; repeat (any_goals (go_quiet (fail); go_wp2_with fail)))
      go_loopw [13] (fun v wr => ∃ k : Nat, k ≤ n ∧ v = .int .i64 (k : Int) ∧ Below w.heap.size w wr) (fun v _ => n - (intOf v).toNat)
      case atStart => exact ⟨0, Nat.zero_le _, rfl, (by repeat (first | assumption | exact Below.refl _ _ | apply Below.drew | apply below_drewN | apply balloc | (refine Below.setCell ?_ (by first | omega | (simp <;> omega)) _)))⟩
      case round =>
        obtain ⟨k, hk, rfl, hB⟩ := hrel
        by_cases hlt : k < n
        · have hj : ts[k]? = some (ts[k]'(by rw [← hn.out]; exact hlt)) := List.getElem?_eq_getElem _
          obtain ⟨x0, x1, x2, x3⟩ := (h1.out.next hB).at hj
          obtain ⟨y0, y1, y2, y3⟩ := (h2.out.next hB).at hj
          replace hj := Lib.hid hj
          generalize ts[k]'(by rw [← hn.out]; exact hlt) = T at *
          (go_wp2_with fail; repeat (any_goals (go_quiet (fail); go_wp2_with fail)))
          go_roundw
          case rel => exact ⟨k + 1, by omega, by go_num, (by repeat (first | assumption | exact Below.refl _ _ | apply Below.drew | apply below_drewN | apply balloc | (refine Below.setCell ?_ (by first | omega | (simp <;> omega)) _)))⟩
          case measure => simp [intOf]; omega
        · (go_wp2_with fail; repeat (any_goals (go_quiet (fail); go_wp2_with fail)))
          go_ret
          exact ⟨rfl, (by repeat (first | assumption | exact Below.refl _ _ | apply Below.drew | apply below_drewN | apply balloc | (refine Below.setCell ?_ (by first | omega | (simp <;> omega)) _)))⟩
@[go_sem] theorem as_At (v : Value) (w : World) : (Instr.typeAssert (.iface 69 v) 26 69 true).run Tryz.prog w = .ok (.tuple #[v, .bool true]) w := by kernel_rfl
set_option maxHeartbeats 1000000 in
set_option maxRecDepth 100000 in
theorem Place_at {A : Nat → Addr} {B : Nat} (k : Nat) (p : Int) (g : Nat) (w : World) (h1 : 1 ≤ k) (h2 : k ≤ 19) (hE : Env A B SVN w) (hat : AtB p (.iface 237 (.pointer (some (A k)))) g w) :
    Calls Tryz.prog 43 #[.iface 69 (.pointer (some ⟨g, 0, none⟩))] w fun e w' => e = .returned (.tuple #[.int .i64 (k : Int), .int .i64 p]) ∧ Below w.heap.size w w' := by
  have N := Lib.hid (fun w hE => Num_err (A := A) (B := B) k w h1 h2 hE)
  have x0 : w.cell? ⟨g, 0, none⟩ = some (.int .i64 p) := cellB hat 0 rfl
  have x1 : w.cell? ⟨g, 1, none⟩ = some (.iface 237 (.pointer (some (A k)))) := cellB hat 1 rfl
  have hk : ¬ (k : Int) < 1 := by omega
  replace hat := Lib.hid hat
  replace h1 := Lib.hid h1
  go_enter Tryz.func43, Tryz.ntmps43
  (go_wp2_with fail; repeat (any_goals (go_quiet (fail); go_wp2_with fail)))
  refine (N.out _ (hE.next (by repeat (first | assumption | exact Below.refl _ _ | apply Below.drew | apply below_drewN | apply balloc | (refine Below.setCell ?_ (by first | omega | (simp <;> omega)) _))))).mono ?_
  rintro e w1 ⟨rfl, hb⟩
  have hb1 : Below w.heap.size w w1 := bcall (by repeat (first | assumption | exact Below.refl _ _ | apply Below.drew | apply below_drewN | apply balloc | (refine Below.setCell ?_ (by first | omega | (simp <;> omega)) _))) hb
  have y0 : w1.cell? ⟨g, 0, none⟩ = some (.int .i64 p) := cellB (box_next hat.out hb1) 0 rfl
  clear hb x0 x1
  (go_wp2_with fail; repeat (any_goals (go_quiet (fail); go_wp2_with fail)))
  go_ret2
  exact ⟨rfl, (by repeat (first | assumption | exact Below.refl _ _ | apply Below.drew | apply below_drewN | apply balloc | (refine Below.setCell ?_ (by first | omega | (simp <;> omega)) _)))⟩

end Go.Proofs.YtibopkodoidjoaaGreatDoor

/- strconv.ParseInt at base 10. -/
namespace Go.Proofs.YtibopkodoidjoaaGreatDoor
open Go Go.RowKit

/-- strconv.ParseInt at base 10: a value, or an error that is not nil. -/
theorem ParseInt_ok {A : Nat → Addr} {B : Nat} {S : List Nat} (s : ByteArray) (w : World) (hs : s.size ≤ 140737488351232) (_hE : Env A B S w) (v : Int) (h : Lib.parseIntB 64 s.data.toList = .ok v) :
    Calls Tryz.prog 74 #[.string s, .int .i64 10, .int .i64 64] w fun e w' => e = .returned (.tuple #[.int .i64 v, .nilIface]) ∧ Below w.heap.size w w' :=
  (Tryz.strconv_ParseInt_10_at64_ok s (by omega) v h w).mono fun e w' ⟨he, hw⟩ => ⟨he, by
    rcases hw with hw | ⟨t, hw⟩
    · subst hw; exact Below.refl _ _
    · subst hw; exact Lib.bytesWorld_below _ _ _⟩
theorem ParseInt_bad {A : Nat → Addr} {B : Nat} {S : List Nat} (s : ByteArray) (w : World) (hs : s.size ≤ 140737488351232) (hE : Env A B S w) (h : ∀ v, Lib.parseIntB 64 s.data.toList ≠ .ok v) (h20 : 20 ∈ S := by decide) (h21 : 21 ∈ S := by decide) :
    Calls Tryz.prog 74 #[.string s, .int .i64 10, .int .i64 64] w fun e w' => (∃ n a, e = .returned (.tuple #[.int .i64 n, .iface 206 (.pointer (some a))])) ∧ Below w.heap.size w w' := by
  cases hp : Lib.parseIntB 64 s.data.toList
  case ok v => exact absurd hp (h v)
  all_goals first
    | exact (Tryz.strconv_ParseInt_10_at64_range s (by omega) hp _ w (hE.e20 h20) (Or.inr ⟨_, _, rfl⟩)).mono fun e w' ⟨N, he, _, _, hb⟩ => ⟨⟨_, _, he⟩, hb⟩
    | exact (Any.strconv_ParseInt_10_at64_syntax Tryz.laysC174 s (by omega) hp _ w (hE.e21 h21) (Or.inr ⟨_, _, rfl⟩)).mono fun e w' ⟨N, he, _, _, hb⟩ => ⟨⟨_, _, he⟩, hb⟩

end Go.Proofs.YtibopkodoidjoaaGreatDoor

/- Package scan: only, Unquote, Number. -/
namespace Go.Proofs.YtibopkodoidjoaaGreatDoor
open Go Go.RowKit

theorem single_iff {s : ByteArray} {k : Nat} {T : Tk} (h0 : (someS s).2.1 = 0) (h : (someS s).1 = [T]) : single s k (someS s).1 = true ↔ T.kind = k ∧ T.to - T.fr = s.size := by
  obtain ⟨hu, hch, _⟩ := some_chain h0
  have hbd := chain_bd _ 0 ((utfE_brk _).1 hu) (Nat.zero_le _) hch T (by rw [h]; simp)
  rw [h]
  unfold single
  simp only [Bool.and_eq_true, beq_iff_eq]
  omega
def zTk : Value := .agg #[.int .i64 0, .int .i64 0, .int .i64 0, .string ⟨#[]⟩]
/-- What only answers. -/
def OnlyR (A : Nat → Addr) (base : Nat) (s : ByteArray) (k : Nat) (e : Ending) (w' : World) : Prop :=
  ((someS s).2.1 = 0 ∧ single s k (someS s).1 = true ∧ ∃ T, (someS s).1 = [T] ∧ e = .returned (.tuple #[tkV T, .nilIface])) ∨
  ((someS s).2.1 = 0 ∧ single s k (someS s).1 = false ∧ e = .returned (.tuple #[zTk, .iface 237 (.pointer (some (A 5)))])) ∨
  ((someS s).2.1 ≠ 0 ∧ ∃ g, base ≤ g ∧ e = .returned (.tuple #[zTk, .iface 69 (.pointer (some ⟨g, 0, none⟩))]) ∧ AtB ((someS s).2.2 : Int) (.iface 237 (.pointer (some (A (someS s).2.1)))) g w')
abbrev SK : List Nat := [1, 2, 5]
theorem heap_set {b g : Nat} (w : World) (i : Nat) (v : Value) (_ : Unit) (h : b ≠ g) : (w.setCell ⟨b, i, none⟩ v).heap[g]? = w.heap[g]? := by
  exact Below.heap_setCell _ _ _ _ (fun h2 => h h2.symm)
set_option maxHeartbeats 4000000 in
set_option maxRecDepth 100000 in
theorem only_calls {A : Nat → Addr} {B : Nat} (s : ByteArray) (k : Nat) (w : World) (hE : Env A B SK w) (hs : s.size ≤ 3518437208882) :
    Calls Tryz.prog 72 #[.string s, .int .i64 (k : Int)] w fun e w' => OnlyR A w.heap.size s k e w' ∧ Below w.heap.size w w' := by
  have hs' : (s.size : Int) ≤ 3518437208882 := by omega
  have C := Lib.hid (fun w hE => Scan_calls (A := A) (B := B) s w hE (by omega))
  have hsi := Lib.hid (fun T h0 h => single_iff (s := s) (k := k) (T := T) h0 h)
  have hbd : Hid (∀ T, (someS s).2.1 = 0 → (someS s).1 = [T] → T.fr ≤ T.to ∧ T.to ≤ s.size) := Lib.hid (fun T h0 h => by
    obtain ⟨hu, hch, _⟩ := some_chain h0
    have := chain_bd _ 0 ((utfE_brk _).1 hu) (Nat.zero_le _) hch T (by rw [h]; simp)
    exact ⟨by omega, by omega⟩)
  have hsn : Hid ((∀ T, (someS s).1 ≠ [T]) → single s k (someS s).1 = false) := Lib.hid (fun h => by
    unfold single
    split
    · rename_i T hT; exact absurd hT (h T)
    · rfl)
  unfold OnlyR zTk tkV
  generalize someS s = R at *
  replace hs := Lib.hid hs
  go_enter Tryz.func72, Tryz.ntmps72
  (go_wp2_with fail; repeat (any_goals (go_quiet (fail); go_wp2_with fail)))
  refine (C.out _ ((hE.sub (by decide)).next (by repeat (first | assumption | exact Below.refl _ _ | apply Below.drew | apply below_drewN | apply balloc | (refine Below.setCell ?_ (by first | omega | (simp <;> omega)) _))))).mono ?_
  rintro e w1 ⟨hr, hb⟩
  have hv : w1.heap[w.heap.size]? = some tkZ := box_next (heap_alloc_new w _) hb
  have hb1 : Below w.heap.size w w1 := bcall (by repeat (first | assumption | exact Below.refl _ _ | apply Below.drew | apply below_drewN | apply balloc | (refine Below.setCell ?_ (by first | omega | (simp <;> omega)) _))) hb
  have hE1 := hE.next hb1
  have e5 := hE1.e5
  have l5 := hE.l5
  clear hb
  unfold ScanR at hr
  by_cases h0 : R.2.1 = 0
  · rw [if_pos h0] at hr
    obtain ⟨v, rfl, ho⟩ := hr
    have ho : OwnT w1 (w.heap.size + 1) v R.1 := by
      have := ho
      rw [World.size_alloc] at this
      exact this
    replace h0 := Lib.hid h0
    have x0 := cellB hv 0 rfl
    have x1 := cellB hv 1 rfl
    have x2 := cellB hv 2 rfl
    have x3 := cellB hv 3 rfl
    have f0 := freeB hv 0
    have f1 := freeB hv 1
    have f2 := freeB hv 2
    have f3 := freeB hv 3
    have hvl := ltB hv
    have hz1 := hb1.size
    replace hv := Lib.hid hv
    by_cases hone : ∃ T, R.1 = [T]
    · obtain ⟨T, hT⟩ := hone
      rcases ho.form with ⟨h, _⟩ | ⟨g, cap, rfl, hbg, hgl, hnl, hcm⟩
      · rw [hT] at h; cases h
      have hi := hsi.out T h0.out hT
      have hd := hbd.out T h0.out hT
      obtain ⟨y0, y1, y2, y3⟩ := ho.at (j := 0) (T := T) (by rw [hT]; rfl)
      rw [hT] at hnl ⊢
      have hlen : (([T] : List Tk).length : Int) = 1 := rfl
      simp only [List.length_singleton] at hnl
      unfold maxLen at hcm
      replace ho := Lib.hid ho
      have hT2 := Lib.hid hT
      replace hT := Lib.hid hT
      clear hlen
      by_cases hk : T.kind = k
      · have hk' : ((T.kind : Int) != (k : Int)) = false := by simp; omega
        replace hk := Lib.hid hk
        by_cases hz : T.to - T.fr = s.size
        · have hz' : ((T.to : Int) - (T.fr : Int) != (s.size : Int)) = false := by simp; omega
          have hs1 : single s k [T] = true := by rw [← hT.out]; exact hi.2 ⟨hk.out, hz⟩
          replace hz := Lib.hid hz
          replace hi := Lib.hid hi
          replace hs1 := Lib.hid hs1
          (go_wp2_with fail; repeat (any_goals (go_quiet (fail); go_wp2_with fail)))
          refine bodyPost_ret (v := .tuple #[.agg #[.int .i64 (T.kind : Int), .int .i64 (T.fr : Int), .int .i64 (T.to : Int), .string T.text], .nilIface]) (by simp [results, Tryz.results72, go_sem, *]) rfl ⟨Or.inl ⟨h0.out, by rw [hT2.out]; exact hs1.out, T, hT2.out, rfl⟩, (by repeat (first | assumption | exact Below.refl _ _ | apply Below.drew | apply below_drewN | apply balloc | (refine Below.setCell ?_ (by first | omega | (simp <;> omega)) _)))⟩
        · have hz' : ((T.to : Int) - (T.fr : Int) != (s.size : Int)) = true := by simp; omega
          have hs1 : single s k R.1 = false := by rw [Bool.eq_false_iff]; exact fun h => hz (hi.1 h).2
          replace hz := Lib.hid hz
          replace hi := Lib.hid hi
          replace hs1 := Lib.hid hs1
          (go_wp2_with fail; repeat (any_goals (go_quiet (fail); go_wp2_with fail)))
          go_region
          all_goals
            (go_wp2_with fail; repeat (any_goals (go_quiet (fail); go_wp2_with fail)))
            refine bodyPost_ret (v := .tuple #[.agg #[.int .i64 0, .int .i64 0, .int .i64 0, .string ⟨#[]⟩], .iface 237 (.pointer (some (A 5)))]) (by simp [results, Tryz.results72, go_sem, *]) rfl ⟨Or.inr (Or.inl ⟨h0.out, hs1.out, rfl⟩), (by repeat (first | assumption | exact Below.refl _ _ | apply Below.drew | apply below_drewN | apply balloc | (refine Below.setCell ?_ (by first | omega | (simp <;> omega)) _)))⟩
      · have hk' : ((T.kind : Int) != (k : Int)) = true := by simp; omega
        have hs1 : single s k R.1 = false := by rw [Bool.eq_false_iff]; exact fun h => hk (hi.1 h).1
        replace hk := Lib.hid hk
        replace hi := Lib.hid hi
        replace hs1 := Lib.hid hs1
        (go_wp2_with fail; repeat (any_goals (go_quiet (fail); go_wp2_with fail)))
        go_region
        all_goals
          (go_wp2_with fail; repeat (any_goals (go_quiet (fail); go_wp2_with fail)))
          refine bodyPost_ret (v := .tuple #[.agg #[.int .i64 0, .int .i64 0, .int .i64 0, .string ⟨#[]⟩], .iface 237 (.pointer (some (A 5)))]) (by simp [results, Tryz.results72, go_sem, *]) rfl ⟨Or.inr (Or.inl ⟨h0.out, hs1.out, rfl⟩), (by repeat (first | assumption | exact Below.refl _ _ | apply Below.drew | apply below_drewN | apply balloc | (refine Below.setCell ?_ (by first | omega | (simp <;> omega)) _)))⟩
    · have hs1 : single s k R.1 = false := hsn.out (fun T h => hone ⟨T, h⟩)
      replace hs1 := Lib.hid hs1
      rcases ho.form with ⟨h, rfl⟩ | ⟨g, cap, rfl, hbg, hgl, hnl, hcm⟩
      · replace ho := Lib.hid ho
        replace h := Lib.hid h
        replace hone := Lib.hid hone
        (go_wp2_with fail; repeat (any_goals (go_quiet (fail); go_wp2_with fail)))
        go_region
        all_goals
          (go_wp2_with fail; repeat (any_goals (go_quiet (fail); go_wp2_with fail)))
          refine bodyPost_ret (v := .tuple #[.agg #[.int .i64 0, .int .i64 0, .int .i64 0, .string ⟨#[]⟩], .iface 237 (.pointer (some (A 5)))]) (by simp [results, Tryz.results72, go_sem, *]) rfl ⟨Or.inr (Or.inl ⟨h0.out, hs1.out, rfl⟩), (by repeat (first | assumption | exact Below.refl _ _ | apply Below.drew | apply below_drewN | apply balloc | (refine Below.setCell ?_ (by first | omega | (simp <;> omega)) _)))⟩
      · have hne : ((R.1.length : Int) != 1) = true := by
          simp
          intro h
          apply hone
          match hl : R.1, h with
          | [T], _ => exact ⟨T, rfl⟩
        generalize R.1.length = n at *
        replace ho := Lib.hid ho
        replace hone := Lib.hid hone
        (go_wp2_with fail; repeat (any_goals (go_quiet (fail); go_wp2_with fail)))
        go_region
        all_goals
          (go_wp2_with fail; repeat (any_goals (go_quiet (fail); go_wp2_with fail)))
          refine bodyPost_ret (v := .tuple #[.agg #[.int .i64 0, .int .i64 0, .int .i64 0, .string ⟨#[]⟩], .iface 237 (.pointer (some (A 5)))]) (by simp [results, Tryz.results72, go_sem, *]) rfl ⟨Or.inr (Or.inl ⟨h0.out, hs1.out, rfl⟩), (by repeat (first | assumption | exact Below.refl _ _ | apply Below.drew | apply below_drewN | apply balloc | (refine Below.setCell ?_ (by first | omega | (simp <;> omega)) _)))⟩
  · rw [if_neg h0] at hr
    obtain ⟨g, hg, rfl, hat⟩ := hr
    have hg2 : w.heap.size ≤ g := by simp at hg; omega
    have hg3 : Hid (w.heap.size ≠ g) := Lib.hid (by simp at hg; omega)
    replace hg := Lib.hid hg
    replace h0 := Lib.hid h0
    replace hat := Lib.hid hat
    have x0 := cellB hv 0 rfl
    have x1 := cellB hv 1 rfl
    have x2 := cellB hv 2 rfl
    have x3 := cellB hv 3 rfl
    have f0 := freeB hv 0
    have f1 := freeB hv 1
    have f2 := freeB hv 2
    have f3 := freeB hv 3
    have hvl := ltB hv
    have hz1 := hb1.size
    replace hv := Lib.hid hv
    (go_wp2_with fail; repeat (any_goals (go_quiet (fail); go_wp2_with fail)))
    refine bodyPost_ret (v := .tuple #[.agg #[.int .i64 0, .int .i64 0, .int .i64 0, .string ⟨#[]⟩], .iface 69 (.pointer (some ⟨g, 0, none⟩))]) (by simp [results, Tryz.results72, go_sem, *]) rfl ⟨Or.inr (Or.inr ⟨h0.out, g, hg2, rfl, ?_⟩), (by repeat (first | assumption | exact Below.refl _ _ | apply Below.drew | apply below_drewN | apply balloc | (refine Below.setCell ?_ (by first | omega | (simp <;> omega)) _)))⟩
    have h9 := hat.out
    unfold AtB at h9 ⊢
    have hg4 := hg3.out
    rw [heap_set _ _ _ () hg4, heap_set _ _ _ () hg4, heap_set _ _ _ () hg4, heap_set _ _ _ () hg4]
    exact h9

/-- What Unquote answers. -/
def UnqR (A : Nat → Addr) (base : Nat) (s : ByteArray) (e : Ending) (w' : World) : Prop :=
  ((someS s).2.1 = 0 ∧ single s 5 (someS s).1 = true ∧ ∃ T, (someS s).1 = [T] ∧ e = .returned (.tuple #[.string T.text, .nilIface])) ∨
  ((someS s).2.1 = 0 ∧ single s 5 (someS s).1 = false ∧ e = .returned (.tuple #[.string ⟨#[]⟩, .iface 237 (.pointer (some (A 5)))])) ∨
  ((someS s).2.1 ≠ 0 ∧ ∃ g, base ≤ g ∧ e = .returned (.tuple #[.string ⟨#[]⟩, .iface 69 (.pointer (some ⟨g, 0, none⟩))]) ∧ AtB ((someS s).2.2 : Int) (.iface 237 (.pointer (some (A (someS s).2.1)))) g w')
set_option maxHeartbeats 2000000 in
set_option maxRecDepth 100000 in
theorem Unquote_calls {A : Nat → Addr} {B : Nat} (s : ByteArray) (w : World) (hE : Env A B SK w) (hs : s.size ≤ 3518437208882) :
    Calls Tryz.prog 45 #[.string s] w fun e w' => UnqR A w.heap.size s e w' ∧ Below w.heap.size w w' := by
  have C := Lib.hid (fun w hE => only_calls (A := A) (B := B) s 5 w hE hs)
  replace hs := Lib.hid hs
  go_enter Tryz.func45, Tryz.ntmps45
  (go_wp2_with fail; repeat (any_goals (go_quiet (fail); go_wp2_with fail)))
  refine (C.out _ (hE.next (by repeat (first | assumption | exact Below.refl _ _ | apply Below.drew | apply below_drewN | apply balloc | (refine Below.setCell ?_ (by first | omega | (simp <;> omega)) _))))).mono ?_
  rintro e w1 ⟨hr, hb⟩
  have hb1 : Below w.heap.size w w1 := bcall (by repeat (first | assumption | exact Below.refl _ _ | apply Below.drew | apply below_drewN | apply balloc | (refine Below.setCell ?_ (by first | omega | (simp <;> omega)) _))) hb
  have hz1 := hb1.size
  clear hb
  rcases hr with ⟨h0, h1, T, h2, rfl⟩ | ⟨h0, h1, rfl⟩ | ⟨h0, g, hg, rfl, hat⟩
  · have hU : ∀ W, UnqR A w.heap.size s (.returned (.tuple #[.string T.text, .nilIface])) W := fun W => Or.inl ⟨h0, h1, T, h2, rfl⟩
    replace hU := Lib.hid hU
    replace h0 := Lib.hid h0
    replace h1 := Lib.hid h1
    replace h2 := Lib.hid h2
    unfold tkV
    (go_wp2_with fail; repeat (any_goals (go_quiet (fail); go_wp2_with fail)))
    go_ret2
    exact ⟨hU.out _, (by repeat (first | assumption | exact Below.refl _ _ | apply Below.drew | apply below_drewN | apply balloc | (refine Below.setCell ?_ (by first | omega | (simp <;> omega)) _)))⟩
  · have hU : ∀ W, UnqR A w.heap.size s (.returned (.tuple #[.string ⟨#[]⟩, .iface 237 (.pointer (some (A 5)))])) W := fun W => Or.inr (Or.inl ⟨h0, h1, rfl⟩)
    replace hU := Lib.hid hU
    replace h0 := Lib.hid h0
    replace h1 := Lib.hid h1
    unfold zTk
    (go_wp2_with fail; repeat (any_goals (go_quiet (fail); go_wp2_with fail)))
    go_ret2
    exact ⟨hU.out _, (by repeat (first | assumption | exact Below.refl _ _ | apply Below.drew | apply below_drewN | apply balloc | (refine Below.setCell ?_ (by first | omega | (simp <;> omega)) _)))⟩
  · have hU : ∀ W, Below w1.heap.size w1 W → UnqR A w.heap.size s (.returned (.tuple #[.string ⟨#[]⟩, .iface 69 (.pointer (some ⟨g, 0, none⟩))])) W := fun W hW => Or.inr (Or.inr ⟨h0, g, hg, rfl, box_next hat hW⟩)
    replace hU := Lib.hid hU
    replace h0 := Lib.hid h0
    replace hat := Lib.hid hat
    replace hg := Lib.hid hg
    unfold zTk
    (go_wp2_with fail; repeat (any_goals (go_quiet (fail); go_wp2_with fail)))
    go_ret2
    exact ⟨hU.out _ (by repeat (first | assumption | exact Below.refl _ _ | apply Below.drew | apply below_drewN | apply balloc | (refine Below.setCell ?_ (by first | omega | (simp <;> omega)) _))), (by repeat (first | assumption | exact Below.refl _ _ | apply Below.drew | apply below_drewN | apply balloc | (refine Below.setCell ?_ (by first | omega | (simp <;> omega)) _)))⟩

end Go.Proofs.YtibopkodoidjoaaGreatDoor

/- Plain laws: decimal digits of whole numbers. No program in sight. -/
namespace Go.Proofs.YtibopkodoidjoaaGreatDoor
open Go

def isDig (c : UInt8) : Prop := 48 ≤ c.toNat ∧ c.toNat ≤ 57
instance (c : UInt8) : Decidable (isDig c) := by unfold isDig; infer_instance
/-- What digits tell, behind acc. -/
def dvalA (acc : Nat) (l : List UInt8) : Nat := l.foldl (fun a c => a * 10 + (c.toNat - 48)) acc
/-- Digits without a needless nought ahead. -/
def Canon (l : List UInt8) : Prop := (∀ c ∈ l, isDig c) ∧ l ≠ [] ∧ (l.head? ≠ some 48 ∨ l = [48])
end Go.Proofs.YtibopkodoidjoaaGreatDoor

/- Plain laws: digits as bytes and as a list. -/
namespace Go.Proofs.YtibopkodoidjoaaGreatDoor
open Go Go.RowKit

/-- All digits, no zero ahead. -/
def digT (t : ByteArray) : Prop := (∀ j, j < t.size → 48 ≤ bAt t j ∧ bAt t j ≤ 57) ∧ (t.size = 1 ∨ (1 < t.size ∧ bAt t 0 ≠ 48))
theorem bAt_list (t : ByteArray) (j : Nat) (h : j < t.size) : ∃ c, t.data.toList[j]? = some c ∧ c.toNat = bAt t j := by
  refine ⟨t[j], ?_, bAt_eq t j h⟩
  rw [Array.getElem?_toList]
  exact Array.getElem?_eq_getElem h
/-- What Whole answers. -/
def wholeV (l : List UInt8) : Int × Bool := match Lib.parseIntB 64 l with | .ok v => (v, true) | _ => (0, false)

end Go.Proofs.YtibopkodoidjoaaGreatDoor

/- Package scan: Number. -/
namespace Go.Proofs.YtibopkodoidjoaaGreatDoor
open Go Go.RowKit

/-- The whole number that a number of JSON tells, and the error's number. -/
def numS (s : ByteArray) : Int × Nat :=
  if (someS s).2.1 = 0 ∧ single s 4 (someS s).1 = true then (if hasE s = true then (0, 4) else if (wholeV s.data.toList).2 = true then ((wholeV s.data.toList).1, 0) else (0, 4)) else (0, 2)
abbrev SKN : List Nat := [1, 2, 4, 5, 20, 21]
theorem single_bytes {s : ByteArray} {k : Nat} (h0 : (someS s).2.1 = 0) (h : single s k (someS s).1 = true) : ∃ T, (someS s).1 = [T] ∧ T.kind = k ∧ T.fr = 0 ∧ T.to = s.size ∧ oneAt s 0 = (0, 0, T) ∧ 0 < s.size := by
  obtain ⟨hu, hch, _⟩ := some_chain h0
  have hbd := chain_bd _ 0 ((utfE_brk _).1 hu) (Nat.zero_le _) hch
  unfold single at h
  split at h
  · rename_i T hT
    simp only [Bool.and_eq_true, beq_iff_eq] at h
    have := hbd T (by rw [hT]; simp)
    rw [h.2.1] at this
    exact ⟨T, hT, h.1, h.2.1, h.2.2, this.2.2.2.2.2, by omega⟩
  · cases h
theorem one_kind4 {s : ByteArray} {T : Tk} (h : oneAt s 0 = (0, 0, T)) (hk : T.kind = 4) : numAt s 0 = (true, T.to) := by
  unfold oneAt at h
  simp only at h
  by_cases h1 : signK (bAt s 0) ≠ 0
  · rw [if_pos h1] at h
    simp only [Prod.mk.injEq, true_and] at h
    subst h
    simp only at hk
    unfold signK at hk
    repeat' split at hk
    all_goals omega
  rw [if_neg h1] at h
  by_cases h2 : bAt s 0 = 110
  · rw [if_pos h2] at h
    split at h <;> (simp only [Prod.mk.injEq, true_and] at h; first | (subst h; simp at hk) | (simp at h))
  rw [if_neg h2] at h
  by_cases h3 : bAt s 0 = 116
  · rw [if_pos h3] at h
    split at h <;> (simp only [Prod.mk.injEq, true_and] at h; first | (subst h; simp at hk) | (simp at h))
  rw [if_neg h3] at h
  by_cases h4 : bAt s 0 = 102
  · rw [if_pos h4] at h
    split at h <;> (simp only [Prod.mk.injEq, true_and] at h; first | (subst h; simp at hk) | (simp at h))
  rw [if_neg h4] at h
  by_cases h5 : bAt s 0 = 45 ∨ isD (bAt s 0) = true
  · rw [if_pos h5] at h
    cases hN : numAt s 0 with
    | mk b e =>
      rw [hN] at h
      cases b with
      | true => rw [if_pos rfl] at h; simp only [Prod.mk.injEq, true_and] at h; subst h; rfl
      | false => simp at h
  rw [if_neg h5] at h
  by_cases h6 : bAt s 0 = 34
  · rw [if_pos h6] at h
    split at h
    · simp only [Prod.mk.injEq, true_and] at h; subst h; simp at hk
    · rename_i hx
      simp only [Prod.mk.injEq] at h
      exact absurd h.1 hx
  · rw [if_neg h6] at h; simp at h
theorem num_ascii {s : ByteArray} (h : numAt s 0 = (true, s.size)) : ∀ (j : Nat) b, s.data.toList[j]? = some b → b.toNat < 128 := by
  intro j b hj
  have hl := numAt_low s 0 (Nat.zero_le _)
  rw [h] at hl
  have hjl : j < s.size := by
    have : s.data.toList.length = s.size := by rw [Array.length_toList]; rfl
    rcases Nat.lt_or_ge j s.data.toList.length with h | h
    · omega
    · rw [List.getElem?_eq_none h] at hj; cases hj
  have h2 := hl.2.2 j (Nat.zero_le _) hjl
  obtain ⟨c, hc, hn⟩ := bAt_list s j hjl
  rw [hj] at hc
  cases hc
  omega
theorem hasE_any (s : ByteArray) : Lib.containsAny s.data.toList [46, 101, 69] = hasE s := by
  unfold Lib.containsAny hasE
  generalize s.data.toList = l
  induction l with
  | nil => rfl
  | cons b l ih =>
    have hge := Lib.indexAny_ge [46, 101, 69] l
    rw [List.any_cons, ← ih, Lib.indexAny]
    have hc : ([46, 101, 69] : List UInt8).contains b = (b == 46 || b == 101 || b == 69) := by rw [Bool.eq_iff_iff]; simp [or_assoc]
    cases hb : (b == 46 || b == 101 || b == 69) with
    | true => rw [if_pos (hc.trans hb)]; rfl
    | false =>
      rw [if_neg (by rw [hc, hb]; simp)]
      by_cases h0 : Lib.indexAny l [46, 101, 69] = -1
      · rw [if_pos (by simp [h0]), h0]; rfl
      · rw [if_neg (by simpa using h0), decide_eq_true (by omega), decide_eq_true (by omega)]; rfl
/-- What Number answers. -/
def errN (A : Nat → Addr) (k : Nat) : Value := if k = 0 then .nilIface else .iface 237 (.pointer (some (A k)))
set_option maxHeartbeats 2000000 in
set_option maxRecDepth 100000 in
theorem Number_calls {A : Nat → Addr} {B : Nat} (s : ByteArray) (w : World) (hE : Env A B SKN w) (hs : s.size ≤ 1073741824) :
    Calls Tryz.prog 46 #[.string s] w fun e w' => e = .returned (.tuple #[.int .i64 (numS s).1, errN A (numS s).2]) ∧ Below w.heap.size w w' := by
  have C := Lib.hid (fun w hE => only_calls (A := A) (B := B) s 4 w hE (by omega))
  obtain ⟨N, hN⟩ : ∃ N, N = numS s := ⟨_, rfl⟩
  rw [← hN]
  replace hN := Lib.hid hN
  have e2 := hE.e2
  have e4 := hE.e4
  have l2 := hE.l2
  have l4 := hE.l4
  replace hs := Lib.hid hs
  go_enter Tryz.func46, Tryz.ntmps46
  (go_wp2_with fail; repeat (any_goals (go_quiet (fail); go_wp2_with fail)))
  refine (C.out _ ((hE.sub (by decide)).next (by repeat (first | assumption | exact Below.refl _ _ | apply Below.drew | apply below_drewN | apply balloc | (refine Below.setCell ?_ (by first | omega | (simp <;> omega)) _))))).mono ?_
  rintro e w1 ⟨hr, hb⟩
  have hb1 : Below w.heap.size w w1 := bcall (by repeat (first | assumption | exact Below.refl _ _ | apply Below.drew | apply below_drewN | apply balloc | (refine Below.setCell ?_ (by first | omega | (simp <;> omega)) _))) hb
  have hE1 := hE.next hb1
  have hz1 := hb1.size
  have y2 := hE1.e2
  have y4 := hE1.e4
  have k2 := hE1.l2
  have k4 := hE1.l4
  clear hb e2 e4
  rcases hr with ⟨h0, h1, T, h2, rfl⟩ | ⟨h0, h1, rfl⟩ | ⟨h0, g, hg, rfl, hat⟩
  · obtain ⟨T', hT', hk, _, hto, hone, hpos⟩ := single_bytes h0 h1
    rw [h2] at hT'
    obtain rfl : T = T' := by simpa using hT'
    have hnum := one_kind4 hone hk
    rw [hto] at hnum
    have hasc := Lib.hid (num_ascii hnum)
    have hNe := hN.out
    unfold numS at hNe
    rw [if_pos ⟨h0, h1⟩] at hNe
    clear hN
    have D := Lib.hid (fun w => (Tryz.strings_ContainsAny_laid s ⟨#[46, 101, 69]⟩ w (by have := hs.out; omega) (by decide) hasc.out (by
      intro j b hj
      match j, hj with
      | 0, hj => simp at hj; subst hj; decide
      | 1, hj => simp at hj; subst hj; decide
      | 2, hj => simp at hj; subst hj; decide)))
    have hany : Hid (Lib.containsAny s.data.toList (⟨#[46, 101, 69]⟩ : ByteArray).data.toList = hasE s) := Lib.hid (hasE_any s)
    have hPI := Lib.hid (fun v h w hE => ParseInt_ok (A := A) (B := B) (S := SKN) s w (by have := hs.out; omega) hE v h)
    have hPB := Lib.hid (fun h w hE => ParseInt_bad (A := A) (B := B) (S := SKN) s w (by have := hs.out; omega) hE h)
    replace h0 := Lib.hid h0
    replace h1 := Lib.hid h1
    replace h2 := Lib.hid h2
    replace hk := Lib.hid hk
    replace hto := Lib.hid hto
    replace hone := Lib.hid hone
    replace hnum := Lib.hid hnum
    replace hT' := Lib.hid hT'
    replace hpos := Lib.hid hpos
    unfold tkV
    cases hh : hasE s with
    | true =>
      rw [hh] at hany
      rw [if_pos hh] at hNe
      have hN := Lib.hid hNe
      clear hNe
      replace hh := Lib.hid hh
      (go_wp2_with fail; repeat (any_goals (go_quiet (fail); go_wp2_with fail)))
      refine (D.out _).mono ?_
      rintro e w2 ⟨rfl, hb⟩
      have hb2 : Below w.heap.size w w2 := bcall (by repeat (first | assumption | exact Below.refl _ _ | apply Below.drew | apply below_drewN | apply balloc | (refine Below.setCell ?_ (by first | omega | (simp <;> omega)) _))) hb
      have z4 := (hE.next hb2).e4
      rw [hany.out]
      clear hb
      (go_wp2_with fail; repeat (any_goals (go_quiet (fail); go_wp2_with fail)))
      all_goals
        go_ret2
        refine ⟨?_, (by repeat (first | assumption | exact Below.refl _ _ | apply Below.drew | apply below_drewN | apply balloc | (refine Below.setCell ?_ (by first | omega | (simp <;> omega)) _)))⟩
        rw [hN.out]; rfl
    | false =>
      rw [hh] at hany
      rw [if_neg (by rw [hh]; simp)] at hNe
      replace hh := Lib.hid hh
      (go_wp2_with fail; repeat (any_goals (go_quiet (fail); go_wp2_with fail)))
      refine (D.out _).mono ?_
      rintro e w2 ⟨rfl, hb⟩
      have hb2 : Below w.heap.size w w2 := bcall (by repeat (first | assumption | exact Below.refl _ _ | apply Below.drew | apply below_drewN | apply balloc | (refine Below.setCell ?_ (by first | omega | (simp <;> omega)) _))) hb
      have hE2 := hE.next hb2
      rw [hany.out]
      clear hb
      (go_wp2_with fail; repeat (any_goals (go_quiet (fail); go_wp2_with fail)))
      cases hp : Lib.parseIntB 64 s.data.toList
      case ok v =>
        have hv : wholeV s.data.toList = (v, true) := by unfold wholeV; rw [hp]
        rw [hv, if_pos rfl] at hNe
        have hN := Lib.hid hNe
        clear hNe
        refine (hPI.out v hp _ hE2).mono ?_
        rintro e w3 ⟨rfl, hb⟩
        have hb3 : Below w.heap.size w w3 := bcall (by repeat (first | assumption | exact Below.refl _ _ | apply Below.drew | apply below_drewN | apply balloc | (refine Below.setCell ?_ (by first | omega | (simp <;> omega)) _))) hb
        clear hb
        (go_wp2_with fail; repeat (any_goals (go_quiet (fail); go_wp2_with fail)))
        go_ret2
        refine ⟨?_, (by repeat (first | assumption | exact Below.refl _ _ | apply Below.drew | apply below_drewN | apply balloc | (refine Below.setCell ?_ (by first | omega | (simp <;> omega)) _)))⟩
        rw [hN.out]; rfl
      all_goals
        have hv : wholeV s.data.toList = (0, false) := by unfold wholeV; rw [hp]
        rw [hv, if_neg (by simp)] at hNe
        have hN := Lib.hid hNe
        clear hNe
        refine (hPB.out (by rw [hp]; simp) _ hE2).mono ?_
        rintro e w3 ⟨⟨n, a, rfl⟩, hb⟩
        have hb3 : Below w.heap.size w w3 := bcall (by repeat (first | assumption | exact Below.refl _ _ | apply Below.drew | apply below_drewN | apply balloc | (refine Below.setCell ?_ (by first | omega | (simp <;> omega)) _))) hb
        have z4 := (hE.next hb3).e4
        clear hb
        (go_wp2_with fail; repeat (any_goals (go_quiet (fail); go_wp2_with fail)))
        go_ret2
        refine ⟨?_, (by repeat (first | assumption | exact Below.refl _ _ | apply Below.drew | apply below_drewN | apply balloc | (refine Below.setCell ?_ (by first | omega | (simp <;> omega)) _)))⟩
        rw [hN.out]; rfl
  · have hN2 : Hid (N = (0, 2)) := Lib.hid (by rw [hN.out]; unfold numS; rw [if_neg (by rw [h1]; simp)])
    replace h0 := Lib.hid h0
    replace h1 := Lib.hid h1
    unfold zTk
    (go_wp2_with fail; repeat (any_goals (go_quiet (fail); go_wp2_with fail)))
    all_goals
      go_ret2
      refine ⟨?_, (by repeat (first | assumption | exact Below.refl _ _ | apply Below.drew | apply below_drewN | apply balloc | (refine Below.setCell ?_ (by first | omega | (simp <;> omega)) _)))⟩
      rw [hN2.out]; rfl
  · have hN2 : Hid (N = (0, 2)) := Lib.hid (by rw [hN.out]; unfold numS; rw [if_neg (fun h => h0 h.1)])
    replace h0 := Lib.hid h0
    replace hat := Lib.hid hat
    replace hg := Lib.hid hg
    unfold zTk
    (go_wp2_with fail; repeat (any_goals (go_quiet (fail); go_wp2_with fail)))
    all_goals
      go_ret2
      refine ⟨?_, (by repeat (first | assumption | exact Below.refl _ _ | apply Below.drew | apply below_drewN | apply balloc | (refine Below.setCell ?_ (by first | omega | (simp <;> omega)) _)))⟩
      rw [hN2.out]; rfl

end Go.Proofs.YtibopkodoidjoaaGreatDoor

/- Package scan: Quote. -/
namespace Go.Proofs.YtibopkodoidjoaaGreatDoor
open Go Go.RowKit

theorem hexL_hi : ∀ c : Nat, c < 32 → ((hexL.getD (c / 16) 0).toNat : Int) = 48 + (c : Int) / 16 := by decide +kernel
theorem hexB_at : ∀ m : Nat, m < 16 → bAt ⟨#[48, 49, 50, 51, 52, 53, 54, 55, 56, 57, 97, 98, 99, 100, 101, 102]⟩ m = (hexL.getD m 0).toNat := by decide +kernel
theorem hexB_at2 (c : Nat) : ∀ h, (((⟨#[48, 49, 50, 51, 52, 53, 54, 55, 56, 57, 97, 98, 99, 100, 101, 102]⟩ : ByteArray)[c % 16]'h).toNat : Int) = ((hexL.getD (c % 16) 0).toNat : Int) := fun h => by
  rw [bAt_eq, hexB_at _ (Nat.mod_lt _ (by decide))]
/-- What is written when k bytes are through. -/
def quoteK (s : ByteArray) (k : Nat) : List UInt8 := 34 :: (s.data.toList.take k).flatMap escB
theorem quoteK_succ {s : ByteArray} {k : Nat} (h : k < s.size) : quoteK s (k + 1) = quoteK s k ++ escB (UInt8.ofNat (bAt s k)) := by
  have hl : s.data.toList.length = s.size := by rw [Array.length_toList]; rfl
  unfold quoteK
  rw [List.take_succ_eq_append_getElem (by omega), List.flatMap_append, List.cons_append]
  have e : s.data.toList[k]'(by omega) = UInt8.ofNat (bAt s k) := by
    rw [← bAt_eq s k h]
    simp; rfl
  rw [e]
  simp
theorem escB_len (b : UInt8) : (escB b).length ≤ 6 := by
  unfold escB; repeat' split
  all_goals simp
theorem quoteK_len (s : ByteArray) : ∀ k, k ≤ s.size → (quoteK s k).length ≤ 1 + 6 * k
  | 0, _ => by simp [quoteK]
  | k + 1, h => by
    rw [quoteK_succ (by omega), List.length_append]
    have := quoteK_len s k (by omega)
    have := escB_len (UInt8.ofNat (bAt s k))
    omega
theorem quoteK_end (s : ByteArray) : (⟨(quoteK s s.size ++ [34]).toArray⟩ : ByteArray) = quoteS s := by
  have hl : s.data.toList.length = s.size := by rw [Array.length_toList]; rfl
  unfold quoteS quoteL quoteK
  rw [List.take_of_length_le (by omega)]
  rfl
theorem u8n {c : Nat} (h : c < 256) : (UInt8.ofNat c).toNat = c := by rw [UInt8.toNat_ofNat']; omega
theorem escB_two {c : Nat} (h : c < 256) (h2 : c = 34 ∨ c = 92) : escB (UInt8.ofNat c) = [92, UInt8.ofNat c] := by
  unfold escB; rw [if_pos]; rcases h2 with rfl | rfl <;> simp
theorem escB_six {c : Nat} (h : c < 32) : escB (UInt8.ofNat c) = [92, 117, 48, 48, hexL.getD (c / 16) 0, hexL.getD (c % 16) 0] := by
  have hc := u8n (c := c) (by omega)
  unfold escB
  rw [if_neg, if_pos (by rw [hc]; exact h), hc]
  rintro (e | e) <;> (have := congrArg UInt8.toNat e; rw [hc] at this; simp at this; omega)
theorem escB_one {c : Nat} (h : c < 256) (h2 : c ≠ 34) (h3 : c ≠ 92) (h4 : ¬ c < 32) : escB (UInt8.ofNat c) = [UInt8.ofNat c] := by
  have hc := u8n h
  unfold escB
  rw [if_neg, if_neg (by rw [hc]; exact h4)]
  rintro (e | e) <;> (have := congrArg UInt8.toNat e; rw [hc] at this; simp at this; omega)
set_option maxHeartbeats 4000000 in
set_option maxRecDepth 100000 in
theorem Quote_calls {A : Nat → Addr} {B : Nat} (s : ByteArray) (w : World) (hE : Env A B SU w) (hs : s.size ≤ 3518437208882) :
    Calls Tryz.prog 44 #[.string s] w fun e w' => e = .returned (if utfE s = 0 then .tuple #[.string (quoteS s), .nilIface] else .tuple #[.string ⟨#[]⟩, .iface 237 (.pointer (some (A 1)))]) ∧ Below w.heap.size w w' := by
  have hs' : (s.size : Int) ≤ 3518437208882 := by omega
  have C := Lib.hid (fun w hE => scalarsCheck_calls (A := A) (B := B) s w (by omega) hE)
  by_cases hu : utfE s = 0
  · rw [if_pos hu]
    rw [hu] at C
    replace C : Hid (∀ w, Env A B SU w → Calls Tryz.prog 71 #[.string s] w fun e w' => e = .returned (.tuple #[.int .i64 (brkAt s 0), .nilIface]) ∧ Below w.heap.size w w') := C
    replace hu := Lib.hid hu
    generalize brkAt s 0 = p at *
    obtain ⟨R, hR⟩ : ∃ R, R = quoteS s := ⟨_, rfl⟩
    rw [← hR]
    replace hR := Lib.hid hR
    replace hs := Lib.hid hs
    go_enter Tryz.func44, Tryz.ntmps44
    (go_wp2_with fail; repeat (any_goals (go_quiet (fail); go_wp2_with fail)))
    refine (C.out _ (hE.next (by repeat (first | assumption | exact Below.refl _ _ | apply Below.drew | apply below_drewN | apply balloc | (refine Below.setCell ?_ (by first | omega | (simp <;> omega)) _))))).mono ?_
    rintro e w1 ⟨rfl, hb⟩
    have hb1 : Below w.heap.size w w1 := bcall (by repeat (first | assumption | exact Below.refl _ _ | apply Below.drew | apply below_drewN | apply balloc | (refine Below.setCell ?_ (by first | omega | (simp <;> omega)) _))) hb
    have hz1 := hb1.size
    clear hb C
    (go_wp2_with fail; repeat (any_goals (go_quiet (fail); go_wp2_with fail)))
    go_loopw [20, 6] (fun v20 v6 wr => ∃ k : Nat, k ≤ s.size ∧ v20 = .int .i64 (k : Int) ∧ Hid (OwnB wr w.heap.size v6 (quoteK s k)) ∧ Below w.heap.size w wr) (fun v _ _ => s.size - (intOf v).toNat)
    case atStart => exact ⟨0, Nat.zero_le _, rfl, Lib.hid (OwnB.lit [34] _ rfl hz1 (by decide) rfl rfl), (by repeat (first | assumption | exact Below.refl _ _ | apply Below.drew | apply below_drewN | apply balloc | (refine Below.setCell ?_ (by first | omega | (simp <;> omega)) _)))⟩
    case round =>
      clear hb1 hz1
      obtain ⟨k, hk, rfl, ho1, hB⟩ := hrel
      have hx := byte_at s k
      have hz := hB.size
      have hql := Lib.hid (quoteK_len s k hk)
      by_cases hlt : k < s.size
      · have hlt' : (k : Int) < (s.size : Int) := by omega
        have hc := bAt_lt s k
        have hS := Lib.hid (quoteK_succ hlt)
        by_cases h2 : bAt s k = 34 ∨ bAt s k = 92
        · have hesc := Lib.hid (escB_two hc h2)
          have hn := Lib.hid (u8n hc)
          generalize bAt s k = c at *
          by_cases h34 : c = 34
          · have h34' : ((c : Int) == 34) = true := by simp; omega
            replace h34 := Lib.hid h34
            replace h2 := Lib.hid h2
            go_wp2_with (at_builtin; refine app_lit rfl _ _ rfl w.heap.size _ (quoteK s k) rfl (show OwnB _ _ _ _ from World.ownsRow.alloc ho1.out _) _ 2 2 _ _ _ [92, UInt8.ofNat c] rfl (heap_alloc_new _ _) ?c1 rfl (by have := hql.out; have := hs.out; omega) (by simp; omega) ?_)
            case c1 => unfold u8c; simp only [List.map_cons, List.map_nil, hn.out]; rfl
            intro v' w2 ho2 hg
            have hb2 := below_own (hB.alloc hz _) (show OwnB _ _ _ _ from World.ownsRow.alloc ho1.out _) hg (by simp; omega)
            replace ho2 := Lib.hid ho2
            clear hg
            (go_wp2_with fail; repeat (any_goals (go_quiet (fail); go_wp2_with fail)))
            go_roundw
            case measure => simp [intOf]; omega
            case rel => exact ⟨k + 1, by omega, by go_num, Lib.hid (by rw [hS.out, hesc.out]; exact ho2.out), by assumption⟩
          · have h34' : ((c : Int) == 34) = false := by simp; omega
            have h92' : ((c : Int) == 92) = true := by simp; omega
            replace h34 := Lib.hid h34
            replace h2 := Lib.hid h2
            go_wp2_with (at_builtin; refine app_lit rfl _ _ rfl w.heap.size _ (quoteK s k) rfl (show OwnB _ _ _ _ from World.ownsRow.alloc ho1.out _) _ 2 2 _ _ _ [92, UInt8.ofNat c] rfl (heap_alloc_new _ _) ?c1 rfl (by have := hql.out; have := hs.out; omega) (by simp; omega) ?_)
            case c1 => unfold u8c; simp only [List.map_cons, List.map_nil, hn.out]; rfl
            intro v' w2 ho2 hg
            have hb2 := below_own (hB.alloc hz _) (show OwnB _ _ _ _ from World.ownsRow.alloc ho1.out _) hg (by simp; omega)
            replace ho2 := Lib.hid ho2
            clear hg
            (go_wp2_with fail; repeat (any_goals (go_quiet (fail); go_wp2_with fail)))
            go_roundw
            case measure => simp [intOf]; omega
            case rel => exact ⟨k + 1, by omega, by go_num, Lib.hid (by rw [hS.out, hesc.out]; exact ho2.out), by assumption⟩
        · have h34' : ((bAt s k : Int) == 34) = false := by simp; omega
          have h92' : ((bAt s k : Int) == 92) = false := by simp; omega
          by_cases h32 : bAt s k < 32
          · have hesc := Lib.hid (escB_six h32)
            have h32' : (bAt s k : Int) < 32 := by omega
            have e1 := Lib.hid (hexL_hi _ h32)
            have e2 := Lib.hid (hexB_at2 (bAt s k))
            generalize bAt s k = c at *
            replace h2 := Lib.hid h2
            go_wp2_with (at_builtin; refine app_lit rfl _ _ rfl w.heap.size _ (quoteK s k) rfl (show OwnB _ _ _ _ from World.ownsRow.alloc ho1.out _) _ 6 6 _ _ _ [92, 117, 48, 48, hexL.getD (c / 16) 0, hexL.getD (c % 16) 0] rfl (heap_alloc_new _ _) ?c1 rfl (by have := hql.out; have := hs.out; omega) (by simp; omega) ?_)
            case c1 => unfold u8c; simp only [List.map_cons, List.map_nil, e1.out, e2.out]; rfl
            intro v' w2 ho2 hg
            have hb2 := below_own (hB.alloc hz _) (show OwnB _ _ _ _ from World.ownsRow.alloc ho1.out _) hg (by simp; omega)
            replace ho2 := Lib.hid ho2
            clear hg
            (go_wp2_with fail; repeat (any_goals (go_quiet (fail); go_wp2_with fail)))
            go_roundw
            case measure => simp [intOf]; omega
            case rel => exact ⟨k + 1, by omega, by go_num, Lib.hid (by rw [hS.out, hesc.out]; exact ho2.out), by assumption⟩
          · have h32' : ¬ (bAt s k : Int) < 32 := by omega
            have hesc := Lib.hid (escB_one hc (fun h => h2 (Or.inl h)) (fun h => h2 (Or.inr h)) h32)
            have hn := Lib.hid (u8n hc)
            generalize bAt s k = c at *
            replace h2 := Lib.hid h2
            go_wp2_with (at_builtin; refine app_lit rfl _ _ rfl w.heap.size _ (quoteK s k) rfl (show OwnB _ _ _ _ from World.ownsRow.alloc ho1.out _) _ 1 1 _ _ _ [UInt8.ofNat c] rfl (heap_alloc_new _ _) ?c1 rfl (by have := hql.out; have := hs.out; omega) (by simp; omega) ?_)
            case c1 => unfold u8c; simp only [List.map_cons, List.map_nil, hn.out]
            intro v' w2 ho2 hg
            have hb2 := below_own (hB.alloc hz _) (show OwnB _ _ _ _ from World.ownsRow.alloc ho1.out _) hg (by simp; omega)
            replace ho2 := Lib.hid ho2
            clear hg
            (go_wp2_with fail; repeat (any_goals (go_quiet (fail); go_wp2_with fail)))
            go_roundw
            case measure => simp [intOf]; omega
            case rel => exact ⟨k + 1, by omega, by go_num, Lib.hid (by rw [hS.out, hesc.out]; exact ho2.out), by assumption⟩
      · obtain rfl : k = s.size := by omega
        have hend := Lib.hid (quoteK_end s)
        go_wp2_with (at_builtin; refine app_lit rfl _ _ rfl w.heap.size _ (quoteK s s.size) rfl (show OwnB _ _ _ _ from World.ownsRow.alloc ho1.out _) _ 1 1 _ _ _ [34] rfl (heap_alloc_new _ _) rfl rfl (by have := hql.out; have := hs.out; omega) (by simp; omega) ?_)
        intro v' w2 ho2 hg
        have hb2 := below_own (hB.alloc hz _) (show OwnB _ _ _ _ from World.ownsRow.alloc ho1.out _) hg (by simp; omega)
        have hcv := conv_own ho2
        rw [hend.out, ← hR.out] at hcv
        replace ho2 := Lib.hid ho2
        clear hg
        (go_wp2_with fail; repeat (any_goals (go_quiet (fail); go_wp2_with fail)))
        go_ret2
        exact ⟨rfl, hb2⟩
  · rw [if_neg hu]
    have hu1 : utfE s = 1 := by
      unfold utfE at hu ⊢
      split at hu
      · rename_i h; rw [if_pos h]
      · exact absurd rfl hu
    rw [hu1] at C
    replace C : Hid (∀ w, Env A B SU w → Calls Tryz.prog 71 #[.string s] w fun e w' => e = .returned (.tuple #[.int .i64 (brkAt s 0), .iface 237 (.pointer (some (A 1)))]) ∧ Below w.heap.size w w') := C
    replace hu := Lib.hid hu
    replace hu1 := Lib.hid hu1
    generalize brkAt s 0 = p at *
    go_enter Tryz.func44, Tryz.ntmps44
    (go_wp2_with fail; repeat (any_goals (go_quiet (fail); go_wp2_with fail)))
    refine (C.out _ (hE.next (by repeat (first | assumption | exact Below.refl _ _ | apply Below.drew | apply below_drewN | apply balloc | (refine Below.setCell ?_ (by first | omega | (simp <;> omega)) _))))).mono ?_
    rintro e w1 ⟨rfl, hb⟩
    have hb1 : Below w.heap.size w w1 := bcall (by repeat (first | assumption | exact Below.refl _ _ | apply Below.drew | apply below_drewN | apply balloc | (refine Below.setCell ?_ (by first | omega | (simp <;> omega)) _))) hb
    have e1 := (hE.next hb1).e1
    clear hb C
    (go_wp2_with fail; repeat (any_goals (go_quiet (fail); go_wp2_with fail)))
    all_goals
      go_ret2
      exact ⟨rfl, (by repeat (first | assumption | exact Below.refl _ _ | apply Below.drew | apply below_drewN | apply balloc | (refine Below.setCell ?_ (by first | omega | (simp <;> omega)) _)))⟩

end Go.Proofs.YtibopkodoidjoaaGreatDoor

/- The statements of chapter 17: the calls whose answers are fixed. -/
namespace Go.Proofs.YtibopkodoidjoaaGreatDoor
open Go Go.RowKit

abbrev SVY : List Nat := [1, 2, 3, 4, 5, 6, 7, 8, 9, 10, 11, 12, 13, 14, 15, 16, 17, 18, 19, 20, 21]

def fx1 : ByteArray := ⟨#[91, 49, 44, 32, 34, 97, 34, 93]⟩
theorem fx1_some : someS fx1 = ([⟨8, 0, 1, noS⟩, ⟨4, 1, 2, noS⟩, ⟨11, 2, 3, noS⟩, ⟨5, 4, 7, ⟨#[97]⟩⟩, ⟨9, 7, 8, noS⟩], 0, 0) := by kernel_rfl
def fx2 : ByteArray := ⟨#[34, 92, 117, 100, 56, 48, 48, 34]⟩
theorem fx2_some : someS fx2 = ([], 1, 1) := by kernel_rfl
def fx3 : ByteArray := ⟨#[34, 92, 1]⟩
theorem fx3_utf : utfE fx3 = 0 := by kernel_rfl
theorem fx3_quote : quoteS fx3 = ⟨#[34, 92, 34, 92, 92, 92, 117, 48, 48, 48, 49, 34]⟩ := by kernel_rfl
def fx4 : ByteArray := ⟨#[34, 92, 117, 48, 48, 52, 49, 34]⟩
theorem fx4_some : someS fx4 = ([⟨5, 0, 8, ⟨#[65]⟩⟩], 0, 0) := by kernel_rfl
def fx5 : ByteArray := ⟨#[45, 49, 50]⟩
theorem fx5_num : numS fx5 = (-12, 0) := by kernel_rfl
/-- The fourth token of the first text. -/
def Tok3 (g : Nat) (w : World) : Prop := w.cell? ⟨g, 12, none⟩ = some (.int .i64 5) ∧ w.cell? ⟨g, 13, none⟩ = some (.int .i64 4) ∧ w.cell? ⟨g, 14, none⟩ = some (.int .i64 7) ∧ w.cell? ⟨g, 15, none⟩ = some (.string ⟨#[97]⟩)
theorem Tok3.next {g : Nat} {w w1 : World} (h : Tok3 g w) (hg : g < w.heap.size) (hb : Below w.heap.size w w1) : Tok3 g w1 :=
  ⟨(hb.cell (p := ⟨g, 12, none⟩) hg).trans h.1, (hb.cell (p := ⟨g, 13, none⟩) hg).trans h.2.1, (hb.cell (p := ⟨g, 14, none⟩) hg).trans h.2.2.1, (hb.cell (p := ⟨g, 15, none⟩) hg).trans h.2.2.2⟩
theorem fx_scan {A : Nat → Addr} {B : Nat} (w : World) (hE : Env A B SVY w) :
    Calls Tryz.prog 25 #[.string ⟨#[91, 49, 44, 32, 34, 97, 34, 93]⟩] w fun e w' => ∃ g cap, e = .returned (.tuple #[.slice (some ⟨g, 0, none⟩) 5 cap, .nilIface]) ∧ w.heap.size ≤ g ∧ (5 : Int) ≤ cap ∧
      Tok3 g w' ∧ g < w'.heap.size ∧ Below w.heap.size w w' := by
  refine (Scan_calls fx1 w (hE.sub (by decide)) (by decide)).mono fun e w' ⟨hr, hb⟩ => ?_
  rw [fx1_some] at hr
  unfold ScanR at hr
  rw [if_pos rfl] at hr
  obtain ⟨v, rfl, ho⟩ := hr
  have ho : OwnT w' w.heap.size v [⟨8, 0, 1, noS⟩, ⟨4, 1, 2, noS⟩, ⟨11, 2, 3, noS⟩, ⟨5, 4, 7, ⟨#[97]⟩⟩, ⟨9, 7, 8, noS⟩] := ho
  rcases ho.form with ⟨h, _⟩ | ⟨g, cap, rfl, hbg, hgl, hnl, hcm⟩
  · cases h
  · exact ⟨g, cap, rfl, hbg, by simp at hnl; omega, ho.at (j := 3) rfl, hgl, hb⟩
theorem fx_bad {A : Nat → Addr} {B : Nat} (w : World) (hE : Env A B SVY w) :
    Calls Tryz.prog 25 #[.string ⟨#[34, 92, 117, 100, 56, 48, 48, 34]⟩] w fun e w' => ∃ g, e = .returned (.tuple #[.slice none 0 0, .iface 69 (.pointer (some ⟨g, 0, none⟩))]) ∧ w.heap.size ≤ g ∧ AtB 1 (.iface 237 (.pointer (some (A 1)))) g w' ∧ Below w.heap.size w w' := by
  refine (Scan_calls fx2 w (hE.sub (by decide)) (by decide)).mono fun e w' ⟨hr, hb⟩ => ?_
  rw [fx2_some] at hr
  unfold ScanR at hr
  rw [if_neg (by simp)] at hr
  obtain ⟨g, hg, rfl, hat⟩ := hr
  exact ⟨g, rfl, hg, hat, hb⟩
theorem fx_quote {A : Nat → Addr} {B : Nat} (w : World) (hE : Env A B SVY w) :
    Calls Tryz.prog 44 #[.string ⟨#[34, 92, 1]⟩] w fun e w' => e = .returned (.tuple #[.string ⟨#[34, 92, 34, 92, 92, 92, 117, 48, 48, 48, 49, 34]⟩, .nilIface]) ∧ Below w.heap.size w w' := by
  refine (Quote_calls fx3 w (hE.sub (by decide)) (by decide)).mono fun e w' ⟨hr, hb⟩ => ⟨?_, hb⟩
  rw [hr, if_pos fx3_utf, fx3_quote]
theorem fx_unq {A : Nat → Addr} {B : Nat} (w : World) (hE : Env A B SVY w) :
    Calls Tryz.prog 45 #[.string ⟨#[34, 92, 117, 48, 48, 52, 49, 34]⟩] w fun e w' => e = .returned (.tuple #[.string ⟨#[65]⟩, .nilIface]) ∧ Below w.heap.size w w' := by
  refine (Unquote_calls fx4 w (hE.sub (by decide)) (by decide)).mono fun e w' ⟨hr, hb⟩ => ⟨?_, hb⟩
  unfold UnqR at hr
  rw [fx4_some] at hr
  rcases hr with ⟨_, _, T, h2, rfl⟩ | ⟨_, h, _⟩ | ⟨h, _⟩
  · simp only [List.cons.injEq, and_true] at h2
    rw [← h2]
  · exact absurd h (by decide)
  · exact absurd rfl h
theorem fx_num {A : Nat → Addr} {B : Nat} (w : World) (hE : Env A B SVY w) :
    Calls Tryz.prog 46 #[.string ⟨#[45, 49, 50]⟩] w fun e w' => e = .returned (.tuple #[.int .i64 (-12), .nilIface]) ∧ Below w.heap.size w w' := by
  refine (Number_calls fx5 w (hE.sub (by decide)) (by decide)).mono fun e w' ⟨hr, hb⟩ => ⟨?_, hb⟩
  rw [hr, fx5_num]
  rfl
set_option maxHeartbeats 2000000 in
set_option maxRecDepth 100000 in
theorem fixed17 {A : Nat → Addr} {B : Nat} (w : World) (hE : Env A B SVY w) :
    Calls Tryz.prog 20 #[] w fun e w' => e = .returned (.bool true) ∧ Below w.heap.size w w' := by
  have neq := neqTk_same
  go_enter Tryz.func20, Tryz.ntmps20
  (go_wp2_with fail; repeat (any_goals (go_quiet (fail); go_wp2_with fail)))
  refine (fx_scan _ (hE.next (by repeat (first | assumption | exact Below.refl _ _ | apply Below.drew | apply below_drewN | apply balloc | (refine Below.setCell ?_ (by first | omega | (simp <;> omega)) _))))).mono ?_
  rintro e w1 ⟨g, cap, rfl, hg, hcap, hc, hgl, hb⟩
  have hb1 : Below w.heap.size w w1 := bcall (by repeat (first | assumption | exact Below.refl _ _ | apply Below.drew | apply below_drewN | apply balloc | (refine Below.setCell ?_ (by first | omega | (simp <;> omega)) _))) hb
  clear hb
  replace hc := Lib.hid hc
  (go_wp2_with fail; repeat (any_goals (go_quiet (fail); go_wp2_with fail)))
  refine (fx_bad _ (hE.next hb1)).mono ?_
  rintro e w2 ⟨g2, rfl, hg2, hat, hb⟩
  have hb2 : Below w.heap.size w w2 := bcall hb1 hb
  replace hc := Lib.hid (hc.out.next hgl hb)
  have hgl2 : g < w2.heap.size := Nat.lt_of_lt_of_le hgl hb.size
  clear hb hb1 hgl
  replace hat := Lib.hid hat
  (go_wp2_with fail; repeat (any_goals (go_quiet (fail); go_wp2_with fail)))
  refine (Place_at 1 1 g2 _ (by decide) (by decide) ((hE.next hb2).sub (by decide)) hat.out).mono ?_
  rintro e w3 ⟨rfl, hb⟩
  have hb3 : Below w.heap.size w w3 := bcall hb2 hb
  obtain ⟨z0, z1, z2, z3⟩ := hc.out.next hgl2 hb
  clear hb hb2 hgl2
  (go_wp2_with fail; repeat (any_goals (go_quiet (fail); go_wp2_with fail)))
  refine (fx_quote _ (hE.next (by repeat (first | assumption | exact Below.refl _ _ | apply Below.drew | apply below_drewN | apply balloc | (refine Below.setCell ?_ (by first | omega | (simp <;> omega)) _))))).mono ?_
  rintro e w4 ⟨rfl, hb⟩
  have hb4 : Below w.heap.size w w4 := bcall (by repeat (first | assumption | exact Below.refl _ _ | apply Below.drew | apply below_drewN | apply balloc | (refine Below.setCell ?_ (by first | omega | (simp <;> omega)) _))) hb
  clear hb hb3 z0 z1 z2 z3
  (go_wp2_with fail; repeat (any_goals (go_quiet (fail); go_wp2_with fail)))
  refine (fx_unq _ (hE.next (by repeat (first | assumption | exact Below.refl _ _ | apply Below.drew | apply below_drewN | apply balloc | (refine Below.setCell ?_ (by first | omega | (simp <;> omega)) _))))).mono ?_
  rintro e w5 ⟨rfl, hb⟩
  have hb5 : Below w.heap.size w w5 := bcall (by repeat (first | assumption | exact Below.refl _ _ | apply Below.drew | apply below_drewN | apply balloc | (refine Below.setCell ?_ (by first | omega | (simp <;> omega)) _))) hb
  clear hb hb4
  (go_wp2_with fail; repeat (any_goals (go_quiet (fail); go_wp2_with fail)))
  refine (fx_num _ (hE.next (by repeat (first | assumption | exact Below.refl _ _ | apply Below.drew | apply below_drewN | apply balloc | (refine Below.setCell ?_ (by first | omega | (simp <;> omega)) _))))).mono ?_
  rintro e w6 ⟨rfl, hb⟩
  have hb6 : Below w.heap.size w w6 := bcall (by repeat (first | assumption | exact Below.refl _ _ | apply Below.drew | apply below_drewN | apply balloc | (refine Below.setCell ?_ (by first | omega | (simp <;> omega)) _))) hb
  clear hb hb5
  (go_wp2_with fail; repeat (any_goals (go_quiet (fail); go_wp2_with fail)))
  go_ret
  exact ⟨rfl, (by repeat (first | assumption | exact Below.refl _ _ | apply Below.drew | apply below_drewN | apply balloc | (refine Below.setCell ?_ (by first | omega | (simp <;> omega)) _)))⟩

end Go.Proofs.YtibopkodoidjoaaGreatDoor

/- A region that draws its order inside a round of a range over a function: by the plain laws. -/
namespace Go.Proofs.YtibopkodoidjoaaGreatDoor
open Go Go.RowKit

section
variable {P : Program} {ops : Array Oper} {Q : Exit → Act → World → Prop} {md : Region.Mode} {l : Nat}
theorem opIn_round {o : Oper} {a : Act} {w : World} {K : Act → World → Prop} (hnd : ∀ c, o.op ≠ .defer c) (h : o.wp P a w K Q) : o.wpIn (Fence.wide.inRound l) 0 P a w K Q := by
  refine ⟨fun _ _ => trivial, ?_⟩
  rw [show (Fence.wide.inRound l).round = some l from rfl, Oper.semAt_some l _ _ hnd]
  unfold Oper.wp at h
  generalize (execOp a.eval o).run P w = r at *
  unfold Oper.upon at h
  unfold Oper.uponIn
  split at h
  · exact h
  · exact h
  · exact h
  · exact ⟨(fun h0 => by simp [Fence.wide] at h0), CallsIn.inRound l (callsIn_wide.2 h)⟩
  · exact ⟨(fun h0 => by simp [Fence.wide] at h0), fun c cs _ => let ⟨v, w', r, s⟩ := h c cs; ⟨v, w', r, stepsIn_wide.2 s⟩⟩
  · exact h
  · exact h.elim
theorem anyIn_round (hnd : ∀ (i : Nat) (o : Oper), ops[i]? = some o → ∀ c, o.op ≠ Op.defer c) (hQ : ¬ LetsOut Q) : ∀ (fuel : Nat) (listed : Array Bool) (a : Act) (w : World), wpAny P md ops Q fuel listed a w → wpAnyIn (Fence.wide.inRound l) 0 P md ops Q fuel listed a w
  | 0, _, _, _, h => h
  | fuel + 1, listed, a, w, h => by
    refine ⟨h.1, fun i hi => ?_⟩
    have h2 := h.2 i hi
    unfold wpOp at h2
    unfold wpOpIn
    cases ho : ops[i]? with
    | none => rw [ho] at h2; exact anyIn_round hnd hQ fuel _ _ _ h2
    | some o =>
      rw [ho] at h2
      simp only at h2 ⊢
      split
      · rename_i hw
        rw [if_pos hw] at h2
        rcases h2 with h2 | ⟨_, h2⟩
        · exact opIn_round (hnd i o ho) (Oper.wp_mono (fun a w h => anyIn_round hnd hQ fuel _ a w h) h2)
        · exact absurd h2 hQ
      · rename_i hw
        rw [if_neg hw] at h2
        exact ⟨fun _ _ => trivial, anyIn_round hnd hQ fuel _ _ _ h2⟩
def notDefer (o : Oper) : Bool := match o.op with
  | .defer _ => false
  | _ => true
/-- The beginning: a region of a round that draws, by the law of regions that hold a condition. -/
theorem region_round {id : Nat} {a : Act} {w : World} (S : World → Prop) (hm : P.follows .mixedOrders = true) (hnd : ops.all notDefer = true) (hQ : ¬ LetsOut Q)
    (h : wpAnyH P .any ops Q S ops.size (Array.replicate ops.size false) a { w with drawn := w.drawn + 1 }) : (Code.region id ops true).wpIn (Fence.wide.inRound l) 0 P Q a w :=
  wpIn_region_any hm (anyIn_round (fun i o ho c hc => by
    have := Array.all_eq_true_iff_forall_mem.1 hnd o (Array.mem_of_getElem? ho)
    unfold notDefer at this
    rw [hc] at this
    cases this) hQ _ _ _ _ (wpAny_of_held _ _ _ _ h))
/-- One operation alone that may come up. -/
theorem wpAnyH_one {S : World → Prop} {i fuel : Nat} {listed : Array Bool} {a : Act} {w : World} (hr : Region.ready md ops listed = [i])
    (h : ∀ K : Act → World → Prop, (∀ a w, S w → wpAnyH P md ops Q S fuel (listed.setIfInBounds i true) a w → K a w) → wpOp P ops Q i K a w) : wpAnyH P md ops Q S (fuel + 1) listed a w :=
  wpAnyH_all hr (by simp) fun j hj => by
    obtain rfl : j = i := by simpa using hj
    exact h _ fun a w hs h => ⟨hs, h⟩
theorem wp_then_only {c : Code} {K : Act → World → Prop} {a : Act} {w : World} (h : c.wp P (Exit.then K fun _ _ _ => False) a w) : c.wp P (Exit.then K Q) a w :=
  Code.wp_mono (fun e a w h => by cases e <;> first | exact h | exact h.elim) h
end

end Go.Proofs.YtibopkodoidjoaaGreatDoor
