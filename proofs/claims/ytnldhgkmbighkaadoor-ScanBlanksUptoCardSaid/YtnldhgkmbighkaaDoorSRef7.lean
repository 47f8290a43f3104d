/- The reference of chapter 17: Some, Scan. -/
import Derived.Test.YtnldhgkmbighkaaDoorSRef6
import Derived.Test.YtnldhgkmbighkaaDoorScan10
import Derived.Test.YtnldhgkmbighkaaDoorSingle
namespace Go.Proofs.YtnldhgkmbighkaaDoor
open Go Go.RowKit

/-- v is a list of tokens of the call's own. -/
def OwnT (w : World) (base : Nat) (v : Value) (ts : List Tk) : Prop := w.ownsRow base 28 4 v ts.length (ts.flatMap tkC)
theorem OwnT.nil (w : World) (base : Nat) : OwnT w base (.slice none 0 0) [] := World.ownsRow_nil _ _ _ _
theorem OwnT.next {w w' : World} {base : Nat} {v : Value} {ts : List Tk} (h : OwnT w base v ts) (hb : Below w.heap.size w w') : OwnT w' base v ts := own_next h hb
theorem OwnT.lt {w : World} {base : Nat} {v : Value} {ts : List Tk} (h : OwnT w base v ts) : ∀ k, v.ownBlock = some k → base ≤ k := fun k hk => (World.ownsRow.lt h k hk).1
theorem OwnT.lt_size {w : World} {base : Nat} {v : Value} {ts : List Tk} (h : OwnT w base v ts) : ∀ k, v.ownBlock = some k → k < w.heap.size := fun k hk => (World.ownsRow.lt h k hk).2
theorem below_ownT {w w1 w2 : World} {base : Nat} {v : Value} {ts : List Tk} (h1 : Below base w w1) (ho : OwnT w1 base v ts) (hg : w1.grownBy w2 v.ownBlock) (hb : base ≤ w1.heap.size) : Below base w w2 := h1.grown hg hb (fun k hk => ho.lt k hk)
theorem heap_new1 (w : World) (o o' : Obj) : ((w.alloc o).alloc o').heap[w.heap.size + 1]? = some o' := by
  have := heap_alloc_new (w.alloc o) o'
  rw [World.size_alloc] at this
  exact this
section
variable {ops : Array Oper} {rest : List Oper} {o : Oper} {a : Act} {Q : Exit → Act → World → Prop} {w : World}
/-- append(out, t) of a token. -/
theorem app_tk (hgd : o.guard = none) (sl x : Operand) (ho : o.op = .call { callee := .builtin .append, args := #[sl, x], argTypes := #[24, 24] }) (base : Nat) (v : Value) (ts : List Tk) (hs : a.eval sl = v) (hown : OwnT w base v ts)
    (g c : Nat) (cs : Array Value) (t : TypeId) (fr : Nat × Nat) (T : Tk) (hx : a.eval x = .slice (some ⟨g, 0, none⟩) 1 c) (hg : w.heap[g]? = some (.cells cs t fr)) (hcs : cs = (tkC T).toArray)
    (hlen : ts.length + 1 ≤ 3518437208883) (hbase : base ≤ w.heap.size)
    (h : ∀ v' w', OwnT w' base v' (ts ++ [T]) → w.grownBy w' v.ownBlock → wpList Tryd.prog ops Q rest (a.put o.dst v') w') : wpList Tryd.prog ops Q (o :: rest) a w := by
  obtain ⟨i0, hi, hi2⟩ := Option.map_eq_some_iff.1 infoTk
  simp only [Prod.mk.injEq] at hi2
  refine wpList_append_own _ hgd sl x 24 ho base 28 i0 (.agg #[.int .i64 0, .int .i64 0, .int .i64 0, .string ⟨#[]⟩]) 4 40 Tryd.underlying24 hi hi2.1 hi2.2.1 hi2.2.2 rfl (by decide) v ts.length (ts.flatMap tkC) hs hown ⟨g, 0, none⟩ 1 c (tkC T) hx rfl ?_ ?_ (by unfold maxLen; omega) (by omega) hbase ?_
  · intro j u hj
    have : (⟨g, 0, none⟩ : Addr).add j = ⟨g, j, none⟩ := by simp only [Addr.add, Nat.zero_add]; split <;> simp_all
    rw [this]
    refine cellB hg j ?_
    rw [hcs, List.getElem?_toArray]
    exact hj
  · intro u hu
    unfold tkC at hu
    simp at hu
    rcases hu with rfl | rfl | rfl | rfl <;> rfl
  · intro v' w' h1 h2 _
    refine h v' w' ?_ h2
    unfold OwnT
    rw [List.length_append, List.length_singleton, List.flatMap_append]
    simpa using h1
end
theorem rOne_calls2 (s : ByteArray) (i : Nat) (w : World) (hs : s.size ≤ 35184372088830) (hi : i < s.size) (R : Value) (hR : rOneV (oneAt s i) = R) :
    Calls Tryd.prog 40 #[.string s, .int .i64 (i : Int)] w fun e w' => e = .returned R ∧ Below w.heap.size w w' := by rw [← hR]; exact rOne_calls s i w hs hi
theorem rBlank_calls2 (c : Nat) (b : Bool) (w : World) (h : blankN c = b) : Calls Tryd.prog 39 #[.int .u8 (c : Int)] w fun e w' => e = .returned (.bool b) ∧ w = w' := by rw [← h]; exact (rBlank_calls c w).mono fun _ _ ⟨h, hw⟩ => ⟨h, hw.symm⟩
/-- What Some answers. -/
def rSomeR (base : Nat) (R : List Tk × Nat × Nat) (e : Ending) (w' : World) : Prop := ∃ v, e = .returned (.tuple #[v, .int .i64 (R.2.2 : Int), .int .i64 (R.2.1 : Int)]) ∧ OwnT w' base v R.1
theorem rSomeR_mk {base : Nat} {R : List Tk × Nat × Nat} {w' : World} {v : Value} {ts : List Tk} {e0 p : Nat} (h : R = (ts, e0, p)) (ho : OwnT w' base v ts) : rSomeR base R (.returned (.tuple #[v, .int .i64 (p : Int), .int .i64 (e0 : Int)])) w' := by
  subst h; exact ⟨v, rfl, ho⟩
set_option maxHeartbeats 4000000 in
set_option maxRecDepth 100000 in
theorem rSome_calls (s : ByteArray) (w : World) (hs : s.size ≤ 3518437208882) :
    Calls Tryd.prog 22 #[.string s] w fun e w' => rSomeR w.heap.size (someS s) e w' ∧ Below w.heap.size w w' := by
  have hs' : (s.size : Int) ≤ 3518437208882 := by omega
  have U := Lib.hid (fun w => Utf8_calls s w (by omega))
  have K := Lib.hid (fun w => Breaks_calls s w (by omega))
  obtain ⟨R, hR⟩ : ∃ R, R = someS s := ⟨_, rfl⟩
  rw [← hR]
  replace hR := Lib.hid hR
  replace hs := Lib.hid hs
  by_cases hu : utfE s = 0
  · have hv0 := (utfE_brk s).1 hu
    have hR0 : Hid (R = scanAt s 0) := Lib.hid (by rw [hR.out, someS_eq, if_pos hu])
    replace U : Hid (∀ w, Calls Tryd.prog 14 #[.string s] w fun e w' => e = .returned (.bool true) ∧ Below w.heap.size w w') := Lib.hid (fun w => by have := U.out w; rwa [decide_eq_true hu] at this)
    replace hu := Lib.hid hu
    replace hv0 := Lib.hid hv0
    clear K
    go_enter Tryd.func22, Tryd.ntmps22
    (go_wp2_with fail; repeat (any_goals (go_quiet (fail); go_wp2_with fail)))
    refine (U.out _).mono ?_
    rintro e w1 ⟨rfl, hb⟩
    have hb1 : Below w.heap.size w w1 := bcall (by repeat (first | assumption | exact Below.refl _ _ | apply Below.drew | apply below_drewN | apply balloc | (refine Below.setCell ?_ (by first | omega | (simp <;> omega)) _))) hb
    clear hb U
    (go_wp2_with fail; repeat (any_goals (go_quiet (fail); go_wp2_with fail)))
    go_loopg [5, 6] (s.size + 1) (fun kq v5 v6 wr => ∃ (k : Nat) (ts : List Tk), v6 = .int .i64 (k : Int) ∧ Hid (k ≤ s.size ∧ brkAt s k = s.size ∧ ts.length ≤ k ∧ (ts ++ (scanAt s k).1, (scanAt s k).2) = R ∧ kq + k ≥ s.size + 1 ∧ OwnT wr w.heap.size v5 ts) ∧ Below w.heap.size w wr)
    case atStart => exact ⟨0, [], rfl, Lib.hid ⟨Nat.zero_le _, hv0.out, Nat.zero_le _, hR0.out.symm, by omega, OwnT.nil _ _⟩, hb1⟩
    case round =>
      clear hb1
      obtain ⟨k, ts, rfl, H, hB⟩ := hrel
      have hx := byte_at s k
      have hq := Lib.hid (scanAt_eq s k H.out.2.1)
      have hk := H.out.1
      by_cases hlt : k < s.size
      · have hlt' : (k : Int) < (s.size : Int) := by omega
        cases hbl : blankN (bAt s k) with
        | true =>
          have C := Lib.hid (fun w => rBlank_calls2 (bAt s k) true w hbl)
          have hst : Hid ((ts ++ (scanAt s (k + 1)).1, (scanAt s (k + 1)).2) = R ∧ brkAt s (k + 1) = s.size) := Lib.hid (by
            have h1 := hq.out
            rw [if_pos hlt, if_pos hbl] at h1
            exact ⟨by rw [← h1]; exact H.out.2.2.2.1, brk_ascii H.out.2.1 hlt (blank_ascii hbl).2⟩)
          replace hbl := Lib.hid hbl
          replace hlt := Lib.hid hlt
          clear hq
          (go_wp2_with fail; repeat (any_goals (go_quiet (fail); go_wp2_with fail)))
          refine (C.out _).mono ?_
          rintro e w2 ⟨rfl, rfl⟩
          (go_wp2_with fail; repeat (any_goals (go_quiet (fail); go_wp2_with fail)))
          go_roundg (s.size + 1 - (k + 1))
          case measure => have := H.out.2.2.2.2.1; omega
          case rel =>
            have h3 := H.out.2.2.1
            have h4 := H.out.2.2.2.2.1
            refine ⟨k + 1, ts, by go_num, Lib.hid ⟨hlt.out, hst.out.2, by omega, hst.out.1, by omega, H.out.2.2.2.2.2⟩, by assumption⟩
        | false =>
          have C := Lib.hid (fun w => rBlank_calls2 (bAt s k) false w hbl)
          have h1 := hq.out
          rw [if_pos hlt, if_neg (by rw [hbl]; simp)] at h1
          obtain ⟨O, hO⟩ : ∃ O, oneAt s k = O := ⟨_, rfl⟩
          rw [hO] at h1
          have hfr : ∀ T, O = (0, 0, T) → T.fr = k ∧ k < T.to ∧ T.to ≤ s.size ∧ brkAt s T.to = s.size ∧ T.text.size ≤ T.to - k ∧ 1 ≤ T.kind ∧ T.kind ≤ 11 := fun T h => one_fr hlt H.out.2.1 (by rw [hO, h])
          have hform : O.1 = 0 → O = (0, 0, O.2.2) := fun h => by rw [← hO] at h ⊢; exact oneAt_form s k h
          replace hbl := Lib.hid hbl
          clear hq
          obtain ⟨e0, p, T⟩ := O
          cases e0 with
          | zero =>
            obtain rfl : p = 0 := by have := hform rfl; simp only [Prod.mk.injEq] at this; exact this.2.1
            have hT := hfr T rfl
            have D := Lib.hid (fun w => rOne_calls2 s k w (by have := hs.out; omega) hlt _ (rOneV_ok hO))
            rw [if_pos rfl] at h1
            simp only at h1
            have hst : Hid ((ts ++ [T] ++ (scanAt s T.to).1, (scanAt s T.to).2) = R) := Lib.hid (by
              have h2 := H.out.2.2.2.1
              rw [h1] at h2
              rw [← h2, List.append_assoc]; rfl)
            replace h1 := Lib.hid h1
            replace hO := Lib.hid hO
            replace hT := Lib.hid hT
            replace hlt := Lib.hid hlt
            clear hfr hform
            unfold tkV at D
            have hz := hB.size
            (go_wp2_with fail; repeat (any_goals (go_quiet (fail); go_wp2_with fail)))
            refine (C.out _).mono ?_
            rintro e w2 ⟨rfl, rfl⟩
            (go_wp2_with fail; repeat (any_goals (go_quiet (fail); go_wp2_with fail)))
            refine (D.out _).mono ?_
            rintro e w2 ⟨rfl, hb⟩
            have hb2 : Below w.heap.size w w2 := hB.trans (hb.mono hz)
            have ho2 := Lib.hid (H.out.2.2.2.2.2.next hb)
            have hz2 := hb2.size
            clear hb
            go_wp2_with (at_builtin; refine app_tk rfl _ _ rfl w.heap.size _ ts rfl (show OwnT _ _ _ _ from World.ownsRow.alloc (World.ownsRow.alloc ho2.out _) _) _ 1 _ _ _ T rfl (heap_new1 _ _ _) rfl (by have := H.out.1; have := H.out.2.2.1; have := hs.out; omega) (by simp; omega) ?_)
            intro v' w3 ho3 hg
            have hb3 := below_ownT ((hb2.alloc hz2 _).alloc (by simp; omega) _) (show OwnT _ _ _ _ from World.ownsRow.alloc (World.ownsRow.alloc ho2.out _) _) hg (by simp; omega)
            have y2 : w3.cell? ⟨w2.heap.size, 2, none⟩ = some (.int .i64 (T.to : Int)) := by
              refine hg.cell ?_ ?_
              · refine cellB (box_next (heap_alloc_new w2 _) ((Below.refl _ _).alloc (Nat.le_refl _) _)) 2 rfl
              · intro h
                have := (ho2.out.lt_size _ h.symm)
                simp at this
            replace ho3 := Lib.hid ho3
            clear hg
            (go_wp2_with fail; repeat (any_goals (go_quiet (fail); go_wp2_with fail)))
            go_roundg (s.size + 1 - T.to)
            case measure => have := H.out.2.2.2.2.1; have := hT.out.2.1; omega
            case rel =>
              have h3 := H.out.2.2.1
              have h4 := H.out.2.2.2.2.1
              have h5 := hT.out
              refine ⟨T.to, ts ++ [T], rfl, Lib.hid ⟨h5.2.2.1, h5.2.2.2.1, by rw [List.length_append, List.length_singleton]; omega, hst.out, by omega, ho3.out⟩, by assumption⟩
          | succ e0 =>
            have D := Lib.hid (fun w => rOne_calls2 s k w (by have := hs.out; omega) hlt _ (rOneV_bad hO))
            rw [if_neg (by simp)] at h1
            simp only at h1
            have hR2 : R = (ts, e0 + 1, p) := by
              have h2 := H.out.2.2.2.1
              rw [h1] at h2
              rw [← h2, List.append_nil]
            replace hR2 := Lib.hid hR2
            have hne2 : (((e0 + 1 : Nat) : Int) != 0) = true := by simp; omega
            replace h1 := Lib.hid h1
            replace hO := Lib.hid hO
            replace hlt := Lib.hid hlt
            clear hfr hform
            have hz := hB.size
            obtain ⟨e1, he1⟩ : ∃ e1, e1 = ((e0 + 1 : Nat) : Int) := ⟨_, rfl⟩
            rw [← he1] at D hne2
            replace he1 := Lib.hid he1
            (go_wp2_with fail; repeat (any_goals (go_quiet (fail); go_wp2_with fail)))
            refine (C.out _).mono ?_
            rintro e w2 ⟨rfl, rfl⟩
            (go_wp2_with fail; repeat (any_goals (go_quiet (fail); go_wp2_with fail)))
            refine (D.out _).mono ?_
            rintro e w2 ⟨rfl, hb⟩
            have hb2 : Below w.heap.size w w2 := hB.trans (hb.mono hz)
            have ho2 := Lib.hid (H.out.2.2.2.2.2.next hb)
            have hz2 := hb2.size
            clear hb
            (go_wp2_with fail; repeat (any_goals (go_quiet (fail); go_wp2_with fail)))
            go_ret3
            refine ⟨?_, hb2.alloc hz2 _⟩
            rw [he1.out]
            exact rSomeR_mk hR2.out (World.ownsRow.alloc ho2.out _)
      · have hlt' : ¬ (k : Int) < (s.size : Int) := by omega
        have h1 := hq.out
        rw [if_neg hlt] at h1
        have hR2 : R = (ts, 0, 0) := by
          have h2 := H.out.2.2.2.1
          rw [h1] at h2
          rw [← h2, List.append_nil]
        replace hR2 := Lib.hid hR2
        replace h1 := Lib.hid h1
        replace hlt := Lib.hid hlt
        clear hq
        (go_wp2_with fail; repeat (any_goals (go_quiet (fail); go_wp2_with fail)))
        go_ret3
        exact ⟨rSomeR_mk hR2.out H.out.2.2.2.2.2, (by repeat (first | assumption | exact Below.refl _ _ | apply Below.drew | apply below_drewN | apply balloc | (refine Below.setCell ?_ (by first | omega | (simp <;> omega)) _)))⟩
  · have hR2 : R = ([], 1, brkAt s 0) := by rw [hR.out, someS_eq, if_neg hu]
    replace U : Hid (∀ w, Calls Tryd.prog 14 #[.string s] w fun e w' => e = .returned (.bool false) ∧ Below w.heap.size w w') := Lib.hid (fun w => by have := U.out w; rwa [decide_eq_false hu] at this)
    replace hu := Lib.hid hu
    replace hR2 := Lib.hid hR2
    generalize brkAt s 0 = p at *
    go_enter Tryd.func22, Tryd.ntmps22
    (go_wp2_with fail; repeat (any_goals (go_quiet (fail); go_wp2_with fail)))
    refine (U.out _).mono ?_
    rintro e w1 ⟨rfl, hb⟩
    have hb1 : Below w.heap.size w w1 := bcall (by repeat (first | assumption | exact Below.refl _ _ | apply Below.drew | apply below_drewN | apply balloc | (refine Below.setCell ?_ (by first | omega | (simp <;> omega)) _))) hb
    clear hb
    (go_wp2_with fail; repeat (any_goals (go_quiet (fail); go_wp2_with fail)))
    refine (K.out _).mono ?_
    rintro e w2 ⟨rfl, hb⟩
    have hb2 : Below w.heap.size w w2 := bcall hb1 hb
    clear hb
    (go_wp2_with fail; repeat (any_goals (go_quiet (fail); go_wp2_with fail)))
    go_ret3
    refine ⟨⟨.slice none 0 0, ?_, ?_⟩, hb2⟩
    · rw [hR2.out]; rfl
    · rw [hR2.out]; exact OwnT.nil _ _
/-- What Scan answers. -/
def rScanR (base : Nat) (R : List Tk × Nat × Nat) (e : Ending) (w' : World) : Prop :=
  ∃ v, e = .returned (.tuple #[v, .int .i64 (if R.2.1 = 0 then 0 else (R.2.2 : Int)), .int .i64 (R.2.1 : Int)]) ∧ OwnT w' base v (if R.2.1 = 0 then R.1 else []) ∧ (R.2.1 ≠ 0 → v = .slice none 0 0)
set_option maxHeartbeats 1000000 in
theorem rScan_calls (s : ByteArray) (w : World) (hs : s.size ≤ 3518437208882) :
    Calls Tryd.prog 8 #[.string s] w fun e w' => rScanR w.heap.size (someS s) e w' ∧ Below w.heap.size w w' := by
  have U := Lib.hid (fun w => rSome_calls s w hs)
  obtain ⟨R, hR⟩ : ∃ R, R = someS s := ⟨_, rfl⟩
  rw [← hR] at U ⊢
  replace hR := Lib.hid hR
  replace hs := Lib.hid hs
  obtain ⟨ts, e0, p⟩ := R
  cases e0 with
  | zero =>
    go_enter Tryd.func8, Tryd.ntmps8
    (go_wp2_with fail; repeat (any_goals (go_quiet (fail); go_wp2_with fail)))
    refine (U.out _).mono ?_
    rintro e w1 ⟨⟨v, rfl, ho⟩, hb⟩
    simp only at ho
    replace ho := Lib.hid ho
    (go_wp2_with fail; repeat (any_goals (go_quiet (fail); go_wp2_with fail)))
    go_ret3
    exact ⟨⟨v, rfl, ho.out, fun h => absurd rfl h⟩, hb⟩
  | succ e0 =>
    have hne2 : (((e0 + 1 : Nat) : Int) != 0) = true := by simp; omega
    go_enter Tryd.func8, Tryd.ntmps8
    (go_wp2_with fail; repeat (any_goals (go_quiet (fail); go_wp2_with fail)))
    refine (U.out _).mono ?_
    rintro e w1 ⟨⟨v, rfl, ho⟩, hb⟩
    clear ho
    simp only
    obtain ⟨e1, he1⟩ : ∃ e1, e1 = ((e0 + 1 : Nat) : Int) := ⟨_, rfl⟩
    rw [← he1] at hne2 ⊢
    replace he1 := Lib.hid he1
    (go_wp2_with fail; repeat (any_goals (go_quiet (fail); go_wp2_with fail)))
    go_ret3
    refine ⟨⟨.slice none 0 0, ?_, OwnT.nil _ _, fun _ => rfl⟩, hb⟩
    rw [he1.out]; rfl

end Go.Proofs.YtnldhgkmbighkaaDoor
