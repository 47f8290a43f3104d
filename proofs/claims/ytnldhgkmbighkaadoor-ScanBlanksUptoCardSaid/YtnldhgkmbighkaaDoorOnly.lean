/- Package scan: only, Unquote, Number. -/
import Derived.Test.YtnldhgkmbighkaaDoorTok
import Derived.Test.YtnldhgkmbighkaaDoorPInt
namespace Go.Proofs.YtnldhgkmbighkaaDoor
open Go Go.RowKit

theorem single_iff {s : ByteArray} {k : Nat} {T : Tk} (h0 : (someS s).2.1 = 0) (h : (someS s).1 = [T]) : single s k (someS s).1 = true ↔ T.kind = k ∧ T.to - T.fr = s.size := by
  obtain ⟨hu, hch, _⟩ := some_chain h0
  have hbd := chain_bd _ 0 ((utfE_brk _).1 hu) (Nat.zero_le _) hch T (by rw [h]; simp)
  rw [h]
  unfold single
  simp only [Bool.and_eq_true, beq_iff_eq]
  omega
def zTk : Value := .agg #[.int .i64 0, .int .i64 0, .int .i64 0, .string ⟨#[]⟩]
/-- What only answers. -/
def OnlyR (A : Nat → Addr) (base : Nat) (s : ByteArray) (k : Nat) (e : Ending) (w' : World) : Prop :=
  ((someS s).2.1 = 0 ∧ single s k (someS s).1 = true ∧ ∃ T, (someS s).1 = [T] ∧ e = .returned (.tuple #[tkV T, .nilIface])) ∨
  ((someS s).2.1 = 0 ∧ single s k (someS s).1 = false ∧ e = .returned (.tuple #[zTk, .iface 203 (.pointer (some (A 5)))])) ∨
  ((someS s).2.1 ≠ 0 ∧ ∃ g, base ≤ g ∧ e = .returned (.tuple #[zTk, .iface 34 (.pointer (some ⟨g, 0, none⟩))]) ∧ AtB ((someS s).2.2 : Int) (.iface 203 (.pointer (some (A (someS s).2.1)))) g w')
abbrev SK : List Nat := [1, 2, 5]
theorem heap_set {b g : Nat} (w : World) (i : Nat) (v : Value) (_ : Unit) (h : b ≠ g) : (w.setCell ⟨b, i, none⟩ v).heap[g]? = w.heap[g]? := by
  exact Below.heap_setCell _ _ _ _ (fun h2 => h h2.symm)
set_option maxHeartbeats 4000000 in
set_option maxRecDepth 100000 in
theorem only_calls {A : Nat → Addr} {B : Nat} (s : ByteArray) (k : Nat) (w : World) (hE : Env A B SK w) (hs : s.size ≤ 3518437208882) :
    Calls Tryd.prog 34 #[.string s, .int .i64 (k : Int)] w fun e w' => OnlyR A w.heap.size s k e w' ∧ Below w.heap.size w w' := by
  have hs' : (s.size : Int) ≤ 3518437208882 := by omega
  have C := Lib.hid (fun w hE => Scan_calls (A := A) (B := B) s w hE (by omega))
  have hsi := Lib.hid (fun T h0 h => single_iff (s := s) (k := k) (T := T) h0 h)
  have hbd : Hid (∀ T, (someS s).2.1 = 0 → (someS s).1 = [T] → T.fr ≤ T.to ∧ T.to ≤ s.size) := Lib.hid (fun T h0 h => by
    obtain ⟨hu, hch, _⟩ := some_chain h0
    have := chain_bd _ 0 ((utfE_brk _).1 hu) (Nat.zero_le _) hch T (by rw [h]; simp)
    exact ⟨by omega, by omega⟩)
  have hsn : Hid ((∀ T, (someS s).1 ≠ [T]) → single s k (someS s).1 = false) := Lib.hid (fun h => by
    unfold single
    split
    · rename_i T hT; exact absurd hT (h T)
    · rfl)
  unfold OnlyR zTk tkV
  generalize someS s = R at *
  replace hs := Lib.hid hs
  go_enter Tryd.func34, Tryd.ntmps34
  (go_wp2_with fail; repeat (any_goals (go_quiet (fail); go_wp2_with fail)))
  refine (C.out _ ((hE.sub (by decide)).next (by repeat (first | assumption | exact Below.refl _ _ | apply Below.drew | apply below_drewN | apply balloc | (refine Below.setCell ?_ (by first | omega | (simp <;> omega)) _))))).mono ?_
  rintro e w1 ⟨hr, hb⟩
  have hv : w1.heap[w.heap.size]? = some tkZ := box_next (heap_alloc_new w _) hb
  have hb1 : Below w.heap.size w w1 := bcall (by repeat (first | assumption | exact Below.refl _ _ | apply Below.drew | apply below_drewN | apply balloc | (refine Below.setCell ?_ (by first | omega | (simp <;> omega)) _))) hb
  have hE1 := hE.next hb1
  have e5 := hE1.e5
  have l5 := hE.l5
  clear hb
  unfold ScanR at hr
  by_cases h0 : R.2.1 = 0
  · rw [if_pos h0] at hr
    obtain ⟨v, rfl, ho⟩ := hr
    have ho : OwnT w1 (w.heap.size + 1) v R.1 := by
      have := ho
      rw [World.size_alloc] at this
      exact this
    replace h0 := Lib.hid h0
    have x0 := cellB hv 0 rfl
    have x1 := cellB hv 1 rfl
    have x2 := cellB hv 2 rfl
    have x3 := cellB hv 3 rfl
    have f0 := freeB hv 0
    have f1 := freeB hv 1
    have f2 := freeB hv 2
    have f3 := freeB hv 3
    have hvl := ltB hv
    have hz1 := hb1.size
    replace hv := Lib.hid hv
    by_cases hone : ∃ T, R.1 = [T]
    · obtain ⟨T, hT⟩ := hone
      rcases ho.form with ⟨h, _⟩ | ⟨g, cap, rfl, hbg, hgl, hnl, hcm⟩
      · rw [hT] at h; cases h
      have hi := hsi.out T h0.out hT
      have hd := hbd.out T h0.out hT
      obtain ⟨y0, y1, y2, y3⟩ := ho.at (j := 0) (T := T) (by rw [hT]; rfl)
      rw [hT] at hnl ⊢
      have hlen : (([T] : List Tk).length : Int) = 1 := rfl
      simp only [List.length_singleton] at hnl
      unfold maxLen at hcm
      replace ho := Lib.hid ho
      have hT2 := Lib.hid hT
      replace hT := Lib.hid hT
      clear hlen
      by_cases hk : T.kind = k
      · have hk' : ((T.kind : Int) != (k : Int)) = false := by simp; omega
        replace hk := Lib.hid hk
        by_cases hz : T.to - T.fr = s.size
        · have hz' : ((T.to : Int) - (T.fr : Int) != (s.size : Int)) = false := by simp; omega
          have hs1 : single s k [T] = true := by rw [← hT.out]; exact hi.2 ⟨hk.out, hz⟩
          replace hz := Lib.hid hz
          replace hi := Lib.hid hi
          replace hs1 := Lib.hid hs1
          (go_wp2_with fail; repeat (any_goals (go_quiet (fail); go_wp2_with fail)))
          refine bodyPost_ret (v := .tuple #[.agg #[.int .i64 (T.kind : Int), .int .i64 (T.fr : Int), .int .i64 (T.to : Int), .string T.text], .nilIface]) (by simp [results, Tryd.results34, go_sem, *]) rfl ⟨Or.inl ⟨h0.out, by rw [hT2.out]; exact hs1.out, T, hT2.out, rfl⟩, (by repeat (first | assumption | exact Below.refl _ _ | apply Below.drew | apply below_drewN | apply balloc | (refine Below.setCell ?_ (by first | omega | (simp <;> omega)) _)))⟩
        · have hz' : ((T.to : Int) - (T.fr : Int) != (s.size : Int)) = true := by simp; omega
          have hs1 : single s k R.1 = false := by rw [Bool.eq_false_iff]; exact fun h => hz (hi.1 h).2
          replace hz := Lib.hid hz
          replace hi := Lib.hid hi
          replace hs1 := Lib.hid hs1
          (go_wp2_with fail; repeat (any_goals (go_quiet (fail); go_wp2_with fail)))
          go_region
          all_goals
            (go_wp2_with fail; repeat (any_goals (go_quiet (fail); go_wp2_with fail)))
            refine bodyPost_ret (v := .tuple #[.agg #[.int .i64 0, .int .i64 0, .int .i64 0, .string ⟨#[]⟩], .iface 203 (.pointer (some (A 5)))]) (by simp [results, Tryd.results34, go_sem, *]) rfl ⟨Or.inr (Or.inl ⟨h0.out, hs1.out, rfl⟩), (by repeat (first | assumption | exact Below.refl _ _ | apply Below.drew | apply below_drewN | apply balloc | (refine Below.setCell ?_ (by first | omega | (simp <;> omega)) _)))⟩
      · have hk' : ((T.kind : Int) != (k : Int)) = true := by simp; omega
        have hs1 : single s k R.1 = false := by rw [Bool.eq_false_iff]; exact fun h => hk (hi.1 h).1
        replace hk := Lib.hid hk
        replace hi := Lib.hid hi
        replace hs1 := Lib.hid hs1
        (go_wp2_with fail; repeat (any_goals (go_quiet (fail); go_wp2_with fail)))
        go_region
        all_goals
          (go_wp2_with fail; repeat (any_goals (go_quiet (fail); go_wp2_with fail)))
          refine bodyPost_ret (v := .tuple #[.agg #[.int .i64 0, .int .i64 0, .int .i64 0, .string ⟨#[]⟩], .iface 203 (.pointer (some (A 5)))]) (by simp [results, Tryd.results34, go_sem, *]) rfl ⟨Or.inr (Or.inl ⟨h0.out, hs1.out, rfl⟩), (by repeat (first | assumption | exact Below.refl _ _ | apply Below.drew | apply below_drewN | apply balloc | (refine Below.setCell ?_ (by first | omega | (simp <;> omega)) _)))⟩
    · have hs1 : single s k R.1 = false := hsn.out (fun T h => hone ⟨T, h⟩)
      replace hs1 := Lib.hid hs1
      rcases ho.form with ⟨h, rfl⟩ | ⟨g, cap, rfl, hbg, hgl, hnl, hcm⟩
      · replace ho := Lib.hid ho
        replace h := Lib.hid h
        replace hone := Lib.hid hone
        (go_wp2_with fail; repeat (any_goals (go_quiet (fail); go_wp2_with fail)))
        go_region
        all_goals
          (go_wp2_with fail; repeat (any_goals (go_quiet (fail); go_wp2_with fail)))
          refine bodyPost_ret (v := .tuple #[.agg #[.int .i64 0, .int .i64 0, .int .i64 0, .string ⟨#[]⟩], .iface 203 (.pointer (some (A 5)))]) (by simp [results, Tryd.results34, go_sem, *]) rfl ⟨Or.inr (Or.inl ⟨h0.out, hs1.out, rfl⟩), (by repeat (first | assumption | exact Below.refl _ _ | apply Below.drew | apply below_drewN | apply balloc | (refine Below.setCell ?_ (by first | omega | (simp <;> omega)) _)))⟩
      · have hne : ((R.1.length : Int) != 1) = true := by
          simp
          intro h
          apply hone
          match hl : R.1, h with
          | [T], _ => exact ⟨T, rfl⟩
        generalize R.1.length = n at *
        replace ho := Lib.hid ho
        replace hone := Lib.hid hone
        (go_wp2_with fail; repeat (any_goals (go_quiet (fail); go_wp2_with fail)))
        go_region
        all_goals
          (go_wp2_with fail; repeat (any_goals (go_quiet (fail); go_wp2_with fail)))
          refine bodyPost_ret (v := .tuple #[.agg #[.int .i64 0, .int .i64 0, .int .i64 0, .string ⟨#[]⟩], .iface 203 (.pointer (some (A 5)))]) (by simp [results, Tryd.results34, go_sem, *]) rfl ⟨Or.inr (Or.inl ⟨h0.out, hs1.out, rfl⟩), (by repeat (first | assumption | exact Below.refl _ _ | apply Below.drew | apply below_drewN | apply balloc | (refine Below.setCell ?_ (by first | omega | (simp <;> omega)) _)))⟩
  · rw [if_neg h0] at hr
    obtain ⟨g, hg, rfl, hat⟩ := hr
    have hg2 : w.heap.size ≤ g := by simp at hg; omega
    have hg3 : Hid (w.heap.size ≠ g) := Lib.hid (by simp at hg; omega)
    replace hg := Lib.hid hg
    replace h0 := Lib.hid h0
    replace hat := Lib.hid hat
    have x0 := cellB hv 0 rfl
    have x1 := cellB hv 1 rfl
    have x2 := cellB hv 2 rfl
    have x3 := cellB hv 3 rfl
    have f0 := freeB hv 0
    have f1 := freeB hv 1
    have f2 := freeB hv 2
    have f3 := freeB hv 3
    have hvl := ltB hv
    have hz1 := hb1.size
    replace hv := Lib.hid hv
    (go_wp2_with fail; repeat (any_goals (go_quiet (fail); go_wp2_with fail)))
    refine bodyPost_ret (v := .tuple #[.agg #[.int .i64 0, .int .i64 0, .int .i64 0, .string ⟨#[]⟩], .iface 34 (.pointer (some ⟨g, 0, none⟩))]) (by simp [results, Tryd.results34, go_sem, *]) rfl ⟨Or.inr (Or.inr ⟨h0.out, g, hg2, rfl, ?_⟩), (by repeat (first | assumption | exact Below.refl _ _ | apply Below.drew | apply below_drewN | apply balloc | (refine Below.setCell ?_ (by first | omega | (simp <;> omega)) _)))⟩
    have h9 := hat.out
    unfold AtB at h9 ⊢
    have hg4 := hg3.out
    rw [heap_set _ _ _ () hg4, heap_set _ _ _ () hg4, heap_set _ _ _ () hg4, heap_set _ _ _ () hg4]
    exact h9

/-- What Unquote answers. -/
def UnqR (A : Nat → Addr) (base : Nat) (s : ByteArray) (e : Ending) (w' : World) : Prop :=
  ((someS s).2.1 = 0 ∧ single s 5 (someS s).1 = true ∧ ∃ T, (someS s).1 = [T] ∧ e = .returned (.tuple #[.string T.text, .nilIface])) ∨
  ((someS s).2.1 = 0 ∧ single s 5 (someS s).1 = false ∧ e = .returned (.tuple #[.string ⟨#[]⟩, .iface 203 (.pointer (some (A 5)))])) ∨
  ((someS s).2.1 ≠ 0 ∧ ∃ g, base ≤ g ∧ e = .returned (.tuple #[.string ⟨#[]⟩, .iface 34 (.pointer (some ⟨g, 0, none⟩))]) ∧ AtB ((someS s).2.2 : Int) (.iface 203 (.pointer (some (A (someS s).2.1)))) g w')
set_option maxHeartbeats 2000000 in
set_option maxRecDepth 100000 in
theorem Unquote_calls {A : Nat → Addr} {B : Nat} (s : ByteArray) (w : World) (hE : Env A B SK w) (hs : s.size ≤ 3518437208882) :
    Calls Tryd.prog 16 #[.string s] w fun e w' => UnqR A w.heap.size s e w' ∧ Below w.heap.size w w' := by
  have C := Lib.hid (fun w hE => only_calls (A := A) (B := B) s 5 w hE hs)
  replace hs := Lib.hid hs
  go_enter Tryd.func16, Tryd.ntmps16
  (go_wp2_with fail; repeat (any_goals (go_quiet (fail); go_wp2_with fail)))
  refine (C.out _ (hE.next (by repeat (first | assumption | exact Below.refl _ _ | apply Below.drew | apply below_drewN | apply balloc | (refine Below.setCell ?_ (by first | omega | (simp <;> omega)) _))))).mono ?_
  rintro e w1 ⟨hr, hb⟩
  have hb1 : Below w.heap.size w w1 := bcall (by repeat (first | assumption | exact Below.refl _ _ | apply Below.drew | apply below_drewN | apply balloc | (refine Below.setCell ?_ (by first | omega | (simp <;> omega)) _))) hb
  have hz1 := hb1.size
  clear hb
  rcases hr with ⟨h0, h1, T, h2, rfl⟩ | ⟨h0, h1, rfl⟩ | ⟨h0, g, hg, rfl, hat⟩
  · have hU : ∀ W, UnqR A w.heap.size s (.returned (.tuple #[.string T.text, .nilIface])) W := fun W => Or.inl ⟨h0, h1, T, h2, rfl⟩
    replace hU := Lib.hid hU
    replace h0 := Lib.hid h0
    replace h1 := Lib.hid h1
    replace h2 := Lib.hid h2
    unfold tkV
    (go_wp2_with fail; repeat (any_goals (go_quiet (fail); go_wp2_with fail)))
    go_ret2
    exact ⟨hU.out _, (by repeat (first | assumption | exact Below.refl _ _ | apply Below.drew | apply below_drewN | apply balloc | (refine Below.setCell ?_ (by first | omega | (simp <;> omega)) _)))⟩
  · have hU : ∀ W, UnqR A w.heap.size s (.returned (.tuple #[.string ⟨#[]⟩, .iface 203 (.pointer (some (A 5)))])) W := fun W => Or.inr (Or.inl ⟨h0, h1, rfl⟩)
    replace hU := Lib.hid hU
    replace h0 := Lib.hid h0
    replace h1 := Lib.hid h1
    unfold zTk
    (go_wp2_with fail; repeat (any_goals (go_quiet (fail); go_wp2_with fail)))
    go_ret2
    exact ⟨hU.out _, (by repeat (first | assumption | exact Below.refl _ _ | apply Below.drew | apply below_drewN | apply balloc | (refine Below.setCell ?_ (by first | omega | (simp <;> omega)) _)))⟩
  · have hU : ∀ W, Below w1.heap.size w1 W → UnqR A w.heap.size s (.returned (.tuple #[.string ⟨#[]⟩, .iface 34 (.pointer (some ⟨g, 0, none⟩))])) W := fun W hW => Or.inr (Or.inr ⟨h0, g, hg, rfl, box_next hat hW⟩)
    replace hU := Lib.hid hU
    replace h0 := Lib.hid h0
    replace hat := Lib.hid hat
    replace hg := Lib.hid hg
    unfold zTk
    (go_wp2_with fail; repeat (any_goals (go_quiet (fail); go_wp2_with fail)))
    go_ret2
    exact ⟨hU.out _ (by repeat (first | assumption | exact Below.refl _ _ | apply Below.drew | apply below_drewN | apply balloc | (refine Below.setCell ?_ (by first | omega | (simp <;> omega)) _))), (by repeat (first | assumption | exact Below.refl _ _ | apply Below.drew | apply below_drewN | apply balloc | (refine Below.setCell ?_ (by first | omega | (simp <;> omega)) _)))⟩

end Go.Proofs.YtnldhgkmbighkaaDoor
