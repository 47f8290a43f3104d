/- Package scan: Scan. -/
import Derived.Test.YtnldhgkmbighkaaDoorScan11
namespace Go.Proofs.YtnldhgkmbighkaaDoor
open Go Go.RowKit

/-- Scan's list, while all runs. -/
def ScanI (c : Nat) (b : Nat) (ts : List Tk) (w : World) : Prop :=
  c < w.heap.size ∧ c ≠ b ∧ ∃ v, w.heap[c]? = some (.cells #[v] 24 (0, 0)) ∧ w.ownsRow (c + 1) 28 4 v ts.length (ts.flatMap tkC) ∧ v.ownBlock ≠ some b
theorem scan_yield (c N : Nat) (hN : N ≤ 3518437208883) : YieldOk 36 #[.pointer (some ⟨c, 0, none⟩)] N c (ScanI c) where
  ent := enters_of Tryd.func36 (by kernel_rfl) rfl
  call := by
    intro b s p ts t w hts hI hsc hb hw
    obtain ⟨h1, h2, v, h3, h4, h5⟩ := hI
    refine (yield_calls t c (c + 1) ts.length (ts.flatMap tkC) v w h3 h4 h1 (Nat.lt_succ_self c) (by omega)).mono ?_
    rintro e w1 ⟨rfl, v', g1, g2, g3, g4⟩
    have hbl := ltB hsc
    refine ⟨rfl, ⟨Nat.lt_of_lt_of_le h1 g4.size, h2, v', g1, ?_, ?_⟩, ?_, ⟨g4.os, g4.tape, g4.output, g4.size, fun k hk => g4.block k (by omega) (by omega) (fun h => ?_)⟩⟩
    · rw [List.length_append, List.length_singleton, List.flatMap_append]
      simpa using g2
    · rcases g3 with g3 | ⟨g, g3, g5⟩
      · rw [g3]; exact h5
      · rw [g3]; intro h; cases h; omega
    · unfold ScB at hsc ⊢
      rw [g4.block b hbl (fun h => h2 h.symm) (fun h => h5 h.symm)]
      exact hsc
    · have := (h4.lt k h.symm).1
      omega
  stab := by
    rintro b ts w w1 ⟨h1, h2, v, h3, h4, h5⟩ hg
    refine ⟨Nat.lt_of_lt_of_le h1 hg.size, h2, v, ?_, h4.kept hg (Or.inr h5), h5⟩
    rw [hg.block c h1 (fun h => h2 (by cases h; rfl))]
    exact h3
theorem own_base {w : World} {base base' e size : Nat} {v : Value} {n : Nat} {xs : List Value} (h : w.ownsRow base e size v n xs) (hb : base' ≤ base) : w.ownsRow base' e size v n xs := by
  obtain ⟨h1, h2 | ⟨g, cap, cur, h2, h3, h4⟩⟩ := h
  · exact ⟨h1, Or.inl h2⟩
  · exact ⟨h1, Or.inr ⟨g, cap, cur, h2, Nat.le_trans hb h3, h4⟩⟩
/-- What Scan answers: the list, owned; or nil, with the error's number and place. -/
def ScanR (A : Nat → Addr) (base : Nat) (R : List Tk × Nat × Nat) (e : Ending) (w' : World) : Prop :=
  if R.2.1 = 0 then ∃ v, e = .returned (.tuple #[v, .nilIface]) ∧ w'.ownsRow base 28 4 v R.1.length (R.1.flatMap tkC)
  else ∃ g, base ≤ g ∧ e = .returned (.tuple #[.slice none 0 0, .iface 34 (.pointer (some ⟨g, 0, none⟩))]) ∧ AtB (R.2.2 : Int) (.iface 203 (.pointer (some (A R.2.1)))) g w'
set_option maxHeartbeats 2000000 in
set_option maxRecDepth 100000 in
theorem Scan_calls {A : Nat → Addr} {B : Nat} (s : ByteArray) (w : World) (hE : Env A B SJ w) (hs : s.size ≤ 3518437208883) :
    Calls Tryd.prog 17 #[.string s] w fun e w' => ScanR A w.heap.size (someS s) e w' ∧ Below w.heap.size w w' := by
  have hs' : s.size ≤ 35184372088830 := by omega
  have Y := Lib.hid (scan_yield w.heap.size s.size hs)
  generalize hR : someS s = R
  replace hR := Lib.hid hR
  replace hs := Lib.hid hs
  replace hs' := Lib.hid hs'
  have hmf : ∀ (fn : Fn) (first cap : Array Value) (w : World), (Instr.makeFunc fn first cap).run Tryd.prog w = .ok (.func fn first cap) w := fun _ _ _ _ => rfl
  go_enter Tryd.func17, Tryd.ntmps17
  (go_wp2_with fail; repeat (any_goals (go_quiet (fail); go_wp2_with fail)))
  have hI : ∀ b w', (w.alloc (.cells #[.slice none 0 0] 24 (0, 0))).heap.size ≤ b → Below (w.alloc (.cells #[.slice none 0 0] 24 (0, 0))).heap.size (w.alloc (.cells #[.slice none 0 0] 24 (0, 0))) w' → ScanI w.heap.size b [] w' := by
    intro b w' hb h
    have h1 := h.size
    simp at h1 hb
    refine ⟨by omega, by omega, .slice none 0 0, ?_, World.ownsRow_nil _ _ _ _, by simp [Value.ownBlock]⟩
    rw [h.block _ (by simp)]
    exact heap_alloc_new w _
  refine (all_calls s 36 #[.pointer (some ⟨w.heap.size, 0, none⟩)] (ScanI w.heap.size) w.heap.size _ (hE.next (by repeat (first | assumption | exact Below.refl _ _ | apply Below.drew | apply below_drewN | apply balloc | (refine Below.setCell ?_ (by first | omega | (simp <;> omega)) _)))) (by simp) hE.hB hs'.out Y.out hI).mono ?_
  rintro e w1 ⟨⟨⟨b, hI1⟩, hr⟩, hb⟩
  have hb1 : Below w.heap.size w w1 := by
    refine Below.trans ?_ hb
    exact (by repeat (first | assumption | exact Below.refl _ _ | apply Below.drew | apply below_drewN | apply balloc | (refine Below.setCell ?_ (by first | omega | (simp <;> omega)) _)))
  obtain ⟨h1, h2, v, h3, h4, h5⟩ := hI1
  rw [hR.out] at h4 hr
  clear hI hb
  by_cases h0 : R.2.1 = 0
  · rw [if_pos h0] at hr
    subst hr
    have x0 : w1.cell? ⟨w.heap.size, 0, none⟩ = some v := cellB h3 0 rfl
    replace h3 := Lib.hid h3
    replace h4 := Lib.hid h4
    replace h5 := Lib.hid h5
    replace h0 := Lib.hid h0
    (go_wp2_with fail; repeat (any_goals (go_quiet (fail); go_wp2_with fail)))
    go_ret2
    refine ⟨?_, hb1⟩
    unfold ScanR
    rw [if_pos h0.out]
    exact ⟨v, rfl, own_base h4.out (Nat.le_succ _)⟩
  · rw [if_neg h0] at hr
    obtain ⟨g, hg, rfl, hat⟩ := hr
    replace h3 := Lib.hid h3
    replace h4 := Lib.hid h4
    replace h5 := Lib.hid h5
    replace h0 := Lib.hid h0
    replace hat := Lib.hid hat
    (go_wp2_with fail; repeat (any_goals (go_quiet (fail); go_wp2_with fail)))
    go_ret2
    refine ⟨?_, hb1⟩
    unfold ScanR
    rw [if_neg h0.out]
    exact ⟨g, hg, rfl, hat.out⟩

end Go.Proofs.YtnldhgkmbighkaaDoor
