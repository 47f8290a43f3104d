/- Lemmas of the proof, put together: Scan11, Scan12, Each1, Each2, Each3, SRef1, SRefPlain, SRef2, SRef3. -/
import Derived.Test.YtibopkodoidjoaaGreatDoorM3
import Derived.Deep.DeepCutAuto
import Derived.RangeFuncNested
import Derived.RangeFuncBound
import Derived.OwnWalkIn
import Derived.TacticsInMore
import Derived.LoopNIn
import Derived.LoopIn
import Derived.RangeFuncBox
import Derived.Test.YtibopkodoidjoaaGreatDoorM2

/- Package scan: all. -/
namespace Go.Proofs.YtibopkodoidjoaaGreatDoor
open Go Go.RowKit

/-- What a yield answers, over what it gathers. -/
structure YieldOk (F : Nat) (caps : Array Value) (N n0 : Nat) (I : Nat → List Tk → World → Prop) : Prop where
  ent : ∀ args w, (callFunc F args).run Tryz.prog w = .ok (.enter F args) w
  call : ∀ b s p ts t w, ts.length < N → I b ts w → ScB s p b w → n0 ≤ b → n0 ≤ w.heap.size → Calls Tryz.prog F (#[tkV t] ++ caps) w fun e w' => e = .returned (.bool true) ∧ I b (ts ++ [t]) w' ∧ ScB s p b w' ∧ Below n0 w w'
  stab : ∀ b ts w w', I b ts w → w.grownBy w' (some b) → I b ts w'
/-- What all answers. -/
def AllR (A : Nat → Addr) (n0 : Nat) (I : Nat → List Tk → World → Prop) (R : List Tk × Nat × Nat) (e : Ending) (w' : World) : Prop :=
  (∃ b, I b R.1 w') ∧ (if R.2.1 = 0 then e = .returned .nilIface else ∃ g, n0 ≤ g ∧ e = .returned (.iface 69 (.pointer (some ⟨g, 0, none⟩))) ∧ AtB (R.2.2 : Int) (.iface 237 (.pointer (some (A R.2.1)))) g w')
theorem blk_idem (s : ByteArray) (i : Nat) : blkAt s (blkAt s i) = blkAt s i := by
  rw [blkAt_eq s (blkAt s i)]
  by_cases h : blkAt s i < s.size
  · rw [if_neg (by rw [blkAt_not s _ i (Nat.le_refl _) h]; exact fun h => absurd h.2 Bool.false_ne_true)]
  · rw [if_neg (fun h2 => h h2.1)]
set_option maxHeartbeats 2000000 in
set_option maxRecDepth 100000 in
theorem all_calls {A : Nat → Addr} {B : Nat} (s : ByteArray) (F : Nat) (caps : Array Value) (I : Nat → List Tk → World → Prop) (n0 : Nat) (w : World) (hE : Env A B SJ w) (hn0 : n0 ≤ w.heap.size) (hBn : B ≤ n0) (hs : s.size ≤ 35184372088830) (hY : YieldOk F caps s.size n0 I)
    (hI : ∀ b w', w.heap.size ≤ b → Below w.heap.size w w' → I b [] w') :
    Calls Tryz.prog 52 #[.string s, .func (.func F) #[] caps] w fun e w' => AllR A n0 I (someS s) e w' ∧ Below n0 w w' := by
  have C := Lib.hid (scalarsCheck_calls (A := A) (B := B) s w (Nat.le_trans hs (by decide)) (hE.sub (by decide)))
  obtain ⟨R, hR⟩ : ∃ R, R = someS s := ⟨_, rfl⟩
  rw [← hR]
  replace hR := Lib.hid hR
  replace hI := Lib.hid hI
  have hent := hY.ent
  replace hY := Lib.hid hY
  replace hs := Lib.hid hs
  go_enter Tryz.func52, Tryz.ntmps52
  (go_wp2_with fail; repeat (any_goals (go_quiet (fail); go_wp2_with fail)))
  refine C.out.mono ?_
  rintro e w1 ⟨rfl, hb⟩
  have hb1 : Below w.heap.size w w1 := bcall (by repeat (first | assumption | exact Below.refl _ _ | apply Below.drew | apply below_drewN | apply balloc | (refine Below.setCell ?_ (by first | omega | (simp <;> omega)) _))) hb
  clear hb
  by_cases hu : utfE s = 0
  · rw [hu]
    replace hu := Lib.hid hu
    unfold errV
    have hv0 : brkAt s 0 = s.size := by
      have h := hu.out
      unfold utfE at h
      split at h
      · cases h
      · have := brkAt_le s; omega
    have hR0 : R = scanAt s 0 := by rw [hR.out, someS_eq, if_pos hu.out]
    replace hR0 := Lib.hid hR0
    replace hv0 := Lib.hid hv0
    have hz1 := hb1.size
    (go_wp2_with fail; repeat (any_goals (go_quiet (fail); go_wp2_with fail)))
    have hsc0 : ScB s (0 : Int) w1.heap.size (w1.alloc (.cells #[.string s, .int .i64 0] 162 (0, 0))) := heap_alloc_new w1 _
    refine (blanks_calls s 0 w1.heap.size _ (Nat.le_trans hs.out (by decide)) (Nat.zero_le _) hsc0).mono ?_
    rintro e w2 ⟨rfl, hsc, hg⟩
    have hb2 : Below w.heap.size w w2 := (hb1.alloc (by omega) _).trans (grown_below hg (by simp; omega) (by omega))
    generalize w1.heap.size = b at *
    clear hsc0 hg hb1
    replace hsc := Lib.hid hsc
    (go_wp2_with fail; repeat (any_goals (go_quiet (fail); go_wp2_with fail)))
    go_loopg [] (s.size + 1 - blkAt s 0) (fun kq wr => ∃ (k : Nat) (ts : List Tk), ScB s (k : Int) b wr ∧ Hid (k ≤ s.size ∧ blkAt s k = k ∧ brkAt s k = s.size ∧ I b ts wr ∧ ts.length ≤ k ∧ kq + k = s.size + 1 ∧ (ts ++ (scanAt s k).1, (scanAt s k).2) = R) ∧ Below n0 w wr)
    case atStart =>
      have hl := blkAt_low s 0 (Nat.zero_le _)
      have h1 := hl.2.1
      exact ⟨blkAt s 0, [], hsc.out, Lib.hid ⟨h1, blk_idem s 0, hl.brk hv0.out, hI.out b _ hz1 hb2, Nat.zero_le _, by omega, by rw [hR0.out, scan_blk s _ 0 (Nat.le_refl _) hv0.out]; rfl⟩, hb2.mono hn0⟩
    case round =>
      obtain ⟨k, ts, hsc2, H, hB⟩ := hrel
      clear hsc hb2
      have x1 := hsc2.at
      have hbl : b < wr.heap.size := ltB hsc2
      replace hsc2 := Lib.hid hsc2
      by_cases hlt : k < s.size
      · have hlt' : (k : Int) < (s.size : Int) := by omega
        have T := Lib.hid (fun w hE hsc => tok_calls (A := A) (B := B) s k b w hE hs.out hsc hlt H.out.2.2.1)
        (go_wp2_with fail; repeat (any_goals (go_quiet (fail); go_wp2_with fail)))
        refine (T.out _ (hE.below (hB.mono hBn)) hsc2.out).mono ?_
        clear T
        have ok3 := Lib.hid (fun h => oneAt_ok s k hlt H.out.2.2.1 h)
        have hst := Lib.hid (scan_step s k H.out.1 H.out.2.2.1)
        have bad3 := Lib.hid (fun h => oneAt_bad s k hlt h)
        generalize hO : oneAt s k = O at *
        obtain ⟨k0, pl, t⟩ := O
        replace hO := Lib.hid hO
        rintro e w3 ⟨hr, hb3⟩
        have hB3 : Below n0 w w3 := hB.trans (hb3.mono (Nat.le_trans hn0 hB.size))
        replace hsc2 := Lib.hid (hsc2.out.next hb3)
        have hI3 := Lib.hid (hY.out.stab b ts _ _ H.out.2.2.2.1 (grown_of_below hb3))
        have hbl3 : b < w3.heap.size := ltB hsc2.out
        have hz3 := hB3.size
        have hzr := hB.size
        clear x1 hbl hB
        cases k0 with
        | zero =>
          have hr := (nextR_ok rfl).1 hr
          subst hr
          have hq : Hid (t.fr = k ∧ k < t.to ∧ t.to ≤ s.size ∧ brkAt s t.to = s.size) := Lib.hid (by have h := ok3.out rfl; exact ⟨h.1, h.2.1, h.2.2.1, h.2.2.2.1⟩)
          have hst2 := hst.out
          clear ok3 bad3 hst
          replace hst2 := Lib.hid hst2
          have q1 := hsc2.out.at
          have qf := freeB hsc2.out 1
          unfold tkV
          (go_wp2_with fail; repeat (any_goals (go_quiet (fail); go_wp2_with fail)))
          refine (hY.out.call b s (t.to : Int) ts t _ ?_ ?_ ?_ ?_ ?_).mono ?_
          · have := H.out.2.2.2.2.1; omega
          · exact hY.out.stab b ts _ _ (hY.out.stab b ts _ _ hI3.out (grown_set w3 b 1 _)) (World.grownBy_alloc _ _ _)
          · exact (hsc2.out.set).next ((by repeat (first | assumption | exact Below.refl _ _ | apply Below.drew | apply below_drewN | apply balloc | (refine Below.setCell ?_ (by first | omega | (simp <;> omega)) _))))
          · omega
          · simp; omega
          rintro e w4 ⟨rfl, hI4, hsc4, hb4⟩
          have hB4 : Below n0 w w4 := by
            refine Below.trans ?_ hb4
            exact (hB3.setCell (p := ⟨b, 1, none⟩) (by simp; omega) _).alloc (by simp; omega) _
          have hz4 := hB4.size
          have hbl4 : b < w4.heap.size := ltB hsc4
          clear hb4 hb3 q1 qf hI3 hsc2
          replace hsc4 := Lib.hid hsc4
          replace hI4 := Lib.hid hI4
          have hq1 := hq.out.2.2.1
          (go_wp2_with fail; repeat (any_goals (go_quiet (fail); go_wp2_with fail)))
          refine (blanks_calls s t.to b w4 (Nat.le_trans hs.out (by decide)) hq1 hsc4.out).mono ?_
          rintro e w5 ⟨rfl, hsc5, hg5⟩
          have hB5 : Below n0 w w5 := hB4.trans (grown_below hg5 (by omega) (by omega))
          have hI5 := hY.out.stab b _ _ _ hI4.out hg5
          clear hg5 hsc4 hI4
          replace hI5 := Lib.hid hI5
          replace hsc5 := Lib.hid hsc5
          (go_wp2_with fail; repeat (any_goals (go_quiet (fail); go_wp2_with fail)))
          go_roundg (s.size + 1 - blkAt s t.to)
          case measure =>
            have h1 := (blkAt_low s t.to hq1)
            have h2 := hq.out.2.1
            have h3 := H.out.2.2.2.2.2.1
            have h4 := h1.1
            have h5 := h1.2.1
            omega
          case rel =>
            have h1 := (blkAt_low s t.to hq1)
            have h2 := hq.out.2.1
            have h3 := H.out.2.2.2.2.2.1
            have h4 := h1.1
            have h5 := h1.2.1
            have h6 := H.out.2.2.2.2.1
            have h7 := hst2.out
            rw [H.out.2.1, if_pos hlt, hO.out, if_pos rfl] at h7
            have h8 := H.out.2.2.2.2.2.2
            rw [h7] at h8
            refine ⟨blkAt s t.to, ts ++ [t], hsc5.out, Lib.hid ⟨h5, blk_idem s _, h1.brk hq.out.2.2.2, hI5.out, by rw [List.length_append, List.length_singleton]; omega, by omega, ?_⟩, hB5⟩
            rw [← h8, scan_blk s _ t.to (Nat.le_refl _) hq.out.2.2.2, List.append_assoc]
            rfl
        | succ k0 =>
          obtain ⟨g, hg, he, hat⟩ := (nextR_bad rfl).1 hr
          subst he
          clear hr
          replace hat := Lib.hid hat
          (go_wp2_with fail; repeat (any_goals (go_quiet (fail); go_wp2_with fail)))
          go_ret
          have hI6 := hY.out.stab b ts _ _ hI3.out (World.grownBy_alloc w3 (.cells #[.int .i64 0, .int .i64 0, .int .i64 0, .string ⟨#[]⟩] 59 (0, 0)) _)
          have h7 := hst.out
          rw [H.out.2.1, if_pos hlt, hO.out, if_neg (by simp)] at h7
          have h8 := H.out.2.2.2.2.2.2
          rw [h7] at h8
          refine ⟨⟨⟨b, ?_⟩, ?_⟩, hB3.alloc (by omega) _⟩
          · rw [← h8, List.append_nil]; exact hI6
          · rw [← h8, if_neg (by simp)]
            refine ⟨g, by omega, rfl, ?_⟩
            have h9 := hat.out
            unfold AtB at h9 ⊢
            rw [Below.heap_alloc _ _ _ (ltB h9)]
            exact h9
      · have hlt' : ¬ (k : Int) < (s.size : Int) := by omega
        (go_wp2_with fail; repeat (any_goals (go_quiet (fail); go_wp2_with fail)))
        go_ret
        have h7 := scanAt_eq s k H.out.2.2.1
        rw [if_neg hlt] at h7
        have h8 := H.out.2.2.2.2.2.2
        rw [h7] at h8
        refine ⟨⟨⟨b, ?_⟩, ?_⟩, (by repeat (first | assumption | exact Below.refl _ _ | apply Below.drew | apply below_drewN | apply balloc | (refine Below.setCell ?_ (by first | omega | (simp <;> omega)) _)))⟩
        · rw [← h8, List.append_nil]; exact H.out.2.2.2.1
        · rw [← h8, if_pos rfl]; rfl
  · have hu1 : utfE s = 1 := by unfold utfE at hu ⊢; split at hu <;> simp_all
    have hR1 : R = ([], 1, brkAt s 0) := by rw [hR.out, someS_eq, if_neg hu]
    rw [hu1]
    replace hR1 := Lib.hid hR1
    replace hu := Lib.hid hu
    replace hu1 := Lib.hid hu1
    unfold errV
    have hz1 := hb1.size
    (go_wp2_with fail; repeat (any_goals (go_quiet (fail); go_wp2_with fail)))
    refine (fault_calls _ _ _ _).mono ?_
    rintro e w2 ⟨g, hg, rfl, hat, hb⟩
    have hb2 : Below w.heap.size w w2 := bcall hb1 hb
    clear hb hb1
    replace hat := Lib.hid hat
    (go_wp2_with fail; repeat (any_goals (go_quiet (fail); go_wp2_with fail)))
    go_ret
    rw [hR1.out]
    refine ⟨⟨⟨g, hI.out g _ (Nat.le_trans hz1 hg) hb2⟩, ?_⟩, hb2.mono hn0⟩
    rw [if_neg (by simp)]
    exact ⟨g, Nat.le_trans hn0 (Nat.le_trans hz1 hg), rfl, hat.out⟩

end Go.Proofs.YtibopkodoidjoaaGreatDoor

/- Package scan: Scan. -/
namespace Go.Proofs.YtibopkodoidjoaaGreatDoor
open Go Go.RowKit

/-- Scan's list, while all runs. -/
def ScanI (c : Nat) (b : Nat) (ts : List Tk) (w : World) : Prop :=
  c < w.heap.size ∧ c ≠ b ∧ ∃ v, w.heap[c]? = some (.cells #[v] 49 (0, 0)) ∧ w.ownsRow (c + 1) 59 4 v ts.length (ts.flatMap tkC) ∧ v.ownBlock ≠ some b
theorem scan_yield (c N : Nat) (hN : N ≤ 3518437208883) : YieldOk 53 #[.pointer (some ⟨c, 0, none⟩)] N c (ScanI c) where
  ent := enters_of Tryz.func53 (by kernel_rfl) rfl
  call := by
    intro b s p ts t w hts hI hsc hb hw
    obtain ⟨h1, h2, v, h3, h4, h5⟩ := hI
    refine (yield_calls t c (c + 1) ts.length (ts.flatMap tkC) v w h3 h4 h1 (Nat.lt_succ_self c) (by omega)).mono ?_
    rintro e w1 ⟨rfl, v', g1, g2, g3, g4⟩
    have hbl := ltB hsc
    refine ⟨rfl, ⟨Nat.lt_of_lt_of_le h1 g4.size, h2, v', g1, ?_, ?_⟩, ?_, ⟨g4.os, g4.tape, g4.output, g4.size, fun k hk => g4.block k (by omega) (by omega) (fun h => ?_)⟩⟩
    · rw [List.length_append, List.length_singleton, List.flatMap_append]
      simpa using g2
    · rcases g3 with g3 | ⟨g, g3, g5⟩
      · rw [g3]; exact h5
      · rw [g3]; intro h; cases h; omega
    · unfold ScB at hsc ⊢
      rw [g4.block b hbl (fun h => h2 h.symm) (fun h => h5 h.symm)]
      exact hsc
    · have := (h4.lt k h.symm).1
      omega
  stab := by
    rintro b ts w w1 ⟨h1, h2, v, h3, h4, h5⟩ hg
    refine ⟨Nat.lt_of_lt_of_le h1 hg.size, h2, v, ?_, h4.kept hg (Or.inr h5), h5⟩
    rw [hg.block c h1 (fun h => h2 (by cases h; rfl))]
    exact h3
theorem own_base {w : World} {base base' e size : Nat} {v : Value} {n : Nat} {xs : List Value} (h : w.ownsRow base e size v n xs) (hb : base' ≤ base) : w.ownsRow base' e size v n xs := by
  obtain ⟨h1, h2 | ⟨g, cap, cur, h2, h3, h4⟩⟩ := h
  · exact ⟨h1, Or.inl h2⟩
  · exact ⟨h1, Or.inr ⟨g, cap, cur, h2, Nat.le_trans hb h3, h4⟩⟩
/-- What Scan answers: the list, owned; or nil, with the error's number and place. -/
def ScanR (A : Nat → Addr) (base : Nat) (R : List Tk × Nat × Nat) (e : Ending) (w' : World) : Prop :=
  if R.2.1 = 0 then ∃ v, e = .returned (.tuple #[v, .nilIface]) ∧ w'.ownsRow base 59 4 v R.1.length (R.1.flatMap tkC)
  else ∃ g, base ≤ g ∧ e = .returned (.tuple #[.slice none 0 0, .iface 69 (.pointer (some ⟨g, 0, none⟩))]) ∧ AtB (R.2.2 : Int) (.iface 237 (.pointer (some (A R.2.1)))) g w'
set_option maxHeartbeats 2000000 in
set_option maxRecDepth 100000 in
theorem Scan_calls {A : Nat → Addr} {B : Nat} (s : ByteArray) (w : World) (hE : Env A B SJ w) (hs : s.size ≤ 3518437208883) :
    Calls Tryz.prog 25 #[.string s] w fun e w' => ScanR A w.heap.size (someS s) e w' ∧ Below w.heap.size w w' := by
  have hs' : s.size ≤ 35184372088830 := by omega
  have Y := Lib.hid (scan_yield w.heap.size s.size hs)
  generalize hR : someS s = R
  replace hR := Lib.hid hR
  replace hs := Lib.hid hs
  replace hs' := Lib.hid hs'
  have hmf : ∀ (fn : Fn) (first cap : Array Value) (w : World), (Instr.makeFunc fn first cap).run Tryz.prog w = .ok (.func fn first cap) w := fun _ _ _ _ => rfl
  go_enter Tryz.func25, Tryz.ntmps25
  (go_wp2_with fail; repeat (any_goals (go_quiet (fail); go_wp2_with fail)))
  have hI : ∀ b w', (w.alloc (.cells #[.slice none 0 0] 49 (0, 0))).heap.size ≤ b → Below (w.alloc (.cells #[.slice none 0 0] 49 (0, 0))).heap.size (w.alloc (.cells #[.slice none 0 0] 49 (0, 0))) w' → ScanI w.heap.size b [] w' := by
    intro b w' hb h
    have h1 := h.size
    simp at h1 hb
    refine ⟨by omega, by omega, .slice none 0 0, ?_, World.ownsRow_nil _ _ _ _, by simp [Value.ownBlock]⟩
    rw [h.block _ (by simp)]
    exact heap_alloc_new w _
  refine (all_calls s 53 #[.pointer (some ⟨w.heap.size, 0, none⟩)] (ScanI w.heap.size) w.heap.size _ (hE.next (by repeat (first | assumption | exact Below.refl _ _ | apply Below.drew | apply below_drewN | apply balloc | (refine Below.setCell ?_ (by first | omega | (simp <;> omega)) _)))) (by simp) hE.hB hs'.out Y.out hI).mono ?_
  rintro e w1 ⟨⟨⟨b, hI1⟩, hr⟩, hb⟩
  have hb1 : Below w.heap.size w w1 := by
    refine Below.trans ?_ hb
    exact (by repeat (first | assumption | exact Below.refl _ _ | apply Below.drew | apply below_drewN | apply balloc | (refine Below.setCell ?_ (by first | omega | (simp <;> omega)) _)))
  obtain ⟨h1, h2, v, h3, h4, h5⟩ := hI1
  rw [hR.out] at h4 hr
  clear hI hb
  by_cases h0 : R.2.1 = 0
  · rw [if_pos h0] at hr
    subst hr
    have x0 : w1.cell? ⟨w.heap.size, 0, none⟩ = some v := cellB h3 0 rfl
    replace h3 := Lib.hid h3
    replace h4 := Lib.hid h4
    replace h5 := Lib.hid h5
    replace h0 := Lib.hid h0
    (go_wp2_with fail; repeat (any_goals (go_quiet (fail); go_wp2_with fail)))
    go_ret2
    refine ⟨?_, hb1⟩
    unfold ScanR
    rw [if_pos h0.out]
    exact ⟨v, rfl, own_base h4.out (Nat.le_succ _)⟩
  · rw [if_neg h0] at hr
    obtain ⟨g, hg, rfl, hat⟩ := hr
    replace h3 := Lib.hid h3
    replace h4 := Lib.hid h4
    replace h5 := Lib.hid h5
    replace h0 := Lib.hid h0
    replace hat := Lib.hid hat
    (go_wp2_with fail; repeat (any_goals (go_quiet (fail); go_wp2_with fail)))
    go_ret2
    refine ⟨?_, hb1⟩
    unfold ScanR
    rw [if_neg h0.out]
    exact ⟨g, hg, rfl, hat.out⟩

end Go.Proofs.YtibopkodoidjoaaGreatDoor

/- Package scan: all, where yield is a loop's body. -/
namespace Go.Proofs.YtibopkodoidjoaaGreatDoor
open Go Go.RowKit

/-- What a round answers. -/
structure RoundOk (l : Nat) (s : ByteArray) (n0 : Nat) (I Ix : List Tk → World → Prop) : Prop where
  call : ∀ b p ts t w, ts.length < s.size → (ts ++ [t]) <+: (someS s).1 → I ts w → ScB s p b w → n0 ≤ b → n0 ≤ w.heap.size → YieldAt Fence.wide 0 Tryz.prog l #[tkV t] w fun e w' => (e = .returned (.bool true) ∧ I (ts ++ [t]) w' ∧ ScB s p b w' ∧ Below n0 w w') ∨ (e = .returned (.bool false) ∧ Ix (ts ++ [t]) w')
  stab : ∀ b p ts w w', I ts w → ScB s p b w → n0 ≤ b → w.grownBy w' (some b) → I ts w'
def AtOrNil (v : Value) : Prop := v = .nilIface ∨ ∃ g, v = .iface 69 (.pointer (some ⟨g, 0, none⟩))
/-- What the walk over the tokens leaves. -/
def EachR (s : ByteArray) (n0 : Nat) (I Ix : List Tk → World → Prop) (w w' : World) : Prop :=
  (I (someS s).1 w' ∧ Below n0 w w') ∨ ∃ pre, pre <+: (someS s).1 ∧ Ix pre w'
set_option maxHeartbeats 2000000 in
set_option maxRecDepth 100000 in
theorem all_round {A : Nat → Addr} {B : Nat} (s : ByteArray) (l : Nat) (I Ix : List Tk → World → Prop) (n0 : Nat) (w : World) (hE : Env A B SJ w) (hn0 : n0 ≤ w.heap.size) (hBn : B ≤ n0) (hs : s.size ≤ 35184372088830) (hY : RoundOk l s n0 I Ix)
    (hI : ∀ w', Below w.heap.size w w' → I [] w') :
    Calls Tryz.prog 52 #[.string s, .func (.yield l) #[] #[]] w fun e w' => (∃ v, e = .returned v ∧ AtOrNil v) ∧ EachR s n0 I Ix w w' := by
  unfold EachR
  have C := Lib.hid (scalarsCheck_calls (A := A) (B := B) s w (Nat.le_trans hs (by decide)) (hE.sub (by decide)))
  obtain ⟨R, hR⟩ : ∃ R, R = someS s := ⟨_, rfl⟩
  rw [← hR]
  replace hR := Lib.hid hR
  replace hI := Lib.hid hI
  replace hY := Lib.hid hY
  replace hs := Lib.hid hs
  go_enter Tryz.func52, Tryz.ntmps52
  (go_wp2_with fail; repeat (any_goals (go_quiet (fail); go_wp2_with fail)))
  refine C.out.mono ?_
  rintro e w1 ⟨rfl, hb⟩
  have hb1 : Below w.heap.size w w1 := bcall (by repeat (first | assumption | exact Below.refl _ _ | apply Below.drew | apply below_drewN | apply balloc | (refine Below.setCell ?_ (by first | omega | (simp <;> omega)) _))) hb
  clear hb
  by_cases hu : utfE s = 0
  · rw [hu]
    replace hu := Lib.hid hu
    unfold errV
    have hv0 : brkAt s 0 = s.size := by
      have h := hu.out
      unfold utfE at h
      split at h
      · cases h
      · have := brkAt_le s; omega
    have hR0 : R = scanAt s 0 := by rw [hR.out, someS_eq, if_pos hu.out]
    replace hR0 := Lib.hid hR0
    replace hv0 := Lib.hid hv0
    have hz1 := hb1.size
    (go_wp2_with fail; repeat (any_goals (go_quiet (fail); go_wp2_with fail)))
    have hsc0 : ScB s (0 : Int) w1.heap.size (w1.alloc (.cells #[.string s, .int .i64 0] 162 (0, 0))) := heap_alloc_new w1 _
    refine (blanks_calls s 0 w1.heap.size _ (Nat.le_trans hs.out (by decide)) (Nat.zero_le _) hsc0).mono ?_
    rintro e w2 ⟨rfl, hsc, hg⟩
    have hb2 : Below w.heap.size w w2 := (hb1.alloc (by omega) _).trans (grown_below hg (by simp; omega) (by omega))
    generalize w1.heap.size = b at *
    have hnb := Lib.hid (Nat.le_trans hn0 hz1)
    clear hsc0 hg hb1
    replace hsc := Lib.hid hsc
    (go_wp2_with fail; repeat (any_goals (go_quiet (fail); go_wp2_with fail)))
    go_loopg [] (s.size + 1 - blkAt s 0) (fun kq wr => ∃ (k : Nat) (ts : List Tk), ScB s (k : Int) b wr ∧ Hid (k ≤ s.size ∧ blkAt s k = k ∧ brkAt s k = s.size ∧ I ts wr ∧ ts.length ≤ k ∧ kq + k = s.size + 1 ∧ (ts ++ (scanAt s k).1, (scanAt s k).2) = R) ∧ Below n0 w wr)
    case atStart =>
      have hl := blkAt_low s 0 (Nat.zero_le _)
      have h1 := hl.2.1
      exact ⟨blkAt s 0, [], hsc.out, Lib.hid ⟨h1, blk_idem s 0, hl.brk hv0.out, hI.out _ hb2, Nat.zero_le _, by omega, by rw [hR0.out, scan_blk s _ 0 (Nat.le_refl _) hv0.out]; rfl⟩, hb2.mono hn0⟩
    case round =>
      obtain ⟨k, ts, hsc2, H, hB⟩ := hrel
      clear hsc hb2
      have x1 := hsc2.at
      have hbl : b < wr.heap.size := ltB hsc2
      replace hsc2 := Lib.hid hsc2
      by_cases hlt : k < s.size
      · have hlt' : (k : Int) < (s.size : Int) := by omega
        have T := Lib.hid (fun w hE hsc => tok_calls (A := A) (B := B) s k b w hE hs.out hsc hlt H.out.2.2.1)
        (go_wp2_with fail; repeat (any_goals (go_quiet (fail); go_wp2_with fail)))
        refine (T.out _ (hE.below (hB.mono hBn)) hsc2.out).mono ?_
        clear T
        have ok3 := Lib.hid (fun h => oneAt_ok s k hlt H.out.2.2.1 h)
        have hst := Lib.hid (scan_step s k H.out.1 H.out.2.2.1)
        have bad3 := Lib.hid (fun h => oneAt_bad s k hlt h)
        generalize hO : oneAt s k = O at *
        obtain ⟨k0, pl, t⟩ := O
        replace hO := Lib.hid hO
        rintro e w3 ⟨hr, hb3⟩
        have hB3 : Below n0 w w3 := hB.trans (hb3.mono (Nat.le_trans hn0 hB.size))
        have hscr := hsc2.out
        replace hsc2 := Lib.hid (hsc2.out.next hb3)
        have hI3 := Lib.hid (hY.out.stab b _ ts _ _ H.out.2.2.2.1 hscr (hnb.out) (grown_of_below hb3))
        have hbl3 : b < w3.heap.size := ltB hsc2.out
        have hz3 := hB3.size
        have hzr := hB.size
        clear x1 hbl hB
        cases k0 with
        | zero =>
          have hr := (nextR_ok rfl).1 hr
          subst hr
          have hq : Hid (t.fr = k ∧ k < t.to ∧ t.to ≤ s.size ∧ brkAt s t.to = s.size) := Lib.hid (by have h := ok3.out rfl; exact ⟨h.1, h.2.1, h.2.2.1, h.2.2.2.1⟩)
          have hst2 := hst.out
          clear ok3 bad3 hst
          replace hst2 := Lib.hid hst2
          have q1 := hsc2.out.at
          have qf := freeB hsc2.out 1
          unfold tkV
          go_upto_region 12 with fail
          obtain ⟨fn, tmps, assign, body, hy, hR⟩ := hY.out.call b (t.to : Int) ts t ((w3.setCell ⟨b, 1, none⟩ (.int .i64 (t.to : Int))).alloc (.cells #[.int .i64 (t.kind : Int), .int .i64 (t.fr : Int), .int .i64 (t.to : Int), .string t.text] 59 (0, 0)))
            (by have := H.out.2.2.2.2.1; omega)
            (by
              have h7 := hst2.out
              rw [H.out.2.1, if_pos hlt, hO.out, if_pos rfl] at h7
              have h8 := H.out.2.2.2.2.2.2
              rw [h7] at h8
              rw [← hR.out]
              exact ⟨_, by rw [← h8, List.append_assoc]; rfl⟩)
            (hY.out.stab b _ ts _ _ (hY.out.stab b _ ts _ _ hI3.out hsc2.out hnb.out (grown_set w3 b 1 _)) hsc2.out.set hnb.out (World.grownBy_alloc _ _ _))
            ((hsc2.out.set).next (by repeat (first | assumption | exact Below.refl _ _ | apply Below.drew | apply below_drewN | apply balloc | (refine Below.setCell ?_ (by first | omega | (simp <;> omega)) _)))) hnb.out (by simp; omega)
          unfold tkV at hy
          refine wpIn_wide (n := 0).1 ?_
          gi_wp2
          refine ⟨rfl, hR.mono ?_⟩
          have hz3' := hz3
          clear hR hy
          rintro e w4 (⟨rfl, hI4, hsc4, hb4⟩ | ⟨rfl, hx4⟩)
          · have hB4 : Below n0 w w4 := by
              refine Below.trans ?_ hb4
              exact (hB3.setCell (p := ⟨b, 1, none⟩) hnb.out _).alloc (by simp; omega) _
            have hz4 := hB4.size
            have hbl4 : b < w4.heap.size := ltB hsc4
            clear hb4 hb3 q1 qf hI3 hsc2
            replace hsc4 := Lib.hid hsc4
            replace hI4 := Lib.hid hI4
            have hq1 := hq.out.2.2.1
            gi_wp2
            (go_wp2_with fail; repeat (any_goals (go_quiet (fail); go_wp2_with fail)))
            refine (blanks_calls s t.to b w4 (Nat.le_trans hs.out (by decide)) hq1 hsc4.out).mono ?_
            rintro e w5 ⟨rfl, hsc5, hg5⟩
            have hB5 : Below n0 w w5 := hB4.trans (grown_below hg5 (by omega) hnb.out)
            have hI5 := hY.out.stab b _ _ _ _ hI4.out hsc4.out hnb.out hg5
            clear hg5 hsc4 hI4
            replace hI5 := Lib.hid hI5
            replace hsc5 := Lib.hid hsc5
            (go_wp2_with fail; repeat (any_goals (go_quiet (fail); go_wp2_with fail)))
            go_roundg (s.size + 1 - blkAt s t.to)
            case measure =>
              have h1 := (blkAt_low s t.to hq1)
              have h2 := hq.out.2.1
              have h3 := H.out.2.2.2.2.2.1
              have h4 := h1.1
              have h5 := h1.2.1
              omega
            case rel =>
              have h1 := (blkAt_low s t.to hq1)
              have h2 := hq.out.2.1
              have h3 := H.out.2.2.2.2.2.1
              have h4 := h1.1
              have h5 := h1.2.1
              have h6 := H.out.2.2.2.2.1
              have h7 := hst2.out
              rw [H.out.2.1, if_pos hlt, hO.out, if_pos rfl] at h7
              have h8 := H.out.2.2.2.2.2.2
              rw [h7] at h8
              refine ⟨blkAt s t.to, ts ++ [t], hsc5.out, Lib.hid ⟨h5, blk_idem s _, h1.brk hq.out.2.2.2, hI5.out, by rw [List.length_append, List.length_singleton]; omega, by omega, ?_⟩, hB5⟩
              rw [← h8, scan_blk s _ t.to (Nat.le_refl _) hq.out.2.2.2, List.append_assoc]
              rfl
          · clear hb3 q1 qf hI3 hsc2
            gi_wp2
            (go_wp2_with fail; repeat (any_goals (go_quiet (fail); go_wp2_with fail)))
            go_ret
            refine ⟨⟨_, rfl, .inl rfl⟩, .inr ⟨ts ++ [t], ?_, hx4⟩⟩
            have h7 := hst2.out
            rw [H.out.2.1, if_pos hlt, hO.out, if_pos rfl] at h7
            have h8 := H.out.2.2.2.2.2.2
            rw [h7] at h8
            exact ⟨_, by rw [← h8, List.append_assoc]; rfl⟩
        | succ k0 =>
          obtain ⟨g, hg, he, hat⟩ := (nextR_bad rfl).1 hr
          subst he
          clear hr
          replace hat := Lib.hid hat
          (go_wp2_with fail; repeat (any_goals (go_quiet (fail); go_wp2_with fail)))
          go_ret
          have hI6 := hY.out.stab b _ ts _ _ hI3.out hsc2.out hnb.out (World.grownBy_alloc w3 (.cells #[.int .i64 0, .int .i64 0, .int .i64 0, .string ⟨#[]⟩] 59 (0, 0)) _)
          have h7 := hst.out
          rw [H.out.2.1, if_pos hlt, hO.out, if_neg (by simp)] at h7
          have h8 := H.out.2.2.2.2.2.2
          rw [h7] at h8
          refine ⟨⟨_, rfl, .inr ⟨g, rfl⟩⟩, .inl ⟨?_, hB3.alloc (by omega) _⟩⟩
          rw [← h8, List.append_nil]; exact hI6
      · have hlt' : ¬ (k : Int) < (s.size : Int) := by omega
        (go_wp2_with fail; repeat (any_goals (go_quiet (fail); go_wp2_with fail)))
        go_ret
        have h7 := scanAt_eq s k H.out.2.2.1
        rw [if_neg hlt] at h7
        have h8 := H.out.2.2.2.2.2.2
        rw [h7] at h8
        refine ⟨⟨_, rfl, .inl rfl⟩, .inl ⟨?_, (by repeat (first | assumption | exact Below.refl _ _ | apply Below.drew | apply below_drewN | apply balloc | (refine Below.setCell ?_ (by first | omega | (simp <;> omega)) _)))⟩⟩
        rw [← h8, List.append_nil]; exact H.out.2.2.2.1
  · have hu1 : utfE s = 1 := by unfold utfE at hu ⊢; split at hu <;> simp_all
    have hR1 : R = ([], 1, brkAt s 0) := by rw [hR.out, someS_eq, if_neg hu]
    rw [hu1]
    replace hR1 := Lib.hid hR1
    replace hu := Lib.hid hu
    replace hu1 := Lib.hid hu1
    unfold errV
    have hz1 := hb1.size
    (go_wp2_with fail; repeat (any_goals (go_quiet (fail); go_wp2_with fail)))
    refine (fault_calls _ _ _ _).mono ?_
    rintro e w2 ⟨g, hg, rfl, hat, hb⟩
    have hb2 : Below w.heap.size w w2 := bcall hb1 hb
    clear hb hb1
    replace hat := Lib.hid hat
    (go_wp2_with fail; repeat (any_goals (go_quiet (fail); go_wp2_with fail)))
    go_ret
    rw [hR1.out]
    exact ⟨⟨_, rfl, .inr ⟨g, rfl⟩⟩, .inl ⟨hI.out _ hb2, hb2.mono hn0⟩⟩
set_option maxHeartbeats 1000000 in
theorem Each1_calls {A : Nat → Addr} {B : Nat} (s : ByteArray) (l b0 : Nat) (I Ix : List Tk → World → Prop) (n0 : Nat) (w : World) (h0 : w.cell? ⟨b0, 0, none⟩ = some (.string s)) (hE : Env A B SJ w) (hn0 : n0 ≤ w.heap.size) (hBn : B ≤ n0) (hs : s.size ≤ 35184372088830) (hY : RoundOk l s n0 I Ix)
    (hI : ∀ w', Below w.heap.size w w' → I [] w') :
    Calls Tryz.prog 51 #[.func (.yield l) #[] #[], .pointer (some ⟨b0, 0, none⟩)] w fun e w' => (∃ v, e = .returned v) ∧ EachR s n0 I Ix w w' := by
  have C := Lib.hid (all_round (A := A) (B := B) s l I Ix n0 w hE hn0 hBn hs hY hI)
  clear hY hI
  go_enter Tryz.func51, Tryz.ntmps51
  (go_wp2_with fail; repeat (any_goals (go_quiet (fail); go_wp2_with fail)))
  refine C.out.mono ?_
  rintro e w1 ⟨⟨v, rfl, hv⟩, hR⟩
  replace hR := Lib.hid hR
  rcases hv with rfl | ⟨g, rfl⟩
  · (go_wp2_with fail; repeat (any_goals (go_quiet (fail); go_wp2_with fail)))
    go_end0
    exact ⟨⟨_, rfl⟩, hR.out⟩
  · (go_wp2_with fail; repeat (any_goals (go_quiet (fail); go_wp2_with fail)))
    refine bodyPost_ret (results_none rfl _ _ _) rfl ?_
    exact ⟨⟨_, rfl⟩, hR.out⟩
theorem Each_calls (s : ByteArray) (w : World) :
    Calls Tryz.prog 24 #[.string s] w fun e w' => e = .returned (.func (.func 51) #[] #[.pointer (some ⟨w.heap.size, 0, none⟩)]) ∧ w' = w.alloc (.cells #[.string s] 9 (0, 0)) := by
  have hmf : ∀ (fn : Fn) (first cap : Array Value) (w : World), (Instr.makeFunc fn first cap).run Tryz.prog w = .ok (.func fn first cap) w := fun _ _ _ _ => rfl
  go_enter Tryz.func24, Tryz.ntmps24
  (go_wp2_with fail; repeat (any_goals (go_quiet (fail); go_wp2_with fail)))
  go_ret
  exact ⟨rfl, rfl⟩

end Go.Proofs.YtibopkodoidjoaaGreatDoor

/- A loop over scan.Each: what a caller owes. -/
namespace Go.Proofs.YtibopkodoidjoaaGreatDoor
open Go Go.RowKit

/-- The iterator's own blocks, and what is no cells. -/
def IsBk (o : Obj) : Prop := o.isCells = false ∨ ∃ cs, o = .cells cs 162 (0, 0)
structure KeepsS (W W' : World) : Prop where
  size : W.heap.size ≤ W'.heap.size
  same : ∀ (k : Nat) (o : Obj), W.heap[k]? = some o → IsBk o → W'.heap[k]? = some o
theorem KeepsS.refl (W : World) : KeepsS W W := ⟨Nat.le_refl _, fun _ _ h _ => h⟩
theorem KeepsS.trans {W1 W2 W3 : World} (h : KeepsS W1 W2) (k : KeepsS W2 W3) : KeepsS W1 W3 := ⟨Nat.le_trans h.size k.size, fun i o hi ho => k.same i o (h.same i o hi ho) ho⟩
theorem KeepsS.grown {W W' : World} {row : Option Nat} (hg : W.grownBy W' row) (hr : ∀ r, row = some r → ∃ cs t z, W.heap[r]? = some (.cells cs t z) ∧ t ≠ 162) : KeepsS W W' :=
  ⟨hg.size, fun k o hk ho => by
    refine (hg.block k (Array.getElem?_eq_some_iff.1 hk).1 (fun e => ?_)).trans hk
    obtain ⟨cs, t, z, h1, h2⟩ := hr k e.symm
    rw [h1] at hk
    cases hk
    rcases ho with ho | ⟨cs', ho⟩
    · cases ho
    · cases ho; exact h2 rfl⟩
theorem KeepsS.alloc (W : World) (o : Obj) : KeepsS W (W.alloc o) := KeepsS.grown (World.grownBy_alloc W o none) (fun r h => by cases h)
/-- What a caller says of its own cells. -/
def OwnS (n0 : Nat) (I : List Tk → World → Prop) : Prop := ∀ ts W W' row, I ts W → W.grownBy W' row → (∀ r, row = some r → n0 ≤ r ∧ ∃ o, W.heap[r]? = some o ∧ IsBk o) → I ts W'
/-- How a round may be left. -/
def postS (n0 : Nat) (I : List Tk → World → Prop) (Ix : Code → List Tk → World → Prop) (xs : List Tk) (W : World) : Exit → Act → World → Prop
  | .normal, _, W' => KeepsS W W' ∧ Below n0 W W' ∧ I xs W'
  | .ret, _, W' => KeepsS W W' ∧ Ix .ret xs W'
  | .exit id, _, W' => KeepsS W W' ∧ Ix (.exit id) xs W'
  | .goto _, _, _ => False
  | .panic _, _, _ => False
  | .outgrown, _, _ => False
theorem put_block {W : World} {l k : Nat} {o : Obj} (h : k ≠ l) : (W.putObj l o).heap[k]? = W.heap[k]? := World.putObj_heap_other h
theorem put_below {W : World} {n0 l : Nat} {o : Obj} (h : n0 ≤ l) : Below n0 W (W.putObj l o) :=
  ⟨rfl, rfl, rfl, by simp, fun k hk => put_block (by omega)⟩
set_option maxHeartbeats 1000000 in
theorem range_each {A : Nat → Addr} {B : Nat} (s : ByteArray) (b0 n0 : Nat) {g : Operand} {ps : Array Tmp} {assign body : Code} {Q : Exit → Act → World → Prop} {a : Act} {w : World}
    (hg : a.eval g = .func (.func 51) #[] #[.pointer (some ⟨b0, 0, none⟩)]) (hc0 : w.cell? ⟨b0, 0, none⟩ = some (.string s)) (hlt0 : b0 < w.heap.size)
    (hE : Env A B SJ w) (hBn : B ≤ n0) (hn0 : n0 ≤ w.heap.size) (hs : s.size ≤ 35184372088830) (hps : ps.size = 1)
    (I : List Tk → World → Prop) (Ix : Code → List Tk → World → Prop) (hI : OwnS n0 I) (hIx : ∀ c, OwnS n0 (Ix c)) (hI0 : I [] w)
    (hround : ∀ l pre x W (K : Act → World → Prop), I pre W → pre.length < s.size → (pre ++ [x]) <+: (someS s).1 → n0 ≤ l → (∃ o, W.heap[l]? = some o ∧ o.isCells = false) → n0 ≤ W.heap.size →
      (∀ a' w1, KeepsS W w1 → Below n0 W w1 → (∀ w2, w1.grownBy w2 (some l) → KeepsS w2 w2 → body.wpIn (Fence.wide.inRound l) 0 Tryz.prog (postS n0 I Ix (pre ++ [x]) w2) a' w2) → K a' w1) →
      assign.wpIn (Fence.wide.inRound l) 0 Tryz.prog (Exit.then K (fun _ _ _ => False)) { tmps := (ps.zip #[tkV x]).foldl (fun t (p, v) => t.setIfInBounds p v) a.tmps, defers := [] } W)
    (hdone : ∀ D W, w.heap.size ≤ D → I (someS s).1 W → Below n0 w W → W.heap[D]? = some (.deferred (some [])) → Q .normal { a with defers := { target := .collected D, args := #[] } :: a.defers } W)
    (hstop : ∀ D c pre W, w.heap.size ≤ D → pre <+: (someS s).1 → Ix c pre W → W.heap[D]? = some (.deferred (some [])) → c.wp Tryz.prog Q { a with defers := { target := .collected D, args := #[] } :: a.defers } W) :
    (Code.rangeFunc g ps assign body).wp Tryz.prog Q a w := by
  refine wpIn_wide (n := 0).1 (wpIn_rangeFunc ?_)
  intro fn hfn
  obtain ⟨rec, hrec⟩ : ∃ rec : LoopState → Option Code → Loop, rec = fun st pe => { state := st, pending := pe, fn, tmps := a.tmps, params := ps, assign, body, defers := w.heap.size } := ⟨_, rfl⟩
  have hrun := run_enterLoop_outer (P := Tryz.prog) (w := w) fn a.tmps ps assign body
  have hrr : rec .ready none = { state := .ready, pending := none, fn, tmps := a.tmps, params := ps, assign, body, defers := w.heap.size } := by rw [hrec]
  rw [← hrr] at hrun
  obtain ⟨W1, hW1⟩ : ∃ W1, (w.alloc (.deferred (some []))).alloc (.loop (rec .ready none)) = W1 := ⟨_, rfl⟩
  rw [hW1] at hrun
  obtain ⟨d, hd⟩ : ∃ d, d = w.heap.size := ⟨_, rfl⟩
  have hL1 : W1.heap[d + 1]? = some (.loop (rec .ready none)) := by
    rw [← hW1, hd]
    have := World.alloc_heap_new (w.alloc (.deferred (some []))) (.loop (rec .ready none))
    rwa [World.size_alloc] at this
  have hD1 : W1.heap[d]? = some (.deferred (some [])) := by
    rw [← hW1, hd]
    exact (Below.heap_alloc _ _ _ (by simp)).trans (World.alloc_heap_new w _)
  have hb1 : Below w.heap.size w W1 := by rw [← hW1]; exact balloc (balloc (Below.refl _ _))
  have hI1 : I [] W1 := by
    rw [← hW1]
    exact hI _ _ _ none (hI _ _ _ none hI0 (World.grownBy_alloc _ _ _) (fun r h => by cases h)) (World.grownBy_alloc _ _ _) (fun r h => by cases h)
  have hz1 := hb1.size
  have hd0 : n0 ≤ d := by omega
  have hps' : ∀ x : Value, (#[x] : Array Value).size = ps.size := fun x => hps.symm
  -- a block that is the iterator's own or is grown by turns
  have hoth : ∀ {W W' : World} {r k : Nat} {o : Obj}, W.grownBy W' (some r) → k ≠ r → W.heap[k]? = some o → W'.heap[k]? = some o := fun hgr hne hk =>
    (hgr.block _ (Array.getElem?_eq_some_iff.1 hk).1 (fun e => hne (by injection e))).trans hk
  have hY : RoundOk (d + 1) s n0
      (fun pre W => I pre W ∧ W.heap[d + 1]? = some (.loop (rec .ready none)) ∧ W.heap[d]? = some (.deferred (some [])))
      (fun pre W => ∃ c, Ix c pre W ∧ W.heap[d + 1]? = some (.loop (rec .done (some c))) ∧ W.heap[d]? = some (.deferred (some []))) := by
    constructor
    · rintro b p ts t W hlen hpx ⟨hi, hl, hk⟩ hsc hnb hnW
      have hy := run_yield (P := Tryz.prog) (args := #[tkV t]) hl (by rw [hrec]; exact hps' _)
      rw [hrec] at hy
      refine ⟨fn, _, assign, body, hy, roundIn_of_wpIn hfn (hround (d + 1) ts t W _ hi hlen hpx (by omega) ⟨_, hl, rfl⟩ hnW ?_)⟩
      intro a' w1 hks hbl hbody
      have hl1 := hks.same _ _ hl (.inl rfl)
      have hk1 := hks.same _ _ hk (.inl rfl)
      have hsc1 := hks.same _ _ hsc (.inr ⟨_, rfl⟩)
      have hll : d + 1 < w1.heap.size := (Array.getElem?_eq_some_iff.1 hl1).1
      refine ⟨_, run_beginRound hl1 (by rw [hrec]), ?_⟩
      have hl2 : (w1.putObj (d + 1) (.loop { rec .ready none with state := .busy })).heap[d + 1]? = some (.loop { rec .ready none with state := .busy }) := World.putObj_heap_same hll
      have hk2 : (w1.putObj (d + 1) (.loop { rec .ready none with state := .busy })).heap[d]? = some (.deferred (some [])) := (put_block (by omega)).trans hk1
      have hbne : b ≠ d + 1 := fun e => by
        rw [e] at hsc1
        rw [hl1] at hsc1
        cases hsc1
      have hsc2 : ScB s p b (w1.putObj (d + 1) (.loop { rec .ready none with state := .busy })) := (put_block hbne).trans hsc1
      have hbl2 : Below n0 W (w1.putObj (d + 1) (.loop { rec .ready none with state := .busy })) := hbl.trans (put_below (by omega))
      refine wpIn_mono (hbody _ (grownBy_putObj' w1 (d + 1) _) (KeepsS.refl _)) ?_
      generalize w1.putObj (d + 1) (.loop { rec .ready none with state := .busy }) = W2 at hl2 hk2 hsc2 hbl2 ⊢
      have fin : ∀ (jump : Option Code) (W3 : World), KeepsS W2 W3 →
          (Instr.endRound (d + 1) jump).run Tryz.prog W3 = .ok (.bool jump.isNone) (W3.putObj (d + 1) (.loop (rec (if jump.isNone then .ready else .done) jump))) ∧
          W3.heap[d + 1]? = some (.loop { rec .ready none with state := .busy }) ∧
          (W3.putObj (d + 1) (.loop (rec (if jump.isNone then .ready else .done) jump))).heap[d + 1]? = some (.loop (rec (if jump.isNone then .ready else .done) jump)) ∧
          (W3.putObj (d + 1) (.loop (rec (if jump.isNone then .ready else .done) jump))).heap[d]? = some (.deferred (some [])) ∧
          ScB s p b (W3.putObj (d + 1) (.loop (rec (if jump.isNone then .ready else .done) jump))) := fun jump W3 hk3 => by
        have hl3 := hk3.same _ _ hl2 (.inl rfl)
        have hr := run_endRound (P := Tryz.prog) jump hl3
        rw [hrec] at hr ⊢
        exact ⟨hr, by rw [hrec] at hl3; exact hl3, World.putObj_heap_same (Array.getElem?_eq_some_iff.1 hl3).1, (put_block (by omega)).trans (hk3.same _ _ hk2 (.inl rfl)), (put_block hbne).trans (hk3.same _ _ hsc2 (.inr ⟨_, rfl⟩))⟩
      rintro e a3 W3 hp
      cases e with
      | normal =>
        obtain ⟨hk3, hb3, hi3⟩ := hp
        obtain ⟨hr, hl3, hl4, hk4, hs4⟩ := fin none W3 hk3
        exact ⟨_, _, hr, .inl ⟨rfl, ⟨hI _ _ _ _ hi3 (grownBy_putObj' W3 (d + 1) _) (fun r e => by cases e; exact ⟨by omega, _, hl3, .inl rfl⟩), hl4, hk4⟩, hs4, (hbl2.trans hb3).trans (put_below (by omega))⟩⟩
      | ret =>
        obtain ⟨hk3, hi3⟩ := hp
        obtain ⟨hr, hl3, hl4, hk4, _⟩ := fin (some .ret) W3 hk3
        exact ⟨_, _, hr, .inr ⟨rfl, .ret, hIx _ _ _ _ _ hi3 (grownBy_putObj' W3 (d + 1) _) (fun r e => by cases e; exact ⟨by omega, _, hl3, .inl rfl⟩), hl4, hk4⟩⟩
      | exit id =>
        obtain ⟨hk3, hi3⟩ := hp
        obtain ⟨hr, hl3, hl4, hk4, _⟩ := fin (some (.exit id)) W3 hk3
        exact ⟨_, _, hr, .inr ⟨rfl, .exit id, hIx _ _ _ _ _ hi3 (grownBy_putObj' W3 (d + 1) _) (fun r e => by cases e; exact ⟨by omega, _, hl3, .inl rfl⟩), hl4, hk4⟩⟩
      | goto t => exact hp.elim
      | panic ch => exact hp.elim
      | outgrown => exact hp.elim
    · rintro b p ts W W' ⟨hi, hl, hk⟩ hsc hnb hgr
      refine ⟨hI _ _ _ _ hi hgr (fun r e => by cases e; exact ⟨hnb, _, hsc, .inr ⟨_, rfl⟩⟩), hoth hgr (fun e => ?_) hl, hoth hgr (fun e => ?_) hk⟩
      · rw [← e] at hsc; unfold ScB at hsc; rw [hl] at hsc; cases hsc
      · rw [← e] at hsc; unfold ScB at hsc; rw [hk] at hsc; cases hsc
  have hstart : ∀ w', Below W1.heap.size W1 w' → I [] w' ∧ w'.heap[d + 1]? = some (.loop (rec .ready none)) ∧ w'.heap[d]? = some (.deferred (some [])) := fun w' hb =>
    ⟨hI _ _ _ none hI1 ⟨hb.os, hb.tape, hb.output, hb.size, fun k hk _ => hb.block k hk⟩ (fun r h => by cases h),
      (hb.block _ (Array.getElem?_eq_some_iff.1 hL1).1).trans hL1, (hb.block _ (Array.getElem?_eq_some_iff.1 hD1).1).trans hD1⟩
  have C := Each1_calls (A := A) (B := B) s (d + 1) b0 _ _ n0 W1 ((hb1.cell (p := ⟨b0, 0, none⟩) hlt0).trans hc0) (hE.next hb1) (by omega) hBn hs hY hstart
  subst hd
  refine ⟨w.heap.size + 1, [{ target := .collected w.heap.size, args := #[] }], W1, { target := .fn (.func 51) #[.pointer (some ⟨b0, 0, none⟩)], args := #[.func (.yield (w.heap.size + 1)) #[] #[]] }, W1, 51,
    #[.func (.yield (w.heap.size + 1)) #[] #[], .pointer (some ⟨b0, 0, none⟩)], W1, hrun, ?_, fun _ _ => trivial, ?_, fun h => absurd h (by simp [Fence.wide]), ?_⟩
  · simp only [resolve, hg]
    simp [go_sem]
  · simp [invoke, go_sem]
  · refine (callsIn_wide.2 C).mono ?_
    rintro e W2 ⟨⟨v, rfl⟩, (⟨⟨hi, hl, hk⟩, hb⟩ | ⟨pre, hpre, c, hi, hl, hk⟩)⟩
    · have he := run_endLoop (P := Tryz.prog) hl (by rw [hrec]; simp)
      rw [hrec] at he
      refine ⟨none, _, he, hdone _ _ (Nat.le_refl _) (hI _ _ _ _ hi (grownBy_putObj' W2 _ _) (fun r e => by cases e; exact ⟨by omega, _, hl, .inl rfl⟩)) ?_ ((put_block (by omega)).trans hk)⟩
      exact ((hb1.mono hn0).trans hb).trans (put_below (by omega))
    · have he := run_endLoop (P := Tryz.prog) hl (by rw [hrec]; simp)
      rw [hrec] at he
      exact ⟨some c, _, he, wpIn_wide.2 (hstop _ c pre _ (Nat.le_refl _) hpre (hIx _ _ _ _ _ hi (grownBy_putObj' W2 _ _) (fun r e => by cases e; exact ⟨by omega, _, hl, .inl rfl⟩)) ((put_block (by omega)).trans hk))⟩

end Go.Proofs.YtibopkodoidjoaaGreatDoor

/- The law's gone: a loop over scan.Each that gathers, and breaks. -/
namespace Go.Proofs.YtibopkodoidjoaaGreatDoor
open Go Go.RowKit

attribute [local go_sem] Oper.semAt_some

theorem box_s {W W' : World} {row : Option Nat} {n0 c : Nat} {cs : Array Value} {t : TypeId} {z : Nat × Nat} (h : W.heap[c]? = some (.cells cs t z)) (ht : t ≠ 162) (hg : W.grownBy W' row)
    (hr : ∀ r, row = some r → n0 ≤ r ∧ ∃ o, W.heap[r]? = some o ∧ IsBk o) : W'.heap[c]? = some (.cells cs t z) := by
  refine (hg.block c (Array.getElem?_eq_some_iff.1 h).1 (fun e => ?_)).trans h
  obtain ⟨_, o, ho, hb⟩ := hr c e.symm
  rw [h] at ho
  cases ho
  rcases hb with hb | ⟨cs', hb⟩
  · cases hb
  · cases hb; exact ht rfl
theorem row_s {W W' : World} {row : Option Nat} {n0 base e size n : Nat} {v : Value} {xs : List Value} (h : W.ownsRow base e size v n xs) (he : e ≠ 162) (hg : W.grownBy W' row)
    (hr : ∀ r, row = some r → n0 ≤ r ∧ ∃ o, W.heap[r]? = some o ∧ IsBk o) : W'.ownsRow base e size v n xs := by
  refine h.kept hg ?_
  rcases h.2 with ⟨rfl, _⟩ | ⟨g, cap, cur, rfl, _, hgb, _⟩
  · exact .inl rfl
  · refine .inr fun e' => ?_
    obtain ⟨_, o, ho, hb⟩ := hr g (by simpa [Value.ownBlock] using e'.symm)
    rw [hgb] at ho
    cases ho
    rcases hb with hb | ⟨cs', hb⟩
    · cases hb
    · cases hb; exact he rfl
theorem below_s {W W' w : World} {row : Option Nat} {n0 : Nat} (h : Below n0 w W) (hn : n0 ≤ w.heap.size) (hg : W.grownBy W' row)
    (hr : ∀ r, row = some r → n0 ≤ r ∧ ∃ o, W.heap[r]? = some o ∧ IsBk o) : Below n0 w W' :=
  h.trans (Below.grown (Below.refl n0 W) hg (Nat.le_trans hn h.size) (fun k hk => (hr k hk).1))
theorem al_kp {W : World} {g : Nat} {o o' : Obj} (h : W.heap[g]? = some o) : (W.alloc o').heap[g]? = some o := (((Below.refl W.heap.size W).alloc (Nat.le_refl _) o').block g (ltB h)).trans h
/-- What gone gathers. -/
def goneL (ts : List Tk) (top : Int) : List Tk := if 0 < top ∧ top < (ts.length : Int) then ts.take top.toNat else ts
/-- The boxes of gone, and its list. -/
def GoneI (s : ByteArray) (top : Int) (w : World) (pre : List Tk) (W : World) : Prop :=
  (∃ v, W.heap[w.heap.size + 3]? = some (.cells #[v] 49 (0, 0)) ∧ W.ownsRow w.heap.size 59 4 v pre.length (pre.flatMap tkC)) ∧
  W.heap[w.heap.size]? = some (.cells #[.string s] 9 (0, 0)) ∧ W.heap[w.heap.size + 1]? = some (.cells #[.int .i64 top] 3 (0, 0)) ∧ Below w.heap.size w W
theorem goneI_own (s : ByteArray) (top : Int) (w : World) : OwnS w.heap.size (GoneI s top w) := by
  rintro ts W W' row ⟨⟨v, h1, h2⟩, h3, h4, h5⟩ hg hr
  exact ⟨⟨v, box_s h1 (by decide) hg hr, row_s h2 (by decide) hg hr⟩, box_s h3 (by decide) hg hr, box_s h4 (by decide) hg hr, below_s h5 (Nat.le_refl _) hg hr⟩
def isFn : Option TypeDesc → Bool
  | some (.func _ _ _) => true
  | _ => false
theorem isFn_ex : ∀ {d : Option TypeDesc}, isFn d = true → ∃ x y z, d = some (.func x y z)
  | some (.func x y z), _ => ⟨x, y, z, rfl⟩
theorem eq_fn_nil {P : Program} {t : TypeId} {x y : Array TypeId} {z : Bool} (h : P.underlying t = some (.func x y z)) (f : Fn) (c d : Array Value) (n : Nat) (w : World) : (Op.equalIn (n + 1) t (.func f c d) .nilFunc).run P w = .ok false w := by
  simp [Op.equalIn, run_underlying h]
theorem seq_nil (b : Option Addr) (w : World) : Sem.run Tryz.prog (binOp BinOp.eql 56 (.func (.func 51) #[] #[.pointer b]) .nilFunc) w = .ok (.bool false) w := by
  obtain ⟨x, y, z, h⟩ := isFn_ex (d := Tryz.prog.underlying 56) (by kernel_rfl)
  have he : (Op.equal 56 (.func (.func 51) #[] #[.pointer b]) .nilFunc).run Tryz.prog w = .ok false w := eq_fn_nil h _ _ _ _ w
  simp only [binOp]
  simp [he]
set_option maxHeartbeats 4000000 in
set_option maxRecDepth 100000 in
theorem gone_calls {A : Nat → Addr} {B : Nat} (s : ByteArray) (top : Int) (w : World) (hE : Env A B SJ w) (hs : s.size ≤ 1048576) :
    Calls Tryz.prog 22 #[.string s, .int .i64 top] w fun e w' => (∃ v, e = .returned (.tuple #[v, .bool true]) ∧ w'.ownsRow w.heap.size 59 4 v (goneL (someS s).1 top).length ((goneL (someS s).1 top).flatMap tkC)) ∧ Below w.heap.size w w' := by
  replace hE := Lib.hid hE
  have hBn := hE.out.hB
  obtain ⟨P, hP⟩ : ∃ P, P = (someS s).1 := ⟨_, rfl⟩
  rw [← hP]
  replace hP := Lib.hid hP
  refine callsIn_wide (n := 0).1 (callsIn_of_wp_marks Tryz.func22 rfl trivial (wpIn_wide.2 ?_))
  simp only [Tryz.ntmps22, List.size_toArray, List.length_cons, List.length_nil, Nat.reduceAdd, Nat.reduceSub, Array.replicate_succ, Array.replicate_zero, List.push_toArray, List.append_toArray, List.nil_append, List.cons_append]
  (go_wp2_with fail; repeat (any_goals (go_quiet (fail); go_wp2_with fail)))
  refine (Each_calls s _).mono ?_
  rintro e w1 ⟨rfl, rfl⟩
  have hnf := seq_nil (some ⟨w.heap.size + 1 + 1, 0, none⟩)
  (go_wp2_with fail; repeat (any_goals (go_quiet (fail); go_wp2_with fail)))
  have hsz : ((((w.alloc (.cells #[.string s] 9 (0, 0))).alloc (.cells #[.int .i64 top] 3 (0, 0))).alloc (.cells #[.string s] 9 (0, 0))).alloc (.cells #[.slice none 0 0] 49 (0, 0))).heap.size = w.heap.size + 4 := by simp
  have hbw : Below w.heap.size w ((((w.alloc (.cells #[.string s] 9 (0, 0))).alloc (.cells #[.int .i64 top] 3 (0, 0))).alloc (.cells #[.string s] 9 (0, 0))).alloc (.cells #[.slice none 0 0] 49 (0, 0))) := (by repeat (first | assumption | exact Below.refl _ _ | apply Below.drew | apply below_drewN | apply balloc | (refine Below.setCell ?_ (by first | omega | (simp <;> omega)) _)))
  have x0 := heap_alloc_new w (.cells #[.string s] 9 (0, 0))
  have x1 := heap_alloc_new (w.alloc (.cells #[.string s] 9 (0, 0))) (.cells #[.int .i64 top] 3 (0, 0))
  have x2 := heap_alloc_new ((w.alloc (.cells #[.string s] 9 (0, 0))).alloc (.cells #[.int .i64 top] 3 (0, 0))) (.cells #[.string s] 9 (0, 0))
  have x3 := heap_alloc_new (((w.alloc (.cells #[.string s] 9 (0, 0))).alloc (.cells #[.int .i64 top] 3 (0, 0))).alloc (.cells #[.string s] 9 (0, 0))) (.cells #[.slice none 0 0] 49 (0, 0))
  replace x2 := al_kp (o' := .cells #[.slice none 0 0] 49 (0, 0)) x2
  replace x1 := al_kp (o' := .cells #[.slice none 0 0] 49 (0, 0)) (al_kp (o' := .cells #[.string s] 9 (0, 0)) x1)
  replace x0 := al_kp (o' := .cells #[.slice none 0 0] 49 (0, 0)) (al_kp (o' := .cells #[.string s] 9 (0, 0)) (al_kp (o' := .cells #[.int .i64 top] 3 (0, 0)) x0))
  simp only [World.size_alloc] at x1 x2 x3
  generalize (((w.alloc (.cells #[.string s] 9 (0, 0))).alloc (.cells #[.int .i64 top] 3 (0, 0))).alloc (.cells #[.string s] 9 (0, 0))).alloc (.cells #[.slice none 0 0] 49 (0, 0)) = W0 at hsz hbw x0 x1 x2 x3 ⊢
  refine range_each (A := A) (B := B) s (w.heap.size + 1 + 1) w.heap.size rfl (cellB x2 0 rfl) (by omega) (hE.out.next hbw) hBn (by omega) (by omega) rfl (fun pre W => (top ≤ 0 ∨ (pre.length : Int) < top) ∧ GoneI s top w pre W) (fun c pre W => c = .exit 0 ∧ GoneI s top w pre W ∧ (pre.length : Int) = top ∧ 0 < pre.length) (fun ts W W' row h hg hr => ⟨h.1, goneI_own s top w ts W W' row h.2 hg hr⟩)
    (fun c ts W W' row h hg hr => ⟨h.1, goneI_own s top w ts W W' row h.2.1 hg hr, h.2.2⟩) ⟨by simp; omega, ⟨_, x3, World.ownsRow_nil _ _ _ _⟩, x0, x1, hbw⟩ ?round ?done ?stop
  case round =>
    intro l pre x W K hi hlen _ hnl hl hnW hK
    obtain ⟨hbd, hi⟩ := hi
    replace hbd := Lib.hid hbd
    obtain ⟨o, hlo, hoc⟩ := hl
    obtain ⟨tk, tf, tt, tx⟩ := x
    unfold tkV
    gi_wp2
    refine hK _ _ (KeepsS.alloc _ _) (Below.alloc (Below.refl _ _) hnW _) ?_
    intro w2 hg2 _
    have hl1 : (W.alloc (.cells #[.int .i64 (tk : Int), .int .i64 (tf : Int), .int .i64 (tt : Int), .string tx] 59 (0, 0))).heap[l]? = some o := al_kp hlo
    have hi2 := goneI_own s top w pre _ w2 (some l) (goneI_own s top w pre W _ none hi (World.grownBy_alloc W (.cells #[.int .i64 (tk : Int), .int .i64 (tf : Int), .int .i64 (tt : Int), .string tx] 59 (0, 0)) none) (fun r e => by cases e)) hg2 (fun r e => by cases e; exact ⟨hnl, o, hl1, .inl hoc⟩)
    have hlW := ltB hlo
    have hx2 : w2.heap[W.heap.size]? = some (.cells #[.int .i64 (tk : Int), .int .i64 (tf : Int), .int .i64 (tt : Int), .string tx] 59 (0, 0)) := (hg2.block _ (by simp) (fun e => by injection e with e; omega)).trans (heap_alloc_new W _)
    have hnx : w.heap.size ≤ W.heap.size := hnW
    generalize W.heap.size = bx at hx2 hnx hlW ⊢
    clear hg2 hl1 hi hK hlo
    obtain ⟨⟨v, hc, hrow⟩, hbs, hbt, hB⟩ := hi2
    have yc := cellB hc 0 rfl
    have yf := freeB hc 0
    have ys := cellB hbs 0 rfl
    have yt := cellB hbt 0 rfl
    have hz2 := hB.size
    have hcl := ltB hc
    have zc0 := cellB hx2 0 rfl
    have zc1 := cellB hx2 1 rfl
    have zc2 := cellB hx2 2 rfl
    have zc3 := cellB hx2 3 rfl
    replace hrow := Lib.hid hrow
    obtain ⟨i0, hi, hi2⟩ := Option.map_eq_some_iff.1 infoTk
    simp only [Prod.mk.injEq] at hi2
    obtain ⟨hq0, hq1, hq2⟩ := hi2
    replace hi := Lib.hid hi
    replace hq0 := Lib.hid hq0
    replace hq1 := Lib.hid hq1
    replace hq2 := Lib.hid hq2
    gi_wp2_with (gi_at_builtin; refine wpListIn_append_own _ rfl _ _ 49 rfl w.heap.size 59 i0 (.agg #[.int .i64 0, .int .i64 0, .int .i64 0, .string ⟨#[]⟩]) 4 40 Tryz.underlying49 hi.out hq0.out hq1.out hq2.out rfl (by decide) _ _ _ rfl (hrow.out.alloc _) ⟨w2.heap.size, 0, none⟩ 1 1 [.int .i64 (tk : Int), .int .i64 (tf : Int), .int .i64 (tt : Int), .string tx] rfl rfl ?c1 ?c2 ?c3 ?c4 ?c5 ?_)
    case c1 =>
      intro j u hj
      match j, hj with
      | 0, hj => simp at hj; subst hj; simp [Addr.add]
      | 1, hj => simp at hj; subst hj; simp [Addr.add]
      | 2, hj => simp at hj; subst hj; simp [Addr.add]
      | 3, hj => simp at hj; subst hj; simp [Addr.add]
    case c2 => intro u hu; simp at hu; rcases hu with rfl | rfl | rfl | rfl <;> rfl
    case c3 => unfold maxLen; omega
    case c4 => omega
    case c5 => simp; omega
    intro v' w3 ho3 hg3 _
    obtain ⟨g', cap', rfl⟩ := ownsRow_succ ho3
    have hwz := hz2
    obtain ⟨bc1, bc2, br2, _, bb2⟩ := Boxed.appended (W := w2) (n₀ := w.heap.size) hc (by decide) hrow.out hz2 (Nat.le_add_right _ 3) ho3 hg3
    have bs1 := (Boxed.alloc (show Boxed w2 w.heap.size 9 (.string s) from hbs) (.cells #[.int .i64 (tk : Int), .int .i64 (tf : Int), .int .i64 (tt : Int), .string tx] 59 (0, 0))).kept hg3 (Boxed.not_row (Boxed.alloc (show Boxed w2 w.heap.size 9 (.string s) from hbs) (.cells #[.int .i64 (tk : Int), .int .i64 (tf : Int), .int .i64 (tt : Int), .string tx] 59 (0, 0))) (by decide) (hrow.out.alloc _))
    have bt1 := (Boxed.alloc (show Boxed w2 (w.heap.size + 1) 3 (.int .i64 top) from hbt) (.cells #[.int .i64 (tk : Int), .int .i64 (tf : Int), .int .i64 (tt : Int), .string tx] 59 (0, 0))).kept hg3 (Boxed.not_row (Boxed.alloc (show Boxed w2 (w.heap.size + 1) 3 (.int .i64 top) from hbt) (.cells #[.int .i64 (tk : Int), .int .i64 (tf : Int), .int .i64 (tt : Int), .string tx] 59 (0, 0))) (by decide) (hrow.out.alloc _))
    have bs2 := bs1.kept (grown_set w3 (w.heap.size + 3) 0 (.slice (some ⟨g', 0, none⟩) (pre.length + 1) cap')) (by simp)
    have bt2 := bt1.kept (grown_set w3 (w.heap.size + 3) 0 (.slice (some ⟨g', 0, none⟩) (pre.length + 1) cap')) (by simp)
    have hks : KeepsS w2 (w3.setCell ⟨w.heap.size + 3, 0, none⟩ (.slice (some ⟨g', 0, none⟩) (pre.length + 1) cap')) := by
      refine ((KeepsS.alloc w2 _).trans (KeepsS.grown hg3 (fun r hr => ?_))).trans (KeepsS.grown (grown_set w3 _ 0 _) (fun r hr => by cases hr; exact ⟨_, _, _, bc1, by decide⟩))
      rcases (hrow.out.alloc (.cells #[.int .i64 (tk : Int), .int .i64 (tf : Int), .int .i64 (tt : Int), .string tx] 59 (0, 0))).2 with ⟨rfl, _⟩ | ⟨gb, cap, cur, rfl, _, hgb, _⟩
      · cases hr
      · simp [Value.ownBlock] at hr
        subst hr
        exact ⟨_, _, _, hgb, by decide⟩
    have z1 := bc1.cell
    have z2 := bc1.frozen
    have z3 := bs1.cell
    have z4 := bt1.cell
    have hfin : KeepsS w2 (w3.setCell ⟨w.heap.size + 3, 0, none⟩ (.slice (some ⟨g', 0, none⟩) (pre.length + 1) cap')) ∧ Below w.heap.size w2 (w3.setCell ⟨w.heap.size + 3, 0, none⟩ (.slice (some ⟨g', 0, none⟩) (pre.length + 1) cap')) ∧ GoneI s top w (pre ++ [⟨tk, tf, tt, tx⟩]) (w3.setCell ⟨w.heap.size + 3, 0, none⟩ (.slice (some ⟨g', 0, none⟩) (pre.length + 1) cap')) := by
      refine ⟨hks, bb2, ⟨_, bc2, ?_⟩, bs2, bt2, hB.trans bb2⟩
      rw [List.length_append, List.length_singleton, List.flatMap_append]
      simpa [tkC] using br2
    replace hfin := Lib.hid hfin
    clear hks bb2 bc2 br2 bs2 bt2 bc1 bs1 bt1 ho3 hg3 hc hbs hbt hrow hx2 yc yf ys yt zc0 zc1 zc2 zc3 hi hq0 hq1 hq2
    have hnot : ¬ (s.size : Int) < (pre.length : Int) + 1 := by omega
    by_cases htop : (pre.length : Int) + 1 = top
    · have hd : (((pre.length : Int) + 1) == top) = true := beq_iff_eq.2 htop
      gi_wp2
      exact ⟨hfin.out.1, rfl, hfin.out.2.2, by rw [List.length_append, List.length_singleton]; omega, by rw [List.length_append, List.length_singleton]; omega⟩
    · have hd : (((pre.length : Int) + 1) == top) = false := beq_eq_false_iff_ne.2 htop
      gi_wp2
      exact ⟨hfin.out.1, hfin.out.2.1, by rw [List.length_append, List.length_singleton]; have := hbd.out; omega, hfin.out.2.2⟩
  case done =>
    rintro D W2 hD ⟨hbd, ⟨v, hc, hrow⟩, hbs, hbt, hB⟩ hbW hK
    have yc := cellB hc 0 rfl
    replace hbd := Lib.hid hbd
    replace hrow := Lib.hid hrow
    (go_wp2_with fail; repeat (any_goals (go_quiet (fail); go_wp2_with fail)))
    refine ⟨by simp, .inl ⟨_, _, rfl, run_takeDeferred hK, _, results_tmp2 rfl _ _ _, ⟨v, rfl, ?_⟩, hB.trans (put_below (by omega))⟩⟩
    have e : goneL P top = (someS s).1 := by
      rw [hP.out]
      unfold goneL
      rw [if_neg (by have := hbd.out; omega)]
    rw [e]
    exact ownsRow_putObj hrow.out _ hK rfl
  case stop =>
    rintro D c pre W2 hD hpre ⟨rfl, ⟨⟨v, hc, hrow⟩, hbs, hbt, hB⟩, htop, hpos⟩ hK
    have yc := cellB hc 0 rfl
    replace hrow := Lib.hid hrow
    have e : goneL P top = pre := by
      rw [hP.out]
      have hle := hpre.length_le
      unfold goneL
      split
      · rw [← htop, Int.toNat_natCast]
        exact (List.prefix_iff_eq_take.1 hpre).symm
      · exact (hpre.eq_of_length (by omega)).symm
    replace e := Lib.hid e
    (go_wp2_with fail; repeat (any_goals (go_quiet (fail); go_wp2_with fail)))
    refine ⟨by simp, .inl ⟨_, _, rfl, run_takeDeferred hK, _, results_tmp2 rfl _ _ _, ⟨v, rfl, ?_⟩, hB.trans (put_below (by omega))⟩⟩
    rw [e.out]
    exact ownsRow_putObj hrow.out _ hK rfl

end Go.Proofs.YtibopkodoidjoaaGreatDoor

/- The reference of chapter 17: its small functions. -/
namespace Go.Proofs.YtibopkodoidjoaaGreatDoor
open Go Go.RowKit

set_option maxHeartbeats 400000 in
theorem rDigit_calls (c : Nat) (w : World) : Calls Tryz.prog 77 #[.int .u8 (c : Int)] w fun e w' => e = .returned (.bool (isD c)) ∧ w' = w := by
  by_cases h1 : 48 ≤ c
  · by_cases h2 : c ≤ 57
    · have e : isD c = true := isD_iff.2 ⟨h1, h2⟩
      rw [e]
      clear e
      go_enter Tryz.func77, Tryz.ntmps77
      (go_wp2_with fail; repeat (any_goals (go_quiet (fail); go_wp2_with fail)))
      go_ret
      exact ⟨by simp <;> omega, rfl⟩
    · have e : isD c = false := by rw [Bool.eq_false_iff]; intro h; exact h2 (isD_iff.1 h).2
      rw [e]
      clear e
      go_enter Tryz.func77, Tryz.ntmps77
      (go_wp2_with fail; repeat (any_goals (go_quiet (fail); go_wp2_with fail)))
      go_ret
      exact ⟨by simp <;> omega, rfl⟩
  · have e : isD c = false := by rw [Bool.eq_false_iff]; intro h; exact h1 (isD_iff.1 h).1
    rw [e]
    clear e
    go_enter Tryz.func77, Tryz.ntmps77
    (go_wp2_with fail; repeat (any_goals (go_quiet (fail); go_wp2_with fail)))
    go_ret
    exact ⟨by simp <;> omega, rfl⟩
set_option maxHeartbeats 1000000 in
theorem rDigits_calls (s : ByteArray) (i : Nat) (w : World) (hs : s.size ≤ 140737488351232) (hi : i ≤ s.size) :
    Calls Tryz.prog 94 #[.string s, .int .i64 (i : Int)] w fun e w' => e = .returned (.int .i64 (digAt s i : Nat)) ∧ w' = w := by
  obtain ⟨r, hr⟩ : ∃ r, digAt s i = r := ⟨_, rfl⟩
  rw [hr]
  replace hr := Lib.hid hr
  go_enter Tryz.func94, Tryz.ntmps94
  (go_wp2_with fail; repeat (any_goals (go_quiet (fail); go_wp2_with fail)))
  go_loop [1] (fun v => ∃ k : Nat, k ≤ s.size ∧ v = .int .i64 (k : Int) ∧ Hid (digAt s k = r)) (fun v => s.size - (intOf v).toNat)
  case atStart => exact ⟨i, hi, rfl, hr⟩
  case round =>
    obtain ⟨k, hk, rfl, hr2⟩ := hrel
    have hx := byte_at s k
    have he := Lib.hid (digAt_eq s k)
    by_cases hlt : k < s.size
    · have D := Lib.hid (fun w => rDigit_calls (bAt s k) w)
      cases hd : isD (bAt s k) with
      | true =>
        rw [hd] at D
        replace hd := Lib.hid hd
        (go_wp2_with fail; repeat (any_goals (go_quiet (fail); go_wp2_with fail)))
        refine (D.out _).mono ?_
        rintro e w1 ⟨rfl, rfl⟩
        (go_wp2_with fail; repeat (any_goals (go_quiet (fail); go_wp2_with fail)))
        go_round
        case rel => exact ⟨k + 1, by omega, by go_num, Lib.hid (by rw [← hr2.out, he.out, if_pos hd.out])⟩
        case measure => simp [intOf]; omega
      | false =>
        rw [hd] at D
        replace hd := Lib.hid hd
        (go_wp2_with fail; repeat (any_goals (go_quiet (fail); go_wp2_with fail)))
        refine (D.out _).mono ?_
        rintro e w1 ⟨rfl, rfl⟩
        (go_wp2_with fail; repeat (any_goals (go_quiet (fail); go_wp2_with fail)))
        go_ret
        exact ⟨ret_int (by rw [← hr2.out, he.out, if_neg (by rw [hd.out]; simp)]), rfl⟩
    · have hd : isD (bAt s k) = false := by rw [bAt_ge s k (by omega)]; rfl
      replace hd := Lib.hid hd
      (go_wp2_with fail; repeat (any_goals (go_quiet (fail); go_wp2_with fail)))
      go_ret
      exact ⟨ret_int (by rw [← hr2.out, he.out, if_neg (by rw [hd.out]; simp)]), rfl⟩


set_option maxHeartbeats 400000 in
theorem rBlank_calls (c : Nat) (w : World) : Calls Tryz.prog 49 #[.int .u8 (c : Int)] w fun e w' => e = .returned (.bool (blankN c)) ∧ w' = w := by
  by_cases h1 : c = 32
  · subst h1
    go_enter Tryz.func49, Tryz.ntmps49
    (go_wp2_with fail; repeat (any_goals (go_quiet (fail); go_wp2_with fail)))
    go_ret
    exact ⟨rfl, rfl⟩
  by_cases h2 : c = 9
  · subst h2
    go_enter Tryz.func49, Tryz.ntmps49
    (go_wp2_with fail; repeat (any_goals (go_quiet (fail); go_wp2_with fail)))
    go_ret
    exact ⟨rfl, rfl⟩
  by_cases h3 : c = 10
  · subst h3
    go_enter Tryz.func49, Tryz.ntmps49
    (go_wp2_with fail; repeat (any_goals (go_quiet (fail); go_wp2_with fail)))
    go_ret
    exact ⟨rfl, rfl⟩
  by_cases h4 : c = 13
  · subst h4
    go_enter Tryz.func49, Tryz.ntmps49
    (go_wp2_with fail; repeat (any_goals (go_quiet (fail); go_wp2_with fail)))
    go_ret
    exact ⟨rfl, rfl⟩
  have e : blankN c = false := by simp [blankN, h1, h2, h3, h4]
  rw [e]
  have c1 : ((c : Int) == 32) = false := by simp; omega
  have c2 : ((c : Int) == 9) = false := by simp; omega
  have c3 : ((c : Int) == 10) = false := by simp; omega
  have c4 : ((c : Int) == 13) = false := by simp; omega
  clear e h1 h2 h3 h4
  go_enter Tryz.func49, Tryz.ntmps49
  (go_wp2_with fail; repeat (any_goals (go_quiet (fail); go_wp2_with fail)))
  go_ret
  exact ⟨by simp, rfl⟩
/-- Whether t stands in s at i. -/
def startsS (s : ByteArray) (i : Nat) (t : ByteArray) : Bool := decide (i + t.size ≤ s.size) && ((s.extract i (i + t.size)).toList == t.toList)
set_option maxHeartbeats 400000 in
theorem starts_calls (s : ByteArray) (i : Nat) (t : ByteArray) (w : World) (hs : s.size ≤ 140737488351232) (ht : t.size ≤ 100) (hi : i ≤ 140737488351300) :
    Calls Tryz.prog 76 #[.string s, .int .i64 (i : Int), .string t] w fun e w' => e = .returned (.bool (startsS s i t)) ∧ w' = w := by
  have hs' : (s.size : Int) ≤ 140737488351232 := by omega
  have ht' : (t.size : Int) ≤ 100 := by omega
  have hi' : (i : Int) ≤ 140737488351300 := by omega
  replace hs := Lib.hid hs
  replace hi := Lib.hid hi
  by_cases h : i + t.size ≤ s.size
  · have h' : (i : Int) + (t.size : Int) ≤ (s.size : Int) := by omega
    unfold startsS
    rw [decide_eq_true h, Bool.true_and]
    replace h := Lib.hid h
    go_enter Tryz.func76, Tryz.ntmps76
    (go_wp2_with fail; repeat (any_goals (go_quiet (fail); go_wp2_with fail)))
    go_ret
    exact ⟨rfl, rfl⟩
  · have h' : ¬ (i : Int) + (t.size : Int) ≤ (s.size : Int) := by omega
    unfold startsS
    rw [decide_eq_false h, Bool.false_and]
    replace h := Lib.hid h
    go_enter Tryz.func76, Tryz.ntmps76
    (go_wp2_with fail; repeat (any_goals (go_quiet (fail); go_wp2_with fail)))
    go_ret
    exact ⟨rfl, rfl⟩

end Go.Proofs.YtibopkodoidjoaaGreatDoor

/- Plain laws on the reference of chapter 17. -/
namespace Go.Proofs.YtibopkodoidjoaaGreatDoor
open Go Go.RowKit

theorem toL (t : ByteArray) : t.toList = t.data.toList := by
  have := Lib.toList_data t
  exact this
theorem startsS_iff (s : ByteArray) (i : Nat) (t : ByteArray) : startsS s i t = true ↔ i + t.size ≤ s.size ∧ ∀ j, j < t.size → bAt s (i + j) = bAt t j := by
  unfold startsS
  by_cases h : i + t.size ≤ s.size
  · rw [decide_eq_true h, Bool.true_and, beq_iff_eq, toL, toL]
    constructor
    · intro he
      have he2 : s.extract i (i + t.size) = t := by
        cases hx : s.extract i (i + t.size); cases t
        rw [hx] at he
        congr 1
        exact Array.toList_inj.1 he
      refine ⟨h, fun j hj => ?_⟩
      have h1 : bAt (s.extract i (i + t.size)) j = bAt t j := by rw [he2]
      rw [← h1]
      unfold bAt
      have hz : (s.extract i (i + t.size)).size = t.size := by rw [he2]
      rw [dif_pos (by omega), dif_pos (by omega)]
      congr 1
      rw [ByteArray.getElem_extract]
    · rintro ⟨_, he⟩
      apply List.ext_getElem
      · simp; omega
      · intro j h1 h2
        have hj : j < t.size := by simpa using h2
        have := he j hj
        unfold bAt at this
        rw [dif_pos (by omega), dif_pos hj] at this
        have h3 := UInt8.toNat_inj.1 this
        have hz : j < (s.extract i (i + t.size)).size := by rw [ByteArray.size_extract]; omega
        have h4 : (s.extract i (i + t.size))[j]'hz = s[i + j]'(by omega) := ByteArray.getElem_extract ..
        show (s.extract i (i + t.size))[j]'hz = t[j]'hj
        rw [h4, h3]
  · rw [decide_eq_false h, Bool.false_and]
    constructor
    · intro h; cases h
    · intro h2; exact absurd h2.1 h

end Go.Proofs.YtibopkodoidjoaaGreatDoor

/- The reference of chapter 17: number. -/
namespace Go.Proofs.YtibopkodoidjoaaGreatDoor
open Go Go.RowKit

theorem rDigits_calls' (s : ByteArray) (i : Nat) (w : World) (hs : s.size ≤ 140737488351232) (hi : i ≤ s.size) :
    Calls Tryz.prog 94 #[.string s, .int .i64 (i : Int)] w fun e w' => e = .returned (.int .i64 (digAt s i : Nat)) ∧ w = w' := (rDigits_calls s i w hs hi).mono fun _ _ ⟨h, hw⟩ => ⟨h, hw.symm⟩
theorem rDigit_calls' (c : Nat) (w : World) : Calls Tryz.prog 77 #[.int .u8 (c : Int)] w fun e w' => e = .returned (.bool (isD c)) ∧ w = w' := (rDigit_calls c w).mono fun _ _ ⟨h, hw⟩ => ⟨h, hw.symm⟩
def rNumV (N : Bool × Nat) : Value := if N.1 = true then .tuple #[.int .i64 (N.2 : Int), .int .i64 (-1)] else .tuple #[.int .i64 0, .int .i64 (N.2 : Int)]
theorem rFrac_no {s : ByteArray} {i : Nat} (h : bAt s i ≠ 46) : fracAt s i = (true, i) := by unfold fracAt; rw [if_neg h]
theorem rFrac_bad {s : ByteArray} {i : Nat} (h : bAt s i = 46) (h2 : digAt s (i + 1) = i + 1) : fracAt s i = (false, i + 1) := by unfold fracAt; rw [if_pos h, if_pos h2]
theorem rFrac_ok {s : ByteArray} {i : Nat} (h : bAt s i = 46) (h2 : digAt s (i + 1) ≠ i + 1) : fracAt s i = (true, digAt s (i + 1)) := by unfold fracAt; rw [if_pos h, if_neg h2]
theorem rNumV_bad {N : Bool × Nat} {i : Nat} (h : N = (false, i)) : rNumV N = .tuple #[.int .i64 0, .int .i64 (i : Int)] := by subst h; unfold rNumV; rw [if_neg (by simp)]
theorem rNumV_ok {N : Bool × Nat} {i : Nat} (h : N = (true, i)) : rNumV N = .tuple #[.int .i64 (i : Int), .int .i64 (-1)] := by subst h; unfold rNumV; rw [if_pos rfl]
set_option maxHeartbeats 4000000 in
set_option maxRecDepth 100000 in
theorem rNumber_calls (s : ByteArray) (p : Nat) (w : World) (hs : s.size ≤ 140737488351232) (hp : p < s.size) :
    Calls Tryz.prog 78 #[.string s, .int .i64 (p : Int)] w fun e w' => e = .returned (rNumV (numAt s p)) ∧ w = w' := by
  have hs' : (s.size : Int) ≤ 140737488351232 := by omega
  have hx := byte_at s p
  obtain ⟨N, hN⟩ : ∃ N, N = numAt s p := ⟨_, rfl⟩
  rw [← hN]
  replace hN := Lib.hid hN
  have ha := minAt_bd s p hp
  have D := Lib.hid (fun i w hi => rDigits_calls' s i w hs hi)
  have D1 := Lib.hid (fun c w => rDigit_calls' c w)
  go_enter Tryz.func78, Tryz.ntmps78
  go_upto_if 9 with fail
  go_cut [1] (fun v wx => v = .int .i64 (minAt s p : Nat) ∧ w = wx)
  case first =>
    by_cases h45 : bAt s p = 45
    · have h45' : ((bAt s p : Int) == 45) = true := by simp; omega
      have em : minAt s p = p + 1 := by unfold minAt; rw [if_pos h45]
      replace h45 := Lib.hid h45
      replace em := Lib.hid em
      clear ha
      go_wp2_with fail
      go_meet
      exact ⟨by (rw [em.out]) <;> go_num, rfl⟩
    · have h45' : ((bAt s p : Int) == 45) = false := by simp; omega
      have em : minAt s p = p := by unfold minAt; rw [if_neg h45]
      replace h45 := Lib.hid h45
      replace em := Lib.hid em
      clear ha
      go_wp2_with fail
      go_meet
      exact ⟨by (rw [em.out]) <;> go_num, rfl⟩
  case rest =>
    obtain ⟨rfl, rfl⟩ := hcut
    clear hx
    obtain ⟨ha0, ha1, _⟩ := ha
    have hNe : numAt s p = if isD (bAt s (minAt s p)) = true then
      (if (fracAt s (headAt s (minAt s p))).1 = true then expAt s (fracAt s (headAt s (minAt s p))).2 else fracAt s (headAt s (minAt s p)))
      else (false, minAt s p) := rfl
    rw [hNe] at hN
    clear hNe
    replace hN := Lib.hid hN.out
    generalize minAt s p = a at *
    have hx := byte_at s a
    cases hd : isD (bAt s a) with
    | false =>
      have hNe : N = (false, a) := by rw [hN.out, if_neg (by rw [hd]; simp)]
      have D2 := Lib.hid (D1.out (bAt s a))
      rw [hd] at D2
      replace hd := Lib.hid hd
      by_cases hal : a < s.size
      · have hne : ((a : Int) == (s.size : Int)) = false := by simp; omega
        go_wp2_with fail
        refine (D2.out _).mono ?_
        rintro e w1 ⟨rfl, rfl⟩
        go_wp2_with fail
        go_ret2
        exact ⟨by rw [rNumV_bad hNe]; rfl, rfl⟩
      · have hne : ((a : Int) == (s.size : Int)) = true := by simp; omega
        go_wp2_with fail
        go_ret2
        exact ⟨by rw [rNumV_bad hNe]; rfl, rfl⟩
    | true =>
      have hN2 := Lib.hid (show N = _ by rw [hN.out, if_pos hd])
      have hal : a < s.size := lt_of_bAt (s := s) (i := a) (by have := isD_iff.1 hd; omega)
      have hne : ((a : Int) == (s.size : Int)) = false := by simp; omega
      have hh := headAt_bd s a hd
      have D2 := Lib.hid (D1.out (bAt s a))
      rw [hd] at D2
      replace hd := Lib.hid hd
      go_wp2_with fail
      refine (D2.out _).mono ?_
      rintro e w1 ⟨rfl, rfl⟩
      go_upto_if 27 with fail
      go_cut [1] (fun v wx => v = .int .i64 (headAt s a : Nat) ∧ w = wx)
      case first =>
        by_cases h48 : bAt s a = 48
        · have h48' : ((bAt s a : Int) == 48) = true := by simp; omega
          have em : headAt s a = a + 1 := by unfold headAt; rw [if_pos h48]
          replace h48 := Lib.hid h48
          replace em := Lib.hid em
          clear hh
          go_wp2_with fail
          go_meet
          exact ⟨by (rw [em.out]) <;> go_num, rfl⟩
        · have h48' : ((bAt s a : Int) == 48) = false := by simp; omega
          have em : headAt s a = digAt s a := by unfold headAt; rw [if_neg h48]
          replace h48 := Lib.hid h48
          replace em := Lib.hid em
          clear hh
          go_wp2_with fail
          refine (D.out a _ ha1).mono ?_
          rintro e w1 ⟨rfl, rfl⟩
          go_wp2_with fail
          go_meet
          exact ⟨by rw [em.out], rfl⟩
      case rest =>
        obtain ⟨rfl, rfl⟩ := hcut
        clear hx hN
        obtain ⟨hh0, hh1⟩ := hh
        have hf := fracAt_bd s (headAt s a) hh1
        generalize headAt s a = t at *
        have hx := byte_at s t
        go_upto_region 8 with fail
        go_cut [42] (fun v wx => v = .bool ((bAt s t : Int) == 46) ∧ w = wx)
        case first =>
          by_cases htl : t < s.size
          · go_wp2_with fail
            go_meet
            exact ⟨by simp, rfl⟩
          · have h0 : bAt s t = 0 := bAt_ge s t (by omega)
            replace h0 := Lib.hid h0
            go_wp2_with fail
            go_meet
            exact ⟨by rw [h0.out]; rfl, rfl⟩
        case rest =>
          obtain ⟨rfl, rfl⟩ := hcut
          go_upto_if 42 with fail
          go_cut [1] (fun v wx => v = .int .i64 ((fracAt s t).2 : Nat) ∧ w = wx ∧ (fracAt s t).1 = true)
          case first =>
            by_cases h46 : bAt s t = 46
            · have h46' : ((bAt s t : Int) == 46) = true := by simp; omega
              have htl := lt_of_bAt (s := s) (i := t) (by omega)
              by_cases hdt : digAt s (t + 1) = t + 1
              · have hNe : N = (false, t + 1) := by rw [hN2.out, rFrac_bad h46 hdt, if_neg (by simp)]
                replace h46 := Lib.hid h46
                have hdt' : ((digAt s (t + 1) : Nat) : Int) = (t : Int) + 1 := by omega
                replace hdt := Lib.hid hdt
                have D2 := Lib.hid (fun w => rDigits_calls' s (t + 1) w hs htl)
                clear hf
                go_wp2_with fail
                refine (D2.out _).mono ?_
                rintro e w1 ⟨rfl, rfl⟩
                go_wp2_with fail
                go_ret2
                exact ⟨by rw [rNumV_bad hNe]; rfl, rfl⟩
              · have em := rFrac_ok h46 hdt
                replace h46 := Lib.hid h46
                have hdt' : (((digAt s (t + 1) : Nat) : Int) == (t : Int) + 1) = false := by simp; omega
                replace hdt := Lib.hid hdt
                have D2 := Lib.hid (fun w => rDigits_calls' s (t + 1) w hs htl)
                replace em := Lib.hid em
                clear hf
                go_wp2_with fail
                refine (D2.out _).mono ?_
                rintro e w1 ⟨rfl, rfl⟩
                go_wp2_with fail
                refine (D2.out _).mono ?_
                rintro e w1 ⟨rfl, rfl⟩
                go_wp2_with fail
                go_meet
                exact ⟨by rw [em.out], rfl, by rw [em.out]⟩
            · have h46' : ((bAt s t : Int) == 46) = false := by simp; omega
              have em := rFrac_no h46
              replace h46 := Lib.hid h46
              replace em := Lib.hid em
              clear hf
              go_wp2_with fail
              go_meet
              exact ⟨by rw [em.out], rfl, by rw [em.out]⟩
          case rest =>
            obtain ⟨rfl, rfl, hft⟩ := hcut
            have hN3 := Lib.hid (show N = expAt s (fracAt s t).2 by rw [hN2.out, if_pos hft])
            clear hx hN2 hft
            obtain ⟨hf0, hf1⟩ := hf
            generalize (fracAt s t).2 = u at *
            have hx := byte_at s u
            go_upto_region 12 with fail
            go_cut [71] (fun v wx => v = .bool (bAt s u == 101 || bAt s u == 69) ∧ w = wx)
            case first =>
              by_cases hul : u < s.size
              · by_cases h1 : bAt s u = 101
                · have h1' : ((bAt s u : Int) == 101) = true := by simp; omega
                  replace h1 := Lib.hid h1
                  go_wp2_with fail
                  go_meet
                  exact ⟨by rw [h1.out]; rfl, rfl⟩
                · have h1' : ((bAt s u : Int) == 101) = false := by simp; omega
                  replace h1 := Lib.hid h1
                  by_cases h2 : bAt s u = 69
                  · have h2' : ((bAt s u : Int) == 69) = true := by simp; omega
                    replace h2 := Lib.hid h2
                    go_wp2_with fail
                    go_meet
                    exact ⟨by rw [h2.out]; rfl, rfl⟩
                  · have h2' : ((bAt s u : Int) == 69) = false := by simp; omega
                    replace h2 := Lib.hid h2
                    go_wp2_with fail
                    go_meet
                    exact ⟨by rw [show (bAt s u == 101) = false by simpa using h1.out, show (bAt s u == 69) = false by simpa using h2.out]; rfl, rfl⟩
              · have h0 : bAt s u = 0 := bAt_ge s u (by omega)
                replace h0 := Lib.hid h0
                go_wp2_with fail
                go_meet
                exact ⟨by rw [h0.out]; rfl, rfl⟩
            case rest =>
              obtain ⟨hv, rfl⟩ := hcut
              by_cases hE1 : bAt s u = 101 ∨ bAt s u = 69
              · rw [show (bAt s u == 101 || bAt s u == 69) = true by simpa using hE1] at hv
                subst hv
                have hul := lt_of_bAt (s := s) (i := u) (by omega)
                have hsg := signAt_bd s u hul
                have hN4 := Lib.hid (show N = if digAt s (signAt s u) = signAt s u then (false, signAt s u) else (true, digAt s (signAt s u)) by rw [hN3.out, expAt, if_pos hE1])
                replace hE1 := Lib.hid hE1
                clear hx hN3
                have hx := byte_at s (u + 1)
                go_upto_region 14 with fail
                go_cut [89] (fun v wx => v = .bool (bAt s (u + 1) == 43 || bAt s (u + 1) == 45) ∧ w = wx)
                case first =>
                  clear hsg
                  by_cases hul1 : u + 1 < s.size
                  · have hul2 : (u : Int) + 1 < (s.size : Int) := by omega
                    by_cases h1 : bAt s (u + 1) = 43
                    · have h1' : ((bAt s (u + 1) : Int) == 43) = true := by simp; omega
                      replace h1 := Lib.hid h1
                      go_wp2_with fail
                      go_meet
                      exact ⟨by rw [h1.out]; rfl, rfl⟩
                    · have h1' : ((bAt s (u + 1) : Int) == 43) = false := by simp; omega
                      replace h1 := Lib.hid h1
                      by_cases h2 : bAt s (u + 1) = 45
                      · have h2' : ((bAt s (u + 1) : Int) == 45) = true := by simp; omega
                        replace h2 := Lib.hid h2
                        go_wp2_with fail
                        go_meet
                        exact ⟨by rw [h2.out]; rfl, rfl⟩
                      · have h2' : ((bAt s (u + 1) : Int) == 45) = false := by simp; omega
                        replace h2 := Lib.hid h2
                        go_wp2_with fail
                        go_meet
                        exact ⟨by rw [show (bAt s (u + 1) == 43) = false by simpa using h1.out, show (bAt s (u + 1) == 45) = false by simpa using h2.out]; rfl, rfl⟩
                  · have hul2 : (s.size : Int) ≤ (u : Int) + 1 := by omega
                    have h0 : bAt s (u + 1) = 0 := bAt_ge s (u + 1) (by omega)
                    replace h0 := Lib.hid h0
                    go_wp2_with fail
                    go_meet
                    exact ⟨by rw [h0.out]; rfl, rfl⟩
                case rest =>
                  obtain ⟨hv, rfl⟩ := hcut
                  replace hv := Lib.hid hv
                  clear hx
                  go_upto_if 89 with fail
                  go_cut [1] (fun v wx => v = .int .i64 (signAt s u : Nat) ∧ w = wx)
                  case first =>
                    by_cases h1 : bAt s (u + 1) = 43 ∨ bAt s (u + 1) = 45
                    · have hv := hv.out
                      rw [show (bAt s (u + 1) == 43 || bAt s (u + 1) == 45) = true by simpa using h1] at hv
                      subst hv
                      have em : signAt s u = u + 2 := by unfold signAt; rw [if_pos h1]
                      replace h1 := Lib.hid h1
                      replace em := Lib.hid em
                      clear hsg
                      go_wp2_with fail
                      go_meet
                      exact ⟨by rw [em.out]; simp [Value.int.injEq] <;> omega, rfl⟩
                    · have hv := hv.out
                      rw [show (bAt s (u + 1) == 43 || bAt s (u + 1) == 45) = false by simpa using h1] at hv
                      subst hv
                      have em : signAt s u = u + 1 := by unfold signAt; rw [if_neg h1]
                      replace h1 := Lib.hid h1
                      replace em := Lib.hid em
                      clear hsg
                      go_wp2_with fail
                      go_meet
                      exact ⟨by (rw [em.out]) <;> go_num, rfl⟩
                  case rest =>
                    obtain ⟨rfl, rfl⟩ := hcut
                    obtain ⟨hsg0, hsg1⟩ := hsg
                    generalize signAt s u = v at *
                    have D2 := Lib.hid (fun w => rDigits_calls' s v w hs hsg1)
                    by_cases hdt : digAt s v = v
                    · have hNe : N = (false, v) := by rw [hN4.out, if_pos hdt]
                      have hdt' : ((digAt s v : Nat) : Int) = (v : Int) := by omega
                      replace hdt := Lib.hid hdt
                      clear hN4
                      go_wp2_with fail
                      refine (D2.out _).mono ?_
                      rintro e w1 ⟨rfl, rfl⟩
                      go_wp2_with fail
                      go_ret2
                      exact ⟨by rw [rNumV_bad hNe]; rfl, rfl⟩
                    · have hNe : N = (true, digAt s v) := by rw [hN4.out, if_neg hdt]
                      have hdt' : (((digAt s v : Nat) : Int) == (v : Int)) = false := by simp; omega
                      replace hdt := Lib.hid hdt
                      replace hNe := Lib.hid hNe
                      clear hN4
                      go_wp2_with fail
                      refine (D2.out _).mono ?_
                      rintro e w1 ⟨rfl, rfl⟩
                      go_wp2_with fail
                      refine (D2.out _).mono ?_
                      rintro e w1 ⟨rfl, rfl⟩
                      go_wp2_with fail
                      go_ret2
                      exact ⟨by rw [rNumV_ok hNe.out]; rfl, rfl⟩
              · rw [show (bAt s u == 101 || bAt s u == 69) = false by simpa using hE1] at hv
                subst hv
                have hNe : N = (true, u) := by rw [hN3.out, expAt, if_neg hE1]
                replace hE1 := Lib.hid hE1
                replace hNe := Lib.hid hNe
                clear hx hN3
                go_wp2_with fail
                go_ret2
                exact ⟨by rw [rNumV_ok hNe.out]; rfl, rfl⟩

end Go.Proofs.YtibopkodoidjoaaGreatDoor

/- The reference of chapter 17: hex. -/
namespace Go.Proofs.YtibopkodoidjoaaGreatDoor
open Go Go.RowKit

theorem starts_u (s : ByteArray) (i : Nat) : startsS s i ⟨#[92, 117]⟩ = true ↔ bAt s i = 92 ∧ bAt s (i + 1) = 117 := by
  rw [startsS_iff]
  constructor
  · rintro ⟨_, h⟩
    exact ⟨h 0 (by decide), h 1 (by decide)⟩
  · rintro ⟨h0, h1⟩
    have := lt_of_bAt (s := s) (i := i + 1) (by omega)
    refine ⟨by show i + 2 ≤ s.size; omega, fun j hj => ?_⟩
    rcases (show j = 0 ∨ j = 1 by have : j < 2 := hj; omega) with rfl | rfl
    · exact h0
    · exact h1
def rHexV (h : Nat) : Value := if h < 65536 then .int .i32 (h : Int) else .int .i32 (-1)
theorem starts_calls' (s : ByteArray) (i : Nat) (t : ByteArray) (w : World) (hs : s.size ≤ 140737488351232) (ht : t.size ≤ 100) (hi : i ≤ 140737488351300) :
    Calls Tryz.prog 76 #[.string s, .int .i64 (i : Int), .string t] w fun e w' => e = .returned (.bool (startsS s i t)) ∧ w = w' := (starts_calls s i t w hs ht hi).mono fun _ _ ⟨h, hw⟩ => ⟨h, hw.symm⟩
set_option maxHeartbeats 4000000 in
set_option maxRecDepth 100000 in
theorem rHex_calls (s : ByteArray) (i : Nat) (w : World) (hs : s.size ≤ 140737488351232) (hi : i ≤ 140737488351300) :
    Calls Tryz.prog 116 #[.string s, .int .i64 (i : Int)] w fun e w' => e = .returned (rHexV (hexAt s i)) ∧ w = w' := by
  have hs' : (s.size : Int) ≤ 140737488351232 := by omega
  have hi' : (i : Int) ≤ 140737488351300 := by omega
  have S := Lib.hid (fun w => starts_calls' s i ⟨#[92, 117]⟩ w hs (by decide) hi)
  have D1 := Lib.hid (fun c w => rDigit_calls' c w)
  obtain ⟨r, hr⟩ : ∃ r, r = hexAt s i := ⟨_, rfl⟩
  rw [← hr]
  cases hst : startsS s i ⟨#[92, 117]⟩ with
  | false =>
    have hend : Hid (¬ r < 65536) := Lib.hid (fun h => by
      have := hexAt_ok (s := s) (i := i) (by omega)
      have h2 := (starts_u s i).2 this.2
      rw [hst] at h2; cases h2)
    rw [hst] at S
    replace hr := Lib.hid hr
    replace hst := Lib.hid hst
    go_enter Tryz.func116, Tryz.ntmps116
    go_wp2_with fail
    refine (S.out _).mono ?_
    rintro e w1 ⟨rfl, rfl⟩
    go_wp2_with fail
    go_ret
    exact ⟨by rw [rHexV, if_neg hend.out]; rfl, rfl⟩
  | true =>
    have hu := (starts_u s i).1 hst
    rw [hst] at S
    replace hst := Lib.hid hst
    by_cases h6 : i + 6 ≤ s.size
    · have h6' : (i : Int) + 6 ≤ (s.size : Int) := by omega
      have hrF : Hid (r = hexF s (i + 2) 4) := Lib.hid (by rw [hr, hexAt, if_pos hu])
      replace hr := Lib.hid hr
      replace hu := Lib.hid hu
      replace hs := Lib.hid hs
      replace hi := Lib.hid hi
      go_enter Tryz.func116, Tryz.ntmps116
      go_wp2_with fail
      refine (S.out _).mono ?_
      rintro e w1 ⟨rfl, rfl⟩
      go_wp2_with fail
      go_loop [5, 6] (fun v5 v6 => ∃ j : Nat, j ≤ 4 ∧ v6 = .int .i64 ((i + 2 + j : Nat) : Int) ∧ v5 = .int .i32 ((hexF s (i + 2) j : Nat) : Int) ∧ hexF s (i + 2) j < 65536) (fun _ v6 => i + 6 - (intOf v6).toNat)
      case atStart => exact ⟨0, by decide, by go_num, rfl, by show (0 : Nat) < 65536; decide⟩
      case round =>
        obtain ⟨j, hj, rfl, rfl, hlt⟩ := hrel
        by_cases h4 : j < 4
        · have hx := byte_at s (i + 2 + j)
          have hc := bAt_lt s (i + 2 + j)
          have hn : hexF s (i + 2) (j + 1) = if hexF s (i + 2) j < 65536 ∧ hexD (bAt s (i + 2 + j)) < 16 then hexF s (i + 2) j * 16 + hexD (bAt s (i + 2 + j)) else 65536 := rfl
          have D2 := Lib.hid (D1.out (bAt s (i + 2 + j)))
          have hb := hexF_ok s (i + 2) j hlt
          have h12 : hexF s (i + 2) j < 4096 := by
            have : 16 ^ j ≤ 16 ^ 3 := Nat.pow_le_pow_right (by decide) (by omega)
            have := hb.2
            omega
          have hr4 : Hid (hexD (bAt s (i + 2 + j)) = 16 → ¬ r < 65536) := Lib.hid (fun h16 h => by
            rw [hrF.out] at h
            have := (hexF_ok s (i + 2) 4 h).1 j h4
            omega)
          clear hb hrF
          generalize bAt s (i + 2 + j) = c at *
          generalize hexF s (i + 2) j = n at *
          by_cases hA : isD c = true
          · have hA2 := isD_iff.1 hA
            have hd : hexD c = c - 48 := by unfold hexD; rw [if_pos hA2]
            rw [hd, if_pos ⟨hlt, by omega⟩] at hn
            rw [hA] at D2
            replace hn := Lib.hid hn
            replace hA := Lib.hid hA
            replace hd := Lib.hid hd
            obtain ⟨hA3, hA4⟩ := hA2
            go_wp2_with fail
            refine (D2.out _).mono ?_
            rintro e w1 ⟨rfl, rfl⟩
            go_wp2_with fail
            go_round
            case rel => exact ⟨j + 1, by omega, by go_num, by rw [hn.out]; simp; omega, by rw [hn.out]; omega⟩
            case measure => simp [intOf]; omega
          · have hA1 : isD c = false := by rw [Bool.eq_false_iff]; exact hA
            have hA2 : ¬ (48 ≤ c ∧ c ≤ 57) := fun h => hA (isD_iff.2 h)
            rw [hA1] at D2
            replace hA := Lib.hid hA
            replace hA1 := Lib.hid hA1
            by_cases hB : 97 ≤ c ∧ c ≤ 102
            · have hd : hexD c = c - 87 := by unfold hexD; rw [if_neg hA2, if_pos hB]
              rw [hd, if_pos ⟨hlt, by omega⟩] at hn
              replace hn := Lib.hid hn
              replace hd := Lib.hid hd
              replace hA2 := Lib.hid hA2
              obtain ⟨hB1, hB2⟩ := hB
              go_wp2_with fail
              refine (D2.out _).mono ?_
              rintro e w1 ⟨rfl, rfl⟩
              go_wp2_with fail
              go_round
              case rel => exact ⟨j + 1, by omega, by go_num, by rw [hn.out]; simp; omega, by rw [hn.out]; omega⟩
              case measure => simp [intOf]; omega
            · by_cases hC : 65 ≤ c ∧ c ≤ 70
              · have hd : hexD c = c - 55 := by unfold hexD; rw [if_neg hA2, if_neg hB, if_pos hC]
                rw [hd, if_pos ⟨hlt, by omega⟩] at hn
                replace hn := Lib.hid hn
                replace hd := Lib.hid hd
                replace hA2 := Lib.hid hA2
                replace hB := Lib.hid hB
                obtain ⟨hC1, hC2⟩ := hC
                go_wp2_with fail
                refine (D2.out _).mono ?_
                rintro e w1 ⟨rfl, rfl⟩
                go_wp2_with fail
                go_round
                case rel => exact ⟨j + 1, by omega, by go_num, by rw [hn.out]; simp; omega, by rw [hn.out]; omega⟩
                case measure => simp [intOf]; omega
              · have hd : hexD c = 16 := by unfold hexD; rw [if_neg hA2, if_neg hB, if_neg hC]
                have hend := Lib.hid (hr4.out hd)
                replace hd := Lib.hid hd
                replace hn := Lib.hid hn
                replace hA2 := Lib.hid hA2
                have hB' : c < 97 ∨ 102 < c := by omega
                have hC' : c < 65 ∨ 70 < c := by omega
                replace hB := Lib.hid hB
                replace hC := Lib.hid hC
                rcases hB' with hB' | hB' <;> rcases hC' with hC' | hC' <;>
                · first
                  | (exfalso; omega)
                  | (go_wp2_with fail
                     refine (D2.out _).mono ?_
                     rintro e w1 ⟨rfl, rfl⟩
                     go_wp2_with fail
                     go_ret
                     exact ⟨by rw [rHexV, if_neg hend.out]; rfl, rfl⟩)
        · obtain rfl : j = 4 := by omega
          have hlt2 : r < 65536 := by rw [hrF.out]; exact hlt
          have hre : hexF s (i + 2) 4 = r := hrF.out.symm
          go_wp2_with fail
          go_ret
          exact ⟨by rw [rHexV, if_pos hlt2, hrF.out]; rfl, rfl⟩
    · have h6' : ¬ (i : Int) + 6 ≤ (s.size : Int) := by omega
      have hend : Hid (¬ r < 65536) := Lib.hid (fun h => by
        have := hexAt_ok (s := s) (i := i) (by omega)
        omega)
      replace hr := Lib.hid hr
      replace hu := Lib.hid hu
      go_enter Tryz.func116, Tryz.ntmps116
      go_wp2_with fail
      refine (S.out _).mono ?_
      rintro e w1 ⟨rfl, rfl⟩
      go_wp2_with fail
      go_ret
      exact ⟨by rw [rHexV, if_neg hend.out]; rfl, rfl⟩

end Go.Proofs.YtibopkodoidjoaaGreatDoor
