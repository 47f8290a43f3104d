/- Package scan: all. -/
import Derived.Test.YtnldhgkmbighkaaDoorScan10
import Derived.Deep.DeepCutAuto
namespace Go.Proofs.YtnldhgkmbighkaaDoor
open Go Go.RowKit

/-- What a yield answers, over what it gathers. -/
structure YieldOk (F : Nat) (caps : Array Value) (N n0 : Nat) (I : Nat → List Tk → World → Prop) : Prop where
  ent : ∀ args w, (callFunc F args).run Tryd.prog w = .ok (.enter F args) w
  call : ∀ b s p ts t w, ts.length < N → I b ts w → ScB s p b w → n0 ≤ b → n0 ≤ w.heap.size → Calls Tryd.prog F (#[tkV t] ++ caps) w fun e w' => e = .returned (.bool true) ∧ I b (ts ++ [t]) w' ∧ ScB s p b w' ∧ Below n0 w w'
  stab : ∀ b ts w w', I b ts w → w.grownBy w' (some b) → I b ts w'
/-- What all answers. -/
def AllR (A : Nat → Addr) (n0 : Nat) (I : Nat → List Tk → World → Prop) (R : List Tk × Nat × Nat) (e : Ending) (w' : World) : Prop :=
  (∃ b, I b R.1 w') ∧ (if R.2.1 = 0 then e = .returned .nilIface else ∃ g, n0 ≤ g ∧ e = .returned (.iface 34 (.pointer (some ⟨g, 0, none⟩))) ∧ AtB (R.2.2 : Int) (.iface 203 (.pointer (some (A R.2.1)))) g w')
theorem blk_idem (s : ByteArray) (i : Nat) : blkAt s (blkAt s i) = blkAt s i := by
  rw [blkAt_eq s (blkAt s i)]
  by_cases h : blkAt s i < s.size
  · rw [if_neg (by rw [blkAt_not s _ i (Nat.le_refl _) h]; exact fun h => absurd h.2 Bool.false_ne_true)]
  · rw [if_neg (fun h2 => h h2.1)]
set_option maxHeartbeats 2000000 in
set_option maxRecDepth 100000 in
theorem all_calls {A : Nat → Addr} {B : Nat} (s : ByteArray) (F : Nat) (caps : Array Value) (I : Nat → List Tk → World → Prop) (n0 : Nat) (w : World) (hE : Env A B SJ w) (hn0 : n0 ≤ w.heap.size) (hBn : B ≤ n0) (hs : s.size ≤ 35184372088830) (hY : YieldOk F caps s.size n0 I)
    (hI : ∀ b w', w.heap.size ≤ b → Below w.heap.size w w' → I b [] w') :
    Calls Tryd.prog 35 #[.string s, .func (.func F) #[] caps] w fun e w' => AllR A n0 I (someS s) e w' ∧ Below n0 w w' := by
  have C := Lib.hid (scalarsCheck_calls (A := A) (B := B) s w (Nat.le_trans hs (by decide)) (hE.sub (by decide)))
  obtain ⟨R, hR⟩ : ∃ R, R = someS s := ⟨_, rfl⟩
  rw [← hR]
  replace hR := Lib.hid hR
  replace hI := Lib.hid hI
  have hent := hY.ent
  replace hY := Lib.hid hY
  replace hs := Lib.hid hs
  go_enter Tryd.func35, Tryd.ntmps35
  (go_wp2_with fail; repeat (any_goals (go_quiet (fail); go_wp2_with fail)))
  refine C.out.mono ?_
  rintro e w1 ⟨rfl, hb⟩
  have hb1 : Below w.heap.size w w1 := bcall (by repeat (first | assumption | exact Below.refl _ _ | apply Below.drew | apply below_drewN | apply balloc | (refine Below.setCell ?_ (by first | omega | (simp <;> omega)) _))) hb
  clear hb
  by_cases hu : utfE s = 0
  · rw [hu]
    replace hu := Lib.hid hu
    unfold errV
    have hv0 : brkAt s 0 = s.size := by
      have h := hu.out
      unfold utfE at h
      split at h
      · cases h
      · have := brkAt_le s; omega
    have hR0 : R = scanAt s 0 := by rw [hR.out, someS_eq, if_pos hu.out]
    replace hR0 := Lib.hid hR0
    replace hv0 := Lib.hid hv0
    have hz1 := hb1.size
    (go_wp2_with fail; repeat (any_goals (go_quiet (fail); go_wp2_with fail)))
    have hsc0 : ScB s (0 : Int) w1.heap.size (w1.alloc (.cells #[.string s, .int .i64 0] 139 (0, 0))) := heap_alloc_new w1 _
    refine (blanks_calls s 0 w1.heap.size _ (Nat.le_trans hs.out (by decide)) (Nat.zero_le _) hsc0).mono ?_
    rintro e w2 ⟨rfl, hsc, hg⟩
    have hb2 : Below w.heap.size w w2 := (hb1.alloc (by omega) _).trans (grown_below hg (by simp; omega) (by omega))
    generalize w1.heap.size = b at *
    clear hsc0 hg hb1
    replace hsc := Lib.hid hsc
    (go_wp2_with fail; repeat (any_goals (go_quiet (fail); go_wp2_with fail)))
    go_loopg [] (s.size + 1 - blkAt s 0) (fun kq wr => ∃ (k : Nat) (ts : List Tk), ScB s (k : Int) b wr ∧ Hid (k ≤ s.size ∧ blkAt s k = k ∧ brkAt s k = s.size ∧ I b ts wr ∧ ts.length ≤ k ∧ kq + k = s.size + 1 ∧ (ts ++ (scanAt s k).1, (scanAt s k).2) = R) ∧ Below n0 w wr)
    case atStart =>
      have hl := blkAt_low s 0 (Nat.zero_le _)
      have h1 := hl.2.1
      exact ⟨blkAt s 0, [], hsc.out, Lib.hid ⟨h1, blk_idem s 0, hl.brk hv0.out, hI.out b _ hz1 hb2, Nat.zero_le _, by omega, by rw [hR0.out, scan_blk s _ 0 (Nat.le_refl _) hv0.out]; rfl⟩, hb2.mono hn0⟩
    case round =>
      obtain ⟨k, ts, hsc2, H, hB⟩ := hrel
      clear hsc hb2
      have x1 := hsc2.at
      have hbl : b < wr.heap.size := ltB hsc2
      replace hsc2 := Lib.hid hsc2
      by_cases hlt : k < s.size
      · have hlt' : (k : Int) < (s.size : Int) := by omega
        have T := Lib.hid (fun w hE hsc => tok_calls (A := A) (B := B) s k b w hE hs.out hsc hlt H.out.2.2.1)
        (go_wp2_with fail; repeat (any_goals (go_quiet (fail); go_wp2_with fail)))
        refine (T.out _ (hE.below (hB.mono hBn)) hsc2.out).mono ?_
        clear T
        have ok3 := Lib.hid (fun h => oneAt_ok s k hlt H.out.2.2.1 h)
        have hst := Lib.hid (scan_step s k H.out.1 H.out.2.2.1)
        have bad3 := Lib.hid (fun h => oneAt_bad s k hlt h)
        generalize hO : oneAt s k = O at *
        obtain ⟨k0, pl, t⟩ := O
        replace hO := Lib.hid hO
        rintro e w3 ⟨hr, hb3⟩
        have hB3 : Below n0 w w3 := hB.trans (hb3.mono (Nat.le_trans hn0 hB.size))
        replace hsc2 := Lib.hid (hsc2.out.next hb3)
        have hI3 := Lib.hid (hY.out.stab b ts _ _ H.out.2.2.2.1 (grown_of_below hb3))
        have hbl3 : b < w3.heap.size := ltB hsc2.out
        have hz3 := hB3.size
        have hzr := hB.size
        clear x1 hbl hB
        cases k0 with
        | zero =>
          have hr := (nextR_ok rfl).1 hr
          subst hr
          have hq : Hid (t.fr = k ∧ k < t.to ∧ t.to ≤ s.size ∧ brkAt s t.to = s.size) := Lib.hid (by have h := ok3.out rfl; exact ⟨h.1, h.2.1, h.2.2.1, h.2.2.2.1⟩)
          have hst2 := hst.out
          clear ok3 bad3 hst
          replace hst2 := Lib.hid hst2
          have q1 := hsc2.out.at
          have qf := freeB hsc2.out 1
          unfold tkV
          (go_wp2_with fail; repeat (any_goals (go_quiet (fail); go_wp2_with fail)))
          refine (hY.out.call b s (t.to : Int) ts t _ ?_ ?_ ?_ ?_ ?_).mono ?_
          · have := H.out.2.2.2.2.1; omega
          · exact hY.out.stab b ts _ _ (hY.out.stab b ts _ _ hI3.out (grown_set w3 b 1 _)) (World.grownBy_alloc _ _ _)
          · exact (hsc2.out.set).next ((by repeat (first | assumption | exact Below.refl _ _ | apply Below.drew | apply below_drewN | apply balloc | (refine Below.setCell ?_ (by first | omega | (simp <;> omega)) _))))
          · omega
          · simp; omega
          rintro e w4 ⟨rfl, hI4, hsc4, hb4⟩
          have hB4 : Below n0 w w4 := by
            refine Below.trans ?_ hb4
            exact (hB3.setCell (p := ⟨b, 1, none⟩) (by simp; omega) _).alloc (by simp; omega) _
          have hz4 := hB4.size
          have hbl4 : b < w4.heap.size := ltB hsc4
          clear hb4 hb3 q1 qf hI3 hsc2
          replace hsc4 := Lib.hid hsc4
          replace hI4 := Lib.hid hI4
          have hq1 := hq.out.2.2.1
          (go_wp2_with fail; repeat (any_goals (go_quiet (fail); go_wp2_with fail)))
          refine (blanks_calls s t.to b w4 (Nat.le_trans hs.out (by decide)) hq1 hsc4.out).mono ?_
          rintro e w5 ⟨rfl, hsc5, hg5⟩
          have hB5 : Below n0 w w5 := hB4.trans (grown_below hg5 (by omega) (by omega))
          have hI5 := hY.out.stab b _ _ _ hI4.out hg5
          clear hg5 hsc4 hI4
          replace hI5 := Lib.hid hI5
          replace hsc5 := Lib.hid hsc5
          (go_wp2_with fail; repeat (any_goals (go_quiet (fail); go_wp2_with fail)))
          go_roundg (s.size + 1 - blkAt s t.to)
          case measure =>
            have h1 := (blkAt_low s t.to hq1)
            have h2 := hq.out.2.1
            have h3 := H.out.2.2.2.2.2.1
            have h4 := h1.1
            have h5 := h1.2.1
            omega
          case rel =>
            have h1 := (blkAt_low s t.to hq1)
            have h2 := hq.out.2.1
            have h3 := H.out.2.2.2.2.2.1
            have h4 := h1.1
            have h5 := h1.2.1
            have h6 := H.out.2.2.2.2.1
            have h7 := hst2.out
            rw [H.out.2.1, if_pos hlt, hO.out, if_pos rfl] at h7
            have h8 := H.out.2.2.2.2.2.2
            rw [h7] at h8
            refine ⟨blkAt s t.to, ts ++ [t], hsc5.out, Lib.hid ⟨h5, blk_idem s _, h1.brk hq.out.2.2.2, hI5.out, by rw [List.length_append, List.length_singleton]; omega, by omega, ?_⟩, hB5⟩
            rw [← h8, scan_blk s _ t.to (Nat.le_refl _) hq.out.2.2.2, List.append_assoc]
            rfl
        | succ k0 =>
          obtain ⟨g, hg, he, hat⟩ := (nextR_bad rfl).1 hr
          subst he
          clear hr
          replace hat := Lib.hid hat
          (go_wp2_with fail; repeat (any_goals (go_quiet (fail); go_wp2_with fail)))
          go_ret
          have hI6 := hY.out.stab b ts _ _ hI3.out (World.grownBy_alloc w3 (.cells #[.int .i64 0, .int .i64 0, .int .i64 0, .string ⟨#[]⟩] 28 (0, 0)) _)
          have h7 := hst.out
          rw [H.out.2.1, if_pos hlt, hO.out, if_neg (by simp)] at h7
          have h8 := H.out.2.2.2.2.2.2
          rw [h7] at h8
          refine ⟨⟨⟨b, ?_⟩, ?_⟩, hB3.alloc (by omega) _⟩
          · rw [← h8, List.append_nil]; exact hI6
          · rw [← h8, if_neg (by simp)]
            refine ⟨g, by omega, rfl, ?_⟩
            have h9 := hat.out
            unfold AtB at h9 ⊢
            rw [Below.heap_alloc _ _ _ (ltB h9)]
            exact h9
      · have hlt' : ¬ (k : Int) < (s.size : Int) := by omega
        (go_wp2_with fail; repeat (any_goals (go_quiet (fail); go_wp2_with fail)))
        go_ret
        have h7 := scanAt_eq s k H.out.2.2.1
        rw [if_neg hlt] at h7
        have h8 := H.out.2.2.2.2.2.2
        rw [h7] at h8
        refine ⟨⟨⟨b, ?_⟩, ?_⟩, (by repeat (first | assumption | exact Below.refl _ _ | apply Below.drew | apply below_drewN | apply balloc | (refine Below.setCell ?_ (by first | omega | (simp <;> omega)) _)))⟩
        · rw [← h8, List.append_nil]; exact H.out.2.2.2.1
        · rw [← h8, if_pos rfl]; rfl
  · have hu1 : utfE s = 1 := by unfold utfE at hu ⊢; split at hu <;> simp_all
    have hR1 : R = ([], 1, brkAt s 0) := by rw [hR.out, someS_eq, if_neg hu]
    rw [hu1]
    replace hR1 := Lib.hid hR1
    replace hu := Lib.hid hu
    replace hu1 := Lib.hid hu1
    unfold errV
    have hz1 := hb1.size
    (go_wp2_with fail; repeat (any_goals (go_quiet (fail); go_wp2_with fail)))
    refine (fault_calls _ _ _ _).mono ?_
    rintro e w2 ⟨g, hg, rfl, hat, hb⟩
    have hb2 : Below w.heap.size w w2 := bcall hb1 hb
    clear hb hb1
    replace hat := Lib.hid hat
    (go_wp2_with fail; repeat (any_goals (go_quiet (fail); go_wp2_with fail)))
    go_ret
    rw [hR1.out]
    refine ⟨⟨⟨g, hI.out g _ (Nat.le_trans hz1 hg) hb2⟩, ?_⟩, hb2.mono hn0⟩
    rw [if_neg (by simp)]
    exact ⟨g, Nat.le_trans hn0 (Nat.le_trans hz1 hg), rfl, hat.out⟩

end Go.Proofs.YtnldhgkmbighkaaDoor
