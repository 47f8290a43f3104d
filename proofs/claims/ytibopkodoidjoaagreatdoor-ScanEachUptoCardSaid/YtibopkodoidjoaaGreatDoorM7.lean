/- ScanEach: the walk. -/
import Derived.Test.YtibopkodoidjoaaGreatDoorM4
import Derived.Test.YtibopkodoidjoaaGreatDoorM6
import Derived.Deep.AppendLies
import Derived.Deep.DeepCutAuto

namespace Go.Proofs.YtibopkodoidjoaaGreatDoor
open Go Go.RowKit

attribute [local go_sem] Oper.semAt_some

theorem some_size (s : ByteArray) : (someS s).1.length ≤ s.size := by
  rw [someS_eq]
  by_cases hu : utfE s = 0
  · rw [if_pos hu]
    have key : ∀ n i, s.size - i ≤ n → i ≤ s.size → brkAt s i = s.size → (scanAt s i).1.length ≤ s.size - i := by
      intro n
      induction n with
      | zero =>
        intro i h1 h2 h3
        rw [scanAt_eq s i h3, if_neg (by omega)]
        exact Nat.zero_le _
      | succ n ih =>
        intro i h1 h2 h3
        rw [scanAt_eq s i h3]
        by_cases hi : i < s.size
        · rw [if_pos hi]
          by_cases hbl : blankN (bAt s i) = true
          · rw [if_pos hbl]
            have := ih (i + 1) (by omega) (by omega) (brk_ascii h3 hi (blank_ascii hbl).2)
            omega
          rw [if_neg hbl]
          by_cases ho : (oneAt s i).1 = 0
          · rw [if_pos ho]
            have h5 := oneAt_ok s i hi h3 ho
            have h6 := h5.2.1
            have h7 := h5.2.2.1
            have := ih _ (by omega) h7 h5.2.2.2.1
            show ((oneAt s i).2.2 :: (scanAt s (oneAt s i).2.2.to).1).length ≤ _
            rw [List.length_cons]
            omega
          · rw [if_neg ho]
            exact Nat.zero_le _
        · rw [if_neg hi]
          exact Nat.zero_le _
    have := key _ 0 (Nat.le_refl _) (Nat.zero_le _) ((utfE_brk _).1 hu)
    omega
  · rw [if_neg hu]; exact Nat.zero_le _
theorem flat_len : ∀ ts : List Tk, (ts.flatMap tkC).length = ts.length * 4
  | [] => rfl
  | t :: ts => by rw [List.flatMap_cons, List.length_append, flat_len ts, List.length_cons]; show 4 + ts.length * 4 = _; omega
theorem flat_take : ∀ (ts : List Tk) (k : Nat), (ts.flatMap tkC).take (k * 4) = (ts.take k).flatMap tkC
  | [], k => by simp
  | t :: ts, 0 => by simp
  | t :: ts, k + 1 => by
    have e : (tkC t).length = 4 := rfl
    rw [List.take_succ_cons, List.flatMap_cons, List.flatMap_cons, List.take_append, List.take_of_length_le (by rw [e]; omega), e, show (k + 1) * 4 - 4 = k * 4 by omega, flat_take ts k]
theorem OwnT.take {w : World} {base n cap k : Nat} {a : Option Addr} {ts : List Tk} (h : OwnT w base (.slice a n cap) ts) (hk : k ≤ ts.length) : OwnT w base (.slice a k cap) (ts.take k) := by
  unfold OwnT at h ⊢
  obtain ⟨h1, h2⟩ := h
  have hl : (ts.take k).length = k := by rw [List.length_take]; omega
  rw [hl]
  refine ⟨by rw [flat_len, hl], ?_⟩
  rcases h2 with ⟨h2, h3⟩ | ⟨g, cap', cur, h2, hbg, hg, hn, hc, hz, ht⟩
  · cases h2
    exact Or.inl ⟨by rw [show k = 0 by omega], by omega⟩
  · cases h2
    refine Or.inr ⟨g, cap, cur, rfl, hbg, hg, by omega, hc, hz, ?_⟩
    rw [← flat_take, ← ht, List.take_take, Nat.min_eq_left (by omega)]
theorem OwnT.form3 {w : World} {base : Nat} {v : Value} {l : List Tk} (h : OwnT w base v l) : ∃ a cap, v = .slice a l.length cap ∧ l.length ≤ cap ∧ cap ≤ maxLen ∧ (a = none → l.length = 0 ∧ cap = 0) ∧ ∀ x, a = some x → ∃ g, x = ⟨g, 0, none⟩ := by
  obtain ⟨h1, ⟨rfl, h3⟩ | ⟨g, cap, cur, rfl, hbg, hg, hn, hc, hz, ht⟩⟩ := h
  · exact ⟨none, 0, by rw [h3], by omega, Nat.zero_le _, (fun _ => ⟨h3, rfl⟩), (fun x h => nomatch h)⟩
  · exact ⟨some ⟨g, 0, none⟩, cap, rfl, hn, hc, (fun h => nomatch h), (fun x h => ⟨g, (Option.some.inj h).symm⟩)⟩
/-- What a round of the statement's loops keeps. -/
def RdI (w : World) (pre : List Tk) (W : World) : Prop := W.heap[w.heap.size]? = some (.cells #[.int .i64 (pre.length : Int)] 3 (0, 0)) ∧ Below w.heap.size w W
theorem rdI_own {w : World} : OwnS w.heap.size (RdI w) := by
  rintro ts W W' row ⟨h1, h2⟩ hg hr
  exact ⟨box_s h1 (by decide) hg hr, below_s h2 (Nat.le_refl _) hg hr⟩
theorem grown_own {W0 W W' : World} {row : Option Nat} {v : Value} (h : W0.grownBy W row) (hg : W.grownBy W' v.ownBlock) (hv : ∀ k, v.ownBlock = some k → row = some k ∨ W0.heap.size ≤ k) : W0.grownBy W' row :=
  ⟨hg.os.trans h.os, hg.tape.trans h.tape, hg.output.trans h.output, Nat.le_trans h.size hg.size, fun k hk hne =>
    (hg.block k (Nat.lt_of_lt_of_le hk h.size) (fun e => by
      rcases hv k e.symm with h1 | h1
      · exact hne h1.symm
      · omega)).trans (h.block k hk hne)⟩
theorem row_get {w : World} {base g n cap : Nat} {xs : List Value} (h : w.ownsRow base 59 4 (.slice (some ⟨g, 0, none⟩) n cap) n xs) {j : Nat} (hj : j < n * 4) : ∃ u, w.cell? ⟨g, j, none⟩ = some u := by
  rw [h.cellAt j hj]
  exact ⟨_, List.getElem?_eq_getElem (by rw [h.1]; exact hj)⟩
set_option maxHeartbeats 8000000 in
set_option maxRecDepth 100000 in
theorem ScanEach_calls {A : Nat → Addr} {B : Nat} (s : ByteArray) (stop : Int) (w : World) (hs : s.size ≤ 1048576) (hE : Env A B SVY w) :
    Calls Tryz.prog 5 #[.string s, .int .i64 stop] w fun e w' => e = .returned (.bool true) ∧ Below w.heap.size w w' := by
  have S := Lib.hid (fun w hE => Scan_calls (A := A) (B := B) s w hE (by omega))
  have G := Lib.hid (fun top w hE => gone_calls (A := A) (B := B) s top w hE hs)
  have RS := Lib.hid (fun w => rSome_calls s w (by omega))
  have hBn := hE.hB
  obtain ⟨R, hR⟩ : ∃ R, R = someS s := ⟨_, rfl⟩
  rw [← hR] at S G RS
  replace hR := Lib.hid hR
  replace hE := Lib.hid hE
  have hl : R.1.length ≤ 1048576 := by have := some_size s; rw [← hR.out] at this; omega
  refine callsIn_wide (n := 0).1 (callsIn_of_wp_marks Tryz.func5 rfl trivial (wpIn_wide.2 ?_))
  simp only [Tryz.ntmps5, List.size_toArray, List.length_cons, List.length_nil, Nat.reduceAdd, Nat.reduceSub, Array.replicate_succ, Array.replicate_zero, List.push_toArray, List.append_toArray, List.nil_append, List.cons_append]
  (go_wp2_with fail; repeat (any_goals (go_quiet (fail); go_wp2_with fail)))
  refine (fixed17 _ (hE.out.next (by repeat (first | assumption | exact Below.refl _ _ | apply Below.drew | apply below_drewN | apply balloc | (refine Below.setCell ?_ (by first | omega | (simp <;> omega)) _))))).mono ?_
  rintro e w1 ⟨rfl, hb⟩
  have hb1 : Below w.heap.size w w1 := bcall (by repeat (first | assumption | exact Below.refl _ _ | apply Below.drew | apply below_drewN | apply balloc | (refine Below.setCell ?_ (by first | omega | (simp <;> omega)) _))) hb
  have x4 : w1.heap[w.heap.size]? = some (.cells #[.bool false] 4 (0, 0)) := (hb.block _ (by simp)).trans (heap_alloc_new w _)
  clear hb
  (go_wp2_with fail; repeat (any_goals (go_quiet (fail); go_wp2_with fail)))
  refine (RS.out _).mono ?_
  rintro e w2 ⟨⟨vw, rfl, ho⟩, hb⟩
  have hb2 : Below w.heap.size w w2 := bcall hb1 hb
  replace x4 : w2.heap[w.heap.size]? = some (.cells #[.bool false] 4 (0, 0)) := box_next x4 hb
  replace ho : OwnT w2 w.heap.size vw R.1 := ⟨ho.1, ho.2.imp_right fun ⟨g, cap, cur, h1, h2, h3⟩ => ⟨g, cap, cur, h1, Nat.le_trans hb1.size h2, h3⟩⟩
  clear hb hb1 RS
  obtain ⟨a, cap, rfl, hcap, hmax, hnil, hsome⟩ := ho.form3
  unfold maxLen at hmax
  replace hnil := Lib.hid hnil
  replace hsome := Lib.hid hsome
  replace ho := Lib.hid ho
  have x5 := heap_alloc_new w2 (.cells #[.slice a R.1.length cap] 49 (0, 0))
  generalize hP : R.1.length = n at *
  replace hP := Lib.hid hP
  (go_wp2_with fail; repeat (any_goals (go_quiet (fail); go_wp2_with fail)))
  refine (G.out 0 _ ((hE.out.next (by repeat (first | assumption | exact Below.refl _ _ | apply Below.drew | apply below_drewN | apply balloc | (refine Below.setCell ?_ (by first | omega | (simp <;> omega)) _)))).sub (by decide))).mono ?_
  rintro e w3 ⟨⟨va, rfl, hoa⟩, hb⟩
  have hb3 : Below w.heap.size w w3 := bcall (by repeat (first | assumption | exact Below.refl _ _ | apply Below.drew | apply below_drewN | apply balloc | (refine Below.setCell ?_ (by first | omega | (simp <;> omega)) _))) hb
  replace x4 : w3.heap[w.heap.size]? = some (.cells #[.bool false] 4 (0, 0)) := box_next (al_kp x4) hb
  replace x5 : w3.heap[w2.heap.size]? = some (.cells #[.slice a n cap] 49 (0, 0)) := box_next x5 hb
  replace ho : Hid (OwnT w3 w.heap.size (.slice a n cap) R.1) := Lib.hid ((show OwnT _ _ _ _ from World.ownsRow.alloc ho.out _).next hb)
  have hz2 := hb2.size
  have hl2 : w2.heap.size < w3.heap.size := ltB x5
  rw [show goneL R.1 0 = R.1 from if_neg (by omega)] at hoa
  replace hoa : Hid (OwnT w3 (w2.heap.size + 1) va R.1) := Lib.hid (by have h := hoa; rw [World.size_alloc] at h; exact h)
  clear hb hb2
  generalize w2.heap.size = b5 at *
  (go_wp2_with fail; repeat (any_goals (go_quiet (fail); go_wp2_with fail)))
  refine (G.out stop _ ((hE.out.next (by repeat (first | assumption | exact Below.refl _ _ | apply Below.drew | apply below_drewN | apply balloc | (refine Below.setCell ?_ (by first | omega | (simp <;> omega)) _)))).sub (by decide))).mono ?_
  rintro e w4 ⟨⟨vb, rfl, hob⟩, hb⟩
  have hb4 : Below w.heap.size w w4 := bcall (by repeat (first | assumption | exact Below.refl _ _ | apply Below.drew | apply below_drewN | apply balloc | (refine Below.setCell ?_ (by first | omega | (simp <;> omega)) _))) hb
  replace x4 : w4.heap[w.heap.size]? = some (.cells #[.bool false] 4 (0, 0)) := box_next x4 hb
  replace x5 : w4.heap[b5]? = some (.cells #[.slice a n cap] 49 (0, 0)) := box_next x5 hb
  replace ho := Lib.hid (ho.out.next hb)
  replace hoa := Lib.hid (hoa.out.next hb)
  replace hob : Hid (OwnT w4 w3.heap.size vb (goneL R.1 stop)) := Lib.hid hob
  have y5 := cellB x5 0 rfl
  clear hb hb3 G hl2
  (go_wp2_with fail; repeat (any_goals (go_quiet (fail); go_wp2_with fail)))
  refine (same_true _ hoa.out ho.out).mono ?_
  rintro e w5 ⟨rfl, hb⟩
  have hb5 : Below w.heap.size w w5 := bcall (by repeat (first | assumption | exact Below.refl _ _ | apply Below.drew | apply below_drewN | apply balloc | (refine Below.setCell ?_ (by first | omega | (simp <;> omega)) _))) hb
  replace x4 : w5.heap[w.heap.size]? = some (.cells #[.bool false] 4 (0, 0)) := box_next x4 hb
  replace x5 : w5.heap[b5]? = some (.cells #[.slice a n cap] 49 (0, 0)) := box_next x5 hb
  replace ho := Lib.hid (ho.out.next hb)
  replace hob := Lib.hid (hob.out.next hb)
  replace y5 := cellB x5 0 rfl
  clear hb hb4 hoa
  -- how many of them
  obtain ⟨m, hm, hml⟩ : ∃ m : Nat, goneL R.1 stop = R.1.take m ∧ m ≤ n ∧ (m = n ∨ (m : Int) = stop) ∧ ((0 < stop ∧ stop < (n : Int)) ↔ m ≠ n) := by
    have := hP.out
    unfold goneL
    split
    · exact ⟨stop.toNat, rfl, by omega, Or.inr (by omega), by omega⟩
    · exact ⟨n, by rw [← this, List.take_length], Nat.le_refl _, Or.inl rfl, by omega⟩
  rw [hm] at hob
  have h70 : Hid (OwnT w5 w.heap.size (.slice a m cap) (R.1.take m)) := Lib.hid (ho.out.take (by rw [hP.out]; exact hml.1))
  have hmc : m ≤ cap := by omega
  replace hm := Lib.hid hm
  go_upto_region 9 with fail
  go_cut [63] from 24 to 145 (fun v wx => ∃ b : Bool, v = .bool b ∧ Hid (b = true ↔ 0 < stop ∧ stop < (n : Int)) ∧ w5 = wx)
  case first =>
    clear hml
    by_cases hs0 : 0 < stop
    · by_cases hs1 : stop < (n : Int)
      · have d1 : decide (0 < stop) = true := decide_eq_true hs0
        have d2 : decide (stop < (n : Int)) = true := decide_eq_true hs1
        (go_wp2_with fail; repeat (any_goals (go_quiet (fail); go_wp2_with fail)))
        go_meet
        exact ⟨true, rfl, Lib.hid ⟨fun _ => ⟨hs0, hs1⟩, fun _ => rfl⟩, rfl⟩
      · have d1 : decide (0 < stop) = true := decide_eq_true hs0
        have d2 : decide (stop < (n : Int)) = false := decide_eq_false hs1
        (go_wp2_with fail; repeat (any_goals (go_quiet (fail); go_wp2_with fail)))
        go_meet
        exact ⟨false, rfl, Lib.hid ⟨(fun h => nomatch h), (fun h => by have := h.2; omega)⟩, rfl⟩
    · have d1 : decide (0 < stop) = false := decide_eq_false hs0
      (go_wp2_with fail; repeat (any_goals (go_quiet (fail); go_wp2_with fail)))
      go_meet
      exact ⟨false, rfl, Lib.hid ⟨(fun h => nomatch h), (fun h => by have := h.1; omega)⟩, rfl⟩
  case rest =>
    obtain ⟨b63, rfl, hb63, rfl⟩ := hcut
    go_upto_if 63 with fail
    go_cut [12] from 24 to 145 (fun v wx => v = .int .i64 (m : Int) ∧ w5 = wx)
    case first =>
      obtain ⟨h1, h2, h3⟩ := hml
      have h4 := hb63.out
      clear hb63
      cases b63 with
      | true =>
        have hms : stop = (m : Int) := by have := h4.1 rfl; omega
        clear h1 h2 h3 h4
        go_wp2_with fail
        go_meet
        exact ⟨by rw [hms], rfl⟩
      | false =>
        have hmn : m = n := by
          have : ¬ (0 < stop ∧ stop < (n : Int)) := fun h => by have := h4.2 h; cases this
          omega
        clear h1 h2 h3 h4
        go_wp2_with fail
        go_meet
        exact ⟨by rw [hmn], rfl⟩
    case rest =>
    obtain ⟨rfl, rfl⟩ := hcut
    clear hml hm hb63
    (go_wp2_with fail; repeat (any_goals (go_quiet (fail); go_wp2_with fail)))
    refine (same_true _ hob.out h70.out).mono ?_
    rintro e w6 ⟨rfl, hb⟩
    have hb6 : Below w.heap.size w w6 := bcall (by repeat (first | assumption | exact Below.refl _ _ | apply Below.drew | apply below_drewN | apply balloc | (refine Below.setCell ?_ (by first | omega | (simp <;> omega)) _))) hb
    replace x4 : w6.heap[w.heap.size]? = some (.cells #[.bool false] 4 (0, 0)) := box_next x4 hb
    replace x5 : w6.heap[b5]? = some (.cells #[.slice a n cap] 49 (0, 0)) := box_next x5 hb
    replace ho := Lib.hid (ho.out.next hb)
    replace y5 := cellB x5 0 rfl
    clear hb hb5 hob h70
    (go_wp2_with fail; repeat (any_goals (go_quiet (fail); go_wp2_with fail)))
    refine (Each_calls s _).mono ?_
    rintro e w7 ⟨rfl, rfl⟩
    have hnf := seq_nil (some ⟨w6.heap.size, 0, none⟩)
    have x13 := heap_alloc_new w6 (.cells #[.string s] 9 (0, 0))
    replace x4 := al_kp (o' := .cells #[.string s] 9 (0, 0)) x4
    replace x5 := al_kp (o' := .cells #[.string s] 9 (0, 0)) x5
    replace ho := Lib.hid (show OwnT _ _ _ _ from World.ownsRow.alloc ho.out (.cells #[.string s] 9 (0, 0)))
    have hb7 : Below w.heap.size w (w6.alloc (.cells #[.string s] 9 (0, 0))) := (by repeat (first | assumption | exact Below.refl _ _ | apply Below.drew | apply below_drewN | apply balloc | (refine Below.setCell ?_ (by first | omega | (simp <;> omega)) _)))
    have hz6 := hb6.size
    generalize w6.alloc (.cells #[.string s] 9 (0, 0)) = w7 at *
    generalize w6.heap.size = bs at *
    clear hb6
    (go_wp2_with fail; repeat (any_goals (go_quiet (fail); go_wp2_with fail)))
    refine wp_loop_rounds 3 ?_
    rw [rounds_succ]
    (go_wp2_with fail; repeat (any_goals (go_quiet (fail); go_wp2_with fail)))
    have hzW : w7.heap.size ≤ (w7.alloc (.cells #[.int .i64 0] 3 (0, 0))).heap.size := by simp
    have hbk : Below w7.heap.size w7 (w7.alloc (.cells #[.int .i64 0] 3 (0, 0))) := (Below.refl _ _).alloc (Nat.le_refl _) _
    have x13' := box_next x13 hbk
    refine range_each (A := A) (B := B) s bs w7.heap.size rfl (cellB x13' 0 rfl) (ltB x13') (((hE.out.next hb7).next hbk).sub (by decide)) (Nat.le_trans hBn (hb7).size) hzW (by omega) rfl (RdI w7) (fun _ _ _ => False) rdI_own (fun _ _ _ _ _ h _ _ => h) ⟨heap_alloc_new _ _, hbk⟩ ?round ?done ?stop
    case stop =>
      intro D c pre W _ _ h _
      exact h.elim
    case round =>
      clear x13'
      intro l pre x W K hi hlen hpx hnl hl hnW hK
      obtain ⟨o, hlo, hoc⟩ := hl
      rw [← hR.out] at hpx
      obtain ⟨tk, tf, tt, tx⟩ := x
      unfold tkV
      gi_wp2
      refine hK _ _ (KeepsS.alloc _ _) (Below.alloc (Below.refl _ _) hnW _) ?_
      intro w2 hg2 _
      have hl1 : (W.alloc (.cells #[.int .i64 (tk : Int), .int .i64 (tf : Int), .int .i64 (tt : Int), .string tx] 59 (0, 0))).heap[l]? = some o := al_kp hlo
      have hi2 := rdI_own pre _ w2 (some l) (rdI_own pre W _ none hi (World.grownBy_alloc W (.cells #[.int .i64 (tk : Int), .int .i64 (tf : Int), .int .i64 (tt : Int), .string tx] 59 (0, 0)) none) (fun r e => by cases e)) hg2 (fun r e => by cases e; exact ⟨hnl, o, hl1, .inl hoc⟩)
      have hlW := ltB hlo
      have hx2 : w2.heap[W.heap.size]? = some (.cells #[.int .i64 (tk : Int), .int .i64 (tf : Int), .int .i64 (tt : Int), .string tx] 59 (0, 0)) := (hg2.block _ (by simp) (fun e => by injection e with e; omega)).trans (heap_alloc_new W _)
      have hnx : w7.heap.size ≤ W.heap.size := hnW
      generalize W.heap.size = bx at hx2 hnx hlW ⊢
      obtain ⟨hck, hB⟩ := hi2
      have z4 := box_next x4 hB
      have z5 := box_next x5 hB
      have hoW := ho.out.next hB
      clear hg2 hl1 hi hK hlo x4 x5 y5 x13 hbk
      have yk := cellB hck 0 rfl
      have fk := freeB hck 0
      have y5 := cellB z5 0 rfl
      have zc0 := cellB hx2 0 rfl
      have zc1 := cellB hx2 1 rfl
      have zc2 := cellB hx2 2 rfl
      have zc3 := cellB hx2 3 rfl
      obtain ⟨post, hpost⟩ := hpx
      have hj : R.1[pre.length]? = some ⟨tk, tf, tt, tx⟩ := by rw [← hpost]; simp
      have hpn : pre.length < n := by rw [← hP.out, ← hpost]; simp
      obtain ⟨g, rfl⟩ : ∃ g, a = some ⟨g, 0, none⟩ := by
        cases a with
        | none => have := (hnil.out rfl).1; omega
        | some x => obtain ⟨g, rfl⟩ := hsome.out x rfl; exact ⟨g, rfl⟩
      obtain ⟨v0, v1, v2, v3⟩ := hoW.at hj
      have hd : decide ((n : Int) ≤ (pre.length : Int)) = false := decide_eq_false (by omega)
      replace hj := Lib.hid hj
      replace hoW := Lib.hid hoW
      clear hpost
      have neq := neqTk_same
      have hbkn : w7.heap.size ≤ w7.heap.size := Nat.le_refl _
      generalize hbk9 : w7.heap.size = bk at *
      refine wpIn_block ?_
      refine wpIn_seq ?_
      refine wpIn_seq ?_
      have hS9 : (fun w : World => w.cell? ⟨bk, 0, none⟩ = some (.int .i64 (pre.length : Int)) ∧ w.cell? ⟨b5, 0, none⟩ = some (.slice (some ⟨g, 0, none⟩) n cap) ∧ w.cell? ⟨bx, 0, none⟩ = some (.int .i64 (tk : Int)) ∧ w.cell? ⟨bx, 1, none⟩ = some (.int .i64 (tf : Int)) ∧ w.cell? ⟨bx, 2, none⟩ = some (.int .i64 (tt : Int)) ∧ w.cell? ⟨bx, 3, none⟩ = some (.string tx) ∧
          w.cell? ⟨g, pre.length * 4, none⟩ = some (.int .i64 (tk : Int)) ∧ w.cell? ⟨g, pre.length * 4 + 1, none⟩ = some (.int .i64 (tf : Int)) ∧ w.cell? ⟨g, pre.length * 4 + 2, none⟩ = some (.int .i64 (tt : Int)) ∧ w.cell? ⟨g, pre.length * 4 + 3, none⟩ = some (.string tx)) { w2 with drawn := w2.drawn + 1 } := ⟨yk, y5, zc0, zc1, zc2, zc3, v0, v1, v2, v3⟩
      refine region_round ?S (by kernel_rfl) (by kernel_rfl) (fun ⟨_, _, h⟩ => h) ?_
      case S => exact (fun w : World => w.cell? ⟨bk, 0, none⟩ = some (.int .i64 (pre.length : Int)) ∧ w.cell? ⟨b5, 0, none⟩ = some (.slice (some ⟨g, 0, none⟩) n cap) ∧ w.cell? ⟨bx, 0, none⟩ = some (.int .i64 (tk : Int)) ∧ w.cell? ⟨bx, 1, none⟩ = some (.int .i64 (tf : Int)) ∧ w.cell? ⟨bx, 2, none⟩ = some (.int .i64 (tt : Int)) ∧ w.cell? ⟨bx, 3, none⟩ = some (.string tx) ∧
          w.cell? ⟨g, pre.length * 4, none⟩ = some (.int .i64 (tk : Int)) ∧ w.cell? ⟨g, pre.length * 4 + 1, none⟩ = some (.int .i64 (tf : Int)) ∧ w.cell? ⟨g, pre.length * 4 + 2, none⟩ = some (.int .i64 (tt : Int)) ∧ w.cell? ⟨g, pre.length * 4 + 3, none⟩ = some (.string tx))
      refine wpAnyH_take (i := 0) (oi := { dst := some 81, op := Op.load 3 (Operand.tmp 15), type := 3, pos := "law.go:224", after := #[], guard := none }) (v := .int .i64 (pre.length : Int)) rfl (by kernel_rfl) (by kernel_rfl) (by kernel_rfl) (fun _ _ _ h => h) (Or.inl ⟨by rfl, ?hy⟩) hS9 ?_
      case hy =>
        intro w hSw
        (try dsimp only at hSw)
        obtain ⟨s0, s1, s2, s3, s4, s5, s6, s7, s8, s9⟩ := hSw
        go_simp
      (try simp only [Act.put, List.setIfInBounds_toArray, List.set_cons_zero, List.set_cons_succ])
      refine wpAnyH_take (i := 1) (oi := { dst := some 82, op := Op.load 49 (Operand.tmp 5), type := 49, pos := "law.go:224", after := #[], guard := none }) (v := .slice (some ⟨g, 0, none⟩) n cap) rfl (by kernel_rfl) (by kernel_rfl) (by kernel_rfl) (fun _ _ _ h => h) (Or.inl ⟨by rfl, ?hy⟩) hS9 ?_
      case hy =>
        intro w hSw
        (try dsimp only at hSw)
        obtain ⟨s0, s1, s2, s3, s4, s5, s6, s7, s8, s9⟩ := hSw
        go_simp
      (try simp only [Act.put, List.setIfInBounds_toArray, List.set_cons_zero, List.set_cons_succ])
      refine wpAnyH_take (i := 2) (oi := { dst := some 83, op := Op.call { callee := Callee.builtin Builtin.len, args := #[Operand.tmp 82], argTypes := #[49] }, type := 3, pos := "law.go:224", after := #[{ on := 1, ground := Ground.data }], guard := none }) (v := .int .i64 (n : Int)) rfl (by kernel_rfl) (by kernel_rfl) (by kernel_rfl) (fun _ _ _ h => h) (Or.inl ⟨by rfl, ?hy⟩) hS9 ?_
      case hy =>
        intro w hSw
        (try dsimp only at hSw)
        obtain ⟨s0, s1, s2, s3, s4, s5, s6, s7, s8, s9⟩ := hSw
        go_simp
      (try simp only [Act.put, List.setIfInBounds_toArray, List.set_cons_zero, List.set_cons_succ])
      refine wpAnyH_take (i := 3) (oi := { dst := some 84, op := Op.binOp BinOp.geq 3 (Operand.tmp 81) (Operand.tmp 83) 3, type := 4, pos := "law.go:224", after := #[{ on := 0, ground := Ground.data }, { on := 2, ground := Ground.data }], guard := none }) (v := .bool false) rfl (by kernel_rfl) (by kernel_rfl) (by kernel_rfl) (fun _ _ _ h => h) (Or.inl ⟨by rfl, ?hy⟩) hS9 ?_
      case hy =>
        intro w hSw
        (try dsimp only at hSw)
        obtain ⟨s0, s1, s2, s3, s4, s5, s6, s7, s8, s9⟩ := hSw
        go_simp
      (try simp only [Act.put, List.setIfInBounds_toArray, List.set_cons_zero, List.set_cons_succ])
      refine wpAnyH_take (i := 4) (oi := { dst := some 85, op := Op.move (Operand.tmp 84), type := 4, pos := "law.go:224", after := #[{ on := 3, ground := Ground.data }], guard := none }) (v := .bool false) rfl (by kernel_rfl) (by kernel_rfl) (by kernel_rfl) (fun _ _ _ h => h) (Or.inl ⟨by rfl, ?hy⟩) hS9 ?_
      case hy =>
        intro w hSw
        (try dsimp only at hSw)
        obtain ⟨s0, s1, s2, s3, s4, s5, s6, s7, s8, s9⟩ := hSw
        go_simp
      (try simp only [Act.put, List.setIfInBounds_toArray, List.set_cons_zero, List.set_cons_succ])
      refine wpAnyH_take (i := 5) (oi := { dst := some 86, op := Op.load 59 (Operand.tmp 16), type := 59, pos := "law.go:224", after := #[{ on := 4, ground := Ground.guard }], guard := some (4, false) }) (v := .agg #[.int .i64 (tk : Int), .int .i64 (tf : Int), .int .i64 (tt : Int), .string tx]) rfl (by kernel_rfl) (by kernel_rfl) (by kernel_rfl) (fun _ _ _ h => h) (Or.inl ⟨by rfl, ?hy⟩) hS9 ?_
      case hy =>
        intro w hSw
        (try dsimp only at hSw)
        obtain ⟨s0, s1, s2, s3, s4, s5, s6, s7, s8, s9⟩ := hSw
        go_simp
      (try simp only [Act.put, List.setIfInBounds_toArray, List.set_cons_zero, List.set_cons_succ])
      refine wpAnyH_take (i := 6) (oi := { dst := some 87, op := Op.load 49 (Operand.tmp 5), type := 49, pos := "law.go:224", after := #[{ on := 4, ground := Ground.guard }], guard := some (4, false) }) (v := .slice (some ⟨g, 0, none⟩) n cap) rfl (by kernel_rfl) (by kernel_rfl) (by kernel_rfl) (fun _ _ _ h => h) (Or.inl ⟨by rfl, ?hy⟩) hS9 ?_
      case hy =>
        intro w hSw
        (try dsimp only at hSw)
        obtain ⟨s0, s1, s2, s3, s4, s5, s6, s7, s8, s9⟩ := hSw
        go_simp
      (try simp only [Act.put, List.setIfInBounds_toArray, List.set_cons_zero, List.set_cons_succ])
      refine wpAnyH_take (i := 7) (oi := { dst := some 88, op := Op.load 3 (Operand.tmp 15), type := 3, pos := "law.go:224", after := #[{ on := 4, ground := Ground.guard }], guard := some (4, false) }) (v := .int .i64 (pre.length : Int)) rfl (by kernel_rfl) (by kernel_rfl) (by kernel_rfl) (fun _ _ _ h => h) (Or.inl ⟨by rfl, ?hy⟩) hS9 ?_
      case hy =>
        intro w hSw
        (try dsimp only at hSw)
        obtain ⟨s0, s1, s2, s3, s4, s5, s6, s7, s8, s9⟩ := hSw
        go_simp
      (try simp only [Act.put, List.setIfInBounds_toArray, List.set_cons_zero, List.set_cons_succ])
      refine wpAnyH_take (i := 8) (oi := { dst := some 89, op := Op.indexAddr 49 (Operand.tmp 87) (Operand.tmp 88), type := 0, pos := "law.go:224", after := #[{ on := 6, ground := Ground.data }, { on := 7, ground := Ground.data }, { on := 4, ground := Ground.guard }], guard := some (4, false) }) (v := .pointer (some ⟨g, pre.length * 4, none⟩)) rfl (by kernel_rfl) (by kernel_rfl) (by kernel_rfl) (fun _ _ _ h => h) (Or.inl ⟨by rfl, ?hy⟩) hS9 ?_
      case hy =>
        intro w hSw
        (try dsimp only at hSw)
        obtain ⟨s0, s1, s2, s3, s4, s5, s6, s7, s8, s9⟩ := hSw
        go_simp
      (try simp only [Act.put, List.setIfInBounds_toArray, List.set_cons_zero, List.set_cons_succ])
      refine wpAnyH_take (i := 9) (oi := { dst := some 90, op := Op.load 59 (Operand.tmp 89), type := 59, pos := "law.go:224", after := #[{ on := 8, ground := Ground.data }, { on := 4, ground := Ground.guard }], guard := some (4, false) }) (v := .agg #[.int .i64 (tk : Int), .int .i64 (tf : Int), .int .i64 (tt : Int), .string tx]) rfl (by kernel_rfl) (by kernel_rfl) (by kernel_rfl) (fun _ _ _ h => h) (Or.inl ⟨by rfl, ?hy⟩) hS9 ?_
      case hy =>
        intro w hSw
        (try dsimp only at hSw)
        obtain ⟨s0, s1, s2, s3, s4, s5, s6, s7, s8, s9⟩ := hSw
        go_simp
      (try simp only [Act.put, List.setIfInBounds_toArray, List.set_cons_zero, List.set_cons_succ])
      refine wpAnyH_take (i := 10) (oi := { dst := some 91, op := Op.binOp BinOp.neq 59 (Operand.tmp 86) (Operand.tmp 90) 59, type := 4, pos := "law.go:224", after := #[{ on := 5, ground := Ground.data }, { on := 9, ground := Ground.data }, { on := 4, ground := Ground.guard }], guard := some (4, false) }) (v := .bool false) rfl (by kernel_rfl) (by kernel_rfl) (by kernel_rfl) (fun _ _ _ h => h) (Or.inl ⟨by rfl, ?hy⟩) hS9 ?_
      case hy =>
        intro w hSw
        (try dsimp only at hSw)
        obtain ⟨s0, s1, s2, s3, s4, s5, s6, s7, s8, s9⟩ := hSw
        go_simp
      (try simp only [Act.put, List.setIfInBounds_toArray, List.set_cons_zero, List.set_cons_succ])
      refine wpAnyH_take (i := 11) (oi := { dst := some 92, op := Op.pick (Operand.tmp 85) (Operand.const (Value.bool true)) (Operand.tmp 91), type := 4, pos := "law.go:224", after := #[{ on := 4, ground := Ground.data }, { on := 10, ground := Ground.data }], guard := none }) (v := .bool false) rfl (by kernel_rfl) (by kernel_rfl) (by kernel_rfl) (fun _ _ _ h => h) (Or.inl ⟨by rfl, ?hy⟩) hS9 ?_
      case hy =>
        intro w hSw
        (try dsimp only at hSw)
        obtain ⟨s0, s1, s2, s3, s4, s5, s6, s7, s8, s9⟩ := hSw
        go_simp
      (try simp only [Act.put, List.setIfInBounds_toArray, List.set_cons_zero, List.set_cons_succ])
      refine wpAnyH_done (by kernel_rfl) ?_ _
      clear hS9
      have yk' : ({ w2 with drawn := w2.drawn + 1 } : World).cell? ⟨bk, 0, none⟩ = some (.int .i64 (pre.length : Int)) := yk
      have fk' : ({ w2 with drawn := w2.drawn + 1 } : World).frozen? ⟨bk, 0, none⟩ = false := fk
      have hck' : ({ w2 with drawn := w2.drawn + 1 } : World).heap[bk]? = some (.cells #[.int .i64 (pre.length : Int)] 3 (0, 0)) := hck
      have hfin : KeepsS w2 { w2 with drawn := w2.drawn + 1 } ∧ Below bk w2 { w2 with drawn := w2.drawn + 1 } := ⟨⟨Nat.le_refl _, fun _ _ h _ => h⟩, ⟨rfl, rfl, rfl, Nat.le_refl _, fun _ _ => rfl⟩⟩
      have hB' : Below bk w7 { w2 with drawn := w2.drawn + 1 } := ⟨hB.os, hB.tape, hB.output, hB.size, hB.block⟩
      have hckl := ltB hck
      clear yk fk y5 zc0 zc1 zc2 zc3 v0 v1 v2 v3 hck hB hoW hx2
      show Code.wpIn _ _ _ _ _ _ _
      generalize ({ w2 with drawn := w2.drawn + 1 } : World) = w3 at *
      gi_wp2
      refine ⟨hfin.1.trans (KeepsS.grown (grown_set w3 bk 0 _) (fun r hr => by cases hr; exact ⟨_, _, _, hck', by decide⟩)), hfin.2.trans (Below.setCell (Below.refl _ _) hbkn _), ?_⟩
      unfold RdI
      rw [hbk9]
      refine ⟨?_, hB'.setCell hbkn _⟩
      rw [Lib.heap_setCell_same (i := 0) hck', List.length_append, List.length_singleton]
      rfl
    case done =>
      rintro D1 W1 hD1 ⟨hck, hB⟩ hbW hK1
      rw [← hR.out, hP.out] at hck
      replace x4 := box_next x4 hB
      replace x5 := box_next x5 hB
      replace x13 := box_next x13 hB
      replace ho := Lib.hid (ho.out.next hB)
      have hb8 := bcall hb7 hB
      have yk := cellB hck 0 rfl
      replace y5 := cellB x5 0 rfl
      have lD1' : w.heap.size ≤ D1 := Nat.le_trans hb7.size (Nat.le_trans hzW hD1)
      clear x13' hbk hzW hbW hB hD1
      (go_wp2_with fail; repeat (any_goals (go_quiet (fail); go_wp2_with fail)))
      rw [rounds_succ]
      clear hck yk
      (go_wp2_with fail; repeat (any_goals (go_quiet (fail); go_wp2_with fail)))
      have hzW : W1.heap.size ≤ (W1.alloc (.cells #[.int .i64 0] 3 (0, 0))).heap.size := by simp
      have hbk : Below W1.heap.size W1 (W1.alloc (.cells #[.int .i64 0] 3 (0, 0))) := (Below.refl _ _).alloc (Nat.le_refl _) _
      have x13' := box_next x13 hbk
      refine range_each (A := A) (B := B) s bs W1.heap.size rfl (cellB x13' 0 rfl) (ltB x13') (((hE.out.next hb8).next hbk).sub (by decide)) (Nat.le_trans hBn (hb8).size) hzW (by omega) rfl (RdI W1) (fun _ _ _ => False) rdI_own (fun _ _ _ _ _ h _ _ => h) ⟨heap_alloc_new _ _, hbk⟩ ?round ?done ?stop
      case stop =>
        intro D c pre W _ _ h _
        exact h.elim
      case round =>
        clear x13'
        intro l pre x W K hi hlen hpx hnl hl hnW hK
        obtain ⟨o, hlo, hoc⟩ := hl
        rw [← hR.out] at hpx
        obtain ⟨tk, tf, tt, tx⟩ := x
        unfold tkV
        gi_wp2
        refine hK _ _ (KeepsS.alloc _ _) (Below.alloc (Below.refl _ _) hnW _) ?_
        intro w2 hg2 _
        have hl1 : (W.alloc (.cells #[.int .i64 (tk : Int), .int .i64 (tf : Int), .int .i64 (tt : Int), .string tx] 59 (0, 0))).heap[l]? = some o := al_kp hlo
        have hi2 := rdI_own pre _ w2 (some l) (rdI_own pre W _ none hi (World.grownBy_alloc W (.cells #[.int .i64 (tk : Int), .int .i64 (tf : Int), .int .i64 (tt : Int), .string tx] 59 (0, 0)) none) (fun r e => by cases e)) hg2 (fun r e => by cases e; exact ⟨hnl, o, hl1, .inl hoc⟩)
        have hlW := ltB hlo
        have hx2 : w2.heap[W.heap.size]? = some (.cells #[.int .i64 (tk : Int), .int .i64 (tf : Int), .int .i64 (tt : Int), .string tx] 59 (0, 0)) := (hg2.block _ (by simp) (fun e => by injection e with e; omega)).trans (heap_alloc_new W _)
        have hnx : W1.heap.size ≤ W.heap.size := hnW
        generalize W.heap.size = bx at hx2 hnx hlW ⊢
        obtain ⟨hck, hB⟩ := hi2
        have z4 := box_next x4 hB
        have z5 := box_next x5 hB
        have hoW := ho.out.next hB
        clear hg2 hl1 hi hK hlo x4 x5 y5 x13 hbk
        have yk := cellB hck 0 rfl
        have fk := freeB hck 0
        have y5 := cellB z5 0 rfl
        have zc0 := cellB hx2 0 rfl
        have zc1 := cellB hx2 1 rfl
        have zc2 := cellB hx2 2 rfl
        have zc3 := cellB hx2 3 rfl
        obtain ⟨post, hpost⟩ := hpx
        have hj : R.1[pre.length]? = some ⟨tk, tf, tt, tx⟩ := by rw [← hpost]; simp
        have hpn : pre.length < n := by rw [← hP.out, ← hpost]; simp
        obtain ⟨g, rfl⟩ : ∃ g, a = some ⟨g, 0, none⟩ := by
          cases a with
          | none => have := (hnil.out rfl).1; omega
          | some x => obtain ⟨g, rfl⟩ := hsome.out x rfl; exact ⟨g, rfl⟩
        obtain ⟨v0, v1, v2, v3⟩ := hoW.at hj
        have hd : decide ((n : Int) ≤ (pre.length : Int)) = false := decide_eq_false (by omega)
        replace hj := Lib.hid hj
        replace hoW := Lib.hid hoW
        clear hpost
        have neq := neqTk_same
        have hbkn : W1.heap.size ≤ W1.heap.size := Nat.le_refl _
        generalize hbk9 : W1.heap.size = bk at *
        refine wpIn_block ?_
        refine wpIn_seq ?_
        refine wpIn_seq ?_
        have hS9 : (fun w : World => w.cell? ⟨bk, 0, none⟩ = some (.int .i64 (pre.length : Int)) ∧ w.cell? ⟨b5, 0, none⟩ = some (.slice (some ⟨g, 0, none⟩) n cap) ∧ w.cell? ⟨bx, 0, none⟩ = some (.int .i64 (tk : Int)) ∧ w.cell? ⟨bx, 1, none⟩ = some (.int .i64 (tf : Int)) ∧ w.cell? ⟨bx, 2, none⟩ = some (.int .i64 (tt : Int)) ∧ w.cell? ⟨bx, 3, none⟩ = some (.string tx) ∧
            w.cell? ⟨g, pre.length * 4, none⟩ = some (.int .i64 (tk : Int)) ∧ w.cell? ⟨g, pre.length * 4 + 1, none⟩ = some (.int .i64 (tf : Int)) ∧ w.cell? ⟨g, pre.length * 4 + 2, none⟩ = some (.int .i64 (tt : Int)) ∧ w.cell? ⟨g, pre.length * 4 + 3, none⟩ = some (.string tx)) { w2 with drawn := w2.drawn + 1 } := ⟨yk, y5, zc0, zc1, zc2, zc3, v0, v1, v2, v3⟩
        refine region_round ?S (by kernel_rfl) (by kernel_rfl) (fun ⟨_, _, h⟩ => h) ?_
        case S => exact (fun w : World => w.cell? ⟨bk, 0, none⟩ = some (.int .i64 (pre.length : Int)) ∧ w.cell? ⟨b5, 0, none⟩ = some (.slice (some ⟨g, 0, none⟩) n cap) ∧ w.cell? ⟨bx, 0, none⟩ = some (.int .i64 (tk : Int)) ∧ w.cell? ⟨bx, 1, none⟩ = some (.int .i64 (tf : Int)) ∧ w.cell? ⟨bx, 2, none⟩ = some (.int .i64 (tt : Int)) ∧ w.cell? ⟨bx, 3, none⟩ = some (.string tx) ∧
            w.cell? ⟨g, pre.length * 4, none⟩ = some (.int .i64 (tk : Int)) ∧ w.cell? ⟨g, pre.length * 4 + 1, none⟩ = some (.int .i64 (tf : Int)) ∧ w.cell? ⟨g, pre.length * 4 + 2, none⟩ = some (.int .i64 (tt : Int)) ∧ w.cell? ⟨g, pre.length * 4 + 3, none⟩ = some (.string tx))
        refine wpAnyH_take (i := 0) (oi := { dst := some 81, op := Op.load 3 (Operand.tmp 15), type := 3, pos := "law.go:224", after := #[], guard := none }) (v := .int .i64 (pre.length : Int)) rfl (by kernel_rfl) (by kernel_rfl) (by kernel_rfl) (fun _ _ _ h => h) (Or.inl ⟨by rfl, ?hy⟩) hS9 ?_
        case hy =>
          intro w hSw
          (try dsimp only at hSw)
          obtain ⟨s0, s1, s2, s3, s4, s5, s6, s7, s8, s9⟩ := hSw
          go_simp
        (try simp only [Act.put, List.setIfInBounds_toArray, List.set_cons_zero, List.set_cons_succ])
        refine wpAnyH_take (i := 1) (oi := { dst := some 82, op := Op.load 49 (Operand.tmp 5), type := 49, pos := "law.go:224", after := #[], guard := none }) (v := .slice (some ⟨g, 0, none⟩) n cap) rfl (by kernel_rfl) (by kernel_rfl) (by kernel_rfl) (fun _ _ _ h => h) (Or.inl ⟨by rfl, ?hy⟩) hS9 ?_
        case hy =>
          intro w hSw
          (try dsimp only at hSw)
          obtain ⟨s0, s1, s2, s3, s4, s5, s6, s7, s8, s9⟩ := hSw
          go_simp
        (try simp only [Act.put, List.setIfInBounds_toArray, List.set_cons_zero, List.set_cons_succ])
        refine wpAnyH_take (i := 2) (oi := { dst := some 83, op := Op.call { callee := Callee.builtin Builtin.len, args := #[Operand.tmp 82], argTypes := #[49] }, type := 3, pos := "law.go:224", after := #[{ on := 1, ground := Ground.data }], guard := none }) (v := .int .i64 (n : Int)) rfl (by kernel_rfl) (by kernel_rfl) (by kernel_rfl) (fun _ _ _ h => h) (Or.inl ⟨by rfl, ?hy⟩) hS9 ?_
        case hy =>
          intro w hSw
          (try dsimp only at hSw)
          obtain ⟨s0, s1, s2, s3, s4, s5, s6, s7, s8, s9⟩ := hSw
          go_simp
        (try simp only [Act.put, List.setIfInBounds_toArray, List.set_cons_zero, List.set_cons_succ])
        refine wpAnyH_take (i := 3) (oi := { dst := some 84, op := Op.binOp BinOp.geq 3 (Operand.tmp 81) (Operand.tmp 83) 3, type := 4, pos := "law.go:224", after := #[{ on := 0, ground := Ground.data }, { on := 2, ground := Ground.data }], guard := none }) (v := .bool false) rfl (by kernel_rfl) (by kernel_rfl) (by kernel_rfl) (fun _ _ _ h => h) (Or.inl ⟨by rfl, ?hy⟩) hS9 ?_
        case hy =>
          intro w hSw
          (try dsimp only at hSw)
          obtain ⟨s0, s1, s2, s3, s4, s5, s6, s7, s8, s9⟩ := hSw
          go_simp
        (try simp only [Act.put, List.setIfInBounds_toArray, List.set_cons_zero, List.set_cons_succ])
        refine wpAnyH_take (i := 4) (oi := { dst := some 85, op := Op.move (Operand.tmp 84), type := 4, pos := "law.go:224", after := #[{ on := 3, ground := Ground.data }], guard := none }) (v := .bool false) rfl (by kernel_rfl) (by kernel_rfl) (by kernel_rfl) (fun _ _ _ h => h) (Or.inl ⟨by rfl, ?hy⟩) hS9 ?_
        case hy =>
          intro w hSw
          (try dsimp only at hSw)
          obtain ⟨s0, s1, s2, s3, s4, s5, s6, s7, s8, s9⟩ := hSw
          go_simp
        (try simp only [Act.put, List.setIfInBounds_toArray, List.set_cons_zero, List.set_cons_succ])
        refine wpAnyH_take (i := 5) (oi := { dst := some 86, op := Op.load 59 (Operand.tmp 16), type := 59, pos := "law.go:224", after := #[{ on := 4, ground := Ground.guard }], guard := some (4, false) }) (v := .agg #[.int .i64 (tk : Int), .int .i64 (tf : Int), .int .i64 (tt : Int), .string tx]) rfl (by kernel_rfl) (by kernel_rfl) (by kernel_rfl) (fun _ _ _ h => h) (Or.inl ⟨by rfl, ?hy⟩) hS9 ?_
        case hy =>
          intro w hSw
          (try dsimp only at hSw)
          obtain ⟨s0, s1, s2, s3, s4, s5, s6, s7, s8, s9⟩ := hSw
          go_simp
        (try simp only [Act.put, List.setIfInBounds_toArray, List.set_cons_zero, List.set_cons_succ])
        refine wpAnyH_take (i := 6) (oi := { dst := some 87, op := Op.load 49 (Operand.tmp 5), type := 49, pos := "law.go:224", after := #[{ on := 4, ground := Ground.guard }], guard := some (4, false) }) (v := .slice (some ⟨g, 0, none⟩) n cap) rfl (by kernel_rfl) (by kernel_rfl) (by kernel_rfl) (fun _ _ _ h => h) (Or.inl ⟨by rfl, ?hy⟩) hS9 ?_
        case hy =>
          intro w hSw
          (try dsimp only at hSw)
          obtain ⟨s0, s1, s2, s3, s4, s5, s6, s7, s8, s9⟩ := hSw
          go_simp
        (try simp only [Act.put, List.setIfInBounds_toArray, List.set_cons_zero, List.set_cons_succ])
        refine wpAnyH_take (i := 7) (oi := { dst := some 88, op := Op.load 3 (Operand.tmp 15), type := 3, pos := "law.go:224", after := #[{ on := 4, ground := Ground.guard }], guard := some (4, false) }) (v := .int .i64 (pre.length : Int)) rfl (by kernel_rfl) (by kernel_rfl) (by kernel_rfl) (fun _ _ _ h => h) (Or.inl ⟨by rfl, ?hy⟩) hS9 ?_
        case hy =>
          intro w hSw
          (try dsimp only at hSw)
          obtain ⟨s0, s1, s2, s3, s4, s5, s6, s7, s8, s9⟩ := hSw
          go_simp
        (try simp only [Act.put, List.setIfInBounds_toArray, List.set_cons_zero, List.set_cons_succ])
        refine wpAnyH_take (i := 8) (oi := { dst := some 89, op := Op.indexAddr 49 (Operand.tmp 87) (Operand.tmp 88), type := 0, pos := "law.go:224", after := #[{ on := 6, ground := Ground.data }, { on := 7, ground := Ground.data }, { on := 4, ground := Ground.guard }], guard := some (4, false) }) (v := .pointer (some ⟨g, pre.length * 4, none⟩)) rfl (by kernel_rfl) (by kernel_rfl) (by kernel_rfl) (fun _ _ _ h => h) (Or.inl ⟨by rfl, ?hy⟩) hS9 ?_
        case hy =>
          intro w hSw
          (try dsimp only at hSw)
          obtain ⟨s0, s1, s2, s3, s4, s5, s6, s7, s8, s9⟩ := hSw
          go_simp
        (try simp only [Act.put, List.setIfInBounds_toArray, List.set_cons_zero, List.set_cons_succ])
        refine wpAnyH_take (i := 9) (oi := { dst := some 90, op := Op.load 59 (Operand.tmp 89), type := 59, pos := "law.go:224", after := #[{ on := 8, ground := Ground.data }, { on := 4, ground := Ground.guard }], guard := some (4, false) }) (v := .agg #[.int .i64 (tk : Int), .int .i64 (tf : Int), .int .i64 (tt : Int), .string tx]) rfl (by kernel_rfl) (by kernel_rfl) (by kernel_rfl) (fun _ _ _ h => h) (Or.inl ⟨by rfl, ?hy⟩) hS9 ?_
        case hy =>
          intro w hSw
          (try dsimp only at hSw)
          obtain ⟨s0, s1, s2, s3, s4, s5, s6, s7, s8, s9⟩ := hSw
          go_simp
        (try simp only [Act.put, List.setIfInBounds_toArray, List.set_cons_zero, List.set_cons_succ])
        refine wpAnyH_take (i := 10) (oi := { dst := some 91, op := Op.binOp BinOp.neq 59 (Operand.tmp 86) (Operand.tmp 90) 59, type := 4, pos := "law.go:224", after := #[{ on := 5, ground := Ground.data }, { on := 9, ground := Ground.data }, { on := 4, ground := Ground.guard }], guard := some (4, false) }) (v := .bool false) rfl (by kernel_rfl) (by kernel_rfl) (by kernel_rfl) (fun _ _ _ h => h) (Or.inl ⟨by rfl, ?hy⟩) hS9 ?_
        case hy =>
          intro w hSw
          (try dsimp only at hSw)
          obtain ⟨s0, s1, s2, s3, s4, s5, s6, s7, s8, s9⟩ := hSw
          go_simp
        (try simp only [Act.put, List.setIfInBounds_toArray, List.set_cons_zero, List.set_cons_succ])
        refine wpAnyH_take (i := 11) (oi := { dst := some 92, op := Op.pick (Operand.tmp 85) (Operand.const (Value.bool true)) (Operand.tmp 91), type := 4, pos := "law.go:224", after := #[{ on := 4, ground := Ground.data }, { on := 10, ground := Ground.data }], guard := none }) (v := .bool false) rfl (by kernel_rfl) (by kernel_rfl) (by kernel_rfl) (fun _ _ _ h => h) (Or.inl ⟨by rfl, ?hy⟩) hS9 ?_
        case hy =>
          intro w hSw
          (try dsimp only at hSw)
          obtain ⟨s0, s1, s2, s3, s4, s5, s6, s7, s8, s9⟩ := hSw
          go_simp
        (try simp only [Act.put, List.setIfInBounds_toArray, List.set_cons_zero, List.set_cons_succ])
        refine wpAnyH_done (by kernel_rfl) ?_ _
        clear hS9
        have yk' : ({ w2 with drawn := w2.drawn + 1 } : World).cell? ⟨bk, 0, none⟩ = some (.int .i64 (pre.length : Int)) := yk
        have fk' : ({ w2 with drawn := w2.drawn + 1 } : World).frozen? ⟨bk, 0, none⟩ = false := fk
        have hck' : ({ w2 with drawn := w2.drawn + 1 } : World).heap[bk]? = some (.cells #[.int .i64 (pre.length : Int)] 3 (0, 0)) := hck
        have hfin : KeepsS w2 { w2 with drawn := w2.drawn + 1 } ∧ Below bk w2 { w2 with drawn := w2.drawn + 1 } := ⟨⟨Nat.le_refl _, fun _ _ h _ => h⟩, ⟨rfl, rfl, rfl, Nat.le_refl _, fun _ _ => rfl⟩⟩
        have hB' : Below bk W1 { w2 with drawn := w2.drawn + 1 } := ⟨hB.os, hB.tape, hB.output, hB.size, hB.block⟩
        have hckl := ltB hck
        clear yk fk y5 zc0 zc1 zc2 zc3 v0 v1 v2 v3 hck hB hoW hx2
        show Code.wpIn _ _ _ _ _ _ _
        generalize ({ w2 with drawn := w2.drawn + 1 } : World) = w3 at *
        gi_wp2
        refine ⟨hfin.1.trans (KeepsS.grown (grown_set w3 bk 0 _) (fun r hr => by cases hr; exact ⟨_, _, _, hck', by decide⟩)), hfin.2.trans (Below.setCell (Below.refl _ _) hbkn _), ?_⟩
        unfold RdI
        rw [hbk9]
        refine ⟨?_, hB'.setCell hbkn _⟩
        rw [Lib.heap_setCell_same (i := 0) hck', List.length_append, List.length_singleton]
        rfl
      case done =>
        rintro D2 W2 hD2 ⟨hck, hB⟩ hbW hK2
        rw [← hR.out, hP.out] at hck
        replace x4 := box_next x4 hB
        replace x5 := box_next x5 hB
        have h12 : D1 < D2 := Nat.lt_of_lt_of_le (Array.getElem?_eq_some_iff.1 hK1).1 (Nat.le_trans hzW hD2)
        replace hK1 := (hB.block _ (Array.getElem?_eq_some_iff.1 hK1).1).trans hK1
        replace ho := Lib.hid (ho.out.next hB)
        have hb9 := bcall hb8 hB
        have lD1 := (Array.getElem?_eq_some_iff.1 hK1).1
        have lD2 := (Array.getElem?_eq_some_iff.1 hK2).1
        have l4 := ltB x4
        have l5 := ltB x5
        have hwl := ho.out.lt_size
        have yk := cellB hck 0 rfl
        replace y5 := cellB x5 0 rfl
        clear x13' hbk hzW hbW hB hD2 hb8 x13
        (go_wp2_with fail; repeat (any_goals (go_quiet (fail); go_wp2_with fail)))
        rw [rounds_succ]
        clear hck yk
        (go_wp2_with fail; repeat (any_goals (go_quiet (fail); go_wp2_with fail)))
        refine (S.out _ ((hE.out.next hb9).sub (by decide))).mono ?_
        rintro e w8 ⟨hr, hb⟩
        have hb10 := bcall hb9 hb
        replace x4 := box_next x4 hb
        replace x5 := box_next x5 hb
        replace hK1 := (hb.block _ (Array.getElem?_eq_some_iff.1 hK1).1).trans hK1
        replace hK2 := (hb.block _ (Array.getElem?_eq_some_iff.1 hK2).1).trans hK2
        replace ho := Lib.hid (ho.out.next hb)
        have hz2 := hb9.size
        have hbw8 := hb
        clear hb hb9 y5
        unfold ScanR at hr
        by_cases h0 : R.2.1 = 0
        · rw [if_pos h0] at hr
          obtain ⟨v1, rfl, ho1⟩ := hr
          replace ho1 : Hid (OwnT w8 W2.heap.size v1 R.1) := Lib.hid ho1
          (go_wp2_with fail; repeat (any_goals (go_quiet (fail); go_wp2_with fail)))
          refine (S.out _ ((hE.out.next hb10).sub (by decide))).mono ?_
          rintro e w9 ⟨hr, hb⟩
          have hb11 := bcall hb10 hb
          replace x4 := box_next x4 hb
          replace x5 := box_next x5 hb
          replace hK1 := (hb.block _ (Array.getElem?_eq_some_iff.1 hK1).1).trans hK1
          replace hK2 := (hb.block _ (Array.getElem?_eq_some_iff.1 hK2).1).trans hK2
          replace ho := Lib.hid (ho.out.next hb)
          have hlt1 := ho1.out.lt_size
          replace ho1 := Lib.hid (ho1.out.next hb)
          have hz3 := hb10.size
          have hz8 := hbw8.size
          have hz9 := hb.size
          clear hb hb10
          unfold ScanR at hr
          rw [if_pos h0] at hr
          obtain ⟨v2, rfl, ho2⟩ := hr
          replace ho2 : Hid (OwnT w9 w8.heap.size v2 R.1) := Lib.hid ho2
          replace h0 := Lib.hid h0
          go_wp2_with fail
          clear hnf S
          replace x4 := Lib.hid x4
          replace x5 := Lib.hid x5
          replace hK1 := Lib.hid hK1
          replace hK2 := Lib.hid hK2
          refine wp_then_only ?_
          refine wp_region_held (S := fun _ => True) (by kernel_rfl) ?_
          refine wpAnyH_take (i := 0) (oi := { dst := some 109, op := Op.move (Operand.tmp 18), type := 26, pos := "law.go:235", after := #[], guard := none }) (v := .nilIface) rfl (by kernel_rfl) (by kernel_rfl) (by kernel_rfl) (fun _ _ _ h => h) (Or.inl ⟨by rfl, ?hy⟩) trivial ?_
          case hy =>
            intro w _
            go_simp
          (try simp only [Act.put, List.setIfInBounds_toArray, List.set_cons_zero, List.set_cons_succ])
          refine wpAnyH_take (i := 1) (oi := { dst := some 110, op := Op.binOp BinOp.eql 26 (Operand.tmp 109) (Operand.const Value.nilIface) 26, type := 4, pos := "law.go:235", after := #[{ on := 0, ground := Ground.data }], guard := none }) (v := .bool true) rfl (by kernel_rfl) (by kernel_rfl) (by kernel_rfl) (fun _ _ _ h => h) (Or.inl ⟨by rfl, ?hy⟩) trivial ?_
          case hy =>
            intro w _
            go_simp
          (try simp only [Act.put, List.setIfInBounds_toArray, List.set_cons_zero, List.set_cons_succ])
          refine wpAnyH_take (i := 2) (oi := { dst := some 111, op := Op.move (Operand.tmp 20), type := 26, pos := "law.go:235", after := #[], guard := none }) (v := .nilIface) rfl (by kernel_rfl) (by kernel_rfl) (by kernel_rfl) (fun _ _ _ h => h) (Or.inl ⟨by rfl, ?hy⟩) trivial ?_
          case hy =>
            intro w _
            go_simp
          (try simp only [Act.put, List.setIfInBounds_toArray, List.set_cons_zero, List.set_cons_succ])
          refine wpAnyH_take (i := 3) (oi := { dst := some 112, op := Op.binOp BinOp.eql 26 (Operand.tmp 111) (Operand.const Value.nilIface) 26, type := 4, pos := "law.go:235", after := #[{ on := 2, ground := Ground.data }], guard := none }) (v := .bool true) rfl (by kernel_rfl) (by kernel_rfl) (by kernel_rfl) (fun _ _ _ h => h) (Or.inl ⟨by rfl, ?hy⟩) trivial ?_
          case hy =>
            intro w _
            go_simp
          (try simp only [Act.put, List.setIfInBounds_toArray, List.set_cons_zero, List.set_cons_succ])
          refine wpAnyH_take (i := 4) (oi := { dst := some 113, op := Op.binOp BinOp.neq 4 (Operand.tmp 110) (Operand.tmp 112) 4, type := 4, pos := "law.go:235", after := #[{ on := 1, ground := Ground.data }, { on := 3, ground := Ground.data }], guard := none }) (v := .bool false) rfl (by kernel_rfl) (by kernel_rfl) (by kernel_rfl) (fun _ _ _ h => h) (Or.inl ⟨by rfl, ?hy⟩) trivial ?_
          case hy =>
            intro w _
            go_simp
          (try simp only [Act.put, List.setIfInBounds_toArray, List.set_cons_zero, List.set_cons_succ])
          refine wpAnyH_take (i := 5) (oi := { dst := some 114, op := Op.move (Operand.tmp 113), type := 4, pos := "law.go:235", after := #[{ on := 4, ground := Ground.data }], guard := none }) (v := .bool false) rfl (by kernel_rfl) (by kernel_rfl) (by kernel_rfl) (fun _ _ _ h => h) (Or.inl ⟨by rfl, ?hy⟩) trivial ?_
          case hy =>
            intro w _
            go_simp
          (try simp only [Act.put, List.setIfInBounds_toArray, List.set_cons_zero, List.set_cons_succ])
          refine wpAnyH_take (i := 6) (oi := { dst := some 115, op := Op.move (Operand.tmp 17), type := 49, pos := "law.go:235", after := #[{ on := 5, ground := Ground.guard }], guard := some (5, false) }) (v := v1) rfl (by kernel_rfl) (by kernel_rfl) (by kernel_rfl) (fun _ _ _ h => h) (Or.inl ⟨by rfl, ?hy⟩) trivial ?_
          case hy =>
            intro w _
            go_simp
          (try simp only [Act.put, List.setIfInBounds_toArray, List.set_cons_zero, List.set_cons_succ])
          refine wpAnyH_take (i := 7) (oi := { dst := some 116, op := Op.move (Operand.tmp 19), type := 49, pos := "law.go:235", after := #[{ on := 5, ground := Ground.guard }], guard := some (5, false) }) (v := v2) rfl (by kernel_rfl) (by kernel_rfl) (by kernel_rfl) (fun _ _ _ h => h) (Or.inl ⟨by rfl, ?hy⟩) trivial ?_
          case hy =>
            intro w _
            go_simp
          (try simp only [Act.put, List.setIfInBounds_toArray, List.set_cons_zero, List.set_cons_succ])
          refine wpAnyH_one (i := 8) (by kernel_rfl) (fun K8 hK8 => ?_)
          unfold wpOp
          go_simp
          left
          refine (same_true _ (ho1.out.next (Below.drew (Below.refl _ _))) (ho2.out.next (Below.drew (Below.refl _ _)))).mono ?_
          rintro e w10 ⟨rfl, hb⟩
          refine hK8 _ _ trivial ?_
          clear hK8 K8
          (try simp only [Act.put, List.setIfInBounds_toArray, List.set_cons_zero, List.set_cons_succ])
          refine wpAnyH_take (i := 9) (oi := { dst := some 118, op := Op.unOp UnOp.not 4 (Operand.tmp 117), type := 4, pos := "law.go:235", after := #[{ on := 8, ground := Ground.data }, { on := 5, ground := Ground.guard }], guard := some (5, false) }) (v := .bool false) rfl (by kernel_rfl) (by kernel_rfl) (by kernel_rfl) (fun _ _ _ h => h) (Or.inl ⟨by rfl, ?hy⟩) trivial ?_
          case hy =>
            intro w _
            go_simp
          (try simp only [Act.put, List.setIfInBounds_toArray, List.set_cons_zero, List.set_cons_succ])
          refine wpAnyH_take (i := 10) (oi := { dst := some 119, op := Op.pick (Operand.tmp 114) (Operand.const (Value.bool true)) (Operand.tmp 118), type := 4, pos := "law.go:235", after := #[{ on := 5, ground := Ground.data }, { on := 9, ground := Ground.data }], guard := none }) (v := .bool false) rfl (by kernel_rfl) (by kernel_rfl) (by kernel_rfl) (fun _ _ _ h => h) (Or.inl ⟨by rfl, ?hy⟩) trivial ?_
          case hy =>
            intro w _
            go_simp
          (try simp only [Act.put, List.setIfInBounds_toArray, List.set_cons_zero, List.set_cons_succ])
          refine wpAnyH_done (by kernel_rfl) ?_ _
          rename_i K9 hK9
          refine hK9 _ _ ?_
          clear hK9 K9
          replace hb : Below w9.heap.size w9 w10 := bcall (Below.drew (Below.refl _ _)) hb
          have hb12 := bcall hb11 hb
          replace x4 := box_next x4 hb
          replace x5 := box_next x5 hb
          replace hK1 := (hb.block _ (Array.getElem?_eq_some_iff.1 hK1).1).trans hK1
          replace hK2 := (hb.block _ (Array.getElem?_eq_some_iff.1 hK2).1).trans hK2
          replace ho := Lib.hid (ho.out.next hb)
          replace ho1 := Lib.hid (ho1.out.next hb)
          have hge2 := ho2.out.lt
          replace ho2 := Lib.hid (ho2.out.next hb)
          have y5 := cellB x5 0 rfl
          have hz4 := hb11.size
          have hz10 := hb.size
          clear hb hb11
          rcases ho1.out.form with ⟨hnilT, rfl⟩ | ⟨g, c1, rfl, hbg, hgl, hl1, hm1⟩
          · (go_wp2_with fail; repeat (any_goals (go_quiet (fail); go_wp2_with fail)))
            go_loopw [122] (fun v wr => v = .int .i64 0 ∧ w10 = wr) (fun _ _ => 0)
            case atStart => exact ⟨rfl, rfl⟩
            case round =>
              obtain ⟨rfl, rfl⟩ := hrel
              (go_wp2_with fail; repeat (any_goals (go_quiet (fail); go_wp2_with fail)))
              go_loopw [23, 22] (fun v23 v22 wx => ∃ k : Nat, k ≤ 30 ∧ v23 = .int .i64 (k : Int) ∧ ∃ xs, Hid (wx.ownsRow W2.heap.size 59 4 v22 (0 + k) xs) ∧ Hid (w10.grownBy wx (none : Option Nat) ∧ ∀ q, v22.ownBlock = some q → (none : Option Nat) = some q ∨ w10.heap.size ≤ q)) (fun v _ _ => 30 - (intOf v).toNat)
              case atStart => exact ⟨0, by omega, rfl, _, (Lib.hid (World.ownsRow_nil _ _ _ _)), Lib.hid ⟨⟨rfl, rfl, rfl, Nat.le_refl _, fun _ _ _ => rfl⟩, fun q h => .inl h⟩⟩
              case round =>
                obtain ⟨k, hk, rfl, xs, hw, hgr⟩ := hrel
                by_cases hlt : k < 30
                · clear x4 x5 y5
                  obtain ⟨i0, hi, hi2⟩ := Option.map_eq_some_iff.1 infoTk
                  simp only [Prod.mk.injEq] at hi2
                  obtain ⟨hq0, hq1, hq2⟩ := hi2
                  replace hi := Lib.hid hi
                  replace hq0 := Lib.hid hq0
                  replace hq1 := Lib.hid hq1
                  replace hq2 := Lib.hid hq2
                  go_wp2_with (at_builtin; refine wpList_append_lies _ rfl _ _ 49 rfl W2.heap.size 59 i0 (.agg #[.int .i64 0, .int .i64 0, .int .i64 0, .string ⟨#[]⟩]) 4 40 Tryz.underlying49 hi.out hq0.out hq1.out hq2.out rfl (by decide) _ _ _ rfl (hw.out.alloc _) ⟨wr.heap.size, 0, none⟩ 1 1 [.int .i64 (-2), .int .i64 0, .int .i64 0, .string ⟨#[]⟩] rfl rfl ?c1 ?c2 (by decide) ?c3 ?c4 ?c5 _ rfl ?_)
                  case c1 =>
                    intro j u hj
                    match j, hj with
                    | 0, hj => simp at hj; subst hj; simp [Addr.add]
                    | 1, hj => simp at hj; subst hj; simp [Addr.add]
                    | 2, hj => simp at hj; subst hj; simp [Addr.add]
                    | 3, hj => simp at hj; subst hj; simp [Addr.add]
                  case c2 => intro u hu; simp at hu; rcases hu with rfl | rfl | rfl <;> rfl
                  case c3 => unfold maxLen; omega
                  case c4 => omega
                  case c5 => simp; have := hgr.out.1.size; omega
                  intro g' c' w3 ho3 hg3 hgl3 hlt3
                  have hown3 : w3.ownsRow W2.heap.size 59 4 (.slice (some ⟨g', 0, none⟩) (0 + (k + 1)) c') (0 + (k + 1)) (xs ++ [.int .i64 (-2), .int .i64 0, .int .i64 0, .string ⟨#[]⟩]) := by first | exact ho3 | simpa using ho3
                  have hgr3 : w10.grownBy w3 (none : Option Nat) := grown_own (grown_own hgr.out.1 (World.grownBy_alloc _ _ _) hgr.out.2) hg3 hgr.out.2
                  have hin3 : ∀ q, (Value.slice (some ⟨g', 0, none⟩) (0 + (k + 1)) c').ownBlock = some q → (none : Option Nat) = some q ∨ w10.heap.size ≤ q := by
                    intro q hq
                    simp [Value.ownBlock] at hq
                    subst hq
                    rcases hgl3 with h | h
                    · exact hgr.out.2 _ h
                    · right
                      have := hgr.out.1.size
                      (try simp at h)
                      omega
                  clear ho3 hg3 hgl3 hlt3 hw hgr
                  replace hown3 := Lib.hid hown3
                  replace hgr3 := Lib.hid hgr3
                  replace hin3 := Lib.hid hin3
                  (go_wp2_with fail; repeat (any_goals (go_quiet (fail); go_wp2_with fail)))
                  go_roundw
                  case rel => exact ⟨k + 1, by omega, by go_num, _, Lib.hid (by have h := hown3.out; first | exact h | simpa using h), Lib.hid ⟨hgr3.out, by have h := hin3.out; first | exact h | simpa using h⟩⟩
                  case measure => simp [intOf]; omega
                · obtain rfl : k = 30 := by omega
                  have hgr' := hgr.out.1
                  have hGe : ∀ q, (none : Option Nat) = some q → W2.heap.size ≤ q := (fun q h => by cases h)
                  have hG8 : ∀ q, (none : Option Nat) = some q → q < w8.heap.size := (fun q h => by cases h)
                  have keep : ∀ k, k < W2.heap.size → wr.heap[k]? = w10.heap[k]? := fun k hk => hgr'.block k (by omega) (fun e => by have := hGe k e.symm; omega)
                  have x4' : wr.heap[w.heap.size]? = some (.cells #[.bool false] 4 (0, 0)) := (keep _ l4).trans x4
                  have x5' : wr.heap[b5]? = some (.cells #[.slice a n cap] 49 (0, 0)) := (keep _ l5).trans x5
                  have hK1' := (keep _ lD1).trans hK1
                  have hK2' := (keep _ lD2).trans hK2
                  have how : OwnT wr w.heap.size (.slice a n cap) R.1 := World.ownsRow.kept ho.out hgr' (by
                    by_cases hv : (Value.slice a n cap).ownBlock = none
                    · exact .inl hv
                    · refine .inr fun e => ?_
                      cases hq : (Value.slice a n cap).ownBlock with
                      | none => exact hv hq
                      | some q => rw [hq] at e; have := hGe q e.symm; have := hwl q hq; omega)
                  have ho2' : OwnT wr w8.heap.size v2 R.1 := World.ownsRow.kept ho2.out hgr' (by
                    by_cases hv : (v2).ownBlock = none
                    · exact .inl hv
                    · refine .inr fun e => ?_
                      cases hq : (v2).ownBlock with
                      | none => exact hv hq
                      | some q => rw [hq] at e; have := hG8 q e.symm; have := hge2 q hq; omega)
                  have hbw : Below w.heap.size w wr := hb12.grown hgr' (by omega) (fun k hk => by have := hGe k hk; omega)
                  clear x4 x5 y5 hK1 hK2 ho ho2 hgr hgr' hw keep hb12 hwl
                  replace hK1' := Lib.hid hK1'
                  replace hK2' := Lib.hid hK2'
                  replace how := Lib.hid how
                  replace ho2' := Lib.hid ho2'
                  have y4 := cellB x4' 0 rfl
                  have y5 := cellB x5' 0 rfl
                  (go_wp2_with fail; repeat (any_goals (go_quiet (fail); go_wp2_with fail)))
                  refine (same_true _ ho2'.out how.out).mono ?_
                  rintro e w11 ⟨rfl, hb⟩
                  have hbw2 := bcall hbw hb
                  have x4 := box_next x4' hb
                  replace hK1' := (hb.block _ (Array.getElem?_eq_some_iff.1 hK1'.out).1).trans hK1'.out
                  replace hK2' := (hb.block _ (Array.getElem?_eq_some_iff.1 hK2'.out).1).trans hK2'.out
                  have y4 := cellB x4 0 rfl
                  have f4 := freeB x4 0
                  clear hb x4' x5' y5 hbw how ho2'
                  replace hK1' := Lib.hid hK1'
                  replace hK2' := Lib.hid hK2'
                  (go_wp2_with fail; repeat (any_goals (go_quiet (fail); go_wp2_with fail)))
                  have hn2 : D2 ≠ w.heap.size := by omega
                  have hn1 : D1 ≠ w.heap.size := fun e => by
                    have h := hK1'.out
                    rw [e, x4] at h
                    cases h
                  have k2 : (w11.setCell ⟨w.heap.size, 0, none⟩ (.bool true)).heap[D2]? = some (.deferred (some [])) := (Below.heap_setCell _ _ _ _ (by first | exact hn2 | exact Ne.symm hn2)).trans hK2'.out
                  have k1 : ((w11.setCell ⟨w.heap.size, 0, none⟩ (.bool true)).putObj D2 (.deferred none)).heap[D1]? = some (.deferred (some [])) := (put_block (by omega)).trans ((Below.heap_setCell _ _ _ _ (by first | exact hn1 | exact Ne.symm hn1)).trans hK1'.out)
                  have k0 : (((w11.setCell ⟨w.heap.size, 0, none⟩ (.bool true)).putObj D2 (.deferred none)).putObj D1 (.deferred none)).heap[w.heap.size]? = some (.cells #[.bool true] 4 (0, 0)) := (put_block (Ne.symm hn1)).trans ((put_block (Ne.symm hn2)).trans (by rw [Lib.heap_setCell_same (i := 0) x4]; rfl))
                  have kB : Below w.heap.size w (((w11.setCell ⟨w.heap.size, 0, none⟩ (.bool true)).putObj D2 (.deferred none)).putObj D1 (.deferred none)) := ((hbw2.setCell (Nat.le_refl _) _).trans (put_below (by omega))).trans (put_below lD1')
                  have kc := cellB k0 0 rfl
                  refine ⟨by simp, .inl ⟨_, _, rfl, run_takeDeferred k2, ⟨by simp, .inl ⟨_, _, rfl, run_takeDeferred k1, .bool true, ?_, rfl, kB⟩⟩⟩⟩
                  simp [results, Tryz.results5, go_sem, kc]
          · rw [hP.out] at hl1
            rw [hP.out]
            unfold maxLen at hm1
            have hown : w10.ownsRow W2.heap.size 59 4 (.slice (some ⟨g, 0, none⟩) n c1) n (R.1.flatMap tkC) := by
              have h := ho1.out
              unfold OwnT at h
              rw [hP.out] at h
              exact h
            replace hown := Lib.hid hown
            clear ho1
            (go_wp2_with fail; repeat (any_goals (go_quiet (fail); go_wp2_with fail)))
            go_loopw [122] (fun v wr => ∃ k : Nat, k ≤ n ∧ v = .int .i64 (k : Int) ∧ ∃ xs, Hid (wr.ownsRow W2.heap.size 59 4 (.slice (some ⟨g, 0, none⟩) n c1) n xs) ∧ Hid (w10.grownBy wr (some g))) (fun v _ => n - (intOf v).toNat)
            case atStart => exact ⟨0, Nat.zero_le _, rfl, _, hown, Lib.hid ⟨rfl, rfl, rfl, Nat.le_refl _, fun _ _ _ => rfl⟩⟩
            case round =>
              obtain ⟨k, hk, rfl, xs, hw, hgr⟩ := hrel
              by_cases hlt : k < n
              · clear x4 x5 y5
                obtain ⟨u0, y0⟩ := row_get hw.out (j := k * 4) (by omega)
                obtain ⟨u1, y1⟩ := row_get hw.out (j := k * 4 + 1) (by omega)
                obtain ⟨u2, y2⟩ := row_get hw.out (j := k * 4 + 2) (by omega)
                obtain ⟨u3, y3⟩ := row_get hw.out (j := k * 4 + 3) (by omega)
                have f0 := hw.out.frozenAt (k * 4)
                have f1 := hw.out.frozenAt (k * 4 + 1)
                have f2 := hw.out.frozenAt (k * 4 + 2)
                have f3 := hw.out.frozenAt (k * 4 + 3)
                (go_wp2_with fail; repeat (any_goals (go_quiet (fail); go_wp2_with fail)))
                go_roundw
                case rel =>
                  obtain ⟨s0, g0⟩ := hw.out.stored (k * 4) (.int .i64 (-1))
                  obtain ⟨s1, g1⟩ := s0.stored (k * 4 + 1) (.int .i64 0)
                  obtain ⟨s2, g2⟩ := s1.stored (k * 4 + 2) (.int .i64 0)
                  obtain ⟨s3, g3⟩ := s2.stored (k * 4 + 3) (.string ⟨#[]⟩)
                  refine ⟨k + 1, by omega, by go_num, _, Lib.hid s3, Lib.hid ?_⟩
                  have hv : ∀ k', (Value.slice (some ⟨g, 0, none⟩) n c1).ownBlock = some k' → some g = some k' ∨ w10.heap.size ≤ k' := fun k' h => .inl h
                  exact grown_own (grown_own (grown_own (grown_own hgr.out g0 hv) g1 hv) g2 hv) g3 hv
                case measure => simp [intOf]; omega
              · skip
                (go_wp2_with fail; repeat (any_goals (go_quiet (fail); go_wp2_with fail)))
                go_loopw [23, 22] (fun v23 v22 wx => ∃ k : Nat, k ≤ 30 ∧ v23 = .int .i64 (k : Int) ∧ ∃ xs, Hid (wx.ownsRow W2.heap.size 59 4 v22 (n + k) xs) ∧ Hid (w10.grownBy wx (some g) ∧ ∀ q, v22.ownBlock = some q → (some g) = some q ∨ w10.heap.size ≤ q)) (fun v _ _ => 30 - (intOf v).toNat)
                case atStart => exact ⟨0, by omega, rfl, _, hw, Lib.hid ⟨hgr.out, fun q h => .inl h⟩⟩
                case round =>
                  obtain ⟨k, hk, rfl, xs, hw, hgr⟩ := hrel
                  by_cases hlt : k < 30
                  · clear x4 x5 y5
                    obtain ⟨i0, hi, hi2⟩ := Option.map_eq_some_iff.1 infoTk
                    simp only [Prod.mk.injEq] at hi2
                    obtain ⟨hq0, hq1, hq2⟩ := hi2
                    replace hi := Lib.hid hi
                    replace hq0 := Lib.hid hq0
                    replace hq1 := Lib.hid hq1
                    replace hq2 := Lib.hid hq2
                    go_wp2_with (at_builtin; refine wpList_append_lies _ rfl _ _ 49 rfl W2.heap.size 59 i0 (.agg #[.int .i64 0, .int .i64 0, .int .i64 0, .string ⟨#[]⟩]) 4 40 Tryz.underlying49 hi.out hq0.out hq1.out hq2.out rfl (by decide) _ _ _ rfl (hw.out.alloc _) ⟨wr.heap.size, 0, none⟩ 1 1 [.int .i64 (-2), .int .i64 0, .int .i64 0, .string ⟨#[]⟩] rfl rfl ?c1 ?c2 (by decide) ?c3 ?c4 ?c5 _ rfl ?_)
                    case c1 =>
                      intro j u hj
                      match j, hj with
                      | 0, hj => simp at hj; subst hj; simp [Addr.add]
                      | 1, hj => simp at hj; subst hj; simp [Addr.add]
                      | 2, hj => simp at hj; subst hj; simp [Addr.add]
                      | 3, hj => simp at hj; subst hj; simp [Addr.add]
                    case c2 => intro u hu; simp at hu; rcases hu with rfl | rfl | rfl <;> rfl
                    case c3 => unfold maxLen; omega
                    case c4 => omega
                    case c5 => simp; have := hgr.out.1.size; omega
                    intro g' c' w3 ho3 hg3 hgl3 hlt3
                    have hown3 : w3.ownsRow W2.heap.size 59 4 (.slice (some ⟨g', 0, none⟩) (n + (k + 1)) c') (n + (k + 1)) (xs ++ [.int .i64 (-2), .int .i64 0, .int .i64 0, .string ⟨#[]⟩]) := by first | exact ho3 | simpa using ho3
                    have hgr3 : w10.grownBy w3 (some g) := grown_own (grown_own hgr.out.1 (World.grownBy_alloc _ _ _) hgr.out.2) hg3 hgr.out.2
                    have hin3 : ∀ q, (Value.slice (some ⟨g', 0, none⟩) (n + (k + 1)) c').ownBlock = some q → (some g) = some q ∨ w10.heap.size ≤ q := by
                      intro q hq
                      simp [Value.ownBlock] at hq
                      subst hq
                      rcases hgl3 with h | h
                      · exact hgr.out.2 _ h
                      · right
                        have := hgr.out.1.size
                        (try simp at h)
                        omega
                    clear ho3 hg3 hgl3 hlt3 hw hgr
                    replace hown3 := Lib.hid hown3
                    replace hgr3 := Lib.hid hgr3
                    replace hin3 := Lib.hid hin3
                    (go_wp2_with fail; repeat (any_goals (go_quiet (fail); go_wp2_with fail)))
                    go_roundw
                    case rel => exact ⟨k + 1, by omega, by go_num, _, Lib.hid (by have h := hown3.out; first | exact h | simpa using h), Lib.hid ⟨hgr3.out, by have h := hin3.out; first | exact h | simpa using h⟩⟩
                    case measure => simp [intOf]; omega
                  · obtain rfl : k = 30 := by omega
                    have hgr' := hgr.out.1
                    have hGe : ∀ q, (some g) = some q → W2.heap.size ≤ q := (fun q h => by cases h; exact hbg)
                    have hG8 : ∀ q, (some g) = some q → q < w8.heap.size := (fun q h => by cases h; exact hlt1 g rfl)
                    have keep : ∀ k, k < W2.heap.size → wr.heap[k]? = w10.heap[k]? := fun k hk => hgr'.block k (by omega) (fun e => by have := hGe k e.symm; omega)
                    have x4' : wr.heap[w.heap.size]? = some (.cells #[.bool false] 4 (0, 0)) := (keep _ l4).trans x4
                    have x5' : wr.heap[b5]? = some (.cells #[.slice a n cap] 49 (0, 0)) := (keep _ l5).trans x5
                    have hK1' := (keep _ lD1).trans hK1
                    have hK2' := (keep _ lD2).trans hK2
                    have how : OwnT wr w.heap.size (.slice a n cap) R.1 := World.ownsRow.kept ho.out hgr' (by
                      by_cases hv : (Value.slice a n cap).ownBlock = none
                      · exact .inl hv
                      · refine .inr fun e => ?_
                        cases hq : (Value.slice a n cap).ownBlock with
                        | none => exact hv hq
                        | some q => rw [hq] at e; have := hGe q e.symm; have := hwl q hq; omega)
                    have ho2' : OwnT wr w8.heap.size v2 R.1 := World.ownsRow.kept ho2.out hgr' (by
                      by_cases hv : (v2).ownBlock = none
                      · exact .inl hv
                      · refine .inr fun e => ?_
                        cases hq : (v2).ownBlock with
                        | none => exact hv hq
                        | some q => rw [hq] at e; have := hG8 q e.symm; have := hge2 q hq; omega)
                    have hbw : Below w.heap.size w wr := hb12.grown hgr' (by omega) (fun k hk => by have := hGe k hk; omega)
                    clear x4 x5 y5 hK1 hK2 ho ho2 hgr hgr' hw keep hb12 hwl
                    replace hK1' := Lib.hid hK1'
                    replace hK2' := Lib.hid hK2'
                    replace how := Lib.hid how
                    replace ho2' := Lib.hid ho2'
                    have y4 := cellB x4' 0 rfl
                    have y5 := cellB x5' 0 rfl
                    (go_wp2_with fail; repeat (any_goals (go_quiet (fail); go_wp2_with fail)))
                    refine (same_true _ ho2'.out how.out).mono ?_
                    rintro e w11 ⟨rfl, hb⟩
                    have hbw2 := bcall hbw hb
                    have x4 := box_next x4' hb
                    replace hK1' := (hb.block _ (Array.getElem?_eq_some_iff.1 hK1'.out).1).trans hK1'.out
                    replace hK2' := (hb.block _ (Array.getElem?_eq_some_iff.1 hK2'.out).1).trans hK2'.out
                    have y4 := cellB x4 0 rfl
                    have f4 := freeB x4 0
                    clear hb x4' x5' y5 hbw how ho2'
                    replace hK1' := Lib.hid hK1'
                    replace hK2' := Lib.hid hK2'
                    (go_wp2_with fail; repeat (any_goals (go_quiet (fail); go_wp2_with fail)))
                    have hn2 : D2 ≠ w.heap.size := by omega
                    have hn1 : D1 ≠ w.heap.size := fun e => by
                      have h := hK1'.out
                      rw [e, x4] at h
                      cases h
                    have k2 : (w11.setCell ⟨w.heap.size, 0, none⟩ (.bool true)).heap[D2]? = some (.deferred (some [])) := (Below.heap_setCell _ _ _ _ (by first | exact hn2 | exact Ne.symm hn2)).trans hK2'.out
                    have k1 : ((w11.setCell ⟨w.heap.size, 0, none⟩ (.bool true)).putObj D2 (.deferred none)).heap[D1]? = some (.deferred (some [])) := (put_block (by omega)).trans ((Below.heap_setCell _ _ _ _ (by first | exact hn1 | exact Ne.symm hn1)).trans hK1'.out)
                    have k0 : (((w11.setCell ⟨w.heap.size, 0, none⟩ (.bool true)).putObj D2 (.deferred none)).putObj D1 (.deferred none)).heap[w.heap.size]? = some (.cells #[.bool true] 4 (0, 0)) := (put_block (Ne.symm hn1)).trans ((put_block (Ne.symm hn2)).trans (by rw [Lib.heap_setCell_same (i := 0) x4]; rfl))
                    have kB : Below w.heap.size w (((w11.setCell ⟨w.heap.size, 0, none⟩ (.bool true)).putObj D2 (.deferred none)).putObj D1 (.deferred none)) := ((hbw2.setCell (Nat.le_refl _) _).trans (put_below (by omega))).trans (put_below lD1')
                    have kc := cellB k0 0 rfl
                    refine ⟨by simp, .inl ⟨_, _, rfl, run_takeDeferred k2, ⟨by simp, .inl ⟨_, _, rfl, run_takeDeferred k1, .bool true, ?_, rfl, kB⟩⟩⟩⟩
                    simp [results, Tryz.results5, go_sem, kc]
        · rw [if_neg h0] at hr
          obtain ⟨g1, hg1, rfl, _⟩ := hr
          (go_wp2_with fail; repeat (any_goals (go_quiet (fail); go_wp2_with fail)))
          refine (S.out _ ((hE.out.next hb10).sub (by decide))).mono ?_
          rintro e w9 ⟨hr, hb⟩
          have hb11 := bcall hb10 hb
          replace x4 := box_next x4 hb
          replace x5 := box_next x5 hb
          replace hK1 := (hb.block _ (Array.getElem?_eq_some_iff.1 hK1).1).trans hK1
          replace hK2 := (hb.block _ (Array.getElem?_eq_some_iff.1 hK2).1).trans hK2
          replace ho := Lib.hid (ho.out.next hb)
          have hz3 := hb10.size
          have hz8 := hbw8.size
          have hz9 := hb.size
          clear hb hb10
          unfold ScanR at hr
          rw [if_neg h0] at hr
          obtain ⟨g2, hg2, rfl, _⟩ := hr
          replace h0 := Lib.hid h0
          go_wp2_with fail
          clear hnf S
          replace x4 := Lib.hid x4
          replace x5 := Lib.hid x5
          replace hK1 := Lib.hid hK1
          replace hK2 := Lib.hid hK2
          refine wp_then_only ?_
          refine wp_region_held (S := fun _ => True) (by kernel_rfl) ?_
          refine wpAnyH_take (i := 0) (oi := { dst := some 109, op := Op.move (Operand.tmp 18), type := 26, pos := "law.go:235", after := #[], guard := none }) (v := .iface 69 (.pointer (some ⟨g1, 0, none⟩))) rfl (by kernel_rfl) (by kernel_rfl) (by kernel_rfl) (fun _ _ _ h => h) (Or.inl ⟨by rfl, ?hy⟩) trivial ?_
          case hy =>
            intro w _
            go_simp
          (try simp only [Act.put, List.setIfInBounds_toArray, List.set_cons_zero, List.set_cons_succ])
          refine wpAnyH_take (i := 1) (oi := { dst := some 110, op := Op.binOp BinOp.eql 26 (Operand.tmp 109) (Operand.const Value.nilIface) 26, type := 4, pos := "law.go:235", after := #[{ on := 0, ground := Ground.data }], guard := none }) (v := .bool false) rfl (by kernel_rfl) (by kernel_rfl) (by kernel_rfl) (fun _ _ _ h => h) (Or.inl ⟨by rfl, ?hy⟩) trivial ?_
          case hy =>
            intro w _
            go_simp
          (try simp only [Act.put, List.setIfInBounds_toArray, List.set_cons_zero, List.set_cons_succ])
          refine wpAnyH_take (i := 2) (oi := { dst := some 111, op := Op.move (Operand.tmp 20), type := 26, pos := "law.go:235", after := #[], guard := none }) (v := .iface 69 (.pointer (some ⟨g2, 0, none⟩))) rfl (by kernel_rfl) (by kernel_rfl) (by kernel_rfl) (fun _ _ _ h => h) (Or.inl ⟨by rfl, ?hy⟩) trivial ?_
          case hy =>
            intro w _
            go_simp
          (try simp only [Act.put, List.setIfInBounds_toArray, List.set_cons_zero, List.set_cons_succ])
          refine wpAnyH_take (i := 3) (oi := { dst := some 112, op := Op.binOp BinOp.eql 26 (Operand.tmp 111) (Operand.const Value.nilIface) 26, type := 4, pos := "law.go:235", after := #[{ on := 2, ground := Ground.data }], guard := none }) (v := .bool false) rfl (by kernel_rfl) (by kernel_rfl) (by kernel_rfl) (fun _ _ _ h => h) (Or.inl ⟨by rfl, ?hy⟩) trivial ?_
          case hy =>
            intro w _
            go_simp
          (try simp only [Act.put, List.setIfInBounds_toArray, List.set_cons_zero, List.set_cons_succ])
          refine wpAnyH_take (i := 4) (oi := { dst := some 113, op := Op.binOp BinOp.neq 4 (Operand.tmp 110) (Operand.tmp 112) 4, type := 4, pos := "law.go:235", after := #[{ on := 1, ground := Ground.data }, { on := 3, ground := Ground.data }], guard := none }) (v := .bool false) rfl (by kernel_rfl) (by kernel_rfl) (by kernel_rfl) (fun _ _ _ h => h) (Or.inl ⟨by rfl, ?hy⟩) trivial ?_
          case hy =>
            intro w _
            go_simp
          (try simp only [Act.put, List.setIfInBounds_toArray, List.set_cons_zero, List.set_cons_succ])
          refine wpAnyH_take (i := 5) (oi := { dst := some 114, op := Op.move (Operand.tmp 113), type := 4, pos := "law.go:235", after := #[{ on := 4, ground := Ground.data }], guard := none }) (v := .bool false) rfl (by kernel_rfl) (by kernel_rfl) (by kernel_rfl) (fun _ _ _ h => h) (Or.inl ⟨by rfl, ?hy⟩) trivial ?_
          case hy =>
            intro w _
            go_simp
          (try simp only [Act.put, List.setIfInBounds_toArray, List.set_cons_zero, List.set_cons_succ])
          refine wpAnyH_take (i := 6) (oi := { dst := some 115, op := Op.move (Operand.tmp 17), type := 49, pos := "law.go:235", after := #[{ on := 5, ground := Ground.guard }], guard := some (5, false) }) (v := .slice none 0 0) rfl (by kernel_rfl) (by kernel_rfl) (by kernel_rfl) (fun _ _ _ h => h) (Or.inl ⟨by rfl, ?hy⟩) trivial ?_
          case hy =>
            intro w _
            go_simp
          (try simp only [Act.put, List.setIfInBounds_toArray, List.set_cons_zero, List.set_cons_succ])
          refine wpAnyH_take (i := 7) (oi := { dst := some 116, op := Op.move (Operand.tmp 19), type := 49, pos := "law.go:235", after := #[{ on := 5, ground := Ground.guard }], guard := some (5, false) }) (v := .slice none 0 0) rfl (by kernel_rfl) (by kernel_rfl) (by kernel_rfl) (fun _ _ _ h => h) (Or.inl ⟨by rfl, ?hy⟩) trivial ?_
          case hy =>
            intro w _
            go_simp
          (try simp only [Act.put, List.setIfInBounds_toArray, List.set_cons_zero, List.set_cons_succ])
          refine wpAnyH_one (i := 8) (by kernel_rfl) (fun K8 hK8 => ?_)
          unfold wpOp
          go_simp
          left
          refine (same_true _ (OwnT.nil _ 0) (OwnT.nil _ 0)).mono ?_
          rintro e w10 ⟨rfl, hb⟩
          refine hK8 _ _ trivial ?_
          clear hK8 K8
          (try simp only [Act.put, List.setIfInBounds_toArray, List.set_cons_zero, List.set_cons_succ])
          refine wpAnyH_take (i := 9) (oi := { dst := some 118, op := Op.unOp UnOp.not 4 (Operand.tmp 117), type := 4, pos := "law.go:235", after := #[{ on := 8, ground := Ground.data }, { on := 5, ground := Ground.guard }], guard := some (5, false) }) (v := .bool false) rfl (by kernel_rfl) (by kernel_rfl) (by kernel_rfl) (fun _ _ _ h => h) (Or.inl ⟨by rfl, ?hy⟩) trivial ?_
          case hy =>
            intro w _
            go_simp
          (try simp only [Act.put, List.setIfInBounds_toArray, List.set_cons_zero, List.set_cons_succ])
          refine wpAnyH_take (i := 10) (oi := { dst := some 119, op := Op.pick (Operand.tmp 114) (Operand.const (Value.bool true)) (Operand.tmp 118), type := 4, pos := "law.go:235", after := #[{ on := 5, ground := Ground.data }, { on := 9, ground := Ground.data }], guard := none }) (v := .bool false) rfl (by kernel_rfl) (by kernel_rfl) (by kernel_rfl) (fun _ _ _ h => h) (Or.inl ⟨by rfl, ?hy⟩) trivial ?_
          case hy =>
            intro w _
            go_simp
          (try simp only [Act.put, List.setIfInBounds_toArray, List.set_cons_zero, List.set_cons_succ])
          refine wpAnyH_done (by kernel_rfl) ?_ _
          rename_i K9 hK9
          refine hK9 _ _ ?_
          clear hK9 K9
          replace hb : Below w9.heap.size w9 w10 := bcall (Below.drew (Below.refl _ _)) hb
          have hb12 := bcall hb11 hb
          replace x4 := box_next x4 hb
          replace x5 := box_next x5 hb
          replace hK1 := (hb.block _ (Array.getElem?_eq_some_iff.1 hK1).1).trans hK1
          replace hK2 := (hb.block _ (Array.getElem?_eq_some_iff.1 hK2).1).trans hK2
          replace ho := Lib.hid (ho.out.next hb)
          have hge2 : ∀ k, (Value.slice none 0 0).ownBlock = some k → w8.heap.size ≤ k := fun k h => by cases h
          have ho2 : Hid (OwnT w10 w8.heap.size (.slice none 0 0) []) := Lib.hid (OwnT.nil _ _)
          have y5 := cellB x5 0 rfl
          have hz4 := hb11.size
          have hz10 := hb.size
          clear hb hb11
          (go_wp2_with fail; repeat (any_goals (go_quiet (fail); go_wp2_with fail)))
          go_loopw [122] (fun v wr => v = .int .i64 0 ∧ w10 = wr) (fun _ _ => 0)
          case atStart => exact ⟨rfl, rfl⟩
          case round =>
            obtain ⟨rfl, rfl⟩ := hrel
            (go_wp2_with fail; repeat (any_goals (go_quiet (fail); go_wp2_with fail)))
            go_loopw [23, 22] (fun v23 v22 wx => ∃ k : Nat, k ≤ 30 ∧ v23 = .int .i64 (k : Int) ∧ ∃ xs, Hid (wx.ownsRow W2.heap.size 59 4 v22 (0 + k) xs) ∧ Hid (w10.grownBy wx (none : Option Nat) ∧ ∀ q, v22.ownBlock = some q → (none : Option Nat) = some q ∨ w10.heap.size ≤ q)) (fun v _ _ => 30 - (intOf v).toNat)
            case atStart => exact ⟨0, by omega, rfl, _, (Lib.hid (World.ownsRow_nil _ _ _ _)), Lib.hid ⟨⟨rfl, rfl, rfl, Nat.le_refl _, fun _ _ _ => rfl⟩, fun q h => .inl h⟩⟩
            case round =>
              obtain ⟨k, hk, rfl, xs, hw, hgr⟩ := hrel
              by_cases hlt : k < 30
              · clear x4 x5 y5
                obtain ⟨i0, hi, hi2⟩ := Option.map_eq_some_iff.1 infoTk
                simp only [Prod.mk.injEq] at hi2
                obtain ⟨hq0, hq1, hq2⟩ := hi2
                replace hi := Lib.hid hi
                replace hq0 := Lib.hid hq0
                replace hq1 := Lib.hid hq1
                replace hq2 := Lib.hid hq2
                go_wp2_with (at_builtin; refine wpList_append_lies _ rfl _ _ 49 rfl W2.heap.size 59 i0 (.agg #[.int .i64 0, .int .i64 0, .int .i64 0, .string ⟨#[]⟩]) 4 40 Tryz.underlying49 hi.out hq0.out hq1.out hq2.out rfl (by decide) _ _ _ rfl (hw.out.alloc _) ⟨wr.heap.size, 0, none⟩ 1 1 [.int .i64 (-2), .int .i64 0, .int .i64 0, .string ⟨#[]⟩] rfl rfl ?c1 ?c2 (by decide) ?c3 ?c4 ?c5 _ rfl ?_)
                case c1 =>
                  intro j u hj
                  match j, hj with
                  | 0, hj => simp at hj; subst hj; simp [Addr.add]
                  | 1, hj => simp at hj; subst hj; simp [Addr.add]
                  | 2, hj => simp at hj; subst hj; simp [Addr.add]
                  | 3, hj => simp at hj; subst hj; simp [Addr.add]
                case c2 => intro u hu; simp at hu; rcases hu with rfl | rfl | rfl <;> rfl
                case c3 => unfold maxLen; omega
                case c4 => omega
                case c5 => simp; have := hgr.out.1.size; omega
                intro g' c' w3 ho3 hg3 hgl3 hlt3
                have hown3 : w3.ownsRow W2.heap.size 59 4 (.slice (some ⟨g', 0, none⟩) (0 + (k + 1)) c') (0 + (k + 1)) (xs ++ [.int .i64 (-2), .int .i64 0, .int .i64 0, .string ⟨#[]⟩]) := by first | exact ho3 | simpa using ho3
                have hgr3 : w10.grownBy w3 (none : Option Nat) := grown_own (grown_own hgr.out.1 (World.grownBy_alloc _ _ _) hgr.out.2) hg3 hgr.out.2
                have hin3 : ∀ q, (Value.slice (some ⟨g', 0, none⟩) (0 + (k + 1)) c').ownBlock = some q → (none : Option Nat) = some q ∨ w10.heap.size ≤ q := by
                  intro q hq
                  simp [Value.ownBlock] at hq
                  subst hq
                  rcases hgl3 with h | h
                  · exact hgr.out.2 _ h
                  · right
                    have := hgr.out.1.size
                    (try simp at h)
                    omega
                clear ho3 hg3 hgl3 hlt3 hw hgr
                replace hown3 := Lib.hid hown3
                replace hgr3 := Lib.hid hgr3
                replace hin3 := Lib.hid hin3
                (go_wp2_with fail; repeat (any_goals (go_quiet (fail); go_wp2_with fail)))
                go_roundw
                case rel => exact ⟨k + 1, by omega, by go_num, _, Lib.hid (by have h := hown3.out; first | exact h | simpa using h), Lib.hid ⟨hgr3.out, by have h := hin3.out; first | exact h | simpa using h⟩⟩
                case measure => simp [intOf]; omega
              · obtain rfl : k = 30 := by omega
                have hgr' := hgr.out.1
                have hGe : ∀ q, (none : Option Nat) = some q → W2.heap.size ≤ q := (fun q h => by cases h)
                have hG8 : ∀ q, (none : Option Nat) = some q → q < w8.heap.size := (fun q h => by cases h)
                have keep : ∀ k, k < W2.heap.size → wr.heap[k]? = w10.heap[k]? := fun k hk => hgr'.block k (by omega) (fun e => by have := hGe k e.symm; omega)
                have x4' : wr.heap[w.heap.size]? = some (.cells #[.bool false] 4 (0, 0)) := (keep _ l4).trans x4
                have x5' : wr.heap[b5]? = some (.cells #[.slice a n cap] 49 (0, 0)) := (keep _ l5).trans x5
                have hK1' := (keep _ lD1).trans hK1
                have hK2' := (keep _ lD2).trans hK2
                have how : OwnT wr w.heap.size (.slice a n cap) R.1 := World.ownsRow.kept ho.out hgr' (by
                  by_cases hv : (Value.slice a n cap).ownBlock = none
                  · exact .inl hv
                  · refine .inr fun e => ?_
                    cases hq : (Value.slice a n cap).ownBlock with
                    | none => exact hv hq
                    | some q => rw [hq] at e; have := hGe q e.symm; have := hwl q hq; omega)
                have ho2' : OwnT wr w8.heap.size (Value.slice none 0 0) [] := World.ownsRow.kept ho2.out hgr' (by
                  by_cases hv : ((Value.slice none 0 0)).ownBlock = none
                  · exact .inl hv
                  · refine .inr fun e => ?_
                    cases hq : ((Value.slice none 0 0)).ownBlock with
                    | none => exact hv hq
                    | some q => rw [hq] at e; have := hG8 q e.symm; have := hge2 q hq; omega)
                have hbw : Below w.heap.size w wr := hb12.grown hgr' (by omega) (fun k hk => by have := hGe k hk; omega)
                clear x4 x5 y5 hK1 hK2 ho ho2 hgr hgr' hw keep hb12 hwl
                replace hK1' := Lib.hid hK1'
                replace hK2' := Lib.hid hK2'
                replace how := Lib.hid how
                replace ho2' := Lib.hid ho2'
                have y4 := cellB x4' 0 rfl
                have y5 := cellB x5' 0 rfl
                have f4 := freeB x4' 0
                have x4 := x4'
                clear x5' y5 how ho2'
                (go_wp2_with fail; repeat (any_goals (go_quiet (fail); go_wp2_with fail)))
                have hn2 : D2 ≠ w.heap.size := by omega
                have hn1 : D1 ≠ w.heap.size := fun e => by
                  have h := hK1'.out
                  rw [e, x4] at h
                  cases h
                have k2 : (wr.setCell ⟨w.heap.size, 0, none⟩ (.bool true)).heap[D2]? = some (.deferred (some [])) := (Below.heap_setCell _ _ _ _ (by first | exact hn2 | exact Ne.symm hn2)).trans hK2'.out
                have k1 : ((wr.setCell ⟨w.heap.size, 0, none⟩ (.bool true)).putObj D2 (.deferred none)).heap[D1]? = some (.deferred (some [])) := (put_block (by omega)).trans ((Below.heap_setCell _ _ _ _ (by first | exact hn1 | exact Ne.symm hn1)).trans hK1'.out)
                have k0 : (((wr.setCell ⟨w.heap.size, 0, none⟩ (.bool true)).putObj D2 (.deferred none)).putObj D1 (.deferred none)).heap[w.heap.size]? = some (.cells #[.bool true] 4 (0, 0)) := (put_block (Ne.symm hn1)).trans ((put_block (Ne.symm hn2)).trans (by rw [Lib.heap_setCell_same (i := 0) x4]; rfl))
                have kB : Below w.heap.size w (((wr.setCell ⟨w.heap.size, 0, none⟩ (.bool true)).putObj D2 (.deferred none)).putObj D1 (.deferred none)) := ((hbw.setCell (Nat.le_refl _) _).trans (put_below (by omega))).trans (put_below lD1')
                have kc := cellB k0 0 rfl
                refine ⟨by simp, .inl ⟨_, _, rfl, run_takeDeferred k2, ⟨by simp, .inl ⟨_, _, rfl, run_takeDeferred k1, .bool true, ?_, rfl, kB⟩⟩⟩⟩
                simp [results, Tryz.results5, go_sem, kc]
end Go.Proofs.YtibopkodoidjoaaGreatDoor
