/- Lemmas of the proof, put together: Rd12, TreeAt, Is, Is2, Rc1, SRef9, Rf1, Rf2, Rf3, Is3, Spoil. -/
import Derived.Test.YtibopkodoidjoaaGreatDoorM9
import Derived.Test.YtibopkodoidjoaaGreatDoorM6
import Derived.Test.YtibopkodoidjoaaGreatDoorM4
import Derived.Test.YtibopkodoidjoaaGreatDoorM5
import Derived.Test.YtibopkodoidjoaaGreatDoorM7

/- The reference's tree: Parse. -/
namespace Go.Proofs.YtibopkodoidjoaaGreatDoor
open Go Go.RowKit

def finP (s : ByteArray) (ts : List Tk) : PR Nd → PR Nd
  | .ok x q => if q < ts.length then .err 2 (placeT s ts q) else .ok x q
  | .err k pl => .err k pl
  | .out => .out
theorem pP_fin (s : ByteArray) (ts : List Tk) : pP s ts = finP s ts (pV s ts (2 * ts.length + 1) 0 0) := by
  unfold pP
  cases pV s ts (2 * ts.length + 1) 0 0 <;> rfl
/-- What the reference's Parse answers. -/
def RefR (lo : Nat) (r : PR Nd) (e : Ending) (w' : World) : Prop := match r with
  | .ok x _ => ∃ u : List Value, e = .returned (.tuple #[.agg u.toArray, .int .i64 0, .int .i64 0]) ∧ OwnR w' lo w'.heap.size u x
  | .err k pl => e = .returned (.tuple #[.agg #[.int .i64 0, .int .i64 0, .bool false, .string ⟨#[]⟩, .slice none 0 0, .slice none 0 0, .slice none 0 0], .int .i64 (pl : Int), .int .i64 (k : Int)])
  | .out => False
set_option maxHeartbeats 2000000 in
set_option maxRecDepth 100000 in
theorem rParse_err (s : ByteArray) (w : World) (hs : s.size ≤ 1048576) (h0 : (someS s).2.1 ≠ 0) :
    Calls Tryz.prog 10 #[.string s] w fun e w' => RefR w.heap.size (.err (someS s).2.1 (someS s).2.2) e w' ∧ Below w.heap.size w w' := by
  have S := Lib.hid (fun w => rScan_calls s w (by omega))
  unfold rScanR at S
  rw [if_neg h0, if_neg h0] at S
  obtain ⟨k, hk⟩ : ∃ k, k = (someS s).2.1 := ⟨_, rfl⟩
  obtain ⟨pl, hpl⟩ : ∃ pl, pl = (someS s).2.2 := ⟨_, rfl⟩
  rw [← hk] at S h0
  rw [← hk, ← hpl]
  rw [← hpl] at S
  have h1 : ((k : Int) == 0) = false := by simp; omega
  have h1' : ¬ (k : Int) = 0 := by omega
  replace hk := Lib.hid hk
  replace hpl := Lib.hid hpl
  go_enter Tryz.func10, Tryz.ntmps10
  (go_wp2_with fail; repeat (any_goals (go_quiet (fail); go_wp2_with fail)))
  refine (S.out _).mono ?_
  rintro e w1 ⟨⟨v, rfl, _, hv⟩, hb⟩
  obtain rfl := hv h0
  have hb1 : Below w.heap.size w w1 := bcall (by repeat (first | assumption | exact Below.refl _ _ | apply Below.drew | apply below_drewN | apply balloc | (refine Below.setCell ?_ (by first | omega | (simp <;> omega)) _))) hb
  have hx := boxed hb
  have hx0 := ltB hx
  clear hb
  have yc0 := cellB hx 0 rfl
  have yc1 := cellB hx 1 rfl
  have yc2 := cellB hx 2 rfl
  have yc3 := cellB hx 3 rfl
  have yc4 := cellB hx 4 rfl
  have yc5 := cellB hx 5 rfl
  have yc6 := cellB hx 6 rfl
  have yf0 := freeB hx 0
  have yf1 := freeB hx 1
  have yf2 := freeB hx 2
  have yf3 := freeB hx 3
  have yf4 := freeB hx 4
  have yf5 := freeB hx 5
  have yf6 := freeB hx 6
  go_wp2_with fail
  have e1 := set7 hx (.int .i64 0) (.int .i64 0) (.bool false) (.string ⟨#[]⟩) (.slice none 0 0) (.slice none 0 0) (.slice none 0 0)
  clear yc0 yc1 yc2 yc3 yc4 yc5 yc6 yf0 yf1 yf2 yf3 yf4 yf5 yf6 hx
  have d0 := cellB e1 0 rfl
  have d1 := cellB e1 1 rfl
  have d2 := cellB e1 2 rfl
  have d3 := cellB e1 3 rfl
  have d4 := cellB e1 4 rfl
  have d5 := cellB e1 5 rfl
  have d6 := cellB e1 6 rfl
  refine bodyPost_ret (v := .tuple #[.agg #[.int .i64 0, .int .i64 0, .bool false, .string ⟨#[]⟩, .slice none 0 0, .slice none 0 0, .slice none 0 0], .int .i64 (pl : Int), .int .i64 (k : Int)]) (by simp [results, Tryz.results10, go_sem, d0, d1, d2, d3, d4, d5, d6]) rfl ?_
  exact ⟨rfl, below7 hb1 (Nat.le_refl _) _ _ _ _ _ _ _⟩

set_option maxHeartbeats 2000000 in
set_option maxRecDepth 100000 in
theorem rParse_ok (s : ByteArray) (w : World) (hs : s.size ≤ 1048576) (h0 : (someS s).2.1 = 0) :
    Calls Tryz.prog 10 #[.string s] w fun e w' => RefR w.heap.size (pP s (someS s).1) e w' ∧ Below w.heap.size w w' := by
  have S := Lib.hid (fun w => rScan_calls s w (by omega))
  unfold rScanR at S
  rw [if_pos h0, if_pos h0, h0] at S
  have hbd : ∀ T ∈ (someS s).1, T.fr ≤ T.to ∧ T.to ≤ s.size := fun T hT => by have := some_tok h0 T hT; omega
  have hlen : (someS s).1.length ≤ 1048576 := by
    obtain ⟨hu, hch, _⟩ := some_chain h0
    have := chain_len _ 0 ((utfE_brk s).1 hu) (Nat.zero_le _) hch
    omega
  generalize (someS s).1 = ts at *
  have fit := pV_fits s ts
  have hout : pV s ts (2 * ts.length + 1) 0 0 ≠ .out := fun h => by rw [h] at fit; exact fit
  have V := Lib.hid (fun base v b w hW => rvalue_calls (base := base) (v := v) s hbd (by omega) (2 * ts.length + 1) 0 0 0 b w hout (by omega) hW)
  rw [pP_fin]
  generalize pV s ts (2 * ts.length + 1) 0 0 = R at *
  replace hbd := Lib.hid hbd
  replace hout := Lib.hid hout
  cases R with
  | out => exact fit.elim
  | err k pl =>
    show Calls _ _ _ _ fun e w' => RefR w.heap.size (.err k pl) e w' ∧ _
    go_enter Tryz.func10, Tryz.ntmps10
    (go_wp2_with fail; repeat (any_goals (go_quiet (fail); go_wp2_with fail)))
    refine (S.out _).mono ?_
    rintro e w1 ⟨⟨v, rfl, hT, _⟩, hb⟩
    have hb1 : Below w.heap.size w w1 := bcall (by repeat (first | assumption | exact Below.refl _ _ | apply Below.drew | apply below_drewN | apply balloc | (refine Below.setCell ?_ (by first | omega | (simp <;> omega)) _))) hb
    have hx := boxed hb
    have hx0 := ltB hx
    obtain ⟨ta, tc, rfl⟩ := hT.form2
    have hown : ∀ k, (Value.slice ta ts.length tc).ownBlock = some k → k < w1.heap.size := fun k e => (World.ownsRow.lt hT k e).2
    replace hT := Lib.hid hT
    replace hown := Lib.hid hown
    clear hb
    go_wp2_with fail
    have hrd : RdB s (.slice ta ts.length tc) 0 0 0 w1.heap.size (w1.alloc (.cells #[.string s, .slice ta ts.length tc, .int .i64 0, .int .i64 0, .int .i64 0] 80 (0, 0))) := heap_alloc_new _ _
    have hWr : RdW _ s (.slice ta ts.length tc) ts 0 0 0 w1.heap.size (w1.alloc (.cells #[.string s, .slice ta ts.length tc, .int .i64 0, .int .i64 0, .int .i64 0] 80 (0, 0))) := ⟨hrd, hT.out.next (balloc (Below.refl _ _)), fun h => by have := hown.out _ h; omega, Nat.zero_le _, by omega⟩
    refine (V.out _ _ _ _ hWr).mono ?_
    rintro e w2 ⟨hg2, hm⟩
    have hb2 : Below w.heap.size w w2 := (Below.grown (balloc hb1) hg2 (by simp; omega) (fun k e => by cases e; omega))
    have hz1 : w.heap.size ≠ w1.heap.size := by omega
    replace hx := (hg2.block _ (ltB (al_keep hx)) (fun e => by have := Option.some.inj e; omega)).trans (al_keep hx)
    have hz2 := hg2.size
    simp at hz2
    clear hrd
    obtain ⟨m, p, f, t, vi, vk, vp, q, rfl, ⟨⟨a1, n1, c1, rfl⟩, ⟨a2, n2, c2, rfl⟩, ⟨a3, n3, c3, rfl⟩⟩, hq, hr⟩ := hm
    rw [rdC_arr]
    have hk : k = 2 ∨ k = 3 ∨ k = 6 := fit
    have hk1 : ((k : Int) == 0) = false := by simp; omega
    have hk2 : ¬ (k : Int) = 0 := by omega
    clear fit hWr hg2
    have x3 := hr.c3
    have x4 := hr.c4
    have hbr := ltB hr
    have hx0 := ltB hx
    have yc0 := cellB hx 0 rfl
    have yc1 := cellB hx 1 rfl
    have yc2 := cellB hx 2 rfl
    have yc3 := cellB hx 3 rfl
    have yc4 := cellB hx 4 rfl
    have yc5 := cellB hx 5 rfl
    have yc6 := cellB hx 6 rfl
    have yf0 := freeB hx 0
    have yf1 := freeB hx 1
    have yf2 := freeB hx 2
    have yf3 := freeB hx 3
    have yf4 := freeB hx 4
    have yf5 := freeB hx 5
    have yf6 := freeB hx 6
    replace hr := Lib.hid hr
    go_wp2_with fail
    go_region
    go_wp2_with fail
    have e0 := set7 hx (.int .i64 0) (.int .i64 0) (.bool false) (.string ⟨#[]⟩) (.slice none 0 0) (.slice none 0 0) (.slice none 0 0)
    clear yc0 yc1 yc2 yc3 yc4 yc5 yc6 yf0 yf1 yf2 yf3 yf4 yf5 yf6 hx
    have e1 := drewH (al_keep (o' := .cells #[.int .i64 (m : Int), .int .i64 (p : Int), .bool f, .string t, .slice a1 n1 c1, .slice a2 n2 c2, .slice a3 n3 c3] 33 (0, 0)) e0)
    have d0 := cellB e1 0 rfl
    have d1 := cellB e1 1 rfl
    have d2 := cellB e1 2 rfl
    have d3 := cellB e1 3 rfl
    have d4 := cellB e1 4 rfl
    have d5 := cellB e1 5 rfl
    have d6 := cellB e1 6 rfl
    refine bodyPost_ret (v := .tuple #[.agg #[.int .i64 0, .int .i64 0, .bool false, .string ⟨#[]⟩, .slice none 0 0, .slice none 0 0, .slice none 0 0], .int .i64 (pl : Int), .int .i64 (k : Int)]) (by simp [results, Tryz.results10, go_sem, d0, d1, d2, d3, d4, d5, d6]) rfl ?_
    exact ⟨rfl, Below.drew (balloc (below7 hb2 (Nat.le_refl _) _ _ _ _ _ _ _))⟩
  | ok x q =>
    by_cases hql : q < ts.length
    · rw [show finP s ts (.ok x q) = .err 2 (placeT s ts q) by show (if q < ts.length then _ else _) = _; rw [if_pos hql]]
      have HC := Lib.hid (fun ta tc base b w hW => here_calls (base := base) (v := (.slice ta ts.length tc)) (ts := ts) s q 0 0 b w hW)
      obtain ⟨P1, hP1⟩ : ∃ P1, P1 = placeT s ts q := ⟨_, rfl⟩
      rw [← hP1] at HC ⊢
      replace hP1 := Lib.hid hP1
      have hqI : (q : Int) < (ts.length : Int) := by omega
      go_enter Tryz.func10, Tryz.ntmps10
      (go_wp2_with fail; repeat (any_goals (go_quiet (fail); go_wp2_with fail)))
      refine (S.out _).mono ?_
      rintro e w1 ⟨⟨v, rfl, hT, _⟩, hb⟩
      have hb1 : Below w.heap.size w w1 := bcall (by repeat (first | assumption | exact Below.refl _ _ | apply Below.drew | apply below_drewN | apply balloc | (refine Below.setCell ?_ (by first | omega | (simp <;> omega)) _))) hb
      have hx := boxed hb
      have hx0 := ltB hx
      obtain ⟨ta, tc, rfl⟩ := hT.form2
      have hown : ∀ k, (Value.slice ta ts.length tc).ownBlock = some k → k < w1.heap.size := fun k e => (World.ownsRow.lt hT k e).2
      replace hT := Lib.hid hT
      replace hown := Lib.hid hown
      clear hb
      go_wp2_with fail
      have hrd : RdB s (.slice ta ts.length tc) 0 0 0 w1.heap.size (w1.alloc (.cells #[.string s, .slice ta ts.length tc, .int .i64 0, .int .i64 0, .int .i64 0] 80 (0, 0))) := heap_alloc_new _ _
      have hWr : RdW _ s (.slice ta ts.length tc) ts 0 0 0 w1.heap.size (w1.alloc (.cells #[.string s, .slice ta ts.length tc, .int .i64 0, .int .i64 0, .int .i64 0] 80 (0, 0))) := ⟨hrd, hT.out.next (balloc (Below.refl _ _)), fun h => by have := hown.out _ h; omega, Nat.zero_le _, by omega⟩
      refine (V.out _ _ _ _ hWr).mono ?_
      rintro e w2 ⟨hg2, hm⟩
      have hb2 : Below w.heap.size w w2 := (Below.grown (balloc hb1) hg2 (by simp; omega) (fun k e => by cases e; omega))
      have hz1 : w.heap.size ≠ w1.heap.size := by omega
      replace hx := (hg2.block _ (ltB (al_keep hx)) (fun e => by have := Option.some.inj e; omega)).trans (al_keep hx)
      have hz2 := hg2.size
      simp at hz2
      clear hrd
      obtain ⟨u, rfl, hN, hr⟩ := hm
      have hq : q ≤ ts.length := fit.2
      have hW2 := hWr.step hg2 hr hq
      obtain ⟨m, p, f, t, vi, vk, vp, rfl, ⟨a1, n1, c1, rfl⟩, ⟨a2, n2, c2, rfl⟩, ⟨a3, n3, c3, rfl⟩⟩ := hN.form
      rw [rdC_arr]
      clear fit hWr hg2 hT
      have x2 := hr.c2
      have x4 := hr.c4
      have hbr := ltB hr
      have hx0 := ltB hx
      have hW3 := hW2.next (balloc (o := .cells #[.int .i64 (m : Int), .int .i64 (p : Int), .bool f, .string t, .slice a1 n1 c1, .slice a2 n2 c2, .slice a3 n3 c3] 33 (0, 0)) (Below.refl w2.heap.size w2))
      have hx3 := al_keep (o' := .cells #[.int .i64 (m : Int), .int .i64 (p : Int), .bool f, .string t, .slice a1 n1 c1, .slice a2 n2 c2, .slice a3 n3 c3] 33 (0, 0)) hx
      have hb3 : Below w.heap.size w (w2.alloc (.cells #[.int .i64 (m : Int), .int .i64 (p : Int), .bool f, .string t, .slice a1 n1 c1, .slice a2 n2 c2, .slice a3 n3 c3] 33 (0, 0))) := balloc hb2
      clear hW2 hN hql
      replace hW3 := Lib.hid hW3
      replace hx3 := Lib.hid hx3
      replace hb3 := Lib.hid hb3
      go_wp2_with fail
      refine (HC.out _ _ _ _ _ hW3.out).mono ?_
      rintro e w4 ⟨rfl, hb⟩
      have hx4 := box_next hx3.out hb
      have hW4 := hW3.out.next hb
      have hb4 := hb3.out.trans (hb.mono hb3.out.size)
      clear hb hx hr x2 x4 hW3 hx3 hb3
      go_wp2_with fail
      refine (rfail_new s _ q 0 w1.heap.size P1 2 w4 hW4.rd).mono ?_
      rintro e w5 ⟨rfl, hr, hg⟩
      have hx := (hg.block _ (ltB hx4) (fun e => by have := Option.some.inj e; omega)).trans hx4
      have hb5 : Below w.heap.size w w5 := Below.grown hb4 hg hb4.size (fun k e => by cases e; omega)
      clear hg hx4 hb4 hW4 hx0 hbr
      have x3 := hr.c3
      have x4 := hr.c4
      have hbr := ltB hr
      have hx0 := ltB hx
      have yc0 := cellB hx 0 rfl
      have yc1 := cellB hx 1 rfl
      have yc2 := cellB hx 2 rfl
      have yc3 := cellB hx 3 rfl
      have yc4 := cellB hx 4 rfl
      have yc5 := cellB hx 5 rfl
      have yc6 := cellB hx 6 rfl
      have yf0 := freeB hx 0
      have yf1 := freeB hx 1
      have yf2 := freeB hx 2
      have yf3 := freeB hx 3
      have yf4 := freeB hx 4
      have yf5 := freeB hx 5
      have yf6 := freeB hx 6
      replace hr := Lib.hid hr
      go_wp2_with fail
      go_region
      go_wp2_with fail
      have e0 := set7 hx (.int .i64 0) (.int .i64 0) (.bool false) (.string ⟨#[]⟩) (.slice none 0 0) (.slice none 0 0) (.slice none 0 0)
      clear yc0 yc1 yc2 yc3 yc4 yc5 yc6 yf0 yf1 yf2 yf3 yf4 yf5 yf6 hx
      have e1 := drewH e0
      have d0 := cellB e1 0 rfl
      have d1 := cellB e1 1 rfl
      have d2 := cellB e1 2 rfl
      have d3 := cellB e1 3 rfl
      have d4 := cellB e1 4 rfl
      have d5 := cellB e1 5 rfl
      have d6 := cellB e1 6 rfl
      refine bodyPost_ret (v := .tuple #[.agg #[.int .i64 0, .int .i64 0, .bool false, .string ⟨#[]⟩, .slice none 0 0, .slice none 0 0, .slice none 0 0], .int .i64 (P1 : Int), .int .i64 (2 : Int)]) (by simp [results, Tryz.results10, go_sem, d0, d1, d2, d3, d4, d5, d6]) rfl ?_
      exact ⟨rfl, Below.drew (below7 hb5 (Nat.le_refl _) _ _ _ _ _ _ _)⟩
    · rw [show finP s ts (.ok x q) = .ok x q by show (if q < ts.length then _ else _) = _; rw [if_neg hql]]
      have hqI : ¬ (q : Int) < (ts.length : Int) := by omega
      go_enter Tryz.func10, Tryz.ntmps10
      (go_wp2_with fail; repeat (any_goals (go_quiet (fail); go_wp2_with fail)))
      refine (S.out _).mono ?_
      rintro e w1 ⟨⟨v, rfl, hT, _⟩, hb⟩
      have hb1 : Below w.heap.size w w1 := bcall (by repeat (first | assumption | exact Below.refl _ _ | apply Below.drew | apply below_drewN | apply balloc | (refine Below.setCell ?_ (by first | omega | (simp <;> omega)) _))) hb
      have hx := boxed hb
      have hx0 := ltB hx
      obtain ⟨ta, tc, rfl⟩ := hT.form2
      have hown : ∀ k, (Value.slice ta ts.length tc).ownBlock = some k → k < w1.heap.size := fun k e => (World.ownsRow.lt hT k e).2
      replace hT := Lib.hid hT
      replace hown := Lib.hid hown
      clear hb
      go_wp2_with fail
      have hrd : RdB s (.slice ta ts.length tc) 0 0 0 w1.heap.size (w1.alloc (.cells #[.string s, .slice ta ts.length tc, .int .i64 0, .int .i64 0, .int .i64 0] 80 (0, 0))) := heap_alloc_new _ _
      have hWr : RdW _ s (.slice ta ts.length tc) ts 0 0 0 w1.heap.size (w1.alloc (.cells #[.string s, .slice ta ts.length tc, .int .i64 0, .int .i64 0, .int .i64 0] 80 (0, 0))) := ⟨hrd, hT.out.next (balloc (Below.refl _ _)), fun h => by have := hown.out _ h; omega, Nat.zero_le _, by omega⟩
      refine (V.out _ _ _ _ hWr).mono ?_
      rintro e w2 ⟨hg2, hm⟩
      have hb2 : Below w.heap.size w w2 := (Below.grown (balloc hb1) hg2 (by simp; omega) (fun k e => by cases e; omega))
      have hz1 : w.heap.size ≠ w1.heap.size := by omega
      replace hx := (hg2.block _ (ltB (al_keep hx)) (fun e => by have := Option.some.inj e; omega)).trans (al_keep hx)
      have hz2 := hg2.size
      simp at hz2
      clear hrd
      obtain ⟨u, rfl, hN, hr⟩ := hm
      have hq : q ≤ ts.length := fit.2
      have hW2 := hWr.step hg2 hr hq
      obtain ⟨m, p, f, t, vi, vk, vp, rfl, ⟨a1, n1, c1, rfl⟩, ⟨a2, n2, c2, rfl⟩, ⟨a3, n3, c3, rfl⟩⟩ := hN.form
      rw [rdC_arr]
      clear fit hWr hg2 hT
      have x2 := hr.c2
      have x4 := hr.c4
      have hbr := ltB hr
      have hx0 := ltB hx
      clear hql hW2
      have yc0 := cellB hx 0 rfl
      have yc1 := cellB hx 1 rfl
      have yc2 := cellB hx 2 rfl
      have yc3 := cellB hx 3 rfl
      have yc4 := cellB hx 4 rfl
      have yc5 := cellB hx 5 rfl
      have yc6 := cellB hx 6 rfl
      have yf0 := freeB hx 0
      have yf1 := freeB hx 1
      have yf2 := freeB hx 2
      have yf3 := freeB hx 3
      have yf4 := freeB hx 4
      have yf5 := freeB hx 5
      have yf6 := freeB hx 6
      replace hr := Lib.hid hr
      replace hN := Lib.hid hN
      go_wp2_with fail
      have e0 := set7 hx (.int .i64 (m : Int)) (.int .i64 (p : Int)) (.bool f) (.string t) (.slice a1 n1 c1) (.slice a2 n2 c2) (.slice a3 n3 c3)
      clear yc0 yc1 yc2 yc3 yc4 yc5 yc6 yf0 yf1 yf2 yf3 yf4 yf5 yf6 hx
      have e1 := al_keep (o' := .cells #[.int .i64 (m : Int), .int .i64 (p : Int), .bool f, .string t, .slice a1 n1 c1, .slice a2 n2 c2, .slice a3 n3 c3] 33 (0, 0)) e0
      have d0 := cellB e1 0 rfl
      have d1 := cellB e1 1 rfl
      have d2 := cellB e1 2 rfl
      have d3 := cellB e1 3 rfl
      have d4 := cellB e1 4 rfl
      have d5 := cellB e1 5 rfl
      have d6 := cellB e1 6 rfl
      refine bodyPost_ret (v := .tuple #[.agg #[.int .i64 (m : Int), .int .i64 (p : Int), .bool f, .string t, .slice a1 n1 c1, .slice a2 n2 c2, .slice a3 n3 c3], .int .i64 0, .int .i64 0]) (by simp [results, Tryz.results10, go_sem, d0, d1, d2, d3, d4, d5, d6]) rfl ?_
      refine ⟨⟨_, rfl, ?_⟩, balloc (below7 hb2 (Nat.le_refl _) _ _ _ _ _ _ _)⟩
      have hG := grown_belowR (set7_grown w2 w.heap.size (.int .i64 (m : Int)) (.int .i64 (p : Int)) (.bool f) (.string t) (.slice a1 n1 c1) (.slice a2 n2 c2) (.slice a3 n3 c3)) (balloc (o := .cells #[.int .i64 (m : Int), .int .i64 (p : Int), .bool f, .string t, .slice a1 n1 c1, .slice a2 n2 c2, .slice a3 n3 c3] 33 (0, 0)) (Below.refl _ _))
      exact (hN.out.grown hG (Nat.le_refl _) (by simp; omega)).wide (by simp; omega) hG.size

theorem rParse_calls (s : ByteArray) (w : World) (hs : s.size ≤ 1048576) :
    Calls Tryz.prog 10 #[.string s] w fun e w' => RefR w.heap.size (parseS s) e w' ∧ Below w.heap.size w w' := by
  unfold parseS
  by_cases h0 : (someS s).2.1 = 0
  · rw [if_pos h0]; exact rParse_ok s w hs h0
  · rw [if_neg h0]; exact rParse_err s w hs h0

end Go.Proofs.YtibopkodoidjoaaGreatDoor

/- The statements of chapter 18: At of a node. -/
namespace Go.Proofs.YtibopkodoidjoaaGreatDoor
open Go Go.RowKit

@[go_sem] theorem na_AtNodeNull (d : Nat) (w : World) (p : Int) : (nilAhead (d + 3) 90 (.agg #[.int .i64 p]) "At").run Tryz.prog w = .ok (some false) w := by kernel_rfl
@[go_sem] theorem me_AtNodeNull (d : Nat) (w : World) (p : Int) : (method (d + 3) 90 (.agg #[.int .i64 p]) "At").run Tryz.prog w = .ok (174, .agg #[.int .i64 p]) w := by kernel_rfl
@[go_sem] theorem na_AtNodeFlag (d : Nat) (w : World) (p : Int) (b : Bool) : (nilAhead (d + 3) 92 (.agg #[.int .i64 p, .bool b]) "At").run Tryz.prog w = .ok (some false) w := by kernel_rfl
@[go_sem] theorem me_AtNodeFlag (d : Nat) (w : World) (p : Int) (b : Bool) : (method (d + 3) 92 (.agg #[.int .i64 p, .bool b]) "At").run Tryz.prog w = .ok (174, .agg #[.int .i64 p]) w := by kernel_rfl
@[go_sem] theorem na_AtNodeNumber (d : Nat) (w : World) (p : Int) (t : ByteArray) : (nilAhead (d + 3) 94 (.agg #[.int .i64 p, .string t]) "At").run Tryz.prog w = .ok (some false) w := by kernel_rfl
@[go_sem] theorem me_AtNodeNumber (d : Nat) (w : World) (p : Int) (t : ByteArray) : (method (d + 3) 94 (.agg #[.int .i64 p, .string t]) "At").run Tryz.prog w = .ok (174, .agg #[.int .i64 p]) w := by kernel_rfl
@[go_sem] theorem na_AtNodeText (d : Nat) (w : World) (p : Int) (t : ByteArray) : (nilAhead (d + 3) 95 (.agg #[.int .i64 p, .string t]) "At").run Tryz.prog w = .ok (some false) w := by kernel_rfl
@[go_sem] theorem me_AtNodeText (d : Nat) (w : World) (p : Int) (t : ByteArray) : (method (d + 3) 95 (.agg #[.int .i64 p, .string t]) "At").run Tryz.prog w = .ok (174, .agg #[.int .i64 p]) w := by kernel_rfl
@[go_sem] theorem na_AtNodeList (d : Nat) (w : World) (p : Int) (a : Option Addr) (n c : Nat) : (nilAhead (d + 3) 98 (.agg #[.int .i64 p, .slice a n c]) "At").run Tryz.prog w = .ok (some false) w := by kernel_rfl
@[go_sem] theorem me_AtNodeList (d : Nat) (w : World) (p : Int) (a : Option Addr) (n c : Nat) : (method (d + 3) 98 (.agg #[.int .i64 p, .slice a n c]) "At").run Tryz.prog w = .ok (174, .agg #[.int .i64 p]) w := by kernel_rfl
@[go_sem] theorem na_AtNodeObject (d : Nat) (w : World) (p : Int) (a : Option Addr) (n c : Nat) : (nilAhead (d + 3) 101 (.agg #[.int .i64 p, .slice a n c]) "At").run Tryz.prog w = .ok (some false) w := by kernel_rfl
@[go_sem] theorem me_AtNodeObject (d : Nat) (w : World) (p : Int) (a : Option Addr) (n c : Nat) : (method (d + 3) 101 (.agg #[.int .i64 p, .slice a n c]) "At").run Tryz.prog w = .ok (174, .agg #[.int .i64 p]) w := by kernel_rfl
set_option maxHeartbeats 1000000 in
theorem At_calls (p : Int) (w : World) : Calls Tryz.prog 174 #[.agg #[.int .i64 p]] w fun e w' => e = .returned (.int .i64 p) ∧ Below w.heap.size w w' := by
  go_enter Tryz.func174, Tryz.ntmps174
  (go_wp2_with fail; repeat (any_goals (go_quiet (fail); go_wp2_with fail)))
  go_ret
  exact ⟨rfl, (by repeat (first | assumption | exact Below.refl _ _ | apply Below.drew | apply below_drewN | apply balloc | (refine Below.setCell ?_ (by first | omega | (simp <;> omega)) _)))⟩
theorem eq_i (d : Nat) (a b : Int) (w : World) : (Op.equalIn (d + 1) 3 (.int .i64 a) (.int .i64 b)).run Tryz.prog w = .ok (a == b) w := run_equalIn_int _ _ _ _ .i64 _ _ (by kernel_rfl)
theorem und6 (w : World) : (underlying 44).run Tryz.prog w = .ok (.array 6 3) w := by kernel_rfl
theorem sz6 (w : World) : (Go.sizeOf 3).run Tryz.prog w = .ok 1 w := by kernel_rfl
theorem eq6 (n : Nat) (a b c d e f : Int) (w : World) : (Op.equalIn (n + 2) 44 (.agg #[.int .i64 a, .int .i64 b, .int .i64 c, .int .i64 d, .int .i64 e, .int .i64 f]) (.agg #[.int .i64 a, .int .i64 b, .int .i64 c, .int .i64 d, .int .i64 e, .int .i64 f])).run Tryz.prog w = .ok true w := by
  rw [Op.equalIn.eq_def]
  simp only [Sem.run_bind, und6, sz6, Result.andThen, part]
  simp [go_sem, eq_i, List.range', Result.andThen]

end Go.Proofs.YtibopkodoidjoaaGreatDoor

/- The statements of chapter 18: is, plain nodes. -/
namespace Go.Proofs.YtibopkodoidjoaaGreatDoor
open Go Go.RowKit

def BoxR (g : Nat) (u : Array Value) (w : World) : Prop := w.heap[g]? = some (.cells u 33 (0, 0))
theorem BoxR.two {g : Nat} {P : Int} {a0 a2 a3 a4 a5 a6 : Value} {w : World} (h : BoxR g #[a0, .int .i64 P, a2, a3, a4, a5, a6] w) : w.cell? ⟨g, 1, none⟩ = some (.int .i64 P) ∧ BoxR g #[a0, .int .i64 P, a2, a3, a4, a5, a6] w := ⟨cellB h 1 rfl, h⟩
theorem BoxR.all {g : Nat} {a0 a1 a2 a3 a4 a5 a6 : Value} {w : World} (h : BoxR g #[a0, a1, a2, a3, a4, a5, a6] w) : w.cell? ⟨g, 0, none⟩ = some a0 ∧ w.cell? ⟨g, 2, none⟩ = some a2 ∧ w.cell? ⟨g, 3, none⟩ = some a3 ∧ w.cell? ⟨g, 4, none⟩ = some a4 ∧ w.cell? ⟨g, 5, none⟩ = some a5 ∧ w.cell? ⟨g, 6, none⟩ = some a6 :=
  ⟨cellB h 0 rfl, cellB h 2 rfl, cellB h 3 rfl, cellB h 4 rfl, cellB h 5 rfl, cellB h 6 rfl⟩
theorem BoxR.drew {g : Nat} {u : Array Value} {w : World} (h : BoxR g u w) : BoxR g u w.drew := h
theorem BoxR.next {g : Nat} {u : Array Value} {w w' : World} (h : BoxR g u w) (hb : Below w.heap.size w w') : BoxR g u w' := box_next h hb
set_option maxHeartbeats 2000000 in
set_option maxRecDepth 100000 in
theorem is_null (P : Nat) (w : World) : Calls Tryz.prog 12 #[.iface 90 (.agg #[.int .i64 (P : Int)]), .agg #[.int .i64 0, .int .i64 (P : Int), .bool false, .string ⟨#[]⟩, .slice none 0 0, .slice none 0 0, .slice none 0 0]] w fun e w' => e = .returned (.bool true) ∧ Below w.heap.size w w' := by
  have T1 := Lib.hid (fun w => At_calls (P : Int) w)
  go_enter Tryz.func12, Tryz.ntmps12
  go_upto_region 1 with fail
  have hB0 : BoxR w.heap.size #[.int .i64 0, .int .i64 (P : Int), .bool false, .string ⟨#[]⟩, .slice none 0 0, .slice none 0 0, .slice none 0 0] (w.alloc (.cells #[.int .i64 0, .int .i64 (P : Int), .bool false, .string ⟨#[]⟩, .slice none 0 0, .slice none 0 0, .slice none 0 0] 33 (0, 0))) := heap_alloc_new _ _
  go_region_held3 (fun w' => w'.cell? ⟨w.heap.size, 1, none⟩ = some (.int .i64 (P : Int)) ∧ BoxR w.heap.size #[.int .i64 0, .int .i64 (P : Int), .bool false, .string ⟨#[]⟩, .slice none 0 0, .slice none 0 0, .slice none 0 0] w') (first | exact BoxR.two ‹_› | exact BoxR.two (BoxR.drew hB0)) ((go_at_call 174; refine (T1.out _).mono ?_; rintro e w8 ⟨rfl, hb⟩; have hB8 := BoxR.next (BoxR.drew hB0) hb; have hb8 : Below w.heap.size w w8 := bcall (by repeat (first | assumption | exact Below.refl _ _ | apply Below.drew | apply below_drewN | apply balloc | (refine Below.setCell ?_ (by first | omega | (simp <;> omega)) _))) hb; clear hb))
  obtain ⟨c0, c2, c3, c4, c5, c6⟩ := hB8.all
  have hlt8 := ltB hB8
  (go_wp2_with fail; repeat (any_goals (go_quiet (fail); go_wp2_with fail)))

  go_ret
  exact ⟨rfl, (by repeat (first | assumption | exact Below.refl _ _ | apply Below.drew | apply below_drewN | apply balloc | (refine Below.setCell ?_ (by first | omega | (simp <;> omega)) _)))⟩
set_option maxHeartbeats 2000000 in
set_option maxRecDepth 100000 in
theorem is_flag (P : Nat) (b : Bool) (w : World) : Calls Tryz.prog 12 #[.iface 92 (.agg #[.int .i64 (P : Int), .bool b]), .agg #[.int .i64 1, .int .i64 (P : Int), .bool b, .string ⟨#[]⟩, .slice none 0 0, .slice none 0 0, .slice none 0 0]] w fun e w' => e = .returned (.bool true) ∧ Below w.heap.size w w' := by
  have T1 := Lib.hid (fun w => At_calls (P : Int) w)
  go_enter Tryz.func12, Tryz.ntmps12
  go_upto_region 1 with fail
  have hB0 : BoxR w.heap.size #[.int .i64 1, .int .i64 (P : Int), .bool b, .string ⟨#[]⟩, .slice none 0 0, .slice none 0 0, .slice none 0 0] (w.alloc (.cells #[.int .i64 1, .int .i64 (P : Int), .bool b, .string ⟨#[]⟩, .slice none 0 0, .slice none 0 0, .slice none 0 0] 33 (0, 0))) := heap_alloc_new _ _
  go_region_held3 (fun w' => w'.cell? ⟨w.heap.size, 1, none⟩ = some (.int .i64 (P : Int)) ∧ BoxR w.heap.size #[.int .i64 1, .int .i64 (P : Int), .bool b, .string ⟨#[]⟩, .slice none 0 0, .slice none 0 0, .slice none 0 0] w') (first | exact BoxR.two ‹_› | exact BoxR.two (BoxR.drew hB0)) ((go_at_call 174; refine (T1.out _).mono ?_; rintro e w8 ⟨rfl, hb⟩; have hB8 := BoxR.next (BoxR.drew hB0) hb; have hb8 : Below w.heap.size w w8 := bcall (by repeat (first | assumption | exact Below.refl _ _ | apply Below.drew | apply below_drewN | apply balloc | (refine Below.setCell ?_ (by first | omega | (simp <;> omega)) _))) hb; clear hb))
  obtain ⟨c0, c2, c3, c4, c5, c6⟩ := hB8.all
  have hlt8 := ltB hB8
  (go_wp2_with fail; repeat (any_goals (go_quiet (fail); go_wp2_with fail)))

  go_ret
  exact ⟨rfl, (by repeat (first | assumption | exact Below.refl _ _ | apply Below.drew | apply below_drewN | apply balloc | (refine Below.setCell ?_ (by first | omega | (simp <;> omega)) _)))⟩
set_option maxHeartbeats 2000000 in
set_option maxRecDepth 100000 in
theorem is_num (P : Nat) (t : ByteArray) (w : World) : Calls Tryz.prog 12 #[.iface 94 (.agg #[.int .i64 (P : Int), .string t]), .agg #[.int .i64 2, .int .i64 (P : Int), .bool false, .string t, .slice none 0 0, .slice none 0 0, .slice none 0 0]] w fun e w' => e = .returned (.bool true) ∧ Below w.heap.size w w' := by
  have T1 := Lib.hid (fun w => At_calls (P : Int) w)
  go_enter Tryz.func12, Tryz.ntmps12
  go_upto_region 1 with fail
  have hB0 : BoxR w.heap.size #[.int .i64 2, .int .i64 (P : Int), .bool false, .string t, .slice none 0 0, .slice none 0 0, .slice none 0 0] (w.alloc (.cells #[.int .i64 2, .int .i64 (P : Int), .bool false, .string t, .slice none 0 0, .slice none 0 0, .slice none 0 0] 33 (0, 0))) := heap_alloc_new _ _
  go_region_held3 (fun w' => w'.cell? ⟨w.heap.size, 1, none⟩ = some (.int .i64 (P : Int)) ∧ BoxR w.heap.size #[.int .i64 2, .int .i64 (P : Int), .bool false, .string t, .slice none 0 0, .slice none 0 0, .slice none 0 0] w') (first | exact BoxR.two ‹_› | exact BoxR.two (BoxR.drew hB0)) ((go_at_call 174; refine (T1.out _).mono ?_; rintro e w8 ⟨rfl, hb⟩; have hB8 := BoxR.next (BoxR.drew hB0) hb; have hb8 : Below w.heap.size w w8 := bcall (by repeat (first | assumption | exact Below.refl _ _ | apply Below.drew | apply below_drewN | apply balloc | (refine Below.setCell ?_ (by first | omega | (simp <;> omega)) _))) hb; clear hb))
  obtain ⟨c0, c2, c3, c4, c5, c6⟩ := hB8.all
  have hlt8 := ltB hB8
  (go_wp2_with fail; repeat (any_goals (go_quiet (fail); go_wp2_with fail)))

  go_ret
  exact ⟨rfl, (by repeat (first | assumption | exact Below.refl _ _ | apply Below.drew | apply below_drewN | apply balloc | (refine Below.setCell ?_ (by first | omega | (simp <;> omega)) _)))⟩
set_option maxHeartbeats 2000000 in
set_option maxRecDepth 100000 in
theorem is_text (P : Nat) (t : ByteArray) (w : World) : Calls Tryz.prog 12 #[.iface 95 (.agg #[.int .i64 (P : Int), .string t]), .agg #[.int .i64 3, .int .i64 (P : Int), .bool false, .string t, .slice none 0 0, .slice none 0 0, .slice none 0 0]] w fun e w' => e = .returned (.bool true) ∧ Below w.heap.size w w' := by
  have T1 := Lib.hid (fun w => At_calls (P : Int) w)
  go_enter Tryz.func12, Tryz.ntmps12
  go_upto_region 1 with fail
  have hB0 : BoxR w.heap.size #[.int .i64 3, .int .i64 (P : Int), .bool false, .string t, .slice none 0 0, .slice none 0 0, .slice none 0 0] (w.alloc (.cells #[.int .i64 3, .int .i64 (P : Int), .bool false, .string t, .slice none 0 0, .slice none 0 0, .slice none 0 0] 33 (0, 0))) := heap_alloc_new _ _
  go_region_held3 (fun w' => w'.cell? ⟨w.heap.size, 1, none⟩ = some (.int .i64 (P : Int)) ∧ BoxR w.heap.size #[.int .i64 3, .int .i64 (P : Int), .bool false, .string t, .slice none 0 0, .slice none 0 0, .slice none 0 0] w') (first | exact BoxR.two ‹_› | exact BoxR.two (BoxR.drew hB0)) ((go_at_call 174; refine (T1.out _).mono ?_; rintro e w8 ⟨rfl, hb⟩; have hB8 := BoxR.next (BoxR.drew hB0) hb; have hb8 : Below w.heap.size w w8 := bcall (by repeat (first | assumption | exact Below.refl _ _ | apply Below.drew | apply below_drewN | apply balloc | (refine Below.setCell ?_ (by first | omega | (simp <;> omega)) _))) hb; clear hb))
  obtain ⟨c0, c2, c3, c4, c5, c6⟩ := hB8.all
  have hlt8 := ltB hB8
  (go_wp2_with fail; repeat (any_goals (go_quiet (fail); go_wp2_with fail)))

  go_ret
  exact ⟨rfl, (by repeat (first | assumption | exact Below.refl _ _ | apply Below.drew | apply below_drewN | apply balloc | (refine Below.setCell ?_ (by first | omega | (simp <;> omega)) _)))⟩

end Go.Proofs.YtibopkodoidjoaaGreatDoor

/- The statements of chapter 18: is, lists and objects. -/
namespace Go.Proofs.YtibopkodoidjoaaGreatDoor
open Go Go.RowKit

/-- is, at a node that stands in world w0 as the answered one and as the document's. -/
def IsC (w0 : World) (lo hi lo2 hi2 : Nat) (u : Value) (c : List Value) : Prop := ∀ w, (∀ k, lo ≤ k → k < hi → w.heap[k]? = w0.heap[k]?) → (∀ k, lo2 ≤ k → k < hi2 → w.heap[k]? = w0.heap[k]?) → hi ≤ w.heap.size → hi2 ≤ w.heap.size →
  Calls Tryz.prog 12 #[u, .agg c.toArray] w fun e w' => e = .returned (.bool true) ∧ Below w.heap.size w w'
theorem flat7 : ∀ (cs : List RKid) (j : Nat) (c : RKid) (i : Nat), (∀ c ∈ cs, c.u.length = 7) → cs[j]? = some c → i < 7 → (cs.flatMap RKid.u)[j * 7 + i]? = c.u[i]?
  | [], j, c, i, _, h, _ => by simp at h
  | a :: cs, 0, c, i, hl, h, hi => by
    simp at h
    subst h
    rw [List.flatMap_cons, List.getElem?_append_left (by rw [hl a (by simp)]; omega), Nat.zero_mul, Nat.zero_add]
  | a :: cs, j + 1, c, i, hl, h, hi => by
    rw [List.flatMap_cons, List.getElem?_append_right (by rw [hl a (by simp)]; omega), hl a (by simp), show (j + 1) * 7 + i - 7 = j * 7 + i by omega]
    exact flat7 cs j c i (fun c hc => hl c (by simp [hc])) (by simpa using h) hi
theorem cell_next {w w' : World} {g j : Nat} {v : Value} (h : w.cell? ⟨g, j, none⟩ = some v) (hg : g < w.heap.size) (hb : Below w.heap.size w w') : w'.cell? ⟨g, j, none⟩ = some v := (hb.cell (p := ⟨g, j, none⟩) hg).trans h
set_option maxHeartbeats 4000000 in
set_option maxRecDepth 100000 in
theorem is_lst {w0 : World} (lo hi lo2 hi2 P : Nat) (vr rv : Value) (cs : List Kid) (rcs : List RKid) (hr : w0.ownsRow lo 24 1 vr cs.length (cs.map Kid.u)) (hb0 : ∀ k, vr.ownBlock = some k → k < hi) (hk : ∀ c ∈ cs, lo ≤ c.l ∧ c.h ≤ hi)
    (hr2 : w0.ownsRow lo2 33 7 rv rcs.length (rcs.flatMap RKid.u)) (hb2 : ∀ k, rv.ownBlock = some k → k < hi2) (hk2 : ∀ c ∈ rcs, c.fits lo2 hi2) (hlen : rcs.length = cs.length)
    (hform : ∀ c ∈ cs, ∃ t a, c.u = .iface t a) (hform2 : ∀ c ∈ rcs, ∃ m p f t vi vk vp, c.u = rdC m p f t vi vk vp ∧ isSl vi ∧ isSl vk ∧ isSl vp)
    (ih : ∀ (j : Nat) (c : Kid) (rc : RKid), cs[j]? = some c → rcs[j]? = some rc → IsC w0 c.l c.h rc.l rc.h c.u rc.u) :
    IsC w0 lo hi lo2 hi2 (.iface 98 (.agg #[.int .i64 (P : Int), vr])) (rdC 4 P false noS rv (.slice none 0 0) (.slice none 0 0)) := by
  intro w hw hw2 hh hh2
  obtain ⟨m, hm⟩ : ∃ m, m = cs.length := ⟨_, rfl⟩
  rw [hlen] at hr2
  rw [← hm] at hr hr2 hlen
  have hl7 : ∀ c ∈ rcs, c.u.length = 7 := fun c hc => by
    obtain ⟨_, _, _, _, _, _, _, h, _⟩ := hform2 c hc
    rw [h]; rfl
  obtain ⟨va, vc, rfl⟩ := rowForm hr
  obtain ⟨ra, rc0, rfl⟩ := rowForm hr2
  have hnm : m ≤ maxLen := by
    rcases rowForm2 hr with ⟨h, _⟩ | ⟨g, cap, h, _, _, h1, h2⟩
    · omega
    · omega
  unfold maxLen at hnm
  have hnI : (m : Int) ≤ 9223372036854775807 := by omega
  have hr1 := Lib.hid (ownsRow_heap hr fun k e => hw k (hr.lt k e).1 (hb0 k e))
  have hr3 := Lib.hid (ownsRow_heap hr2 fun k e => hw2 k (hr2.lt k e).1 (hb2 k e))
  replace hr := Lib.hid hr
  replace hr2 := Lib.hid hr2
  replace hm := Lib.hid hm
  replace hlen := Lib.hid hlen
  replace hw := Lib.hid hw
  replace hw2 := Lib.hid hw2
  rw [rdC_arr]
  have T1 := Lib.hid (fun w => At_calls (P : Int) w)
  go_enter Tryz.func12, Tryz.ntmps12
  go_upto_region 1 with fail
  have hB0 : BoxR w.heap.size #[.int .i64 4, .int .i64 (P : Int), .bool false, .string noS, .slice ra m rc0, .slice none 0 0, .slice none 0 0] (w.alloc (.cells #[.int .i64 4, .int .i64 (P : Int), .bool false, .string noS, .slice ra m rc0, .slice none 0 0, .slice none 0 0] 33 (0, 0))) := heap_alloc_new _ _
  go_region_held3 (fun w' => w'.cell? ⟨w.heap.size, 1, none⟩ = some (.int .i64 (P : Int)) ∧ BoxR w.heap.size #[.int .i64 4, .int .i64 (P : Int), .bool false, .string noS, .slice ra m rc0, .slice none 0 0, .slice none 0 0] w') (first | exact BoxR.two ‹_› | exact BoxR.two (BoxR.drew hB0)) ((go_at_call 174; refine (T1.out _).mono ?_; rintro e w8 ⟨rfl, hb⟩; have hB8 := BoxR.next (BoxR.drew hB0) hb; have hb8 : Below w.heap.size w w8 := bcall (by repeat (first | assumption | exact Below.refl _ _ | apply Below.drew | apply below_drewN | apply balloc | (refine Below.setCell ?_ (by first | omega | (simp <;> omega)) _))) hb; clear hb))
  obtain ⟨c0, c2, c3, c4, c5, c6⟩ := hB8.all
  have hlt8 := ltB hB8
  replace hB8 := Lib.hid hB8
  go_wp2_with fail
  go_loopw [88] (fun v88 wr => ∃ k : Nat, k ≤ m ∧ v88 = .int .i64 (k : Int) ∧ Hid (BoxR w.heap.size #[.int .i64 4, .int .i64 (P : Int), .bool false, .string noS, .slice ra m rc0, .slice none 0 0, .slice none 0 0] wr) ∧ Below w.heap.size w wr) (fun v _ => m - (intOf v).toNat)
  case atStart => exact ⟨0, Nat.zero_le _, rfl, Lib.hid (hB8.out.next (balloc (Below.refl _ _))), (by repeat (first | assumption | exact Below.refl _ _ | apply Below.drew | apply below_drewN | apply balloc | (refine Below.setCell ?_ (by first | omega | (simp <;> omega)) _)))⟩
  case round =>
    obtain ⟨k, hkn, rfl, hBr, hbr⟩ := hrel
    clear c0 c2 c3 c4 c5 c6 hb8 hB8
    by_cases hlt : k < m
    · have hltI : (k : Int) < (m : Int) := by omega
      obtain ⟨c, hc⟩ : ∃ c, cs[k]? = some c := ⟨cs[k]'(by rw [← hm.out]; exact hlt), List.getElem?_eq_getElem _⟩
      obtain ⟨rc, hrc⟩ : ∃ rc, rcs[k]? = some rc := ⟨rcs[k]'(by rw [hlen.out]; exact hlt), List.getElem?_eq_getElem _⟩
      have hcm := List.mem_of_getElem? hc
      have hrm := List.mem_of_getElem? hrc
      obtain ⟨g, rfl⟩ : ∃ g, va = some ⟨g, 0, none⟩ := by
        rcases rowForm2 hr.out with ⟨h, _⟩ | ⟨g, cap, h, _⟩
        · omega
        · cases h; exact ⟨g, rfl⟩
      obtain ⟨rg, rfl⟩ : ∃ g, ra = some ⟨g, 0, none⟩ := by
        rcases rowForm2 hr2.out with ⟨h, _⟩ | ⟨g, cap, h, _⟩
        · omega
        · cases h; exact ⟨g, rfl⟩
      have hrm3 : m ≤ rc0 := by
        rcases rowForm2 hr2.out with ⟨h, _⟩ | ⟨g, cap, h, _, _, h5, _⟩
        · omega
        · cases h; exact h5
      have q0 := rowCells (row_below hr1.out hbr) (j := k) (u := c.u) (by rw [List.getElem?_map, hc]; rfl)
      obtain ⟨ut, ua, hu⟩ := hform c hcm
      obtain ⟨m2, p2, f2, t2, vi2, vk2, vp2, hu2, ⟨a1, n1, c1, rfl⟩, ⟨a2, n2, c2, rfl⟩, ⟨a3, n3, c3, rfl⟩⟩ := hform2 rc hrm
      have hq : ∀ i u, i < 7 → rc.u[i]? = some u → wr.cell? ⟨rg, k * 7 + i, none⟩ = some u := fun i u hi h => rowCells (row_below hr3.out hbr) ((flat7 rcs k rc i hl7 hrc hi).trans h)
      rw [hu2] at hq
      have s0 : wr.cell? ⟨rg, k * 7, none⟩ = _ := hq 0 _ (by decide) rfl
      have s1 := hq 1 _ (by decide) rfl
      have s2 := hq 2 _ (by decide) rfl
      have s3 := hq 3 _ (by decide) rfl
      have s4 := hq 4 _ (by decide) rfl
      have s5 := hq 5 _ (by decide) rfl
      have s6 := hq 6 _ (by decide) rfl
      clear hq
      have b4 := cellB hBr.out 4 rfl
      have hcf := hk c hcm
      have hrf := hk2 rc hrm
      have IC := ih k c rc hc hrc wr (fun j a d => (hbr.block j (by have := hcf.2; omega)).trans (hw.out j (Nat.le_trans hcf.1 a) (Nat.lt_of_lt_of_le d hcf.2))) (fun j a d => (hbr.block j (by have := hrf.2.2; omega)).trans (hw2.out j (Nat.le_trans hrf.1 a) (Nat.lt_of_lt_of_le d hrf.2.2))) (by have := hcf.2; have := hbr.size; omega) (by have := hrf.2.2; have := hbr.size; omega)
      rw [hu2, hu, rdC_arr] at IC
      replace IC := Lib.hid IC
      rw [hu] at q0
      replace hu := Lib.hid hu
      replace hu2 := Lib.hid hu2
      replace hc := Lib.hid hc
      replace hrc := Lib.hid hrc
      go_wp2_with fail
      refine IC.out.mono ?_
      rintro e w3 ⟨rfl, hb⟩
      have hBr3 := Lib.hid (hBr.out.next hb)
      have hbr3 := hbr.trans (hb.mono hbr.size)
      clear hb q0 s0 s1 s2 s3 s4 s5 s6 b4
      go_wp2_with fail
      go_roundw
      case measure => simp [intOf]; omega
      case rel => exact ⟨k + 1, by omega, by go_num, hBr3, hbr3⟩
    · obtain rfl : m = k := by omega
      have hlt' : ¬ (m : Int) < (m : Int) := by omega
      go_wp2_with fail
      go_ret
      exact ⟨rfl, hbr⟩

end Go.Proofs.YtibopkodoidjoaaGreatDoor

/- The reference's tree: Count. -/
namespace Go.Proofs.YtibopkodoidjoaaGreatDoor
open Go Go.RowKit

/-- What is asked of the reference's Count at a node that lay in world w0. -/
def CntRC (w0 : World) (lo hi : Nat) (c : List Value) (x : Nd) : Prop := ∀ w, (∀ k, lo ≤ k → k < hi → w.heap[k]? = w0.heap[k]?) → hi ≤ w.heap.size → (∀ i, cntN x i ≤ 4611686018427387904) →
  Calls Tryz.prog 19 #[.agg c.toArray] w fun e w' => e = .returned (.agg (intsC (cntN x))) ∧ Below w.heap.size w w'
theorem CntB.plus {b : Nat} {f : Nat → Nat} {w : World} (h : CntB b f w) {n : Nat} (hn : n < 6) (d : Nat) : CntB b (fun i => f i + if i = n then d else 0) (w.setCell ⟨b, n, none⟩ (.int .i64 ((f n : Int) + (d : Int)))) := by
  unfold CntB at h ⊢
  rw [Lib.heap_setCell_same (i := n) h]
  rcases (show n = 0 ∨ n = 1 ∨ n = 2 ∨ n = 3 ∨ n = 4 ∨ n = 5 by omega) with rfl | rfl | rfl | rfl | rfl | rfl <;> simp [intsC]
theorem CntB.upto {F G : Nat → Nat} {j b : Nat} {w : World} (h : CntB b (fun i => F i + if i < j then G i else 0) w) (hj : j < 6) : w.cell? ⟨b, j, none⟩ = some (.int .i64 (F j : Int)) ∧ w.frozen? ⟨b, j, none⟩ = false ∧ CntB b (fun i => F i + if i < j + 1 then G i else 0) (w.setCell ⟨b, j, none⟩ (.int .i64 ((F j : Int) + (G j : Int)))) := by
  have h1 := h.at hj
  have h2 := h.plus hj (G j)
  simp only [Nat.lt_irrefl, if_false, Nat.add_zero] at h1 h2
  refine ⟨h1, freeB h j, h2.congr fun i => ?_⟩
  by_cases hi : i = j
  · subst hi
    rw [if_pos (Nat.lt_succ_self _), if_neg (Nat.lt_irrefl _), if_pos rfl, Nat.add_zero]
  · by_cases hl : i < j
    · rw [if_pos (by omega), if_pos hl, if_neg hi, Nat.add_zero]
    · rw [if_neg (by omega), if_neg hl, if_neg hi, Nat.add_zero]
theorem run_index6 (cs : Array Value) (v : Value) (j : Nat) (hj : j < 6) (hv : cs[j]? = some v) (w : World) : (Instr.index 44 (.agg cs) (.int .i64 (j : Int))).run Tryz.prog w = .ok v w := by
  have h1 : (sizeOf 3).run Tryz.prog w = .ok 1 w := by kernel_rfl
  have h2 : (isAgg 3).run Tryz.prog w = .ok false w := by kernel_rfl
  have h0 : (0 : Int) ≤ (j : Int) ∧ (j : Int) < 6 := by omega
  simp [Instr.index, asIntOf, run_underlying Tryz.underlying44, h0, h1, h2, Result.andThen, Sem.run_bind, part, hv]
  intro h; omega
theorem ints_at (G : Nat → Nat) {j : Nat} (hj : j < 6) : (intsC G)[j]? = some (.int .i64 (G j : Int)) := by
  rcases (show j = 0 ∨ j = 1 ∨ j = 2 ∨ j = 3 ∨ j = 4 ∨ j = 5 by omega) with rfl | rfl | rfl | rfl | rfl | rfl <;> rfl
theorem cntM_L : ∀ (cs : List RKid) (i : Nat), cntM (cs.map RKid.mem) i = cntL (cs.map RKid.x) i
  | [], i => by rw [List.map_nil, List.map_nil, cntM, cntL]
  | c :: cs, i => by
    rw [List.map_cons, List.map_cons, RKid.mem, cntM, cntL, cntM_L cs i]
set_option maxHeartbeats 4000000 in
set_option maxRecDepth 100000 in
theorem cntr_row {w0 : World} (lo hi N p : Nat) (f : Bool) (t : ByteArray) (vi vk vp : Value) (cs : List RKid) (x : Nd) (hN : N < 6) (hr : w0.ownsRow lo 33 7 vi cs.length (cs.flatMap RKid.u)) (hb0 : ∀ k, vi.ownBlock = some k → k < hi)
    (hsk : isSl vk) (hsp : isSl vp) (hk : ∀ c ∈ cs, c.fits lo hi) (hform : ∀ c ∈ cs, ∃ m p f t vi vk vp, c.u = rdC m p f t vi vk vp ∧ isSl vi ∧ isSl vk ∧ isSl vp) (hx : ∀ i, cntN x i = one6 N i + cntL (cs.map RKid.x) i) (ih : ∀ c ∈ cs, CntRC w0 c.l c.h c.u c.x) :
    CntRC w0 lo hi (rdC N p f t vi vk vp) x := by
  intro w hw hh hcn
  obtain ⟨ka, kn, kc, rfl⟩ := hsk
  obtain ⟨pa, pn, pc, rfl⟩ := hsp
  obtain ⟨m, hm⟩ : ∃ m, m = cs.length := ⟨_, rfl⟩
  obtain ⟨xs, hxs⟩ : ∃ xs, xs = cs.map RKid.x := ⟨_, rfl⟩
  obtain ⟨X, hX⟩ : ∃ X : Nat → Nat, X = cntN x := ⟨_, rfl⟩
  rw [← hX] at hcn hx ⊢
  rw [← hxs] at hx
  rw [← hm] at hr
  have hl7 : ∀ c ∈ cs, c.u.length = 7 := fun c hc => by
    obtain ⟨_, _, _, _, _, _, _, h, _⟩ := hform c hc
    rw [h]; rfl
  obtain ⟨va, vc, rfl⟩ := rowForm hr
  have hnm : m ≤ maxLen := by
    rcases rowForm2 hr with ⟨h, _⟩ | ⟨g, cap, h, _, _, h1, h2⟩
    · omega
    · omega
  unfold maxLen at hnm
  have hnI : (m : Int) ≤ 9223372036854775807 := by omega
  have hr1 := Lib.hid (ownsRow_heap hr fun k e => hw k (hr.lt k e).1 (hb0 k e))
  have hall : Hid (xs.take m = xs) := Lib.hid (List.take_of_length_le (by rw [hxs, hm]; simp))
  have hNI : (0 : Int) ≤ (N : Int) ∧ (N : Int) < 6 := by omega
  obtain ⟨hN1, hN2⟩ := hNI
  clear hr
  replace hm := Lib.hid hm
  replace hxs := Lib.hid hxs
  replace hX := Lib.hid hX
  replace hw := Lib.hid hw
  replace hx := Lib.hid hx
  replace hcn := Lib.hid hcn
  rw [rdC_arr]
  go_enter Tryz.func19, Tryz.ntmps19
  go_upto_region 2 with fail
  have hB3 := balloc (o := (.cells #[.int .i64 0, .int .i64 0, .int .i64 0, .int .i64 0, .int .i64 0, .int .i64 0] 44 (0, 0))) (balloc (o := (.cells #[.int .i64 0, .int .i64 0, .int .i64 0, .int .i64 0, .int .i64 0, .int .i64 0] 44 (0, 0))) (balloc (o := (.cells #[.int .i64 (N : Int), .int .i64 (p : Int), .bool f, .string t, .slice va m vc, .slice ka kn kc, .slice pa pn pc] 33 (0, 0))) (Below.refl w.heap.size w)))
  have hX3 : BoxR w.heap.size _ _ := al_keep (o' := (.cells #[.int .i64 0, .int .i64 0, .int .i64 0, .int .i64 0, .int .i64 0, .int .i64 0] 44 (0, 0))) (al_keep (o' := (.cells #[.int .i64 0, .int .i64 0, .int .i64 0, .int .i64 0, .int .i64 0, .int .i64 0] 44 (0, 0))) (heap_alloc_new w (.cells #[.int .i64 (N : Int), .int .i64 (p : Int), .bool f, .string t, .slice va m vc, .slice ka kn kc, .slice pa pn pc] 33 (0, 0))))
  have hZ3 : CntB (w.heap.size + 1) (fun _ => 0) (((w.alloc (.cells #[.int .i64 (N : Int), .int .i64 (p : Int), .bool f, .string t, .slice va m vc, .slice ka kn kc, .slice pa pn pc] 33 (0, 0))).alloc (.cells #[.int .i64 0, .int .i64 0, .int .i64 0, .int .i64 0, .int .i64 0, .int .i64 0] 44 (0, 0))).alloc (.cells #[.int .i64 0, .int .i64 0, .int .i64 0, .int .i64 0, .int .i64 0, .int .i64 0] 44 (0, 0))) := al_keep (new2 w _ _)
  have hO3 : CntB (w.heap.size + 2) (fun _ => 0) (((w.alloc (.cells #[.int .i64 (N : Int), .int .i64 (p : Int), .bool f, .string t, .slice va m vc, .slice ka kn kc, .slice pa pn pc] 33 (0, 0))).alloc (.cells #[.int .i64 0, .int .i64 0, .int .i64 0, .int .i64 0, .int .i64 0, .int .i64 0] 44 (0, 0))).alloc (.cells #[.int .i64 0, .int .i64 0, .int .i64 0, .int .i64 0, .int .i64 0, .int .i64 0] 44 (0, 0))) := by
    have := heap_alloc_new ((w.alloc (.cells #[.int .i64 (N : Int), .int .i64 (p : Int), .bool f, .string t, .slice va m vc, .slice ka kn kc, .slice pa pn pc] 33 (0, 0))).alloc (.cells #[.int .i64 0, .int .i64 0, .int .i64 0, .int .i64 0, .int .i64 0, .int .i64 0] 44 (0, 0))) (.cells #[.int .i64 0, .int .i64 0, .int .i64 0, .int .i64 0, .int .i64 0, .int .i64 0] 44 (0, 0))
    rw [show ((w.alloc (.cells #[.int .i64 (N : Int), .int .i64 (p : Int), .bool f, .string t, .slice va m vc, .slice ka kn kc, .slice pa pn pc] 33 (0, 0))).alloc (.cells #[.int .i64 0, .int .i64 0, .int .i64 0, .int .i64 0, .int .i64 0, .int .i64 0] 44 (0, 0))).heap.size = w.heap.size + 2 by simp] at this
    exact this
  have hsz3 : (((w.alloc (.cells #[.int .i64 (N : Int), .int .i64 (p : Int), .bool f, .string t, .slice va m vc, .slice ka kn kc, .slice pa pn pc] 33 (0, 0))).alloc (.cells #[.int .i64 0, .int .i64 0, .int .i64 0, .int .i64 0, .int .i64 0, .int .i64 0] 44 (0, 0))).alloc (.cells #[.int .i64 0, .int .i64 0, .int .i64 0, .int .i64 0, .int .i64 0, .int .i64 0] 44 (0, 0))).heap.size = w.heap.size + 3 := by simp
  generalize ((w.alloc (.cells #[.int .i64 (N : Int), .int .i64 (p : Int), .bool f, .string t, .slice va m vc, .slice ka kn kc, .slice pa pn pc] 33 (0, 0))).alloc (.cells #[.int .i64 0, .int .i64 0, .int .i64 0, .int .i64 0, .int .i64 0, .int .i64 0] 44 (0, 0))).alloc (.cells #[.int .i64 0, .int .i64 0, .int .i64 0, .int .i64 0, .int .i64 0, .int .i64 0] 44 (0, 0)) = w3 at hB3 hX3 hZ3 hO3 hsz3 ⊢
  have oc : w3.cell? ⟨w.heap.size + 2, N, none⟩ = some (.int .i64 0) := hO3.at hN
  have of : w3.frozen? ⟨w.heap.size + 2, N, none⟩ = false := freeB hO3 N
  have hO4 : CntB (w.heap.size + 2) (fun i => 0 + one6 N i) (w3.setCell ⟨w.heap.size + 2, N, none⟩ (.int .i64 1)) := CntB.inc (f := fun _ => 0) hO3 hN
  have b1 := hX3.two.1
  obtain ⟨b0, b2, b3, b4, b5, b6⟩ := hX3.all
  have hzo : w.heap.size + 2 ≠ w.heap.size + 1 := by omega
  have hzo2 : w.heap.size + 2 ≠ w.heap.size := by omega
  have hzo3 : w.heap.size ≠ w.heap.size + 2 := by omega
  have hlt3 : w.heap.size + 2 < w3.heap.size := by omega
  have hZ4 : CntB (w.heap.size + 1) (fun _ => 0) (w3.setCell ⟨w.heap.size + 2, N, none⟩ (.int .i64 1)) := other hZ3 hzo.symm
  have hB4 : Below w.heap.size w (w3.setCell ⟨w.heap.size + 2, N, none⟩ (.int .i64 1)) := Below.setCell hB3 (p := ⟨w.heap.size + 2, N, none⟩) (Nat.le_add_right _ 2) _
  have hsz4 : (w3.setCell ⟨w.heap.size + 2, N, none⟩ (.int .i64 1)).heap.size = w.heap.size + 3 := by simp [hsz3]
  replace hO4 := Lib.hid hO4
  replace hZ4 := Lib.hid hZ4
  replace hX3 := Lib.hid hX3
  replace hsz4 := Lib.hid hsz4
  clear hO3 hZ3
  go_wp2_with fail
  go_loopw [18] (fun v18 wr => ∃ k : Nat, k ≤ m ∧ v18 = .int .i64 (k : Int) ∧ Hid (CntB (w.heap.size + 2) (fun i => one6 N i + cntL (xs.take k) i) wr) ∧ Hid (CntB (w.heap.size + 1) (fun _ => 0) wr) ∧ Below w.heap.size w wr) (fun v _ => m - (intOf v).toNat)
  case atStart => exact ⟨0, Nat.zero_le _, rfl, Lib.hid (hO4.out.congr fun i => by rw [List.take_zero, cntL, Nat.zero_add, Nat.add_zero]), hZ4, hB4⟩
  case round =>
    obtain ⟨k, hkn, rfl, hO, hZ, hbr⟩ := hrel
    clear oc of b0 b1 b2 b3 b4 b5 b6 hO4 hZ4 hX3 hB4 hB3 hlt3
    by_cases hlt : k < m
    · have hltI : (k : Int) < (m : Int) := by omega
      obtain ⟨c, hc⟩ : ∃ c, cs[k]? = some c := ⟨cs[k]'(by rw [← hm.out]; exact hlt), List.getElem?_eq_getElem _⟩
      have hcm := List.mem_of_getElem? hc
      have hcx : xs[k]? = some c.x := by rw [hxs.out, List.getElem?_map, hc]; rfl
      have ihc := ih c hcm
      have hcf := hk c hcm
      obtain ⟨g, rfl⟩ : ∃ g, va = some ⟨g, 0, none⟩ := by
        rcases rowForm2 hr1.out with ⟨h, _⟩ | ⟨g, cap, h, _⟩
        · omega
        · cases h; exact ⟨g, rfl⟩
      obtain ⟨m2, p2, f2, t2, vi2, vk2, vp2, hu2, ⟨a1, n1, c1, rfl⟩, ⟨a2, n2, c2, rfl⟩, ⟨a3, n3, c3, rfl⟩⟩ := hform c hcm
      have hq : ∀ i u, i < 7 → c.u[i]? = some u → wr.cell? ⟨g, k * 7 + i, none⟩ = some u := fun i u hi h => rowCells (row_below hr1.out hbr) ((flat7 cs k c i hl7 hc hi).trans h)
      rw [hu2] at hq
      have s0 : wr.cell? ⟨g, k * 7, none⟩ = _ := hq 0 _ (by decide) rfl
      have s1 := hq 1 _ (by decide) rfl
      have s2 := hq 2 _ (by decide) rfl
      have s3 := hq 3 _ (by decide) rfl
      have s4 := hq 4 _ (by decide) rfl
      have s5 := hq 5 _ (by decide) rfl
      have s6 := hq 6 _ (by decide) rfl
      clear hq
      have htk := Lib.hid (cntL_take hcx)
      have hpre := Lib.hid (cntL_pre xs (k + 1))
      have hFG : Hid (∀ i, (one6 N i + cntL (xs.take k) i) + cntN c.x i ≤ 4611686018427387904) := Lib.hid (fun i => by have h1 := hcn.out i; have h2 := hx.out i; have h3 := hpre.out i; have h4 := htk.out i; omega)
      have IC := ihc (wr.alloc (.cells #[.int .i64 (m2 : Int), .int .i64 (p2 : Int), .bool f2, .string t2, .slice a1 n1 c1, .slice a2 n2 c2, .slice a3 n3 c3] 33 (0, 0))) (fun j a d => (Below.heap_alloc _ _ _ (by have := hcf.2.2; have := hbr.size; omega)).trans ((hbr.block j (by have := hcf.2.2; omega)).trans (hw.out j (Nat.le_trans hcf.1 a) (Nat.lt_of_lt_of_le d hcf.2.2)))) (by have := hcf.2.2; have := hbr.size; simp; omega) (fun i => by have := hFG.out i; omega)
      rw [hu2, rdC_arr] at IC
      obtain ⟨G, hG⟩ : ∃ G : Nat → Nat, G = cntN c.x := ⟨_, rfl⟩
      obtain ⟨F, hF⟩ : ∃ F : Nat → Nat, F = fun i => one6 N i + cntL (xs.take k) i := ⟨_, rfl⟩
      have htk2 : Hid (∀ i, one6 N i + cntL (xs.take (k + 1)) i = F i + G i) := Lib.hid (fun i => by rw [htk.out i, hF, hG, Nat.add_assoc])
      replace hFG : Hid (∀ i, F i + G i ≤ 4611686018427387904) := Lib.hid (fun i => by rw [hF, hG]; exact hFG.out i)
      rw [← hG] at IC
      rw [← hF] at hO
      unfold intsC at IC
      replace IC := Lib.hid IC
      replace hG := Lib.hid hG
      replace hF := Lib.hid hF
      replace hcf := Lib.hid hcf
      replace hc := Lib.hid hc
      replace hcx := Lib.hid hcx
      replace hu2 := Lib.hid hu2
      clear htk hpre ihc
      go_wp2_with fail
      refine IC.out.mono ?_
      rintro e w4 ⟨rfl, hb⟩
      have hb4 : Below w.heap.size w w4 := bcall (balloc hbr) hb
      have hO4 : CntB (w.heap.size + 2) F w4 := box_next (al_keep hO.out) hb
      have hZ4 : CntB (w.heap.size + 1) (fun _ => 0) w4 := box_next (al_keep hZ.out) hb
      clear hb hO hZ hbr s0 s1 s2 s3 s4 s5 s6
      replace hO4 := Lib.hid hO4
      replace hZ4 := Lib.hid hZ4
      go_wp2_with fail
      go_loopw [24] (fun v24 wr => ∃ j : Nat, j ≤ 6 ∧ v24 = .int .i64 (j : Int) ∧ Hid (CntB (w.heap.size + 2) (fun i => F i + if i < j then G i else 0) wr) ∧ Hid (CntB (w.heap.size + 1) (fun _ => 0) wr) ∧ Below w.heap.size w wr) (fun v _ => 6 - (intOf v).toNat)
      case atStart => exact ⟨0, Nat.zero_le _, rfl, Lib.hid (hO4.out.congr fun i => by rw [if_neg (Nat.not_lt_zero _), Nat.add_zero]), hZ4, hb4⟩
      case round =>
        obtain ⟨j, hj, rfl, hO, hZ, hbr⟩ := hrel
        clear hO4 hZ4 hb4
        by_cases hj6 : j < 6
        · have hjI : (j : Int) < 6 := by omega
          have hjI0 : (0 : Int) ≤ (j : Int) := by omega
          have ix := fun w => run_index6 _ _ j hj6 (ints_at G hj6) w
          unfold intsC at ix
          obtain ⟨oc, of, ho2⟩ := hO.out.upto hj6
          have hs1 : (F j : Int) + (G j : Int) ≤ 4611686018427387904 := by have := hFG.out j; omega
          have hs2 : (0 : Int) ≤ (F j : Int) + (G j : Int) := by omega
          have hlo := ltB hO.out
          have hZ2 := Lib.hid (other (i := j) (u := .int .i64 ((F j : Int) + (G j : Int))) hZ.out hzo.symm)
          replace ho2 := Lib.hid ho2
          have hbr2 : Below w.heap.size w (wr.setCell ⟨w.heap.size + 2, j, none⟩ (.int .i64 ((F j : Int) + (G j : Int)))) := Below.setCell hbr (p := ⟨w.heap.size + 2, j, none⟩) (Nat.le_add_right _ 2) _
          clear hO hZ
          go_wp2_with fail
          go_roundw
          case measure => simp [intOf]; omega
          case rel => exact ⟨j + 1, by omega, by go_num, ho2, hZ2, hbr2⟩
        · obtain rfl : j = 6 := by omega
          have hO5 : Hid (CntB (w.heap.size + 2) (fun i => one6 N i + cntL (xs.take (k + 1)) i) wr) := Lib.hid (by
            unfold CntB
            rw [show intsC (fun i => one6 N i + cntL (xs.take (k + 1)) i) = intsC (fun i => F i + if i < 6 then G i else 0) by
              unfold intsC
              simp only [htk2.out]
              rfl]
            exact hO.out)
          go_wp2_with fail
          go_roundw
          case measure => simp [intOf]; omega
          case rel => exact ⟨k + 1, by omega, by go_num, hO5, hZ, hbr⟩
    · obtain rfl : m = k := by omega
      have hlt' : ¬ (m : Int) < (m : Int) := by omega
      have hq1 := hO.out.congr (g := X) (fun i => by rw [hall.out, hx.out])
      have hq2 := hZ.out
      obtain ⟨c0, c1, c2, c3, c4, c5⟩ := fin_cells hq1
      obtain ⟨d0, d1, d2, d3, d4, d5⟩ := fin_cells hq2
      obtain ⟨f0, f1, f2, f3, f4, f5⟩ := fin_free hq2
      have hlt5 := ltB hq2
      replace hq1 := Lib.hid hq1
      replace hq2 := Lib.hid hq2
      simp only [Int.natCast_zero] at d0 d1 d2 d3 d4 d5
      go_wp2_with fail
      refine bodyPost_ret (v := .agg #[.int .i64 (X 0 : Int), .int .i64 (X 1 : Int), .int .i64 (X 2 : Int), .int .i64 (X 3 : Int), .int .i64 (X 4 : Int), .int .i64 (X 5 : Int)]) (by simp [results, Tryz.results19, go_sem, *]) rfl ?_
      exact ⟨rfl, below_set6 hbr (by omega) _ _ _ _ _ _⟩
theorem rcount_calls {w0 : World} {lo hi : Nat} {u : List Value} {x : Nd} (h : OwnR w0 lo hi u x) : CntRC w0 lo hi u x := by
  have nl : ∀ {N : Nat} {i : Nat}, one6 N i = one6 N i + cntL (([] : List RKid).map RKid.x) i := by
    intro N i
    rw [List.map_nil, cntL, Nat.add_zero]
  induction h with
  | null lo hi p => exact cntr_row lo hi 0 p _ _ _ _ _ [] _ (by decide) (World.ownsRow_nil _ _ _ _) (fun k e => by cases e) ⟨_, _, _, rfl⟩ ⟨_, _, _, rfl⟩ (fun c hc => by cases hc) (fun c hc => by cases hc) (fun i => by rw [cntN]; exact nl) (fun c hc => by cases hc)
  | flag lo hi p b => exact cntr_row lo hi 1 p _ _ _ _ _ [] _ (by decide) (World.ownsRow_nil _ _ _ _) (fun k e => by cases e) ⟨_, _, _, rfl⟩ ⟨_, _, _, rfl⟩ (fun c hc => by cases hc) (fun c hc => by cases hc) (fun i => by rw [cntN]; exact nl) (fun c hc => by cases hc)
  | num lo hi p t => exact cntr_row lo hi 2 p _ _ _ _ _ [] _ (by decide) (World.ownsRow_nil _ _ _ _) (fun k e => by cases e) ⟨_, _, _, rfl⟩ ⟨_, _, _, rfl⟩ (fun c hc => by cases hc) (fun c hc => by cases hc) (fun i => by rw [cntN]; exact nl) (fun c hc => by cases hc)
  | text lo hi p t => exact cntr_row lo hi 3 p _ _ _ _ _ [] _ (by decide) (World.ownsRow_nil _ _ _ _) (fun k e => by cases e) ⟨_, _, _, rfl⟩ ⟨_, _, _, rfl⟩ (fun c hc => by cases hc) (fun c hc => by cases hc) (fun i => by rw [cntN]; exact nl) (fun c hc => by cases hc)
  | lst lo hi p v cs ho hb hk hc ih => exact cntr_row lo hi 4 p _ _ _ _ _ cs _ (by decide) ho hb ⟨_, _, _, rfl⟩ ⟨_, _, _, rfl⟩ hk (fun c hm => (hc c hm).form) (fun i => by rw [cntN]) ih
  | obj lo hi p v vk vp cs ho hb ho2 hb2 ho3 hb3 hk hc ih => exact cntr_row lo hi 5 p _ _ _ _ _ cs _ (by decide) ho hb (ownsRow_sl ho2) (ownsRow_sl ho3) hk (fun c hm => (hc c hm).form) (fun i => by rw [cntN, cntM_L]) ih

end Go.Proofs.YtibopkodoidjoaaGreatDoor

/- The reference of chapter 17: Quote. -/
namespace Go.Proofs.YtibopkodoidjoaaGreatDoor
open Go Go.RowKit

theorem hexB_at3 (c : Nat) (hc : c / 16 < 16) : ∀ h, (((⟨#[48, 49, 50, 51, 52, 53, 54, 55, 56, 57, 97, 98, 99, 100, 101, 102]⟩ : ByteArray)[c / 16]'h).toNat : Int) = ((hexL.getD (c / 16) 0).toNat : Int) := fun h => by
  rw [bAt_eq, hexB_at _ hc]
set_option maxHeartbeats 4000000 in
set_option maxRecDepth 100000 in
theorem rQuote_calls (s : ByteArray) (w : World) (hs : s.size ≤ 3518437208882) :
    Calls Tryz.prog 68 #[.string s] w fun e w' => e = .returned (.string (quoteS s)) ∧ Below w.heap.size w w' := by
  have hs' : (s.size : Int) ≤ 3518437208882 := by omega
  obtain ⟨R, hR⟩ : ∃ R, R = quoteS s := ⟨_, rfl⟩
  rw [← hR]
  replace hR := Lib.hid hR
  replace hs := Lib.hid hs
  go_enter Tryz.func68, Tryz.ntmps68
  (go_wp2_with fail; repeat (any_goals (go_quiet (fail); go_wp2_with fail)))
  go_loopw [5, 4] (fun v5 v4 wr => ∃ k : Nat, k ≤ s.size ∧ v5 = .int .i64 (k : Int) ∧ Hid (OwnB wr w.heap.size v4 (quoteK s k)) ∧ Below w.heap.size w wr) (fun v _ _ => s.size - (intOf v).toNat)
  case atStart => exact ⟨0, Nat.zero_le _, rfl, Lib.hid (OwnB.lit [34] _ rfl (Nat.le_refl _) (by decide) rfl rfl), (by repeat (first | assumption | exact Below.refl _ _ | apply Below.drew | apply below_drewN | apply balloc | (refine Below.setCell ?_ (by first | omega | (simp <;> omega)) _)))⟩
  case round =>
    obtain ⟨k, hk, rfl, ho1, hB⟩ := hrel
    have hx := byte_at s k
    have hz := hB.size
    have hql := Lib.hid (quoteK_len s k hk)
    by_cases hlt : k < s.size
    · have hlt' : (k : Int) < (s.size : Int) := by omega
      have hc := bAt_lt s k
      have hS := Lib.hid (quoteK_succ hlt)
      by_cases h2 : bAt s k = 34 ∨ bAt s k = 92
      · have hesc := Lib.hid (escB_two hc h2)
        have hn := Lib.hid (u8n hc)
        generalize bAt s k = c at *
        by_cases h34 : c = 34
        · have h34' : ((c : Int) == 34) = true := by simp; omega
          replace h34 := Lib.hid h34
          replace h2 := Lib.hid h2
          go_wp2_with (at_builtin; refine app_lit rfl _ _ rfl w.heap.size _ (quoteK s k) rfl (show OwnB _ _ _ _ from World.ownsRow.alloc ho1.out _) _ 2 2 _ _ _ [92, UInt8.ofNat c] rfl (heap_alloc_new _ _) ?c1 rfl (by have := hql.out; have := hs.out; omega) (by simp; omega) ?_)
          case c1 => unfold u8c; simp only [List.map_cons, List.map_nil, hn.out]; rfl
          intro v' w2 ho2 hg
          have hb2 := below_own (hB.alloc hz _) (show OwnB _ _ _ _ from World.ownsRow.alloc ho1.out _) hg (by simp; omega)
          replace ho2 := Lib.hid ho2
          clear hg
          (go_wp2_with fail; repeat (any_goals (go_quiet (fail); go_wp2_with fail)))
          go_roundw
          case measure => simp [intOf]; omega
          case rel => exact ⟨k + 1, by omega, by go_num, Lib.hid (by rw [hS.out, hesc.out]; exact ho2.out), by assumption⟩
        · have h34' : ((c : Int) == 34) = false := by simp; omega
          have h92' : ((c : Int) == 92) = true := by simp; omega
          replace h34 := Lib.hid h34
          replace h2 := Lib.hid h2
          go_wp2_with (at_builtin; refine app_lit rfl _ _ rfl w.heap.size _ (quoteK s k) rfl (show OwnB _ _ _ _ from World.ownsRow.alloc ho1.out _) _ 2 2 _ _ _ [92, UInt8.ofNat c] rfl (heap_alloc_new _ _) ?c1 rfl (by have := hql.out; have := hs.out; omega) (by simp; omega) ?_)
          case c1 => unfold u8c; simp only [List.map_cons, List.map_nil, hn.out]; rfl
          intro v' w2 ho2 hg
          have hb2 := below_own (hB.alloc hz _) (show OwnB _ _ _ _ from World.ownsRow.alloc ho1.out _) hg (by simp; omega)
          replace ho2 := Lib.hid ho2
          clear hg
          (go_wp2_with fail; repeat (any_goals (go_quiet (fail); go_wp2_with fail)))
          go_roundw
          case measure => simp [intOf]; omega
          case rel => exact ⟨k + 1, by omega, by go_num, Lib.hid (by rw [hS.out, hesc.out]; exact ho2.out), by assumption⟩
      · have h34' : ((bAt s k : Int) == 34) = false := by simp; omega
        have h92' : ((bAt s k : Int) == 92) = false := by simp; omega
        by_cases h32 : bAt s k < 32
        · have hesc := Lib.hid (escB_six h32)
          have h32' : (bAt s k : Int) < 32 := by omega
          have e1 := Lib.hid (hexL_hi _ h32)
          clear e1
          have i1 := hexB_at3 (bAt s k) (by omega)
          have i2 := hexB_at2 (bAt s k)
          have hcI : (bAt s k : Int) < 256 := by omega
          generalize bAt s k = c at *
          have q1 : IntKind.u8.wrap ((c : Int) / 16) = (c : Int) / 16 := by simp [IntKind.wrap, IntKind.signed, IntKind.bits]; omega
          have q2 : (c : Int) / 16 < 16 := by omega
          have q3 : 0 ≤ (c : Int) / 16 := by omega
          have q4 : ((c : Int) / 16).toNat = c / 16 := by omega
          have q5 : (c : Int).tmod 16 = (c : Int) % 16 := Int.tmod_eq_emod_of_nonneg (by omega)
          have q6 : (c : Int) % 16 < 16 := by omega
          have q7 : 0 ≤ (c : Int) % 16 := by omega
          have q8 : ((c : Int) % 16).toNat = c % 16 := by omega
          replace h2 := Lib.hid h2
          go_wp2_with fail
          go_region_law (refine step_app_lit rfl (.tmp 41) (.tmp 54) rfl w.heap.size _ (quoteK s k) (by simp [Act.eval]; rfl) (by exact OwnB.next ho1.out (by repeat (first | assumption | exact Below.refl _ _ | apply Below.drew | apply below_drewN | apply balloc | (refine Below.setCell ?_ (by first | omega | (simp <;> omega)) _)))) _ 6 6 _ _ _ [92, 117, 48, 48, hexL.getD (c / 16) 0, hexL.getD (c % 16) 0] (by simp [Act.eval]) (heap_alloc_new _ _) (by rfl) rfl (by have := hql.out; have := hs.out; omega) (Below.size (B := w.heap.size) (w := w) (by exact (by repeat (first | assumption | exact Below.refl _ _ | apply Below.drew | apply below_drewN | apply balloc | (refine Below.setCell ?_ (by first | omega | (simp <;> omega)) _))))) ?_; intro v' w2 ho2 hg)
          all_goals
            have hb2 : Below w.heap.size w w2 := by
              refine below_own (l := quoteK s k) ?_ ?_ hg ?_
              · exact (by repeat (first | assumption | exact Below.refl _ _ | apply Below.drew | apply below_drewN | apply balloc | (refine Below.setCell ?_ (by first | omega | (simp <;> omega)) _)))
              · exact OwnB.next ho1.out (by repeat (first | assumption | exact Below.refl _ _ | apply Below.drew | apply below_drewN | apply balloc | (refine Below.setCell ?_ (by first | omega | (simp <;> omega)) _)))
              · first | omega | (simp; omega)
            replace ho2 := Lib.hid ho2
            clear hg q1 q2 q3 q4 q5 q6 q7 q8 i1 i2
            (go_wp2_with fail; repeat (any_goals (go_quiet (fail); go_wp2_with fail)))
            go_roundw
            case measure => simp [intOf]; omega
            case rel => exact ⟨k + 1, by omega, by go_num, Lib.hid (by rw [hS.out, hesc.out]; exact ho2.out), by assumption⟩
        · have h32' : ¬ (bAt s k : Int) < 32 := by omega
          have hesc := Lib.hid (escB_one hc (fun h => h2 (Or.inl h)) (fun h => h2 (Or.inr h)) h32)
          have hn := Lib.hid (u8n hc)
          generalize bAt s k = c at *
          replace h2 := Lib.hid h2
          go_wp2_with (at_builtin; refine app_lit rfl _ _ rfl w.heap.size _ (quoteK s k) rfl (show OwnB _ _ _ _ from World.ownsRow.alloc ho1.out _) _ 1 1 _ _ _ [UInt8.ofNat c] rfl (heap_alloc_new _ _) ?c1 rfl (by have := hql.out; have := hs.out; omega) (by simp; omega) ?_)
          case c1 => unfold u8c; simp only [List.map_cons, List.map_nil, hn.out]
          intro v' w2 ho2 hg
          have hb2 := below_own (hB.alloc hz _) (show OwnB _ _ _ _ from World.ownsRow.alloc ho1.out _) hg (by simp; omega)
          replace ho2 := Lib.hid ho2
          clear hg
          (go_wp2_with fail; repeat (any_goals (go_quiet (fail); go_wp2_with fail)))
          go_roundw
          case measure => simp [intOf]; omega
          case rel => exact ⟨k + 1, by omega, by go_num, Lib.hid (by rw [hS.out, hesc.out]; exact ho2.out), by assumption⟩
    · obtain rfl : k = s.size := by omega
      have hend := Lib.hid (quoteK_end s)
      go_wp2_with (at_builtin; refine app_lit rfl _ _ rfl w.heap.size _ (quoteK s s.size) rfl (show OwnB _ _ _ _ from World.ownsRow.alloc ho1.out _) _ 1 1 _ _ _ [34] rfl (heap_alloc_new _ _) rfl rfl (by have := hql.out; have := hs.out; omega) (by simp; omega) ?_)
      intro v' w2 ho2 hg
      have hb2 := below_own (hB.alloc hz _) (show OwnB _ _ _ _ from World.ownsRow.alloc ho1.out _) hg (by simp; omega)
      have hcv := conv_own ho2
      rw [hend.out, ← hR.out] at hcv
      replace ho2 := Lib.hid ho2
      clear hg
      (go_wp2_with fail; repeat (any_goals (go_quiet (fail); go_wp2_with fail)))
      go_ret
      exact ⟨rfl, hb2⟩

end Go.Proofs.YtibopkodoidjoaaGreatDoor

/- The reference's tree: format. -/
namespace Go.Proofs.YtibopkodoidjoaaGreatDoor
open Go Go.RowKit

/-- The texts are small enough, and each is UTF-8. -/
def okT (t : ByteArray) : Prop := t.size ≤ 3518437208882 ∧ utfE t = 0
/-- What is asked of the reference's format at a node that lay in world w0. -/
def FmtRC (w0 : World) (lo hi : Nat) (c : List Value) (x : Nd) : Prop := ∀ w base v l, (∀ k, lo ≤ k → k < hi → w.heap[k]? = w0.heap[k]?) → hi ≤ base → base ≤ w.heap.size → OwnB w base v l →
  l.length + (fmtN x).length ≤ 140737488355328 → allT okT x → Calls Tryz.prog 38 #[v, .agg c.toArray] w (OutR base w (l ++ fmtN x))
theorem qN_ok {t : ByteArray} (h : okT t) : qN t = (quoteS t).data.toList := by
  unfold qN quoteS
  rw [if_pos h.2]
section
variable {w0 : World}
set_option maxHeartbeats 1000000 in
set_option maxRecDepth 100000 in
theorem rfmt_null (lo hi p : Nat)  : FmtRC w0 lo hi (rdC 0 p false noS (.slice none 0 0) (.slice none 0 0) (.slice none 0 0)) (.null p) := by
  intro w base v l hw hh hb ho hl hA
  rw [rdC_arr]
  rw [fmtN] at hl ⊢
  replace hw := Lib.hid hw
  replace ho := Lib.hid ho
  go_enter Tryz.func38, Tryz.ntmps38
  go_wp2_with (at_builtin; refine app_str rfl _ _ rfl base v l rfl (ho.out.alloc _) _ rfl hl (by simp; omega) ?_)
  intro v' w2 ho2 hg
  go_wp2_with fail
  go_ret
  exact ⟨v', rfl, ho2, ((FB.refl base w).alloc hb _).row (ho.out.alloc _) hg (by simp; omega)⟩
set_option maxHeartbeats 1000000 in
set_option maxRecDepth 100000 in
theorem rfmt_flagtrue (lo hi p : Nat)  : FmtRC w0 lo hi (rdC 1 p true noS (.slice none 0 0) (.slice none 0 0) (.slice none 0 0)) (.flag p true) := by
  intro w base v l hw hh hb ho hl hA
  rw [rdC_arr]
  rw [fmtN] at hl ⊢
  replace hw := Lib.hid hw
  replace ho := Lib.hid ho
  go_enter Tryz.func38, Tryz.ntmps38
  go_wp2_with (at_builtin; refine app_str rfl _ _ rfl base v l rfl (ho.out.alloc _) _ rfl hl (by simp; omega) ?_)
  intro v' w2 ho2 hg
  go_wp2_with fail
  go_ret
  exact ⟨v', rfl, ho2, ((FB.refl base w).alloc hb _).row (ho.out.alloc _) hg (by simp; omega)⟩
set_option maxHeartbeats 1000000 in
set_option maxRecDepth 100000 in
theorem rfmt_flagfalse (lo hi p : Nat)  : FmtRC w0 lo hi (rdC 1 p false noS (.slice none 0 0) (.slice none 0 0) (.slice none 0 0)) (.flag p false) := by
  intro w base v l hw hh hb ho hl hA
  rw [rdC_arr]
  rw [fmtN] at hl ⊢
  replace hw := Lib.hid hw
  replace ho := Lib.hid ho
  go_enter Tryz.func38, Tryz.ntmps38
  go_wp2_with (at_builtin; refine app_str rfl _ _ rfl base v l rfl (ho.out.alloc _) _ rfl hl (by simp; omega) ?_)
  intro v' w2 ho2 hg
  go_wp2_with fail
  go_ret
  exact ⟨v', rfl, ho2, ((FB.refl base w).alloc hb _).row (ho.out.alloc _) hg (by simp; omega)⟩
set_option maxHeartbeats 1000000 in
set_option maxRecDepth 100000 in
theorem rfmt_num (lo hi p : Nat) (t : ByteArray) : FmtRC w0 lo hi (rdC 2 p false t (.slice none 0 0) (.slice none 0 0) (.slice none 0 0)) (.num p t) := by
  intro w base v l hw hh hb ho hl hA
  rw [rdC_arr]
  rw [fmtN] at hl ⊢
  replace hw := Lib.hid hw
  replace ho := Lib.hid ho
  go_enter Tryz.func38, Tryz.ntmps38
  go_wp2_with (at_builtin; refine app_str rfl _ _ rfl base v l rfl (ho.out.alloc _) _ rfl (by rw [← sizeL t]; exact hl) (by simp; omega) ?_)
  intro v' w2 ho2 hg
  go_wp2_with fail
  go_ret
  exact ⟨v', rfl, ho2, ((FB.refl base w).alloc hb _).row (ho.out.alloc _) hg (by simp; omega)⟩
set_option maxHeartbeats 1000000 in
set_option maxRecDepth 100000 in
theorem rfmt_text (lo hi p : Nat) (t : ByteArray) : FmtRC w0 lo hi (rdC 3 p false t (.slice none 0 0) (.slice none 0 0) (.slice none 0 0)) (.text p t) := by
  intro w base v l hw hh hb ho hl hA
  rw [rdC_arr]
  rw [fmtN] at hl ⊢
  replace hw := Lib.hid hw
  replace ho := Lib.hid ho
  go_enter Tryz.func38, Tryz.ntmps38
  have hA' : okT t := hA
  rw [qN_ok hA'] at hl ⊢
  (go_wp2_with fail; repeat (any_goals (go_quiet (fail); go_wp2_with fail)))
  refine (rQuote_calls t _ hA'.1).mono ?_
  rintro e w1 ⟨rfl, hb1⟩
  have hb2 : Below w.heap.size w w1 := bcall (by repeat (first | assumption | exact Below.refl _ _ | apply Below.drew | apply below_drewN | apply balloc | (refine Below.setCell ?_ (by first | omega | (simp <;> omega)) _))) hb1
  have ho1 := (ho.out.alloc _).next hb1
  have hz := hb2.size
  clear hb1
  go_wp2_with (at_builtin; refine app_str rfl _ _ rfl base v l rfl ho1 _ rfl (by rw [← sizeL]; exact hl) (by omega) ?_)
  intro v' w2 ho2 hg
  go_wp2_with fail
  go_ret
  exact ⟨v', rfl, ho2, (FB.ofB hb2 hb).row ho1 hg (by omega)⟩
end

end Go.Proofs.YtibopkodoidjoaaGreatDoor

/- The reference's tree: format, lists. -/
namespace Go.Proofs.YtibopkodoidjoaaGreatDoor
open Go Go.RowKit

set_option maxHeartbeats 4000000 in
set_option maxRecDepth 100000 in
theorem rfmt_lst {w0 : World} (lo hi p : Nat) (vr : Value) (cs : List RKid) (hr : w0.ownsRow lo 33 7 vr cs.length (cs.flatMap RKid.u)) (hb0 : ∀ k, vr.ownBlock = some k → k < hi)
    (hk : ∀ c ∈ cs, c.fits lo hi) (hform : ∀ c ∈ cs, ∃ m p f t vi vk vp, c.u = rdC m p f t vi vk vp ∧ isSl vi ∧ isSl vk ∧ isSl vp) (ih : ∀ c ∈ cs, FmtRC w0 c.l c.h c.u c.x) : FmtRC w0 lo hi (rdC 4 p false noS vr (.slice none 0 0) (.slice none 0 0)) (.lst p (cs.map RKid.x)) := by
  intro w base v l hw hh hb ho hl hA
  rw [rdC_arr]
  rw [fmtN] at hl ⊢
  obtain ⟨n, hn⟩ : ∃ n, n = cs.length := ⟨_, rfl⟩
  obtain ⟨xs, hxs⟩ : ∃ xs, xs = cs.map RKid.x := ⟨_, rfl⟩
  have hA' : allL okT xs := by rw [hxs]; exact hA
  rw [← hxs] at hl ⊢
  rw [← hn] at hr
  rw [List.length_cons, List.length_append, List.length_singleton] at hl
  have hl7 : ∀ c ∈ cs, c.u.length = 7 := fun c hc => by
    obtain ⟨_, _, _, _, _, _, _, h, _⟩ := hform c hc
    rw [h]; rfl
  have hpre := Lib.hid (fmtL_pre xs)
  have htk := Lib.hid (fun k x (h : xs[k]? = some x) => fmtL_take h)
  have hall : Hid (xs.take n = xs) := Lib.hid (List.take_of_length_le (by rw [hxs, hn]; simp))
  obtain ⟨va, vc, rfl⟩ := rowForm hr
  have hnm : n ≤ maxLen := by
    rcases rowForm2 hr with ⟨h, _⟩ | ⟨g, cap, h, _, _, h1, h2⟩
    · omega
    · omega
  unfold maxLen at hnm
  have hnI : (n : Int) ≤ 9223372036854775807 := by omega
  have hr1 := Lib.hid (ownsRow_heap hr fun k e => hw k (hr.lt k e).1 (hb0 k e))
  replace hw := Lib.hid hw
  replace ho := Lib.hid ho
  replace hA := Lib.hid hA'
  replace hn := Lib.hid hn
  replace hxs := Lib.hid hxs
  replace hl := Lib.hid hl
  clear hA' hr
  go_enter Tryz.func38, Tryz.ntmps38
  go_wp2_with (at_builtin; refine app_lit rfl _ _ rfl base v l rfl ((ho.out.alloc _).alloc _) _ 1 1 _ _ _ [91] rfl (new2 w _ _) rfl rfl (by have := hl.out; omega) (by simp; omega) ?_)
  intro v1 w1 ho1 hg1
  have hB1 : FB base w w1 := (((FB.refl base w).alloc hb _).alloc (by simp; omega) _).row ((ho.out.alloc _).alloc _) hg1 (by simp; omega)
  have hvb : v.ownBlock ≠ some w.heap.size := fun e => by have := (World.ownsRow.lt ho.out _ e).2; omega
  have t1 : BoxR w.heap.size #[.int .i64 4, .int .i64 (p : Int), .bool false, .string noS, .slice va n vc, .slice none 0 0, .slice none 0 0] w1 := box_row (old2 w _ _) hg1 hvb
  obtain ⟨b0, b2, b3, b4, b5, b6⟩ := t1.all
  have hz1 := hB1.size
  have hzb : base ≤ w1.heap.size := by omega
  have hz : w.heap.size < w1.heap.size := ltB t1
  clear hg1 hvb
  replace t1 := Lib.hid t1
  replace ho1 := Lib.hid ho1
  go_wp2_with fail
  go_loopw [0, 44] (fun v0 vs wr => ∃ k : Nat, k ≤ n ∧ vs = .int .i64 (k : Int) ∧ Hid (OwnB wr base v0 (l ++ 91 :: fmtL true (xs.take k))) ∧ Hid (BoxR w.heap.size #[.int .i64 4, .int .i64 (p : Int), .bool false, .string noS, .slice va n vc, .slice none 0 0, .slice none 0 0] wr) ∧ FB base w wr) (fun _ v _ => n - (intOf v).toNat)
  case atStart => exact ⟨0, Nat.zero_le _, rfl, Lib.hid (by rw [List.take_zero, fmtL]; exact ho1.out), t1, hB1⟩
  case round =>
    obtain ⟨k, hkn, rfl, hoR, hbx, hBr⟩ := hrel
    have hzr := hBr.size
    clear hB1 ho1 hz1 hzb hz b0 b2 b3 b4 b5 b6
    have hbr : base ≤ wr.heap.size := by omega
    by_cases hlt : k < n
    · have hltI : (k : Int) < (n : Int) := by omega
      obtain ⟨c, hc⟩ : ∃ c, cs[k]? = some c := ⟨cs[k]'(by rw [← hn.out]; exact hlt), List.getElem?_eq_getElem _⟩
      have hcm := List.mem_of_getElem? hc
      have hcx : xs[k]? = some c.x := by rw [hxs.out, List.getElem?_map, hc]; rfl
      have ihc := ih c hcm
      have hcf := hk c hcm
      have hAc := Lib.hid (allL_mem hA.out c.x (List.mem_of_getElem? hcx))
      have htk1 := htk.out k c.x hcx
      have hp1 := hpre.out (k + 1)
      rw [htk1] at hp1
      obtain ⟨g, rfl⟩ : ∃ g, va = some ⟨g, 0, none⟩ := by
        rcases rowForm2 hr1.out with ⟨h, _⟩ | ⟨g, cap, h, _⟩
        · omega
        · cases h; exact ⟨g, rfl⟩
      have hagree : Hid (∀ w', FB base w w' → ∀ j, c.l ≤ j → j < c.h → w'.heap[j]? = w0.heap[j]?) := Lib.hid (fun w' h j a b => (h.bel.block j (by have := hcf.2.2; omega)).trans (hw.out j (Nat.le_trans hcf.1 a) (Nat.lt_of_lt_of_le b hcf.2.2)))
      have hrr := ownsRow_heap hr1.out (w' := wr) fun j e => hBr.bel.block j (by have := hb0 j e; omega)
      obtain ⟨m2, p2, f2, t2, vi2, vk2, vp2, hu2, ⟨a1, n1, c1, rfl⟩, ⟨a2, n2, c2, rfl⟩, ⟨a3, n3, c3, rfl⟩⟩ := hform c hcm
      have hq : ∀ i u, i < 7 → c.u[i]? = some u → wr.cell? ⟨g, k * 7 + i, none⟩ = some u := fun i u hi h => rowCells hrr ((flat7 cs k c i hl7 hc hi).trans h)
      rw [hu2] at hq
      have s0 : wr.cell? ⟨g, k * 7, none⟩ = _ := hq 0 _ (by decide) rfl
      have s1 := hq 1 _ (by decide) rfl
      have s2 := hq 2 _ (by decide) rfl
      have s3 := hq 3 _ (by decide) rfl
      have s4 := hq 4 _ (by decide) rfl
      have s5 := hq 5 _ (by decide) rfl
      have s6 := hq 6 _ (by decide) rfl
      clear hq hrr
      have hch : c.h ≤ base := Nat.le_trans hcf.2.2 hh
      unfold FmtRC at ihc
      rw [hu2, rdC_arr] at ihc
      replace ihc := Lib.hid ihc
      generalize c.x = cx at *
      skip
      replace hcf := Lib.hid hcf
      replace hc := Lib.hid hc
      replace hcx := Lib.hid hcx
      replace hu2 := Lib.hid hu2
      have hXX := heap_alloc_new wr (.cells #[.int .i64 (m2 : Int), .int .i64 (p2 : Int), .bool f2, .string t2, .slice a1 n1 c1, .slice a2 n2 c2, .slice a3 n3 c3] 33 (0, 0))
      have hBX : FB base w (wr.alloc (.cells #[.int .i64 (m2 : Int), .int .i64 (p2 : Int), .bool f2, .string t2, .slice a1 n1 c1, .slice a2 n2 c2, .slice a3 n3 c3] 33 (0, 0))) := hBr.alloc hbr _
      have hbX := BoxR.next hbx.out (balloc (o := (.cells #[.int .i64 (m2 : Int), .int .i64 (p2 : Int), .bool f2, .string t2, .slice a1 n1 c1, .slice a2 n2 c2, .slice a3 n3 c3] 33 (0, 0))) (Below.refl _ _))
      by_cases h0 : k = 0
      · subst h0
        rw [if_pos rfl] at htk1 hp1
        have hq : Hid ((l ++ 91 :: fmtL true (xs.take 0)).length + (fmtN cx).length ≤ 140737488355328) := Lib.hid (by
          rw [List.length_append] at hp1
          simp only [List.nil_append] at hp1
          rw [List.length_append, List.length_cons]
          have := hl.out
          omega)
        replace htk1 := Lib.hid htk1
        replace hp1 := Lib.hid hp1
        go_wp2_with fail
        refine (ihc.out _ base _ _ (hagree.out _ hBX) hch (by simp; omega) (hoR.out.alloc _) hq.out hAc.out).mono ?_
        rintro e w4 ⟨v4, rfl, ho4, hb4⟩
        have hB4 := hBX.trans hb4
        have hbx4 := Lib.hid (show BoxR _ _ w4 from hb4.keep _ _ hbX (fun cs fr e => by cases e))
        replace ho4 := Lib.hid ho4
        clear hb4 s0 s1 s2 s3 s4 s5 s6 hXX hBX hbX
        go_wp2_with fail
        go_roundw
        case measure => simp [intOf]; omega
        case rel => exact ⟨1, by omega, rfl, Lib.hid (by rw [htk1.out]; have := ho4.out; simpa using this), hbx4, hB4⟩
      · rw [if_neg h0] at htk1 hp1
        have h0I : (0 : Int) < (k : Int) := by omega
        have hq : Hid ((l ++ 91 :: fmtL true (xs.take k) ++ [44]).length + (fmtN cx).length ≤ 140737488355328) := Lib.hid (by
          rw [List.length_append, List.length_append] at hp1
          rw [List.length_append, List.length_append, List.length_cons]
          have := hl.out
          omega)
        replace htk1 := Lib.hid htk1
        replace hp1 := Lib.hid hp1
        have hvb2 : ∀ k, u0.ownBlock = some k → k < wr.heap.size := fun k e => (World.ownsRow.lt hoR.out k e).2
        go_wp2_with (at_builtin; refine app_lit rfl _ _ rfl base _ _ rfl ((hoR.out.alloc _).alloc _) _ 1 1 _ _ _ [44] rfl (new2 wr _ _) rfl rfl (by have := hq.out; rw [List.length_append] at this; simp only [List.length_singleton] at this; omega) (by simp; omega) ?_)
        intro v3 w3 ho3 hg3
        have hF3 : FB base wr w3 := (((FB.refl base wr).alloc hbr _).alloc (by simp; omega) _).row ((hoR.out.alloc _).alloc _) hg3 (by simp; omega)
        have hB3 := hBr.trans hF3
        have hX3 : BoxR wr.heap.size _ w3 := box_row (old2 wr _ _) hg3 (fun e => by have := hvb2 _ e; omega)
        have hbx3 : BoxR w.heap.size _ w3 := hF3.keep _ _ hbx.out (fun cs fr e => by cases e)
        have x1 := hX3.two.1
        obtain ⟨x0, x2, x3, x4, x5, x6⟩ := hX3.all
        have hz3 := hB3.size
        clear hF3 hg3 hvb2 s0 s1 s2 s3 s4 s5 s6 hXX hBX hbX
        replace ho3 := Lib.hid ho3
        replace hX3 := Lib.hid hX3
        replace hbx3 := Lib.hid hbx3
        go_wp2_with fail
        refine (ihc.out _ base _ _ (hagree.out _ hB3) hch (by omega) ho3.out (by have := hq.out; simp only [List.length_append, List.length_cons] at this ⊢; omega) hAc.out).mono ?_
        rintro e w4 ⟨v4, rfl, ho4, hb4⟩
        have hB4 := hB3.trans hb4
        have hbx4 := Lib.hid (show BoxR _ _ w4 from hb4.keep _ _ hbx3.out (fun cs fr e => by cases e))
        replace ho4 := Lib.hid ho4
        clear hb4 x0 x1 x2 x3 x4 x5 x6
        go_wp2_with fail
        go_roundw
        case measure => simp [intOf]; omega
        case rel => exact ⟨k + 1, by omega, by go_num, Lib.hid (by rw [htk1.out]; have := ho4.out; simpa using this), hbx4, hB4⟩
    · obtain rfl : k = n := by omega
      have hlt' : ¬ (k : Int) < (k : Int) := by omega
      go_wp2_with (at_builtin; refine app_lit rfl _ _ rfl base _ _ rfl (hoR.out.alloc _) _ 1 1 _ _ _ [93] rfl (heap_alloc_new _ _) rfl rfl (by rw [hall.out, List.length_append, List.length_cons]; have := hl.out; omega) (by simp; omega) ?_)
      intro v3 w3 ho3 hg3
      have hB3 : FB base w w3 := (hBr.alloc hbr _).row (hoR.out.alloc _) hg3 (by simp; omega)
      rw [hall.out] at ho3
      clear hg3
      go_wp2_with fail
      go_ret
      exact ⟨v3, rfl, by simpa using ho3, hB3⟩

end Go.Proofs.YtibopkodoidjoaaGreatDoor

/- The reference's tree: format, objects. -/
namespace Go.Proofs.YtibopkodoidjoaaGreatDoor
open Go Go.RowKit

set_option maxHeartbeats 4000000 in
set_option maxRecDepth 100000 in
theorem rfmt_obj {w0 : World} (lo hi p : Nat) (vr vk vp : Value) (cs : List RKid) (hr : w0.ownsRow lo 33 7 vr cs.length (cs.flatMap RKid.u)) (hb0 : ∀ k, vr.ownBlock = some k → k < hi)
    (hrk : w0.ownsRow lo 9 1 vk cs.length (cs.map fun c => .string c.key)) (hb1 : ∀ k, vk.ownBlock = some k → k < hi) (hvp : isSl vp)
    (hk : ∀ c ∈ cs, c.fits lo hi) (hform : ∀ c ∈ cs, ∃ m p f t vi vk vp, c.u = rdC m p f t vi vk vp ∧ isSl vi ∧ isSl vk ∧ isSl vp) (ih : ∀ c ∈ cs, FmtRC w0 c.l c.h c.u c.x) : FmtRC w0 lo hi (rdC 5 p false noS vr vk vp) (.obj p (cs.map RKid.mem)) := by
  obtain ⟨pa, pn, pc, rfl⟩ := hvp
  intro w base v l hw hh hb ho hl hA
  rw [rdC_arr]
  rw [fmtN] at hl ⊢
  obtain ⟨n, hn⟩ : ∃ n, n = cs.length := ⟨_, rfl⟩
  obtain ⟨xs, hxs⟩ : ∃ xs, xs = cs.map RKid.mem := ⟨_, rfl⟩
  have hA' : allM okT xs := by rw [hxs]; exact hA
  rw [← hxs] at hl ⊢
  rw [← hn] at hr hrk
  rw [List.length_cons, List.length_append, List.length_singleton] at hl
  have hl7 : ∀ c ∈ cs, c.u.length = 7 := fun c hc => by
    obtain ⟨_, _, _, _, _, _, _, h, _⟩ := hform c hc
    rw [h]; rfl
  have hpre := Lib.hid (fmtM_pre xs)
  have htk := Lib.hid (fun k t p x (h : xs[k]? = some (t, p, x)) => fmtM_take h)
  have hall : Hid (xs.take n = xs) := Lib.hid (List.take_of_length_le (by rw [hxs, hn]; simp))
  obtain ⟨va, vc, rfl⟩ := rowForm hr
  obtain ⟨ka, kc, rfl⟩ := rowForm hrk
  have hnm : n ≤ maxLen := by
    rcases rowForm2 hr with ⟨h, _⟩ | ⟨g, cap, h, _, _, h1, h2⟩
    · omega
    · omega
  unfold maxLen at hnm
  have hnI : (n : Int) ≤ 9223372036854775807 := by omega
  have hr1 := Lib.hid (ownsRow_heap hr fun k e => hw k (hr.lt k e).1 (hb0 k e))
  have hrk1 := Lib.hid (ownsRow_heap hrk fun k e => hw k (hrk.lt k e).1 (hb1 k e))
  replace hw := Lib.hid hw
  replace ho := Lib.hid ho
  replace hA := Lib.hid hA'
  replace hn := Lib.hid hn
  replace hxs := Lib.hid hxs
  replace hl := Lib.hid hl
  clear hA' hr hrk
  go_enter Tryz.func38, Tryz.ntmps38
  go_wp2_with (at_builtin; refine app_lit rfl _ _ rfl base v l rfl ((ho.out.alloc _).alloc _) _ 1 1 _ _ _ [123] rfl (new2 w _ _) rfl rfl (by have := hl.out; omega) (by simp; omega) ?_)
  intro v1 w1 ho1 hg1
  have hB1 : FB base w w1 := (((FB.refl base w).alloc hb _).alloc (by simp; omega) _).row ((ho.out.alloc _).alloc _) hg1 (by simp; omega)
  have hvb : v.ownBlock ≠ some w.heap.size := fun e => by have := (World.ownsRow.lt ho.out _ e).2; omega
  have t1 : BoxR w.heap.size #[.int .i64 5, .int .i64 (p : Int), .bool false, .string noS, .slice va n vc, .slice ka n kc, .slice pa pn pc] w1 := box_row (old2 w _ _) hg1 hvb
  obtain ⟨b0, b2, b3, b4, b5, b6⟩ := t1.all
  have hz1 := hB1.size
  have hzb : base ≤ w1.heap.size := by omega
  have hz : w.heap.size < w1.heap.size := ltB t1
  clear hg1 hvb
  replace t1 := Lib.hid t1
  replace ho1 := Lib.hid ho1
  go_wp2_with fail
  go_loopw [0, 67] (fun v0 vs wr => ∃ k : Nat, k ≤ n ∧ vs = .int .i64 (k : Int) ∧ Hid (OwnB wr base v0 (l ++ 123 :: fmtM true (xs.take k))) ∧ Hid (BoxR w.heap.size #[.int .i64 5, .int .i64 (p : Int), .bool false, .string noS, .slice va n vc, .slice ka n kc, .slice pa pn pc] wr) ∧ FB base w wr) (fun _ v _ => n - (intOf v).toNat)
  case atStart => exact ⟨0, Nat.zero_le _, rfl, Lib.hid (by rw [List.take_zero, fmtM]; exact ho1.out), t1, hB1⟩
  case round =>
    obtain ⟨k, hkn, rfl, hoR, hbx, hBr⟩ := hrel
    have hzr := hBr.size
    clear hB1 ho1 hz1 hzb hz b0 b2 b3 b4 b5 b6
    have hbr : base ≤ wr.heap.size := by omega
    by_cases hlt : k < n
    · have hltI : (k : Int) < (n : Int) := by omega
      obtain ⟨c, hc⟩ : ∃ c, cs[k]? = some c := ⟨cs[k]'(by rw [← hn.out]; exact hlt), List.getElem?_eq_getElem _⟩
      have hcm := List.mem_of_getElem? hc
      have hcx : xs[k]? = some (c.key, c.pl, c.x) := by rw [hxs.out, List.getElem?_map, hc]; rfl
      have ihc := ih c hcm
      have hcf := hk c hcm
      have hA2 := allM_mem hA.out _ (List.mem_of_getElem? hcx)
      have hAk : okT c.key := hA2.1
      have hAc := Lib.hid hA2.2
      clear hA2
      have htk1 := htk.out k _ _ _ hcx
      have hp1 := hpre.out (k + 1)
      rw [htk1] at hp1
      obtain ⟨g, rfl⟩ : ∃ g, va = some ⟨g, 0, none⟩ := by
        rcases rowForm2 hr1.out with ⟨h, _⟩ | ⟨g, cap, h, _⟩
        · omega
        · cases h; exact ⟨g, rfl⟩
      obtain ⟨kg, rfl⟩ : ∃ g, ka = some ⟨g, 0, none⟩ := by
        rcases rowForm2 hrk1.out with ⟨h, _⟩ | ⟨g, cap, h, _⟩
        · omega
        · cases h; exact ⟨g, rfl⟩
      have SK : Hid (∀ w', FB base w w' → w'.cell? ⟨kg, k, none⟩ = some (.string c.key)) := Lib.hid (fun w' h => rowCells (ownsRow_heap hrk1.out (w' := w') fun j e => h.bel.block j (by have := hb1 j e; omega)) (j := k) (u := .string c.key) (by rw [List.getElem?_map, hc]; rfl))
      have hagree : Hid (∀ w', FB base w w' → ∀ j, c.l ≤ j → j < c.h → w'.heap[j]? = w0.heap[j]?) := Lib.hid (fun w' h j a b => (h.bel.block j (by have := hcf.2.2; omega)).trans (hw.out j (Nat.le_trans hcf.1 a) (Nat.lt_of_lt_of_le b hcf.2.2)))
      have hrr := ownsRow_heap hr1.out (w' := wr) fun j e => hBr.bel.block j (by have := hb0 j e; omega)
      obtain ⟨m2, p2, f2, t2, vi2, vk2, vp2, hu2, ⟨a1, n1, c1, rfl⟩, ⟨a2, n2, c2, rfl⟩, ⟨a3, n3, c3, rfl⟩⟩ := hform c hcm
      have hq : ∀ i u, i < 7 → c.u[i]? = some u → wr.cell? ⟨g, k * 7 + i, none⟩ = some u := fun i u hi h => rowCells hrr ((flat7 cs k c i hl7 hc hi).trans h)
      rw [hu2] at hq
      have s0 : wr.cell? ⟨g, k * 7, none⟩ = _ := hq 0 _ (by decide) rfl
      have s1 := hq 1 _ (by decide) rfl
      have s2 := hq 2 _ (by decide) rfl
      have s3 := hq 3 _ (by decide) rfl
      have s4 := hq 4 _ (by decide) rfl
      have s5 := hq 5 _ (by decide) rfl
      have s6 := hq 6 _ (by decide) rfl
      clear hq hrr
      have hch : c.h ≤ base := Nat.le_trans hcf.2.2 hh
      unfold FmtRC at ihc
      rw [hu2, rdC_arr] at ihc
      replace ihc := Lib.hid ihc
      generalize c.x = cx at *
      generalize c.key = key at *
      generalize c.pl = pl at *
      replace hcf := Lib.hid hcf
      replace hc := Lib.hid hc
      replace hcx := Lib.hid hcx
      replace hu2 := Lib.hid hu2
      have hXX := heap_alloc_new wr (.cells #[.int .i64 (m2 : Int), .int .i64 (p2 : Int), .bool f2, .string t2, .slice a1 n1 c1, .slice a2 n2 c2, .slice a3 n3 c3] 33 (0, 0))
      have hBX : FB base w (wr.alloc (.cells #[.int .i64 (m2 : Int), .int .i64 (p2 : Int), .bool f2, .string t2, .slice a1 n1 c1, .slice a2 n2 c2, .slice a3 n3 c3] 33 (0, 0))) := hBr.alloc hbr _
      have hbX := BoxR.next hbx.out (balloc (o := (.cells #[.int .i64 (m2 : Int), .int .i64 (p2 : Int), .bool f2, .string t2, .slice a1 n1 c1, .slice a2 n2 c2, .slice a3 n3 c3] 33 (0, 0))) (Below.refl _ _))
      by_cases h0 : k = 0
      · subst h0
        rw [if_pos rfl] at htk1 hp1
        have hq : Hid ((l ++ 123 :: fmtM true (xs.take 0) ++ qN key ++ [58]).length + (fmtN cx).length ≤ 140737488355328) := Lib.hid (by
          rw [List.length_append] at hp1
          simp only [List.nil_append, List.length_append, List.length_cons] at hp1
          simp only [List.length_append, List.length_cons, List.length_nil]
          have := hl.out
          omega)
        replace htk1 := Lib.hid htk1
        replace hp1 := Lib.hid hp1
        have hoX := hoR.out.alloc (.cells #[.int .i64 (m2 : Int), .int .i64 (p2 : Int), .bool f2, .string t2, .slice a1 n1 c1, .slice a2 n2 c2, .slice a3 n3 c3] 33 (0, 0))
        go_upto_region 28 with fail
        generalize wr.alloc (.cells #[.int .i64 (m2 : Int), .int .i64 (p2 : Int), .bool f2, .string t2, .slice a1 n1 c1, .slice a2 n2 c2, .slice a3 n3 c3] 33 (0, 0)) = X at *
        clear s0 s1 s2 s3 s4 s5 s6
        have sk := SK.out X hBX
        have hsX := hBX.size
        have hbX2 : base ≤ X.heap.size := by omega
        obtain ⟨b0, b2, b3, b4, b5, b6⟩ := hbX.all
        have hlx := ltB hXX
        have hlb := ltB hbX
        replace hXX := Lib.hid hXX
        replace hbX := Lib.hid hbX
        replace hoX := Lib.hid hoX
        have hqk := Lib.hid (qN_ok hAk)
        go_wp2_with fail
        refine (rQuote_calls key _ hAk.1).mono ?_
        rintro e w5 ⟨rfl, hb⟩
        have ho5 := hoX.out.next hb
        have F5 : FB base X w5 := FB.ofB hb hbX2
        have hz5 := F5.size
        clear hb sk b0 b2 b3 b4 b5 b6
        go_wp2_with (at_builtin; refine app_str rfl _ _ rfl base u0 (l ++ 123 :: fmtM true (xs.take 0)) rfl ho5 _ rfl (by rw [← sizeL, ← hqk.out]; have := hq.out; simp only [List.length_append, List.length_cons, List.length_nil] at this ⊢; omega) (by omega) ?_)
        intro v6 w6 ho6 hg6
        replace ho6 : OwnB w6 base v6 (l ++ 123 :: fmtM true (xs.take 0) ++ qN key) := by rw [hqk.out]; simpa using ho6
        have F6 := F5.row ho5 hg6 (by omega)
        have hz6 := F6.size
        clear hg6
        replace ho6 := Lib.hid ho6
        have hl6 : (l ++ 123 :: fmtM true (xs.take 0) ++ qN key).length + 1 ≤ 140737488355328 := by have := hq.out; simp only [List.length_append, List.length_cons, List.length_nil] at this ⊢; omega
        have hb6 : base ≤ (w6.alloc (.cells #[.int .u8 58] 5 (0, 0))).heap.size := by simp; omega
        go_wp2_with (at_builtin; refine app_lit rfl _ _ rfl base v6 (l ++ 123 :: fmtM true (xs.take 0) ++ qN key) rfl (ho6.out.alloc _) _ 1 1 _ _ _ [58] rfl (heap_alloc_new _ _) rfl rfl hl6 hb6 ?_)
        intro v7 w7 ho7 hg7
        replace ho7 : OwnB w7 base v7 (l ++ 123 :: fmtM true (xs.take 0) ++ qN key ++ [58]) := by simpa using ho7
        have F7 : FB base X w7 := (F6.alloc (by omega) _).row (ho6.out.alloc _) hg7 (by simp; omega)
        have hX7 : BoxR wr.heap.size _ w7 := F7.keep _ _ hXX.out (fun cs fr e => by cases e)
        have hbx7 : BoxR w.heap.size _ w7 := F7.keep _ _ hbX.out (fun cs fr e => by cases e)
        have hB7 := hBX.trans F7
        have x1 := hX7.two.1
        obtain ⟨x0, x2, x3, x4, x5, x6⟩ := hX7.all
        have hz7 := F7.size
        clear hg7 F5 F6
        replace ho7 := Lib.hid ho7
        replace hX7 := Lib.hid hX7
        replace hbx7 := Lib.hid hbx7
        go_wp2_with fail
        refine (ihc.out w7 base v7 _ (hagree.out _ hB7) hch (by omega) ho7.out (by have := hq.out; simp only [List.length_append, List.length_cons, List.length_nil] at this ⊢; omega) hAc.out).mono ?_
        rintro e w8 ⟨v8, rfl, ho8, hb8⟩
        have hB8 := hB7.trans hb8
        have hbx8 := Lib.hid (show BoxR _ _ w8 from hb8.keep _ _ hbx7.out (fun cs fr e => by cases e))
        replace ho8 := Lib.hid ho8
        clear hb8 x0 x1 x2 x3 x4 x5 x6
        go_wp2_with fail
        go_roundw
        case measure => simp [intOf]; omega
        case rel => exact ⟨1, by omega, rfl, Lib.hid (by rw [htk1.out]; have := ho8.out; simpa using this), hbx8, hB8⟩
      · rw [if_neg h0] at htk1 hp1
        have h0I : (0 : Int) < (k : Int) := by omega
        have hq : Hid ((l ++ 123 :: fmtM true (xs.take k) ++ [44] ++ qN key ++ [58]).length + (fmtN cx).length ≤ 140737488355328) := Lib.hid (by
          rw [List.length_append] at hp1
          simp only [List.length_append, List.length_cons, List.length_nil] at hp1
          simp only [List.length_append, List.length_cons, List.length_nil]
          have := hl.out
          omega)
        replace htk1 := Lib.hid htk1
        replace hp1 := Lib.hid hp1
        have hvb2 : ∀ k, u0.ownBlock = some k → k < wr.heap.size := fun k e => (World.ownsRow.lt hoR.out k e).2
        go_wp2_with (at_builtin; refine app_lit rfl _ _ rfl base _ _ rfl ((hoR.out.alloc _).alloc _) _ 1 1 _ _ _ [44] rfl (new2 wr _ _) rfl rfl (by have := hq.out; simp only [List.length_append, List.length_cons, List.length_nil] at this ⊢; omega) (by simp; omega) ?_)
        intro v3 X ho3 hg3
        have hF3 : FB base wr X := (((FB.refl base wr).alloc hbr _).alloc (by simp; omega) _).row ((hoR.out.alloc _).alloc _) hg3 (by simp; omega)
        replace hBX := hBr.trans hF3
        replace hXX := box_row (old2 wr _ _) hg3 (fun e => by have := hvb2 _ e; omega)
        replace hbX : BoxR w.heap.size _ X := hF3.keep _ _ hbx.out (fun cs fr e => by cases e)
        have hoX : OwnB X base v3 (l ++ 123 :: fmtM true (xs.take k) ++ [44]) := by simpa using ho3
        clear hg3 ho3 hvb2 hF3 s0 s1 s2 s3 s4 s5 s6
        have sk := SK.out X hBX
        have hsX := hBX.size
        have hbX2 : base ≤ X.heap.size := by omega
        obtain ⟨b0, b2, b3, b4, b5, b6⟩ := hbX.all
        have hlx := ltB hXX
        have hlb := ltB hbX
        replace hXX := Lib.hid hXX
        replace hbX := Lib.hid hbX
        replace hoX := Lib.hid hoX
        have hqk := Lib.hid (qN_ok hAk)
        go_wp2_with fail
        refine (rQuote_calls key _ hAk.1).mono ?_
        rintro e w5 ⟨rfl, hb⟩
        have ho5 := hoX.out.next hb
        have F5 : FB base X w5 := FB.ofB hb hbX2
        have hz5 := F5.size
        clear hb sk b0 b2 b3 b4 b5 b6
        go_wp2_with (at_builtin; refine app_str rfl _ _ rfl base v3 (l ++ 123 :: fmtM true (xs.take k) ++ [44]) rfl ho5 _ rfl (by rw [← sizeL, ← hqk.out]; have := hq.out; simp only [List.length_append, List.length_cons, List.length_nil] at this ⊢; omega) (by omega) ?_)
        intro v6 w6 ho6 hg6
        replace ho6 : OwnB w6 base v6 (l ++ 123 :: fmtM true (xs.take k) ++ [44] ++ qN key) := by rw [hqk.out]; simpa using ho6
        have F6 := F5.row ho5 hg6 (by omega)
        have hz6 := F6.size
        clear hg6
        replace ho6 := Lib.hid ho6
        have hl6 : (l ++ 123 :: fmtM true (xs.take k) ++ [44] ++ qN key).length + 1 ≤ 140737488355328 := by have := hq.out; simp only [List.length_append, List.length_cons, List.length_nil] at this ⊢; omega
        have hb6 : base ≤ (w6.alloc (.cells #[.int .u8 58] 5 (0, 0))).heap.size := by simp; omega
        go_wp2_with (at_builtin; refine app_lit rfl _ _ rfl base v6 (l ++ 123 :: fmtM true (xs.take k) ++ [44] ++ qN key) rfl (ho6.out.alloc _) _ 1 1 _ _ _ [58] rfl (heap_alloc_new _ _) rfl rfl hl6 hb6 ?_)
        intro v7 w7 ho7 hg7
        replace ho7 : OwnB w7 base v7 (l ++ 123 :: fmtM true (xs.take k) ++ [44] ++ qN key ++ [58]) := by simpa using ho7
        have F7 : FB base X w7 := (F6.alloc (by omega) _).row (ho6.out.alloc _) hg7 (by simp; omega)
        have hX7 : BoxR wr.heap.size _ w7 := F7.keep _ _ hXX.out (fun cs fr e => by cases e)
        have hbx7 : BoxR w.heap.size _ w7 := F7.keep _ _ hbX.out (fun cs fr e => by cases e)
        have hB7 := hBX.trans F7
        have x1 := hX7.two.1
        obtain ⟨x0, x2, x3, x4, x5, x6⟩ := hX7.all
        have hz7 := F7.size
        clear hg7 F5 F6
        replace ho7 := Lib.hid ho7
        replace hX7 := Lib.hid hX7
        replace hbx7 := Lib.hid hbx7
        go_wp2_with fail
        refine (ihc.out w7 base v7 _ (hagree.out _ hB7) hch (by omega) ho7.out (by have := hq.out; simp only [List.length_append, List.length_cons, List.length_nil] at this ⊢; omega) hAc.out).mono ?_
        rintro e w8 ⟨v8, rfl, ho8, hb8⟩
        have hB8 := hB7.trans hb8
        have hbx8 := Lib.hid (show BoxR _ _ w8 from hb8.keep _ _ hbx7.out (fun cs fr e => by cases e))
        replace ho8 := Lib.hid ho8
        clear hb8 x0 x1 x2 x3 x4 x5 x6
        go_wp2_with fail
        go_roundw
        case measure => simp [intOf]; omega
        case rel => exact ⟨k + 1, by omega, by go_num, Lib.hid (by rw [htk1.out]; have := ho8.out; simpa using this), hbx8, hB8⟩
    · obtain rfl : k = n := by omega
      have hlt' : ¬ (k : Int) < (k : Int) := by omega
      go_wp2_with (at_builtin; refine app_lit rfl _ _ rfl base _ _ rfl (hoR.out.alloc _) _ 1 1 _ _ _ [125] rfl (heap_alloc_new _ _) rfl rfl (by rw [hall.out, List.length_append, List.length_cons]; have := hl.out; omega) (by simp; omega) ?_)
      intro v3 w3 ho3 hg3
      have hB3 : FB base w w3 := (hBr.alloc hbr _).row (hoR.out.alloc _) hg3 (by simp; omega)
      rw [hall.out] at ho3
      clear hg3
      go_wp2_with fail
      go_ret
      exact ⟨v3, rfl, by simpa using ho3, hB3⟩
theorem rformat_calls {w0 : World} {lo hi : Nat} {u : List Value} {x : Nd} (h : OwnR w0 lo hi u x) : FmtRC w0 lo hi u x := by
  induction h with
  | null lo hi p => exact rfmt_null lo hi p
  | flag lo hi p b => cases b; exact rfmt_flagfalse lo hi p; exact rfmt_flagtrue lo hi p
  | num lo hi p t => exact rfmt_num lo hi p t
  | text lo hi p t => exact rfmt_text lo hi p t
  | lst lo hi p v cs ho hb hk hc ih => exact rfmt_lst lo hi p v cs ho hb hk (fun c hm => (hc c hm).form) ih
  | obj lo hi p v vk vp cs ho hb ho2 hb2 ho3 hb3 hk hc ih => exact rfmt_obj lo hi p v vk vp cs ho hb ho2 hb2 (ownsRow_sl ho3) hk (fun c hm => (hc c hm).form) ih

end Go.Proofs.YtibopkodoidjoaaGreatDoor

/- The statements of chapter 18: is, objects; is whole. -/
namespace Go.Proofs.YtibopkodoidjoaaGreatDoor
open Go Go.RowKit

theorem cell_in {w : World} {g j : Nat} {v : Value} (h : w.cell? ⟨g, j, none⟩ = some v) : g < w.heap.size := by
  rcases Nat.lt_or_ge g w.heap.size with h1 | h1
  · exact h1
  · simp [World.cell?, Array.getElem?_eq_none h1] at h
theorem cell_b {w w' : World} {g j : Nat} {v : Value} (h : w.cell? ⟨g, j, none⟩ = some v) (hb : Below w.heap.size w w') : w'.cell? ⟨g, j, none⟩ = some v := cell_next h (cell_in h) hb
set_option maxHeartbeats 8000000 in
set_option maxRecDepth 100000 in
theorem is_obj {w0 : World} (lo hi lo2 hi2 P : Nat) (vr rv rk rp : Value) (cs : List Kid) (rcs : List RKid) (hr : w0.ownsRow lo 103 3 vr cs.length (cs.flatMap memC)) (hb0 : ∀ k, vr.ownBlock = some k → k < hi) (hk : ∀ c ∈ cs, lo ≤ c.l ∧ c.h ≤ hi)
    (hR : R3 lo2 w0 rv rk rp rcs) (hb2 : ∀ k, rv.ownBlock = some k → k < hi2) (hb3 : ∀ k, rk.ownBlock = some k → k < hi2) (hb4 : ∀ k, rp.ownBlock = some k → k < hi2) (hk2 : ∀ c ∈ rcs, c.fits lo2 hi2) (hlen : rcs.length = cs.length)
    (hform : ∀ c ∈ cs, ∃ t a, c.u = .iface t a) (hform2 : ∀ c ∈ rcs, ∃ m p f t vi vk vp, c.u = rdC m p f t vi vk vp ∧ isSl vi ∧ isSl vk ∧ isSl vp)
    (hsame : ∀ (j : Nat) (c : Kid) (rc : RKid), cs[j]? = some c → rcs[j]? = some rc → c.key = rc.key ∧ c.pl = rc.pl)
    (ih : ∀ (j : Nat) (c : Kid) (rc : RKid), cs[j]? = some c → rcs[j]? = some rc → IsC w0 c.l c.h rc.l rc.h c.u rc.u) :
    IsC w0 lo hi lo2 hi2 (.iface 101 (.agg #[.int .i64 (P : Int), vr])) (rdC 5 P false noS rv rk rp) := by
  intro w hw hw2 hh hh2
  obtain ⟨m, hm⟩ : ∃ m, m = cs.length := ⟨_, rfl⟩
  have hr2 := hR.i
  have hrk := hR.k
  have hrp := hR.p
  rw [hlen] at hr2 hrk hrp
  rw [← hm] at hr hr2 hrk hrp hlen
  have hl7 : ∀ c ∈ rcs, c.u.length = 7 := fun c hc => by
    obtain ⟨_, _, _, _, _, _, _, h, _⟩ := hform2 c hc
    rw [h]; rfl
  obtain ⟨va, vc, rfl⟩ := rowForm hr
  obtain ⟨ia, ic, rfl⟩ := rowForm hr2
  obtain ⟨ka, kc, rfl⟩ := rowForm hrk
  obtain ⟨pa, pc, rfl⟩ := rowForm hrp
  have hnm : m ≤ maxLen := by
    rcases rowForm2 hr with ⟨h, _⟩ | ⟨g, cap, h, _, _, h1, h2⟩
    · omega
    · omega
  unfold maxLen at hnm
  have hnI : (m : Int) ≤ 9223372036854775807 := by omega
  have hr1 := Lib.hid (ownsRow_heap hr fun k e => hw k (hr.lt k e).1 (hb0 k e))
  have hr3 := Lib.hid (ownsRow_heap hr2 fun k e => hw2 k (hr2.lt k e).1 (hb2 k e))
  have hrk3 := Lib.hid (ownsRow_heap hrk fun k e => hw2 k (hrk.lt k e).1 (hb3 k e))
  have hrp3 := Lib.hid (ownsRow_heap hrp fun k e => hw2 k (hrp.lt k e).1 (hb4 k e))
  clear hR hr2 hrk hrp hr
  replace hm := Lib.hid hm
  replace hlen := Lib.hid hlen
  replace hw := Lib.hid hw
  replace hw2 := Lib.hid hw2
  rw [rdC_arr]
  have T1 := Lib.hid (fun w => At_calls (P : Int) w)
  go_enter Tryz.func12, Tryz.ntmps12
  go_upto_region 1 with fail
  have hB0 : BoxR w.heap.size #[.int .i64 5, .int .i64 (P : Int), .bool false, .string noS, .slice ia m ic, .slice ka m kc, .slice pa m pc] (w.alloc (.cells #[.int .i64 5, .int .i64 (P : Int), .bool false, .string noS, .slice ia m ic, .slice ka m kc, .slice pa m pc] 33 (0, 0))) := heap_alloc_new _ _
  go_region_held3 (fun w' => w'.cell? ⟨w.heap.size, 1, none⟩ = some (.int .i64 (P : Int)) ∧ BoxR w.heap.size #[.int .i64 5, .int .i64 (P : Int), .bool false, .string noS, .slice ia m ic, .slice ka m kc, .slice pa m pc] w') (first | exact BoxR.two ‹_› | exact BoxR.two (BoxR.drew hB0)) ((go_at_call 174; refine (T1.out _).mono ?_; rintro e w8 ⟨rfl, hb⟩; have hB8 := BoxR.next (BoxR.drew hB0) hb; have hb8 : Below w.heap.size w w8 := bcall (by repeat (first | assumption | exact Below.refl _ _ | apply Below.drew | apply below_drewN | apply balloc | (refine Below.setCell ?_ (by first | omega | (simp <;> omega)) _))) hb; clear hb))
  obtain ⟨c0, c2, c3, c4, c5, c6⟩ := hB8.all
  have hlt8 := ltB hB8
  replace hB8 := Lib.hid hB8
  go_wp2_with fail
  go_loopw [120] (fun v120 wr => ∃ k : Nat, k ≤ m ∧ v120 = .int .i64 (k : Int) ∧ Hid (BoxR w.heap.size #[.int .i64 5, .int .i64 (P : Int), .bool false, .string noS, .slice ia m ic, .slice ka m kc, .slice pa m pc] wr) ∧ Below w.heap.size w wr) (fun v _ => m - (intOf v).toNat)
  case atStart => exact ⟨0, Nat.zero_le _, rfl, Lib.hid (hB8.out.next (balloc (Below.refl _ _))), (by repeat (first | assumption | exact Below.refl _ _ | apply Below.drew | apply below_drewN | apply balloc | (refine Below.setCell ?_ (by first | omega | (simp <;> omega)) _)))⟩
  case round =>
    obtain ⟨k, hkn, rfl, hBr, hbr⟩ := hrel
    clear c0 c2 c3 c4 c5 c6 hb8 hB8
    by_cases hlt : k < m
    · have hltI : (k : Int) < (m : Int) := by omega
      obtain ⟨c, hc⟩ : ∃ c, cs[k]? = some c := ⟨cs[k]'(by rw [← hm.out]; exact hlt), List.getElem?_eq_getElem _⟩
      obtain ⟨rc, hrc⟩ : ∃ rc, rcs[k]? = some rc := ⟨rcs[k]'(by rw [hlen.out]; exact hlt), List.getElem?_eq_getElem _⟩
      have hcm := List.mem_of_getElem? hc
      have hrm := List.mem_of_getElem? hrc
      obtain ⟨g, rfl⟩ : ∃ g, va = some ⟨g, 0, none⟩ := by
        rcases rowForm2 hr1.out with ⟨h, _⟩ | ⟨g, cap, h, _⟩
        · omega
        · cases h; exact ⟨g, rfl⟩
      obtain ⟨ig, rfl⟩ : ∃ g, ia = some ⟨g, 0, none⟩ := by
        rcases rowForm2 hr3.out with ⟨h, _⟩ | ⟨g, cap, h, _⟩
        · omega
        · cases h; exact ⟨g, rfl⟩
      obtain ⟨kg, rfl⟩ : ∃ g, ka = some ⟨g, 0, none⟩ := by
        rcases rowForm2 hrk3.out with ⟨h, _⟩ | ⟨g, cap, h, _⟩
        · omega
        · cases h; exact ⟨g, rfl⟩
      obtain ⟨pg, rfl⟩ : ∃ g, pa = some ⟨g, 0, none⟩ := by
        rcases rowForm2 hrp3.out with ⟨h, _⟩ | ⟨g, cap, h, _⟩
        · omega
        · cases h; exact ⟨g, rfl⟩
      obtain ⟨q0, q1, q2⟩ := rowMem (row_below hr1.out hbr) hc
      obtain ⟨ut, ua, hu⟩ := hform c hcm
      obtain ⟨m2, p2, f2, t2, vi2, vk2, vp2, hu2, ⟨a1, n1, c1, rfl⟩, ⟨a2, n2, c2, rfl⟩, ⟨a3, n3, c3, rfl⟩⟩ := hform2 rc hrm
      have hq : ∀ i u, i < 7 → rc.u[i]? = some u → wr.cell? ⟨ig, k * 7 + i, none⟩ = some u := fun i u hi h => rowCells (row_below hr3.out hbr) ((flat7 rcs k rc i hl7 hrc hi).trans h)
      rw [hu2] at hq
      have s0 : wr.cell? ⟨ig, k * 7, none⟩ = _ := hq 0 _ (by decide) rfl
      have s1 := hq 1 _ (by decide) rfl
      have s2 := hq 2 _ (by decide) rfl
      have s3 := hq 3 _ (by decide) rfl
      have s4 := hq 4 _ (by decide) rfl
      have s5 := hq 5 _ (by decide) rfl
      have s6 := hq 6 _ (by decide) rfl
      clear hq
      have sk := rowCells (row_below hrk3.out hbr) (j := k) (u := .string rc.key) (by rw [List.getElem?_map, hrc]; rfl)
      have sp := rowCells (row_below hrp3.out hbr) (j := k) (u := .int .i64 (rc.pl : Int)) (by rw [List.getElem?_map, hrc]; rfl)
      obtain ⟨hkey, hpl⟩ := hsame k c rc hc hrc
      rw [← hkey] at sk
      rw [← hpl] at sp
      have b4 := cellB hBr.out 4 rfl
      have b5 := cellB hBr.out 5 rfl
      have b6 := cellB hBr.out 6 rfl
      have hcf := hk c hcm
      have hrf := hk2 rc hrm
      have IC := fun w' (hB : Below w.heap.size w w') => ih k c rc hc hrc w' (fun j a d => (hB.block j (by have := hcf.2; omega)).trans (hw.out j (Nat.le_trans hcf.1 a) (Nat.lt_of_lt_of_le d hcf.2))) (fun j a d => (hB.block j (by have := hrf.2.2; omega)).trans (hw2.out j (Nat.le_trans hrf.1 a) (Nat.lt_of_lt_of_le d hrf.2.2))) (by have := hcf.2; have := hB.size; omega) (by have := hrf.2.2; have := hB.size; omega)
      rw [hu2, hu, rdC_arr] at IC
      replace IC := Lib.hid IC
      rw [hu] at q2
      generalize c.key = key at *
      generalize c.pl = pl at *
      replace hu := Lib.hid hu
      replace hu2 := Lib.hid hu2
      replace hc := Lib.hid hc
      replace hrc := Lib.hid hrc
      replace hkey := Lib.hid hkey
      replace hpl := Lib.hid hpl
      go_upto_region 34 with fail
      have hbA : Below wr.heap.size wr (wr.alloc (.cells #[.string key, .int .i64 (pl : Int), .iface ut ua] 103 (0, 0))) := balloc (Below.refl _ _)
      have hmA := heap_alloc_new wr (.cells #[.string key, .int .i64 (pl : Int), .iface ut ua] 103 (0, 0))
      obtain ⟨mg, hmg⟩ : ∃ mg, mg = wr.heap.size := ⟨_, rfl⟩
      rw [← hmg] at hmA ⊢
      generalize wr.alloc (.cells #[.string key, .int .i64 (pl : Int), .iface ut ua] 103 (0, 0)) = wA at hbA hmA ⊢
      have oh : Hid (∀ w', Below wA.heap.size wA w' → (w'.cell? ⟨mg, 0, none⟩ = some (.string key) ∧ w'.cell? ⟨mg, 1, none⟩ = some (.int .i64 (pl : Int)) ∧ w'.cell? ⟨mg, 2, none⟩ = some (.iface ut ua) ∧ w'.cell? ⟨w.heap.size, 4, none⟩ = some (.slice (some ⟨ig, 0, none⟩) m ic) ∧ w'.cell? ⟨w.heap.size, 5, none⟩ = some (.slice (some ⟨kg, 0, none⟩) m kc) ∧ w'.cell? ⟨w.heap.size, 6, none⟩ = some (.slice (some ⟨pg, 0, none⟩) m pc) ∧ w'.cell? ⟨kg, k, none⟩ = some (.string key) ∧ w'.cell? ⟨pg, k, none⟩ = some (.int .i64 (pl : Int)) ∧ w'.cell? ⟨ig, k * 7, none⟩ = some (.int .i64 (m2 : Int)) ∧ w'.cell? ⟨ig, k * 7 + 1, none⟩ = some (.int .i64 (p2 : Int)) ∧ w'.cell? ⟨ig, k * 7 + 2, none⟩ = some (.bool f2) ∧ w'.cell? ⟨ig, k * 7 + 3, none⟩ = some (.string t2) ∧ w'.cell? ⟨ig, k * 7 + 4, none⟩ = some (.slice a1 n1 c1) ∧ w'.cell? ⟨ig, k * 7 + 5, none⟩ = some (.slice a2 n2 c2) ∧ w'.cell? ⟨ig, k * 7 + 6, none⟩ = some (.slice a3 n3 c3) ∧ Below wA.heap.size wA w')) := Lib.hid (fun w' hb => ⟨cell_b (cellB hmA 0 rfl) hb, cell_b (cellB hmA 1 rfl) hb, cell_b (cellB hmA 2 rfl) hb, cell_b (cell_b b4 hbA) hb, cell_b (cell_b b5 hbA) hb, cell_b (cell_b b6 hbA) hb, cell_b (cell_b sk hbA) hb, cell_b (cell_b sp hbA) hb, cell_b (cell_b s0 hbA) hb, cell_b (cell_b s1 hbA) hb, cell_b (cell_b s2 hbA) hb, cell_b (cell_b s3 hbA) hb, cell_b (cell_b s4 hbA) hb, cell_b (cell_b s5 hbA) hb, cell_b (cell_b s6 hbA) hb, hb⟩)
      have hBA := Lib.hid (hBr.out.next hbA)
      have hwA : Below w.heap.size w wA := bcall hbr hbA
      replace hmg := Lib.hid hmg
      replace hmA := Lib.hid hmA
      clear q0 q1 q2 s0 s1 s2 s3 s4 s5 s6 sk sp b4 b5 b6 hBr hbA hbr
      go_region_held3 (fun w' => w'.cell? ⟨mg, 0, none⟩ = some (.string key) ∧ w'.cell? ⟨mg, 1, none⟩ = some (.int .i64 (pl : Int)) ∧ w'.cell? ⟨mg, 2, none⟩ = some (.iface ut ua) ∧ w'.cell? ⟨w.heap.size, 4, none⟩ = some (.slice (some ⟨ig, 0, none⟩) m ic) ∧ w'.cell? ⟨w.heap.size, 5, none⟩ = some (.slice (some ⟨kg, 0, none⟩) m kc) ∧ w'.cell? ⟨w.heap.size, 6, none⟩ = some (.slice (some ⟨pg, 0, none⟩) m pc) ∧ w'.cell? ⟨kg, k, none⟩ = some (.string key) ∧ w'.cell? ⟨pg, k, none⟩ = some (.int .i64 (pl : Int)) ∧ w'.cell? ⟨ig, k * 7, none⟩ = some (.int .i64 (m2 : Int)) ∧ w'.cell? ⟨ig, k * 7 + 1, none⟩ = some (.int .i64 (p2 : Int)) ∧ w'.cell? ⟨ig, k * 7 + 2, none⟩ = some (.bool f2) ∧ w'.cell? ⟨ig, k * 7 + 3, none⟩ = some (.string t2) ∧ w'.cell? ⟨ig, k * 7 + 4, none⟩ = some (.slice a1 n1 c1) ∧ w'.cell? ⟨ig, k * 7 + 5, none⟩ = some (.slice a2 n2 c2) ∧ w'.cell? ⟨ig, k * 7 + 6, none⟩ = some (.slice a3 n3 c3) ∧ Below wA.heap.size wA w') (first | exact oh.out _ ‹_› | exact oh.out _ (Below.drew (Below.refl _ _))) ((go_at_call 12; refine (IC.out _ (by first | exact hwA | exact Below.drew hwA)).mono ?_; rintro e w9 ⟨rfl, hb⟩; have hb9 : Below wA.heap.size wA w9 := bcall (Below.drew (Below.refl _ _)) hb; clear hb))
      have hBr9 := Lib.hid (hBA.out.next hb9)
      have hbr9 : Below w.heap.size w w9 := bcall hwA hb9
      clear oh IC
      go_wp2_with fail
      go_roundw
      case measure => simp [intOf]; omega
      case rel => exact ⟨k + 1, by omega, by go_num, hBr9, hbr9⟩
    · obtain rfl : m = k := by omega
      have hlt' : ¬ (m : Int) < (m : Int) := by omega
      go_wp2_with fail
      go_ret
      exact ⟨rfl, hbr⟩
theorem is_calls {w0 : World} {lo hi : Nat} {u : Value} {x : Nd} (h : OwnN w0 lo hi u x) : ∀ {lo2 hi2 : Nat} {c : List Value}, OwnR w0 lo2 hi2 c x → IsC w0 lo hi lo2 hi2 u c := by
  induction h with
  | null lo hi p => intro lo2 hi2 c h2; cases h2; exact fun w _ _ _ _ => is_null p w
  | flag lo hi p b => intro lo2 hi2 c h2; cases h2; exact fun w _ _ _ _ => is_flag p b w
  | num lo hi p t => intro lo2 hi2 c h2; cases h2; exact fun w _ _ _ _ => is_num p t w
  | text lo hi p t => intro lo2 hi2 c h2; cases h2; exact fun w _ _ _ _ => is_text p t w
  | lst lo hi p v cs ho hb hk hp hc ih =>
    intro lo2 hi2 c h2
    generalize hxs : cs.map Kid.x = xs at h2
    cases h2 with
    | lst _ _ _ rv rcs ho2 hb2 hk2 hc2 =>
      have hlen : rcs.length = cs.length := by have := congrArg List.length hxs; simpa using this.symm
      refine is_lst lo hi lo2 hi2 p v rv cs rcs ho hb (fun c hm => ⟨(hk c hm).1, (hk c hm).2.2.1⟩) ho2 hb2 hk2 hlen (fun c hm => (hc c hm).form) (fun c hm => (hc2 c hm).form) (fun j c rc h1 h2 => ?_)
      have hx : c.x = rc.x := by
        have := congrArg (fun l => l[j]?) hxs
        simpa [List.getElem?_map, h1, h2] using this
      exact ih c (List.mem_of_getElem? h1) (hx ▸ hc2 rc (List.mem_of_getElem? h2))
  | obj lo hi p v cs ho hb hk hp hc ih =>
    intro lo2 hi2 c h2
    generalize hxs : cs.map Kid.mem = xs at h2
    cases h2 with
    | obj _ _ _ rv rk rp rcs ho2 hb2 ho3 hb3 ho4 hb4 hk2 hc2 =>
      have hlen : rcs.length = cs.length := by have := congrArg List.length hxs; simpa using this.symm
      have hx : ∀ (j : Nat) (c : Kid) (rc : RKid), cs[j]? = some c → rcs[j]? = some rc → c.key = rc.key ∧ c.pl = rc.pl ∧ c.x = rc.x := fun j c rc h1 h2 => by
        have := congrArg (fun l => l[j]?) hxs
        simpa [List.getElem?_map, h1, h2, Kid.mem, RKid.mem] using this
      refine is_obj lo hi lo2 hi2 p v rv rk rp cs rcs ho hb (fun c hm => ⟨(hk c hm).1, (hk c hm).2.2.1⟩) ⟨ho2, ho3, ho4⟩ hb2 hb3 hb4 hk2 hlen (fun c hm => (hc c hm).form) (fun c hm => (hc2 c hm).form) (fun j c rc h1 h2 => ⟨(hx j c rc h1 h2).1, (hx j c rc h1 h2).2.1⟩) (fun j c rc h1 h2 => ?_)
      exact ih c (List.mem_of_getElem? h1) ((hx j c rc h1 h2).2.2 ▸ hc2 rc (List.mem_of_getElem? h2))

end Go.Proofs.YtibopkodoidjoaaGreatDoor

/- The statements of chapter 18: spoil. -/
namespace Go.Proofs.YtibopkodoidjoaaGreatDoor
open Go Go.RowKit

/-- A world behind another: of what was there only blocks lo .. hi have turned. -/
structure Sp (lo hi : Nat) (w w' : World) : Prop where
  os : w'.os = w.os
  tape : w'.tape = w.tape
  output : w'.output = w.output
  size : w.heap.size ≤ w'.heap.size
  block : ∀ k, k < w.heap.size → k < lo ∨ hi ≤ k → w'.heap[k]? = w.heap[k]?
theorem Sp.of {lo hi : Nat} {w w' : World} (hb : Below w.heap.size w w') : Sp lo hi w w' := ⟨hb.os, hb.tape, hb.output, hb.size, fun k h _ => hb.block k h⟩
theorem Sp.below {lo hi : Nat} {w w' w'' : World} (h : Sp lo hi w w') (hb : Below w'.heap.size w' w'') : Sp lo hi w w'' := ⟨hb.os.trans h.os, hb.tape.trans h.tape, hb.output.trans h.output, Nat.le_trans h.size hb.size, fun k h1 h2 => (hb.block k (Nat.lt_of_lt_of_le h1 h.size)).trans (h.block k h1 h2)⟩
theorem Sp.sub {lo hi l h : Nat} {w w' w'' : World} (h1 : Sp lo hi w w') (h2 : Sp l h w' w'') (hl : lo ≤ l) (hh : h ≤ hi) : Sp lo hi w w'' :=
  ⟨h2.os.trans h1.os, h2.tape.trans h1.tape, h2.output.trans h1.output, Nat.le_trans h1.size h2.size, fun k k1 k2 => (h2.block k (Nat.lt_of_lt_of_le k1 h1.size) (by omega)).trans (h1.block k k1 k2)⟩
theorem Sp.grown {lo hi g : Nat} {w w' w'' : World} (h1 : Sp lo hi w w') (h2 : w'.grownBy w'' (some g)) (hl : lo ≤ g) (hh : g < hi) : Sp lo hi w w'' :=
  ⟨h2.os.trans h1.os, h2.tape.trans h1.tape, h2.output.trans h1.output, Nat.le_trans h1.size h2.size, fun k k1 k2 => (h2.block k (Nat.lt_of_lt_of_le k1 h1.size) (fun e => by have := Option.some.inj e; omega)).trans (h1.block k k1 k2)⟩
theorem Sp.keep {lo hi g : Nat} {w w' : World} {o : Obj} (h : Sp lo hi w w') (hg : w.heap[g]? = some o) (hn : g < lo ∨ hi ≤ g) : w'.heap[g]? = some o := (h.block g (ltB hg) hn).trans hg
/-- What is asked of spoil at a node that lies in world w0. -/
def SpC (w0 : World) (lo hi : Nat) (u : Value) : Prop := ∀ w, (∀ k, lo ≤ k → k < hi → w.heap[k]? = w0.heap[k]?) → hi ≤ w.heap.size →
  Calls Tryz.prog 13 #[u] w fun e w' => e = .returned (.tuple #[]) ∧ Sp lo hi w w'
set_option maxHeartbeats 1000000 in
set_option maxRecDepth 100000 in
theorem sp_null (P : Nat) {w0 : World} (lo hi : Nat) : SpC w0 lo hi (.iface 90 (.agg #[.int .i64 (P : Int)])) := by
  intro w _ _
  go_enter Tryz.func13, Tryz.ntmps13
  (go_wp2_with fail; repeat (any_goals (go_quiet (fail); go_wp2_with fail)))
  refine ⟨rfl, .tuple #[], by kernel_rfl, rfl, ?_⟩
  exact Sp.of (by repeat (first | assumption | exact Below.refl _ _ | apply Below.drew | apply below_drewN | apply balloc | (refine Below.setCell ?_ (by first | omega | (simp <;> omega)) _)))
set_option maxHeartbeats 1000000 in
set_option maxRecDepth 100000 in
theorem sp_flag (P : Nat) (b : Bool) {w0 : World} (lo hi : Nat) : SpC w0 lo hi (.iface 92 (.agg #[.int .i64 (P : Int), .bool b])) := by
  intro w _ _
  go_enter Tryz.func13, Tryz.ntmps13
  (go_wp2_with fail; repeat (any_goals (go_quiet (fail); go_wp2_with fail)))
  refine ⟨rfl, .tuple #[], by kernel_rfl, rfl, ?_⟩
  exact Sp.of (by repeat (first | assumption | exact Below.refl _ _ | apply Below.drew | apply below_drewN | apply balloc | (refine Below.setCell ?_ (by first | omega | (simp <;> omega)) _)))
set_option maxHeartbeats 1000000 in
set_option maxRecDepth 100000 in
theorem sp_num (P : Nat) (t : ByteArray) {w0 : World} (lo hi : Nat) : SpC w0 lo hi (.iface 94 (.agg #[.int .i64 (P : Int), .string t])) := by
  intro w _ _
  go_enter Tryz.func13, Tryz.ntmps13
  (go_wp2_with fail; repeat (any_goals (go_quiet (fail); go_wp2_with fail)))
  refine ⟨rfl, .tuple #[], by kernel_rfl, rfl, ?_⟩
  exact Sp.of (by repeat (first | assumption | exact Below.refl _ _ | apply Below.drew | apply below_drewN | apply balloc | (refine Below.setCell ?_ (by first | omega | (simp <;> omega)) _)))
set_option maxHeartbeats 1000000 in
set_option maxRecDepth 100000 in
theorem sp_text (P : Nat) (t : ByteArray) {w0 : World} (lo hi : Nat) : SpC w0 lo hi (.iface 95 (.agg #[.int .i64 (P : Int), .string t])) := by
  intro w _ _
  go_enter Tryz.func13, Tryz.ntmps13
  (go_wp2_with fail; repeat (any_goals (go_quiet (fail); go_wp2_with fail)))
  refine ⟨rfl, .tuple #[], by kernel_rfl, rfl, ?_⟩
  exact Sp.of (by repeat (first | assumption | exact Below.refl _ _ | apply Below.drew | apply below_drewN | apply balloc | (refine Below.setCell ?_ (by first | omega | (simp <;> omega)) _)))
/-- The row's cells from j on are as they were. -/
def RowK (va : Option Addr) (e : TypeId) (xs : List Value) (k : Nat) (w : World) : Prop := ∀ g, va = some ⟨g, 0, none⟩ → ∃ cur : Array Value, w.heap[g]? = some (.cells cur e (0, 0)) ∧ xs.length ≤ cur.size ∧ ∀ j u, k ≤ j → xs[j]? = some u → cur[j]? = some u
theorem row_k {w : World} {lo sz m c : Nat} {e : TypeId} {va : Option Addr} {xs : List Value} (h : w.ownsRow lo e sz (.slice va m c) m xs) : RowK va e xs 0 w := by
  intro g hg
  subst hg
  obtain ⟨h1, ⟨h2, _⟩ | ⟨g', cap', cur, h2, hbg, hg, hn, hc, hz, ht⟩⟩ := h
  · cases h2
  · cases h2
    refine ⟨cur, hg, ?_, fun j u _ hj => ?_⟩
    · have h5 := congrArg List.length ht
      rw [List.length_take] at h5
      have : cur.toList.length = cur.size := Array.length_toList
      omega
    · have hjl : j < xs.length := (List.getElem?_eq_some_iff.1 hj).1
      rw [← ht, List.getElem?_take_of_lt (by omega), Array.getElem?_toList] at hj
      exact hj
theorem RowK.cell {va : Option Addr} {e : TypeId} {xs : List Value} {k g j : Nat} {u : Value} {w : World} (h : RowK va e xs k w) (hg : va = some ⟨g, 0, none⟩) (hj : k ≤ j) (hu : xs[j]? = some u) : w.cell? ⟨g, j, none⟩ = some u := by
  obtain ⟨cur, h1, _, h2⟩ := h g hg
  exact cellB h1 j (h2 j u hj hu)
theorem RowK.free {va : Option Addr} {e : TypeId} {xs : List Value} {k g j : Nat} {w : World} (h : RowK va e xs k w) (hg : va = some ⟨g, 0, none⟩) : w.frozen? ⟨g, j, none⟩ = false := by
  obtain ⟨cur, h1, _⟩ := h g hg
  exact freeB h1 j
theorem RowK.keep {va : Option Addr} {e : TypeId} {xs : List Value} {k : Nat} {w w' : World} (h : RowK va e xs k w) (hk : ∀ g, va = some ⟨g, 0, none⟩ → w'.heap[g]? = w.heap[g]?) : RowK va e xs k w' := by
  intro g hg
  obtain ⟨cur, h1, h2⟩ := h g hg
  exact ⟨cur, (hk g hg).trans h1, h2⟩
theorem RowK.lt {va : Option Addr} {e : TypeId} {xs : List Value} {k g : Nat} {w : World} (h : RowK va e xs k w) (hg : va = some ⟨g, 0, none⟩) : g < w.heap.size := by
  obtain ⟨cur, h1, _⟩ := h g hg
  exact ltB h1
theorem RowK.set {va : Option Addr} {e : TypeId} {xs : List Value} {k g : Nat} {w : World} (h : RowK va e xs k w) (hg : va = some ⟨g, 0, none⟩) (j k' : Nat) (v : Value) (hk : k ≤ k') (hj : j < k') : RowK va e xs k' (w.setCell ⟨g, j, none⟩ v) := by
  intro g' hg'
  rw [hg] at hg'
  cases hg'
  obtain ⟨cur, h1, h2, h3⟩ := h g hg
  refine ⟨cur.setIfInBounds j v, by rw [Lib.heap_setCell_same (i := j) h1], by simpa using h2, fun i u hi hu => ?_⟩
  rw [Array.getElem?_setIfInBounds_ne (by omega)]
  exact h3 i u (by omega) hu
theorem pair_lt {cs : List Kid} (hp : cs.Pairwise fun a b => a.h ≤ b.l) {i j : Nat} {a b : Kid} (hij : i < j) (ha : cs[i]? = some a) (hb : cs[j]? = some b) : a.h ≤ b.l := by
  obtain ⟨h1, rfl⟩ := List.getElem?_eq_some_iff.1 ha
  obtain ⟨h2, rfl⟩ := List.getElem?_eq_some_iff.1 hb
  exact (List.pairwise_iff_getElem.1 hp) i j h1 h2 hij
set_option maxHeartbeats 4000000 in
set_option maxRecDepth 100000 in
theorem sp_lst {w0 : World} (lo hi P : Nat) (vr : Value) (cs : List Kid) (hr : w0.ownsRow lo 24 1 vr cs.length (cs.map Kid.u)) (hb0 : ∀ k, vr.ownBlock = some k → k < hi) (hk : ∀ c ∈ cs, c.fits lo hi vr.ownBlock) (hp : cs.Pairwise fun a b => a.h ≤ b.l)
    (hform : ∀ c ∈ cs, ∃ t a, c.u = .iface t a) (ih : ∀ c ∈ cs, SpC w0 c.l c.h c.u) : SpC w0 lo hi (.iface 98 (.agg #[.int .i64 (P : Int), vr])) := by
  intro w hw hh
  obtain ⟨m, hm⟩ : ∃ m, m = cs.length := ⟨_, rfl⟩
  rw [← hm] at hr
  obtain ⟨va, vc, rfl⟩ := rowForm hr
  have hnm : m ≤ maxLen := by
    rcases rowForm2 hr with ⟨h, _⟩ | ⟨g, cap, h, _, _, h1, h2⟩
    · omega
    · omega
  unfold maxLen at hnm
  have hnI : (m : Int) ≤ 9223372036854775807 := by omega
  have hcap : m ≤ vc := by
    rcases rowForm2 hr with ⟨h, h2⟩ | ⟨g, cap, h, _, _, h1, h2⟩
    · omega
    · cases h; exact h1
  have hr1 := Lib.hid (row_k (ownsRow_heap hr fun k e => hw k (hr.lt k e).1 (hb0 k e)))
  replace hr := Lib.hid hr
  replace hm := Lib.hid hm
  replace hw := Lib.hid hw
  replace hp := Lib.hid hp
  go_enter Tryz.func13, Tryz.ntmps13
  go_wp2_with fail
  go_loopw [15] (fun vs wr => ∃ k : Nat, k ≤ m ∧ vs = .int .i64 (k : Int) ∧ Hid (wr.heap[w.heap.size]? = some (.cells #[.int .i64 (P : Int), .slice va m vc] 98 (0, 0))) ∧ Hid (Sp lo hi w wr) ∧ Hid (RowK va 24 (cs.map Kid.u) (k * 1) wr) ∧ Hid (∀ (j : Nat) (c : Kid), k ≤ j → cs[j]? = some c → ∀ b, c.l ≤ b → b < c.h → wr.heap[b]? = w0.heap[b]?)) (fun v _ => m - (intOf v).toNat)
  case atStart =>
    refine ⟨0, Nat.zero_le _, rfl, Lib.hid (heap_alloc_new w _), Lib.hid (Sp.of (by repeat (first | assumption | exact Below.refl _ _ | apply Below.drew | apply below_drewN | apply balloc | (refine Below.setCell ?_ (by first | omega | (simp <;> omega)) _)))), Lib.hid ?_, Lib.hid (fun j c _ hc b h1 h2 => ?_)⟩
    · rw [Nat.zero_mul]
      exact hr1.out.keep fun g hg => (Below.refl w.heap.size w).alloc (Nat.le_refl _) _ |>.block g (hr1.out.lt hg)
    · have hf := hk c (List.mem_of_getElem? hc)
      exact (((Below.refl w.heap.size w).alloc (Nat.le_refl _) _).block b (by have := hf.2.2.1; omega)).trans (hw.out b (Nat.le_trans hf.1 h1) (Nat.lt_of_lt_of_le h2 hf.2.2.1))
  case round =>
    obtain ⟨k, hkn, rfl, hY, hS, hR, hI⟩ := hrel
    have hszr := hS.out.size
    by_cases hlt : k < m
    · have hltI : (k : Int) < (m : Int) := by omega
      obtain ⟨c, hc⟩ : ∃ c, cs[k]? = some c := ⟨cs[k]'(by rw [← hm.out]; exact hlt), List.getElem?_eq_getElem _⟩
      have hcm := List.mem_of_getElem? hc
      obtain ⟨g, rfl⟩ : ∃ g, va = some ⟨g, 0, none⟩ := by
        rcases rowForm2 hr.out with ⟨h, _⟩ | ⟨g, cap, h, _⟩
        · omega
        · cases h; exact ⟨g, rfl⟩
      have hgl : lo ≤ g ∧ g < hi := ⟨(hr.out.lt g rfl).1, hb0 g rfl⟩
      have hf := hk c hcm
      have hfg := hf.2.2.2 g rfl
      obtain ⟨ut, ua, hu⟩ := hform c hcm
      have q0 := hR.out.cell rfl (j := k) (by omega) (u := c.u) (by rw [List.getElem?_map, hc]; rfl)
      rw [hu] at q0
      have y1 := cellB hY.out 1 rfl
      have IC := ih c hcm wr (hI.out k c (Nat.le_refl _) hc) (by have := hf.2.2.1; omega)
      rw [hu] at IC
      replace IC := Lib.hid IC
      replace hu := Lib.hid hu
      replace hc := Lib.hid hc
      go_wp2_with fail
      refine IC.out.mono ?_
      rintro e w3 ⟨rfl, hs3⟩
      have hsz3 := hs3.size
      have hlt0 : w.heap.size < wr.heap.size := ltB hY.out
      have hY3 := hs3.keep hY.out (Or.inr (by have := hf.2.2.1; omega))
      have hR3 : RowK (some ⟨g, 0, none⟩) 24 (cs.map Kid.u) (k * 1) w3 := (hR.out).keep fun g' hg' => by
        cases hg'
        exact hs3.block g (hR.out.lt rfl) hfg
      have hS3 := (hS.out).sub hs3 hf.1 hf.2.2.1
      have hI3 : ∀ (j : Nat) (c' : Kid), k + 1 ≤ j → cs[j]? = some c' → ∀ b, c'.l ≤ b → b < c'.h → w3.heap[b]? = w0.heap[b]? := fun j c' hj hc' b h1 h2 => by
        have hq := pair_lt hp.out (show k < j by omega) hc.out hc'
        have hf' := hk c' (List.mem_of_getElem? hc')
        exact (hs3.block b (by have := hf'.2.2.1; omega) (Or.inr (Nat.le_trans hq h1))).trans (hI.out j c' (by omega) hc' b h1 h2)
      clear hR hS hY hI hs3 y1 q0
      have y1 := cellB hY3 1 rfl
      have q0 := hR3.cell rfl (j := k) (by omega) (u := c.u) (by rw [List.getElem?_map, hc.out]; rfl)
      have qf := hR3.free (j := k) rfl
      have hgl3 := hR3.lt rfl
      have hw3l := ltB hY3
      have hgy : g ≠ w.heap.size := by omega
      replace hY3 := Lib.hid hY3
      replace hR3 := Lib.hid hR3
      replace hS3 := Lib.hid hS3
      replace hI3 := Lib.hid hI3
      go_wp2_with fail
      go_roundw
      case measure => simp [intOf]; omega
      case rel =>
        refine ⟨k + 1, by omega, by go_num, Lib.hid ?_, Lib.hid ?_, Lib.hid ?_, Lib.hid (fun j c' hj hc' b h1 h2 => ?_)⟩
        · exact other hY3.out (Ne.symm hgy)
        · exact hS3.out.grown (grown_set _ g _ _) hgl.1 hgl.2
        · exact hR3.out.set rfl k _ _ (by omega) (by omega)
        · have hf' := hk c' (List.mem_of_getElem? hc')
          have hg' := hf'.2.2.2 g rfl
          exact (set_far _ _ _ (by omega)).trans (hI3.out j c' hj hc' b h1 h2)
    · obtain rfl : m = k := by omega
      have hlt' : ¬ (m : Int) < (m : Int) := by omega
      go_wp2_with fail
      refine ⟨rfl, .tuple #[], by kernel_rfl, rfl, ?_⟩
      exact hS.out
set_option maxHeartbeats 4000000 in
set_option maxRecDepth 100000 in
theorem sp_obj {w0 : World} (lo hi P : Nat) (vr : Value) (cs : List Kid) (hr : w0.ownsRow lo 103 3 vr cs.length (cs.flatMap memC)) (hb0 : ∀ k, vr.ownBlock = some k → k < hi) (hk : ∀ c ∈ cs, c.fits lo hi vr.ownBlock) (hp : cs.Pairwise fun a b => a.h ≤ b.l)
    (hform : ∀ c ∈ cs, ∃ t a, c.u = .iface t a) (ih : ∀ c ∈ cs, SpC w0 c.l c.h c.u) : SpC w0 lo hi (.iface 101 (.agg #[.int .i64 (P : Int), vr])) := by
  intro w hw hh
  obtain ⟨m, hm⟩ : ∃ m, m = cs.length := ⟨_, rfl⟩
  rw [← hm] at hr
  obtain ⟨va, vc, rfl⟩ := rowForm hr
  have hnm : m ≤ maxLen := by
    rcases rowForm2 hr with ⟨h, _⟩ | ⟨g, cap, h, _, _, h1, h2⟩
    · omega
    · omega
  unfold maxLen at hnm
  have hnI : (m : Int) ≤ 9223372036854775807 := by omega
  have hcap : m ≤ vc := by
    rcases rowForm2 hr with ⟨h, h2⟩ | ⟨g, cap, h, _, _, h1, h2⟩
    · omega
    · cases h; exact h1
  have hr1 := Lib.hid (row_k (ownsRow_heap hr fun k e => hw k (hr.lt k e).1 (hb0 k e)))
  replace hr := Lib.hid hr
  replace hm := Lib.hid hm
  replace hw := Lib.hid hw
  replace hp := Lib.hid hp
  go_enter Tryz.func13, Tryz.ntmps13
  go_wp2_with fail
  go_loopw [35] (fun vs wr => ∃ k : Nat, k ≤ m ∧ vs = .int .i64 (k : Int) ∧ Hid (wr.heap[w.heap.size]? = some (.cells #[.int .i64 (P : Int), .slice va m vc] 101 (0, 0))) ∧ Hid (Sp lo hi w wr) ∧ Hid (RowK va 103 (cs.flatMap memC) (k * 3) wr) ∧ Hid (∀ (j : Nat) (c : Kid), k ≤ j → cs[j]? = some c → ∀ b, c.l ≤ b → b < c.h → wr.heap[b]? = w0.heap[b]?)) (fun v _ => m - (intOf v).toNat)
  case atStart =>
    refine ⟨0, Nat.zero_le _, rfl, Lib.hid (heap_alloc_new w _), Lib.hid (Sp.of (by repeat (first | assumption | exact Below.refl _ _ | apply Below.drew | apply below_drewN | apply balloc | (refine Below.setCell ?_ (by first | omega | (simp <;> omega)) _)))), Lib.hid ?_, Lib.hid (fun j c _ hc b h1 h2 => ?_)⟩
    · rw [Nat.zero_mul]
      exact hr1.out.keep fun g hg => (Below.refl w.heap.size w).alloc (Nat.le_refl _) _ |>.block g (hr1.out.lt hg)
    · have hf := hk c (List.mem_of_getElem? hc)
      exact (((Below.refl w.heap.size w).alloc (Nat.le_refl _) _).block b (by have := hf.2.2.1; omega)).trans (hw.out b (Nat.le_trans hf.1 h1) (Nat.lt_of_lt_of_le h2 hf.2.2.1))
  case round =>
    obtain ⟨k, hkn, rfl, hY, hS, hR, hI⟩ := hrel
    have hszr := hS.out.size
    by_cases hlt : k < m
    · have hltI : (k : Int) < (m : Int) := by omega
      obtain ⟨c, hc⟩ : ∃ c, cs[k]? = some c := ⟨cs[k]'(by rw [← hm.out]; exact hlt), List.getElem?_eq_getElem _⟩
      have hcm := List.mem_of_getElem? hc
      obtain ⟨g, rfl⟩ : ∃ g, va = some ⟨g, 0, none⟩ := by
        rcases rowForm2 hr.out with ⟨h, _⟩ | ⟨g, cap, h, _⟩
        · omega
        · cases h; exact ⟨g, rfl⟩
      have hgl : lo ≤ g ∧ g < hi := ⟨(hr.out.lt g rfl).1, hb0 g rfl⟩
      have hf := hk c hcm
      have hfg := hf.2.2.2 g rfl
      obtain ⟨ut, ua, hu⟩ := hform c hcm
      have hrd : ∀ i u, i < 3 → (memC c)[i]? = some u → wr.cell? ⟨g, k * 3 + i, none⟩ = some u := fun i u hi h => hR.out.cell rfl (by omega) ((flat_get3 cs k c i hc hi).trans h)
      have q0 : wr.cell? ⟨g, k * 3, none⟩ = _ := hrd 0 _ (by decide) rfl
      have q1 := hrd 1 _ (by decide) rfl
      have q2 := hrd 2 _ (by decide) rfl
      rw [hu] at q2
      clear hrd
      have y1 := cellB hY.out 1 rfl
      have IC := ih c hcm (wr.alloc (.cells #[.string c.key, .int .i64 (c.pl : Int), c.u] 103 (0, 0))) (fun b h1 h2 => (Below.heap_alloc _ _ _ (by have := hf.2.2.1; omega)).trans (hI.out k c (Nat.le_refl _) hc b h1 h2)) (by have := hf.2.2.1; simp; omega)
      rw [hu] at IC
      replace IC := Lib.hid IC
      replace hu := Lib.hid hu
      replace hc := Lib.hid hc
      go_wp2_with fail
      refine IC.out.mono ?_
      rintro e w3 ⟨rfl, hs3⟩
      have hsz3 := hs3.size
      have hlt0 : w.heap.size < wr.heap.size := ltB hY.out
      have hY3 := hs3.keep (al_keep hY.out) (Or.inr (by have := hf.2.2.1; omega))
      have hR3 : RowK (some ⟨g, 0, none⟩) 103 (cs.flatMap memC) (k * 3) w3 := (hR.out.keep (w' := wr.alloc (.cells #[.string c.key, .int .i64 (c.pl : Int), .iface ut ua] 103 (0, 0))) fun g' hg' => Below.heap_alloc _ _ _ (hR.out.lt hg')).keep fun g' hg' => by
        cases hg'
        exact hs3.block g (by have := hR.out.lt rfl; simp; omega) hfg
      have hS3 := (hS.out.below (balloc (o := (.cells #[.string c.key, .int .i64 (c.pl : Int), .iface ut ua] 103 (0, 0))) (Below.refl _ _))).sub hs3 hf.1 hf.2.2.1
      have hI3 : ∀ (j : Nat) (c' : Kid), k + 1 ≤ j → cs[j]? = some c' → ∀ b, c'.l ≤ b → b < c'.h → w3.heap[b]? = w0.heap[b]? := fun j c' hj hc' b h1 h2 => by
        have hq := pair_lt hp.out (show k < j by omega) hc.out hc'
        have hf' := hk c' (List.mem_of_getElem? hc')
        exact (hs3.block b (by have := hf'.2.2.1; simp; omega) (Or.inr (Nat.le_trans hq h1))).trans ((Below.heap_alloc _ _ _ (by have := hf'.2.2.1; omega)).trans (hI.out j c' (by omega) hc' b h1 h2))
      clear hR hS hY hI hs3 y1 q0 q1 q2
      have y1 := cellB hY3 1 rfl
      have hrd : ∀ i u, i < 3 → (memC c)[i]? = some u → w3.cell? ⟨g, k * 3 + i, none⟩ = some u := fun i u hi h => hR3.cell rfl (by omega) ((flat_get3 cs k c i hc.out hi).trans h)
      have q0 : w3.cell? ⟨g, k * 3, none⟩ = _ := hrd 0 _ (by decide) rfl
      have q1 := hrd 1 _ (by decide) rfl
      have q2 := hrd 2 _ (by decide) rfl
      have qf0 := hR3.free (j := k * 3) rfl
      have qf1 := hR3.free (j := k * 3 + 1) rfl
      have qf2 := hR3.free (j := k * 3 + 2) rfl
      clear hrd
      have hgl3 := hR3.lt rfl
      have hw3l := ltB hY3
      have hgy : g ≠ w.heap.size := by omega
      replace hY3 := Lib.hid hY3
      replace hR3 := Lib.hid hR3
      replace hS3 := Lib.hid hS3
      replace hI3 := Lib.hid hI3
      go_wp2_with fail
      go_roundw
      case measure => simp [intOf]; omega
      case rel =>
        refine ⟨k + 1, by omega, by go_num, Lib.hid ?_, Lib.hid ?_, Lib.hid ?_, Lib.hid (fun j c' hj hc' b h1 h2 => ?_)⟩
        · exact other (other (other hY3.out (Ne.symm hgy)) (Ne.symm hgy)) (Ne.symm hgy)
        · exact ((hS3.out.grown (grown_set _ g _ _) hgl.1 hgl.2).grown (grown_set _ g _ _) hgl.1 hgl.2).grown (grown_set _ g _ _) hgl.1 hgl.2
        · exact ((hR3.out.set rfl (k * 3) ((k + 1) * 3) _ (by omega) (by omega)).set rfl (k * 3 + 1) ((k + 1) * 3) _ (by omega) (by omega)).set rfl (k * 3 + 2) ((k + 1) * 3) _ (by omega) (by omega)
        · have hf' := hk c' (List.mem_of_getElem? hc')
          have hg' := hf'.2.2.2 g rfl
          exact ((set_far _ _ _ (by omega)).trans ((set_far _ _ _ (by omega)).trans (set_far _ _ _ (by omega)))).trans (hI3.out j c' hj hc' b h1 h2)
    · obtain rfl : m = k := by omega
      have hlt' : ¬ (m : Int) < (m : Int) := by omega
      go_wp2_with fail
      refine ⟨rfl, .tuple #[], by kernel_rfl, rfl, ?_⟩
      exact hS.out
theorem spoil_calls {w0 : World} {lo hi : Nat} {u : Value} {x : Nd} (h : OwnN w0 lo hi u x) : SpC w0 lo hi u := by
  induction h with
  | null lo hi p => exact sp_null p lo hi
  | flag lo hi p b => exact sp_flag p b lo hi
  | num lo hi p t => exact sp_num p t lo hi
  | text lo hi p t => exact sp_text p t lo hi
  | lst lo hi p v cs ho hb hk hp hc ih => exact sp_lst lo hi p v cs ho hb hk hp (fun c hm => (hc c hm).form) ih
  | obj lo hi p v cs ho hb hk hp hc ih => exact sp_obj lo hi p v cs ho hb hk hp (fun c hm => (hc c hm).form) ih

end Go.Proofs.YtibopkodoidjoaaGreatDoor
