/- Lemmas of the proof, put together: Rd11, Fmt3, StepApp, Fmt4, TreeName, TreeCount, TreeBlPlain, TreeTok, TreeCount2. -/
import Derived.Test.YtibopkodoidjoaaGreatDoorM8
import Derived.Test.YtibopkodoidjoaaGreatDoorM7
import Derived.Test.YtibopkodoidjoaaGreatDoorM2
import Derived.Deep.RegionLaw
import Derived.Test.YtibopkodoidjoaaGreatDoorM6

/- The reference's tree: value, lists and objects; value whole. -/
namespace Go.Proofs.YtibopkodoidjoaaGreatDoor
open Go Go.RowKit

theorem own_lst {w W : World} {v : Value} {g n0 P : Nat} {cs : List RKid} (hr : w.ownsRow n0 33 7 v cs.length (cs.flatMap RKid.u)) (hk : RKids n0 w [v.ownBlock] cs) (hg : g < n0) (hG : w.grownBy W (some g)) :
    OwnR W g W.heap.size (rdC 4 P false noS v (.slice none 0 0) (.slice none 0 0)) (.lst P (cs.map RKid.x)) :=
  .lst _ _ _ _ cs (ownsRow_base (row_grown hr hG hg) (Nat.le_of_lt hg)) (fun k e => ((row_grown hr hG hg).lt k e).2) (fun c hm => ((hk.other hG hg).fit c hm).wide (Nat.le_of_lt hg) (Nat.le_refl _)) (hk.other hG hg).kid
theorem own_obj {w W : World} {vi vk vp : Value} {g n0 P : Nat} {cs : List RKid} (hr : R3 n0 w vi vk vp cs) (hk : RKids n0 w [vi.ownBlock, vk.ownBlock, vp.ownBlock] cs) (hg : g < n0) (hG : w.grownBy W (some g)) :
    OwnR W g W.heap.size (rdC 5 P false noS vi vk vp) (.obj P (cs.map RKid.mem)) :=
  have h := (hr.grown hG hg).base (Nat.le_of_lt hg)
  .obj _ _ _ _ _ _ cs h.i (fun k e => (h.i.lt k e).2) h.k (fun k e => (h.k.lt k e).2) h.p (fun k e => (h.p.lt k e).2) (fun c hm => ((hk.other hG hg).fit c hm).wide (Nat.le_of_lt hg) (Nat.le_refl _)) (hk.other hG hg).kid
def lstR (P : Nat) : PR (List Nd) → PR Nd
  | .ok xs q => .ok (.lst P xs) q
  | .err k pl => .err k pl
  | .out => .out
def objR (P : Nat) : PR (List (ByteArray × Nat × Nd)) → PR Nd
  | .ok xs q => .ok (.obj P xs) q
  | .err k pl => .err k pl
  | .out => .out
set_option maxHeartbeats 2000000 in
set_option maxRecDepth 100000 in
theorem rvalue_deep8 {base : Nat} {v : Value} {ts : List Tk} (s : ByteArray) (p pl b : Nat) (w : World) (hW : RdW base s v ts p pl 0 b w) (hK : kindT ts p = 8) :
    Calls Tryz.prog 34 #[.pointer (some ⟨b, 0, none⟩), .int .i64 64] w (PostRV s v ts.length pl b w (.err 3 (placeT s ts p))) := by
  have F := Lib.hid (fun q w hW => rfail_new s v p pl b q 3 w hW)
  have H := Lib.hid (fun w hW => here_calls (base := base) (v := v) (ts := ts) s p pl 0 b w hW)
  have N := Lib.hid (fun w hW => peek_calls (base := base) (v := v) (ts := ts) s p pl 0 b w hW)
  obtain ⟨P1, hP1⟩ : ∃ P1, P1 = placeT s ts p := ⟨_, rfl⟩
  rw [← hP1] at H ⊢
  rw [hK] at N
  have hbl := hW.lt
  have hpb : (p : Int) + 1 ≤ 3518437208884 := by have := hW.hl; have := hW.hp; omega
  replace hW := Lib.hid hW
  replace hP1 := Lib.hid hP1
  replace hK := Lib.hid hK
  go_enter Tryz.func34, Tryz.ntmps34
  (go_wp2_with fail; repeat (any_goals (go_quiet (fail); go_wp2_with fail)))
  refine (H.out _ (hW.out.next (by repeat (first | assumption | exact Below.refl _ _ | apply Below.drew | apply below_drewN | apply balloc | (refine Below.setCell ?_ (by first | omega | (simp <;> omega)) _))))).mono ?_
  rintro e w1 ⟨rfl, hb⟩
  have hb1 : Below w.heap.size w w1 := bcall (by repeat (first | assumption | exact Below.refl _ _ | apply Below.drew | apply below_drewN | apply balloc | (refine Below.setCell ?_ (by first | omega | (simp <;> omega)) _))) hb
  have hx := boxed hb
  have hz1 := ltB hx
  have hz2 : b ≠ w.heap.size := by omega
  have hz3 : b ≠ w1.heap.size := by omega
  have hz4 : w.heap.size ≠ w1.heap.size := by omega
  clear hb
  have hW1 := hW.out.next hb1
  have x4 := hW1.rd.c4
  have hbl1 := hW1.lt
  replace hW1 := Lib.hid hW1
  go_wp2_with fail
  refine (N.out _ (hW1.out.next (by repeat (first | assumption | exact Below.refl _ _ | apply Below.drew | apply below_drewN | apply balloc | (refine Below.setCell ?_ (by first | omega | (simp <;> omega)) _))))).mono ?_
  rintro e w2 ⟨rfl, hb⟩
  have hb2 : Below w.heap.size w w2 := bcall (balloc hb1) hb
  have hn := boxed hb
  replace hx := box_next hx (bcall (w := w1) (balloc (Below.refl _ _)) hb)
  clear hb x4
  have hW2 := hW.out.next hb2
  have x2 := hW2.rd.c2
  have f2 := freeB hW2.rd 2
  have hbl2 := hW2.lt
  have hx0 := ltB hx
  have hn0 := ltB hn
  replace hW2 := Lib.hid hW2
  have yc0 := cellB hx 0 rfl
  have yc1 := cellB hx 1 rfl
  have yc2 := cellB hx 2 rfl
  have yc3 := cellB hx 3 rfl
  have yc4 := cellB hx 4 rfl
  have yc5 := cellB hx 5 rfl
  have yc6 := cellB hx 6 rfl
  have yf0 := freeB hx 0
  have yf1 := freeB hx 1
  have yf2 := freeB hx 2
  have yf3 := freeB hx 3
  have yf4 := freeB hx 4
  have yf5 := freeB hx 5
  have yf6 := freeB hx 6
  have zc0 := cellB hn 0 rfl
  have zc1 := cellB hn 1 rfl
  have zc2 := cellB hn 2 rfl
  have zc3 := cellB hn 3 rfl
  have zc4 := cellB hn 4 rfl
  have zc5 := cellB hn 5 rfl
  have zc6 := cellB hn 6 rfl
  have zf0 := freeB hn 0
  have zf1 := freeB hn 1
  have zf2 := freeB hn 2
  have zf3 := freeB hn 3
  have zf4 := freeB hn 4
  have zf5 := freeB hn 5
  have zf6 := freeB hn 6
  go_wp2_with fail
  refine (H.out _ (hW2.out.next (by repeat (first | assumption | exact Below.refl _ _ | apply Below.drew | apply below_drewN | apply balloc | (refine Below.setCell ?_ (by first | omega | (simp <;> omega)) _))))).mono ?_
  rintro e w3 ⟨rfl, hb⟩
  have hb3 : Below w.heap.size w w3 := bcall hb2 hb
  replace hx := box_next hx hb
  replace hn := box_next hn hb
  clear hb yc0 yc1 yc2 yc3 yc4 yc5 yc6 yf0 yf1 yf2 yf3 yf4 yf5 yf6 zc0 zc1 zc2 zc3 zc4 zc5 zc6 zf0 zf1 zf2 zf3 zf4 zf5 zf6 x2 f2 hx0 hn0 hbl2
  go_wp2_with fail
  refine (F.out _ _ (hW.out.next hb3).rd).mono ?_
  rintro e w4 ⟨rfl, hr, hg⟩
  have hx := (hg.block _ (ltB hx) (by intro e; cases e; exact hz2 rfl)).trans hx
  have hn := (hg.block _ (ltB hn) (by intro e; cases e; exact hz3 rfl)).trans hn
  have hg4 := grown_trans (grown_of_below (r := some b) hb3) hg
  clear hg
  have yc0 := cellB hx 0 rfl
  have yc1 := cellB hx 1 rfl
  have yc2 := cellB hx 2 rfl
  have yc3 := cellB hx 3 rfl
  have yc4 := cellB hx 4 rfl
  have yc5 := cellB hx 5 rfl
  have yc6 := cellB hx 6 rfl
  have yf0 := freeB hx 0
  have yf1 := freeB hx 1
  have yf2 := freeB hx 2
  have yf3 := freeB hx 3
  have yf4 := freeB hx 4
  have yf5 := freeB hx 5
  have yf6 := freeB hx 6
  have zc0 := cellB hn 0 rfl
  have zc1 := cellB hn 1 rfl
  have zc2 := cellB hn 2 rfl
  have zc3 := cellB hn 3 rfl
  have zc4 := cellB hn 4 rfl
  have zc5 := cellB hn 5 rfl
  have zc6 := cellB hn 6 rfl
  have zf0 := freeB hn 0
  have zf1 := freeB hn 1
  have zf2 := freeB hn 2
  have zf3 := freeB hn 3
  have zf4 := freeB hn 4
  have zf5 := freeB hn 5
  have zf6 := freeB hn 6
  have hx0 := ltB hx
  have hn0 := ltB hn
  have hp := hW.out.hp
  replace hr := Lib.hid hr
  replace hp := Lib.hid hp
  go_wp2_with fail
  obtain ⟨e1, e2, e3⟩ := rd_end hx hg4 hr.out hz2 (Nat.le_refl _) (.int .i64 0) (.int .i64 (P1 : Int)) (.bool false) (.string ⟨#[]⟩) (.slice none 0 0) (.slice none 0 0) (.slice none 0 0)
  exact bodyPost_ret (results_cell_row rfl _ _ w.heap.size 33 _ (0, 0) _ rfl e1 Tryz.underlying33 rfl info7) rfl ⟨e2, 0, P1, false, noS, _, _, _, p, rfl, ⟨⟨_, _, _, rfl⟩, ⟨_, _, _, rfl⟩, ⟨_, _, _, rfl⟩⟩, hp.out, e3⟩
set_option maxHeartbeats 2000000 in
set_option maxRecDepth 100000 in
theorem rvalue_deep6 {base : Nat} {v : Value} {ts : List Tk} (s : ByteArray) (p pl b : Nat) (w : World) (hW : RdW base s v ts p pl 0 b w) (hK : kindT ts p = 6) :
    Calls Tryz.prog 34 #[.pointer (some ⟨b, 0, none⟩), .int .i64 64] w (PostRV s v ts.length pl b w (.err 3 (placeT s ts p))) := by
  have F := Lib.hid (fun q w hW => rfail_new s v p pl b q 3 w hW)
  have H := Lib.hid (fun w hW => here_calls (base := base) (v := v) (ts := ts) s p pl 0 b w hW)
  have N := Lib.hid (fun w hW => peek_calls (base := base) (v := v) (ts := ts) s p pl 0 b w hW)
  obtain ⟨P1, hP1⟩ : ∃ P1, P1 = placeT s ts p := ⟨_, rfl⟩
  rw [← hP1] at H ⊢
  rw [hK] at N
  have hbl := hW.lt
  have hpb : (p : Int) + 1 ≤ 3518437208884 := by have := hW.hl; have := hW.hp; omega
  replace hW := Lib.hid hW
  replace hP1 := Lib.hid hP1
  replace hK := Lib.hid hK
  go_enter Tryz.func34, Tryz.ntmps34
  (go_wp2_with fail; repeat (any_goals (go_quiet (fail); go_wp2_with fail)))
  refine (H.out _ (hW.out.next (by repeat (first | assumption | exact Below.refl _ _ | apply Below.drew | apply below_drewN | apply balloc | (refine Below.setCell ?_ (by first | omega | (simp <;> omega)) _))))).mono ?_
  rintro e w1 ⟨rfl, hb⟩
  have hb1 : Below w.heap.size w w1 := bcall (by repeat (first | assumption | exact Below.refl _ _ | apply Below.drew | apply below_drewN | apply balloc | (refine Below.setCell ?_ (by first | omega | (simp <;> omega)) _))) hb
  have hx := boxed hb
  have hz1 := ltB hx
  have hz2 : b ≠ w.heap.size := by omega
  have hz3 : b ≠ w1.heap.size := by omega
  have hz4 : w.heap.size ≠ w1.heap.size := by omega
  clear hb
  have hW1 := hW.out.next hb1
  have x4 := hW1.rd.c4
  have hbl1 := hW1.lt
  replace hW1 := Lib.hid hW1
  go_wp2_with fail
  refine (N.out _ (hW1.out.next (by repeat (first | assumption | exact Below.refl _ _ | apply Below.drew | apply below_drewN | apply balloc | (refine Below.setCell ?_ (by first | omega | (simp <;> omega)) _))))).mono ?_
  rintro e w2 ⟨rfl, hb⟩
  have hb2 : Below w.heap.size w w2 := bcall (balloc hb1) hb
  have hn := boxed hb
  replace hx := box_next hx (bcall (w := w1) (balloc (Below.refl _ _)) hb)
  clear hb x4
  have hW2 := hW.out.next hb2
  have x2 := hW2.rd.c2
  have f2 := freeB hW2.rd 2
  have hbl2 := hW2.lt
  have hx0 := ltB hx
  have hn0 := ltB hn
  replace hW2 := Lib.hid hW2
  have yc0 := cellB hx 0 rfl
  have yc1 := cellB hx 1 rfl
  have yc2 := cellB hx 2 rfl
  have yc3 := cellB hx 3 rfl
  have yc4 := cellB hx 4 rfl
  have yc5 := cellB hx 5 rfl
  have yc6 := cellB hx 6 rfl
  have yf0 := freeB hx 0
  have yf1 := freeB hx 1
  have yf2 := freeB hx 2
  have yf3 := freeB hx 3
  have yf4 := freeB hx 4
  have yf5 := freeB hx 5
  have yf6 := freeB hx 6
  have zc0 := cellB hn 0 rfl
  have zc1 := cellB hn 1 rfl
  have zc2 := cellB hn 2 rfl
  have zc3 := cellB hn 3 rfl
  have zc4 := cellB hn 4 rfl
  have zc5 := cellB hn 5 rfl
  have zc6 := cellB hn 6 rfl
  have zf0 := freeB hn 0
  have zf1 := freeB hn 1
  have zf2 := freeB hn 2
  have zf3 := freeB hn 3
  have zf4 := freeB hn 4
  have zf5 := freeB hn 5
  have zf6 := freeB hn 6
  go_wp2_with fail
  refine (H.out _ (hW2.out.next (by repeat (first | assumption | exact Below.refl _ _ | apply Below.drew | apply below_drewN | apply balloc | (refine Below.setCell ?_ (by first | omega | (simp <;> omega)) _))))).mono ?_
  rintro e w3 ⟨rfl, hb⟩
  have hb3 : Below w.heap.size w w3 := bcall hb2 hb
  replace hx := box_next hx hb
  replace hn := box_next hn hb
  clear hb yc0 yc1 yc2 yc3 yc4 yc5 yc6 yf0 yf1 yf2 yf3 yf4 yf5 yf6 zc0 zc1 zc2 zc3 zc4 zc5 zc6 zf0 zf1 zf2 zf3 zf4 zf5 zf6 x2 f2 hx0 hn0 hbl2
  go_wp2_with fail
  refine (F.out _ _ (hW.out.next hb3).rd).mono ?_
  rintro e w4 ⟨rfl, hr, hg⟩
  have hx := (hg.block _ (ltB hx) (by intro e; cases e; exact hz2 rfl)).trans hx
  have hn := (hg.block _ (ltB hn) (by intro e; cases e; exact hz3 rfl)).trans hn
  have hg4 := grown_trans (grown_of_below (r := some b) hb3) hg
  clear hg
  have yc0 := cellB hx 0 rfl
  have yc1 := cellB hx 1 rfl
  have yc2 := cellB hx 2 rfl
  have yc3 := cellB hx 3 rfl
  have yc4 := cellB hx 4 rfl
  have yc5 := cellB hx 5 rfl
  have yc6 := cellB hx 6 rfl
  have yf0 := freeB hx 0
  have yf1 := freeB hx 1
  have yf2 := freeB hx 2
  have yf3 := freeB hx 3
  have yf4 := freeB hx 4
  have yf5 := freeB hx 5
  have yf6 := freeB hx 6
  have zc0 := cellB hn 0 rfl
  have zc1 := cellB hn 1 rfl
  have zc2 := cellB hn 2 rfl
  have zc3 := cellB hn 3 rfl
  have zc4 := cellB hn 4 rfl
  have zc5 := cellB hn 5 rfl
  have zc6 := cellB hn 6 rfl
  have zf0 := freeB hn 0
  have zf1 := freeB hn 1
  have zf2 := freeB hn 2
  have zf3 := freeB hn 3
  have zf4 := freeB hn 4
  have zf5 := freeB hn 5
  have zf6 := freeB hn 6
  have hx0 := ltB hx
  have hn0 := ltB hn
  have hp := hW.out.hp
  replace hr := Lib.hid hr
  replace hp := Lib.hid hp
  go_wp2_with fail
  obtain ⟨e1, e2, e3⟩ := rd_end hx hg4 hr.out hz2 (Nat.le_refl _) (.int .i64 0) (.int .i64 (P1 : Int)) (.bool false) (.string ⟨#[]⟩) (.slice none 0 0) (.slice none 0 0) (.slice none 0 0)
  exact bodyPost_ret (results_cell_row rfl _ _ w.heap.size 33 _ (0, 0) _ rfl e1 Tryz.underlying33 rfl info7) rfl ⟨e2, 0, P1, false, noS, _, _, _, p, rfl, ⟨⟨_, _, _, rfl⟩, ⟨_, _, _, rfl⟩, ⟨_, _, _, rfl⟩⟩, hp.out, e3⟩
set_option maxHeartbeats 2000000 in
set_option maxRecDepth 100000 in
theorem rvalue_lst {base : Nat} {v : Value} {ts : List Tk} (s : ByteArray) (f : Nat) (hV : ∀ f', f' < f → RVC base s v ts f') (deep p pl b : Nat) (w : World) (hW : RdW base s v ts p pl 0 b w) (hd : deep < 64) (hl : ts.length ≤ 1048577) (hK : kindT ts p = 8)
    (R : PR (List Nd)) (hR : R = if kindT ts (p + 1) = 9 then .ok [] (p + 1 + 1) else pI s ts f deep (p + 1)) (hRo : R ≠ .out) :
    Calls Tryz.prog 34 #[.pointer (some ⟨b, 0, none⟩), .int .i64 (deep : Int)] w (PostRV s v ts.length pl b w (lstR (placeT s ts p) R)) := by
  have hpl : p < ts.length := kindT_lt (by omega)
  have hdI : (deep : Int) < 64 := by omega
  have hdI2 : ¬ (64 : Int) ≤ (deep : Int) := by omega
  have IC := Lib.hid (fun P w hW => ritems_calls (base := base) (s := s) (v := v) (ts := ts) f hV deep (p + 1) pl P b w hW hd hl R hR hRo)
  replace hV := Lib.hid hV
  replace hRo := Lib.hid hRo
  replace hR := Lib.hid hR
  replace hl := Lib.hid hl
  replace hpl := Lib.hid hpl
  clear hd
  generalize (deep : Int) = D at *
  have H := Lib.hid (fun w hW => here_calls (base := base) (v := v) (ts := ts) s p pl 0 b w hW)
  have N := Lib.hid (fun w hW => peek_calls (base := base) (v := v) (ts := ts) s p pl 0 b w hW)
  obtain ⟨P1, hP1⟩ : ∃ P1, P1 = placeT s ts p := ⟨_, rfl⟩
  rw [← hP1] at H ⊢
  rw [hK] at N
  have hbl := hW.lt
  have hpb : (p : Int) + 1 ≤ 3518437208884 := by have := hW.hl; have := hW.hp; omega
  replace hW := Lib.hid hW
  replace hP1 := Lib.hid hP1
  replace hK := Lib.hid hK
  go_enter Tryz.func34, Tryz.ntmps34
  (go_wp2_with fail; repeat (any_goals (go_quiet (fail); go_wp2_with fail)))
  refine (H.out _ (hW.out.next (by repeat (first | assumption | exact Below.refl _ _ | apply Below.drew | apply below_drewN | apply balloc | (refine Below.setCell ?_ (by first | omega | (simp <;> omega)) _))))).mono ?_
  rintro e w1 ⟨rfl, hb⟩
  have hb1 : Below w.heap.size w w1 := bcall (by repeat (first | assumption | exact Below.refl _ _ | apply Below.drew | apply below_drewN | apply balloc | (refine Below.setCell ?_ (by first | omega | (simp <;> omega)) _))) hb
  have hx := boxed hb
  have hz1 := ltB hx
  have hz2 : b ≠ w.heap.size := by omega
  have hz3 : b ≠ w1.heap.size := by omega
  have hz4 : w.heap.size ≠ w1.heap.size := by omega
  clear hb
  have hW1 := hW.out.next hb1
  have x4 := hW1.rd.c4
  have hbl1 := hW1.lt
  replace hW1 := Lib.hid hW1
  go_wp2_with fail
  refine (N.out _ (hW1.out.next (by repeat (first | assumption | exact Below.refl _ _ | apply Below.drew | apply below_drewN | apply balloc | (refine Below.setCell ?_ (by first | omega | (simp <;> omega)) _))))).mono ?_
  rintro e w2 ⟨rfl, hb⟩
  have hb2 : Below w.heap.size w w2 := bcall (balloc hb1) hb
  have hn := boxed hb
  replace hx := box_next hx (bcall (w := w1) (balloc (Below.refl _ _)) hb)
  clear hb x4
  have hW2 := hW.out.next hb2
  have x2 := hW2.rd.c2
  have f2 := freeB hW2.rd 2
  have hbl2 := hW2.lt
  have hx0 := ltB hx
  have hn0 := ltB hn
  replace hW2 := Lib.hid hW2
  have yc0 := cellB hx 0 rfl
  have yc1 := cellB hx 1 rfl
  have yc2 := cellB hx 2 rfl
  have yc3 := cellB hx 3 rfl
  have yc4 := cellB hx 4 rfl
  have yc5 := cellB hx 5 rfl
  have yc6 := cellB hx 6 rfl
  have yf0 := freeB hx 0
  have yf1 := freeB hx 1
  have yf2 := freeB hx 2
  have yf3 := freeB hx 3
  have yf4 := freeB hx 4
  have yf5 := freeB hx 5
  have yf6 := freeB hx 6
  have zc0 := cellB hn 0 rfl
  have zc1 := cellB hn 1 rfl
  have zc2 := cellB hn 2 rfl
  have zc3 := cellB hn 3 rfl
  have zc4 := cellB hn 4 rfl
  have zc5 := cellB hn 5 rfl
  have zc6 := cellB hn 6 rfl
  have zf0 := freeB hn 0
  have zf1 := freeB hn 1
  have zf2 := freeB hn 2
  have zf3 := freeB hn 3
  have zf4 := freeB hn 4
  have zf5 := freeB hn 5
  have zf6 := freeB hn 6
  go_upto_if 84 with fail
  rw [show decide ((64 : Int) ≤ D) = false from decide_eq_false (by omega)]
  go_wp2_with fail
  have hx3 := other (i := 2) (u := .int .i64 ((p : Int) + 1)) hx hz2.symm
  have hr3 := RdB.set2 (q := p + 1) hW2.out.rd
  have hg3 := grown_trans (grown_of_below (r := some b) hb2) (grown_set _ b 2 (.int .i64 ((p : Int) + 1)))
  have hW3 := hW.out.step hg3 hr3 hpl.out
  refine (IC.out P1 _ hW3).mono ?_
  rintro e w4 ⟨hg4, vi, rfl, hm⟩
  cases R with
  | out => exact absurd rfl hRo.out
  | ok xs q =>
    obtain ⟨cs, hrow, hkids, rfl, hr4⟩ := hm
    obtain ⟨av, nv, cv, rfl⟩ := ownsRow_sl hrow
    have hx4 := (hg4.block _ (ltB hx3) (by intro e; cases e; exact hz2 rfl)).trans hx3
    have hg5 := Lib.hid (grown_trans hg3 hg4)
    have hgs := Lib.hid (ltB hx3)
    clear yc0 yc1 yc2 yc3 yc4 yc5 yc6 yf0 yf1 yf2 yf3 yf4 yf5 yf6 zc0 zc1 zc2 zc3 zc4 zc5 zc6 zf0 zf1 zf2 zf3 zf4 zf5 zf6 x2 f2 hx0 hn0 hg4
    have yc0 := cellB hx4 0 rfl
    have yc1 := cellB hx4 1 rfl
    have yc2 := cellB hx4 2 rfl
    have yc3 := cellB hx4 3 rfl
    have yc4 := cellB hx4 4 rfl
    have yc5 := cellB hx4 5 rfl
    have yc6 := cellB hx4 6 rfl
    have yf0 := freeB hx4 0
    have yf1 := freeB hx4 1
    have yf2 := freeB hx4 2
    have yf3 := freeB hx4 3
    have yf4 := freeB hx4 4
    have yf5 := freeB hx4 5
    have yf6 := freeB hx4 6
    have hx04 := ltB hx4
    replace hrow := Lib.hid hrow
    replace hkids := Lib.hid hkids
    replace hr4 := Lib.hid hr4
    go_wp2_with fail
    obtain ⟨e1, e2, e3⟩ := rd_end hx4 hg5.out hr4.out hz2 (Nat.le_refl _) (.int .i64 4) (.int .i64 (P1 : Int)) (.bool false) (.string ⟨#[]⟩) (.slice av nv cv) (.slice none 0 0) (.slice none 0 0)
    exact bodyPost_ret (results_cell_row rfl _ _ w.heap.size 33 _ (0, 0) _ rfl e1 Tryz.underlying33 rfl info7) rfl ⟨e2, _, rfl, own_lst hrow.out hkids.out hgs.out (set7_grown _ _ _ _ _ _ _ _ _), e3⟩
  | err k pl2 =>
    obtain ⟨⟨av, nv, cv, rfl⟩, q, hq, hr4⟩ := hm
    have hx4 := (hg4.block _ (ltB hx3) (by intro e; cases e; exact hz2 rfl)).trans hx3
    have hg5 := Lib.hid (grown_trans hg3 hg4)
    clear yc0 yc1 yc2 yc3 yc4 yc5 yc6 yf0 yf1 yf2 yf3 yf4 yf5 yf6 zc0 zc1 zc2 zc3 zc4 zc5 zc6 zf0 zf1 zf2 zf3 zf4 zf5 zf6 x2 f2 hx0 hn0 hg4
    have yc0 := cellB hx4 0 rfl
    have yc1 := cellB hx4 1 rfl
    have yc2 := cellB hx4 2 rfl
    have yc3 := cellB hx4 3 rfl
    have yc4 := cellB hx4 4 rfl
    have yc5 := cellB hx4 5 rfl
    have yc6 := cellB hx4 6 rfl
    have yf0 := freeB hx4 0
    have yf1 := freeB hx4 1
    have yf2 := freeB hx4 2
    have yf3 := freeB hx4 3
    have yf4 := freeB hx4 4
    have yf5 := freeB hx4 5
    have yf6 := freeB hx4 6
    have hx04 := ltB hx4
    replace hr4 := Lib.hid hr4
    go_wp2_with fail
    obtain ⟨e1, e2, e3⟩ := rd_end hx4 hg5.out hr4.out hz2 (Nat.le_refl _) (.int .i64 4) (.int .i64 (P1 : Int)) (.bool false) (.string ⟨#[]⟩) (.slice av nv cv) (.slice none 0 0) (.slice none 0 0)
    exact bodyPost_ret (results_cell_row rfl _ _ w.heap.size 33 _ (0, 0) _ rfl e1 Tryz.underlying33 rfl info7) rfl ⟨e2, 4, P1, false, noS, _, _, _, q, rfl, ⟨⟨_, _, _, rfl⟩, ⟨_, _, _, rfl⟩, ⟨_, _, _, rfl⟩⟩, hq, e3⟩
set_option maxHeartbeats 2000000 in
set_option maxRecDepth 100000 in
theorem rvalue_obj {base : Nat} {v : Value} {ts : List Tk} (s : ByteArray) (f : Nat) (hV : ∀ f', f' < f → RVC base s v ts f') (deep p pl b : Nat) (w : World) (hW : RdW base s v ts p pl 0 b w) (hd : deep < 64) (hl : ts.length ≤ 1048577) (hK : kindT ts p = 6)
    (R : PR (List (ByteArray × Nat × Nd))) (hR : R = if kindT ts (p + 1) = 7 then .ok [] (p + 1 + 1) else pM s ts f deep [] (p + 1)) (hRo : R ≠ .out) :
    Calls Tryz.prog 34 #[.pointer (some ⟨b, 0, none⟩), .int .i64 (deep : Int)] w (PostRV s v ts.length pl b w (objR (placeT s ts p) R)) := by
  have hpl : p < ts.length := kindT_lt (by omega)
  have hdI : (deep : Int) < 64 := by omega
  have hdI2 : ¬ (64 : Int) ≤ (deep : Int) := by omega
  have IC := Lib.hid (fun P w hW => rmembers_calls (base := base) (s := s) (v := v) (ts := ts) f hV deep (p + 1) pl P b w hW hd hl R hR hRo)
  replace hV := Lib.hid hV
  replace hRo := Lib.hid hRo
  replace hR := Lib.hid hR
  replace hl := Lib.hid hl
  replace hpl := Lib.hid hpl
  clear hd
  generalize (deep : Int) = D at *
  have H := Lib.hid (fun w hW => here_calls (base := base) (v := v) (ts := ts) s p pl 0 b w hW)
  have N := Lib.hid (fun w hW => peek_calls (base := base) (v := v) (ts := ts) s p pl 0 b w hW)
  obtain ⟨P1, hP1⟩ : ∃ P1, P1 = placeT s ts p := ⟨_, rfl⟩
  rw [← hP1] at H ⊢
  rw [hK] at N
  have hbl := hW.lt
  have hpb : (p : Int) + 1 ≤ 3518437208884 := by have := hW.hl; have := hW.hp; omega
  replace hW := Lib.hid hW
  replace hP1 := Lib.hid hP1
  replace hK := Lib.hid hK
  go_enter Tryz.func34, Tryz.ntmps34
  (go_wp2_with fail; repeat (any_goals (go_quiet (fail); go_wp2_with fail)))
  refine (H.out _ (hW.out.next (by repeat (first | assumption | exact Below.refl _ _ | apply Below.drew | apply below_drewN | apply balloc | (refine Below.setCell ?_ (by first | omega | (simp <;> omega)) _))))).mono ?_
  rintro e w1 ⟨rfl, hb⟩
  have hb1 : Below w.heap.size w w1 := bcall (by repeat (first | assumption | exact Below.refl _ _ | apply Below.drew | apply below_drewN | apply balloc | (refine Below.setCell ?_ (by first | omega | (simp <;> omega)) _))) hb
  have hx := boxed hb
  have hz1 := ltB hx
  have hz2 : b ≠ w.heap.size := by omega
  have hz3 : b ≠ w1.heap.size := by omega
  have hz4 : w.heap.size ≠ w1.heap.size := by omega
  clear hb
  have hW1 := hW.out.next hb1
  have x4 := hW1.rd.c4
  have hbl1 := hW1.lt
  replace hW1 := Lib.hid hW1
  go_wp2_with fail
  refine (N.out _ (hW1.out.next (by repeat (first | assumption | exact Below.refl _ _ | apply Below.drew | apply below_drewN | apply balloc | (refine Below.setCell ?_ (by first | omega | (simp <;> omega)) _))))).mono ?_
  rintro e w2 ⟨rfl, hb⟩
  have hb2 : Below w.heap.size w w2 := bcall (balloc hb1) hb
  have hn := boxed hb
  replace hx := box_next hx (bcall (w := w1) (balloc (Below.refl _ _)) hb)
  clear hb x4
  have hW2 := hW.out.next hb2
  have x2 := hW2.rd.c2
  have f2 := freeB hW2.rd 2
  have hbl2 := hW2.lt
  have hx0 := ltB hx
  have hn0 := ltB hn
  replace hW2 := Lib.hid hW2
  have yc0 := cellB hx 0 rfl
  have yc1 := cellB hx 1 rfl
  have yc2 := cellB hx 2 rfl
  have yc3 := cellB hx 3 rfl
  have yc4 := cellB hx 4 rfl
  have yc5 := cellB hx 5 rfl
  have yc6 := cellB hx 6 rfl
  have yf0 := freeB hx 0
  have yf1 := freeB hx 1
  have yf2 := freeB hx 2
  have yf3 := freeB hx 3
  have yf4 := freeB hx 4
  have yf5 := freeB hx 5
  have yf6 := freeB hx 6
  have zc0 := cellB hn 0 rfl
  have zc1 := cellB hn 1 rfl
  have zc2 := cellB hn 2 rfl
  have zc3 := cellB hn 3 rfl
  have zc4 := cellB hn 4 rfl
  have zc5 := cellB hn 5 rfl
  have zc6 := cellB hn 6 rfl
  have zf0 := freeB hn 0
  have zf1 := freeB hn 1
  have zf2 := freeB hn 2
  have zf3 := freeB hn 3
  have zf4 := freeB hn 4
  have zf5 := freeB hn 5
  have zf6 := freeB hn 6
  go_upto_if 84 with fail
  rw [show decide ((64 : Int) ≤ D) = false from decide_eq_false (by omega)]
  go_wp2_with fail
  have hx3 := other (i := 2) (u := .int .i64 ((p : Int) + 1)) hx hz2.symm
  have hr3 := RdB.set2 (q := p + 1) hW2.out.rd
  have hg3 := grown_trans (grown_of_below (r := some b) hb2) (grown_set _ b 2 (.int .i64 ((p : Int) + 1)))
  have hW3 := hW.out.step hg3 hr3 hpl.out
  refine (IC.out P1 _ hW3).mono ?_
  rintro e w4 ⟨hg4, vi, vk, vp, rfl, hm⟩
  cases R with
  | out => exact absurd rfl hRo.out
  | ok xs q =>
    obtain ⟨cs, hrow, hkids, rfl, hr4⟩ := hm
    obtain ⟨⟨a1, n1, c1, rfl⟩, ⟨a2, n2, c2, rfl⟩, ⟨a3, n3, c3, rfl⟩⟩ := hrow.sl
    have hx4 := (hg4.block _ (ltB hx3) (by intro e; cases e; exact hz2 rfl)).trans hx3
    have hg5 := Lib.hid (grown_trans hg3 hg4)
    have hgs := Lib.hid (ltB hx3)
    clear yc0 yc1 yc2 yc3 yc4 yc5 yc6 yf0 yf1 yf2 yf3 yf4 yf5 yf6 zc0 zc1 zc2 zc3 zc4 zc5 zc6 zf0 zf1 zf2 zf3 zf4 zf5 zf6 x2 f2 hx0 hn0 hg4
    have yc0 := cellB hx4 0 rfl
    have yc1 := cellB hx4 1 rfl
    have yc2 := cellB hx4 2 rfl
    have yc3 := cellB hx4 3 rfl
    have yc4 := cellB hx4 4 rfl
    have yc5 := cellB hx4 5 rfl
    have yc6 := cellB hx4 6 rfl
    have yf0 := freeB hx4 0
    have yf1 := freeB hx4 1
    have yf2 := freeB hx4 2
    have yf3 := freeB hx4 3
    have yf4 := freeB hx4 4
    have yf5 := freeB hx4 5
    have yf6 := freeB hx4 6
    have hx04 := ltB hx4
    replace hrow := Lib.hid hrow
    replace hkids := Lib.hid hkids
    replace hr4 := Lib.hid hr4
    go_wp2_with fail
    obtain ⟨e1, e2, e3⟩ := rd_end hx4 hg5.out hr4.out hz2 (Nat.le_refl _) (.int .i64 5) (.int .i64 (P1 : Int)) (.bool false) (.string ⟨#[]⟩) (.slice a1 n1 c1) (.slice a2 n2 c2) (.slice a3 n3 c3)
    exact bodyPost_ret (results_cell_row rfl _ _ w.heap.size 33 _ (0, 0) _ rfl e1 Tryz.underlying33 rfl info7) rfl ⟨e2, _, rfl, own_obj hrow.out hkids.out hgs.out (set7_grown _ _ _ _ _ _ _ _ _), e3⟩
  | err k pl2 =>
    obtain ⟨⟨⟨a1, n1, c1, rfl⟩, ⟨a2, n2, c2, rfl⟩, ⟨a3, n3, c3, rfl⟩⟩, q, hq, hr4⟩ := hm
    have hx4 := (hg4.block _ (ltB hx3) (by intro e; cases e; exact hz2 rfl)).trans hx3
    have hg5 := Lib.hid (grown_trans hg3 hg4)
    clear yc0 yc1 yc2 yc3 yc4 yc5 yc6 yf0 yf1 yf2 yf3 yf4 yf5 yf6 zc0 zc1 zc2 zc3 zc4 zc5 zc6 zf0 zf1 zf2 zf3 zf4 zf5 zf6 x2 f2 hx0 hn0 hg4
    have yc0 := cellB hx4 0 rfl
    have yc1 := cellB hx4 1 rfl
    have yc2 := cellB hx4 2 rfl
    have yc3 := cellB hx4 3 rfl
    have yc4 := cellB hx4 4 rfl
    have yc5 := cellB hx4 5 rfl
    have yc6 := cellB hx4 6 rfl
    have yf0 := freeB hx4 0
    have yf1 := freeB hx4 1
    have yf2 := freeB hx4 2
    have yf3 := freeB hx4 3
    have yf4 := freeB hx4 4
    have yf5 := freeB hx4 5
    have yf6 := freeB hx4 6
    have hx04 := ltB hx4
    replace hr4 := Lib.hid hr4
    go_wp2_with fail
    obtain ⟨e1, e2, e3⟩ := rd_end hx4 hg5.out hr4.out hz2 (Nat.le_refl _) (.int .i64 5) (.int .i64 (P1 : Int)) (.bool false) (.string ⟨#[]⟩) (.slice a1 n1 c1) (.slice a2 n2 c2) (.slice a3 n3 c3)
    exact bodyPost_ret (results_cell_row rfl _ _ w.heap.size 33 _ (0, 0) _ rfl e1 Tryz.underlying33 rfl info7) rfl ⟨e2, 5, P1, false, noS, _, _, _, q, rfl, ⟨⟨_, _, _, rfl⟩, ⟨_, _, _, rfl⟩, ⟨_, _, _, rfl⟩⟩, hq, e3⟩
/-- value, at every fuel. -/
theorem rvalue_calls {base : Nat} {v : Value} {ts : List Tk} (s : ByteArray) (hbd : ∀ T ∈ ts, T.fr ≤ T.to ∧ T.to ≤ s.size) (hl : ts.length ≤ 1048577) : ∀ f, RVC base s v ts f := by
  intro f
  induction f using Nat.strongRecOn with
  | ind f ih =>
    intro deep p pl b w hout hd hW
    cases f with
    | zero => exact absurd (by rw [pV]) hout
    | succ f =>
      rw [pV] at hout ⊢
      by_cases k1 : kindT ts p = 1
      · rw [if_pos k1]; exact rvalue_null s p pl b _ w hW k1
      rw [if_neg k1] at hout ⊢
      by_cases k2 : kindT ts p = 2
      · rw [if_pos k2]; exact rvalue_flag2 s p pl b _ w hW k2
      rw [if_neg k2] at hout ⊢
      by_cases k3 : kindT ts p = 3
      · rw [if_pos k3]; exact rvalue_flag3 s p pl b _ w hW k3
      rw [if_neg k3] at hout ⊢
      by_cases k4 : kindT ts p = 4
      · rw [if_pos k4]; exact rvalue_num s p pl b _ w hbd hW k4
      rw [if_neg k4] at hout ⊢
      by_cases k5 : kindT ts p = 5
      · rw [if_pos k5]; exact rvalue_text s p pl b _ w hbd hW k5
      rw [if_neg k5] at hout ⊢
      by_cases k8 : kindT ts p = 8
      · rw [if_pos k8] at hout ⊢
        by_cases hd64 : deep = 64
        · subst hd64
          rw [if_pos rfl]
          exact rvalue_deep8 s p pl b w hW k8
        · rw [if_neg hd64] at hout ⊢
          generalize hR : (if kindT ts (p + 1) = 9 then PR.ok [] (p + 2) else pI s ts f deep (p + 1)) = R at hout ⊢
          have h1 := rvalue_lst s f (fun f' h => ih f' (Nat.lt_succ_of_lt h)) deep p pl b w hW (by omega) hl k8 R hR.symm (fun h => hout (by rw [h]))
          cases R <;> exact h1
      rw [if_neg k8] at hout ⊢
      by_cases k6 : kindT ts p = 6
      · rw [if_pos k6] at hout ⊢
        by_cases hd64 : deep = 64
        · subst hd64
          rw [if_pos rfl]
          exact rvalue_deep6 s p pl b w hW k6
        · rw [if_neg hd64] at hout ⊢
          generalize hR : (if kindT ts (p + 1) = 7 then PR.ok [] (p + 2) else pM s ts f deep [] (p + 1)) = R at hout ⊢
          have h1 := rvalue_obj s f (fun f' h => ih f' (Nat.lt_succ_of_lt h)) deep p pl b w hW (by omega) hl k6 R hR.symm (fun h => hout (by rw [h]))
          cases R <;> exact h1
      rw [if_neg k6] at hout ⊢
      exact rvalue_bad s p pl b _ _ w hW rfl k1 k2 k3 k4 k5 k6 k8

end Go.Proofs.YtibopkodoidjoaaGreatDoor

/- Package tree: format of a list and of an object. -/
namespace Go.Proofs.YtibopkodoidjoaaGreatDoor
open Go Go.RowKit

theorem new2 (w : World) (a b : Obj) : ((w.alloc a).alloc b).heap[w.heap.size + 1]? = some b := by
  have := heap_alloc_new (w.alloc a) b
  simpa using this
theorem old2 (w : World) (a b : Obj) : ((w.alloc a).alloc b).heap[w.heap.size]? = some a := by
  rw [Below.heap_alloc _ _ _ (by simp)]
  exact heap_alloc_new w a
/-- A box that the call made, behind a write to a list of bytes that is not that box. -/
theorem box_row {w w' : World} {g : Nat} {o : Option Nat} {x : Obj} (h : w.heap[g]? = some x) (hg : w.grownBy w' o) (hne : o ≠ some g) : w'.heap[g]? = some x := (hg.block g (ltB h) (fun e => hne e.symm)).trans h
set_option maxHeartbeats 2000000 in
set_option maxRecDepth 100000 in
theorem fmt_lst {A : Nat → Addr} {B : Nat} {w0 : World} (lo hi p : Nat) (vr : Value) (cs : List Kid) (hr : w0.ownsRow lo 24 1 vr cs.length (cs.map Kid.u)) (hb0 : ∀ k, vr.ownBlock = some k → k < hi)
    (hk : ∀ c ∈ cs, c.fits lo hi vr.ownBlock) (ih : ∀ c ∈ cs, FmtC A B w0 c.l c.h c.u c.x) : FmtC A B w0 lo hi (.iface 98 (.agg #[.int .i64 (p : Int), vr])) (.lst p (cs.map Kid.x)) := by
  intro w base v l hw hE hh hb hB ho hl hA
  rw [fmtN] at hl ⊢
  have hr1 : w.ownsRow lo 24 1 vr cs.length (cs.map Kid.u) := ownsRow_heap hr (fun k e => hw k (hr.lt k e).1 (hb0 k e))
  obtain ⟨n, hn⟩ : ∃ n, n = cs.length := ⟨_, rfl⟩
  obtain ⟨xs, hxs⟩ : ∃ xs, xs = cs.map Kid.x := ⟨_, rfl⟩
  have hA' : allL smallT xs := by rw [hxs]; exact hA
  rw [← hxs] at hl ⊢
  rw [← hn] at hr1
  rw [List.length_cons, List.length_append, List.length_singleton] at hl
  have hpre := Lib.hid (fmtL_pre xs)
  have htk := Lib.hid (fun k x (h : xs[k]? = some x) => fmtL_take h)
  have hall : xs.take n = xs := List.take_of_length_le (by rw [hxs, hn]; simp)
  replace hall := Lib.hid hall
  have hF : ∃ a c, vr = .slice a n c := by
    obtain ⟨a, c, h⟩ := rowForm hr1
    exact ⟨a, c, h⟩
  obtain ⟨va, vc, rfl⟩ := hF
  have hnm : n ≤ maxLen := by
    rcases rowForm2 hr1 with ⟨h, _⟩ | ⟨g, cap, h, _, _, h1, h2⟩
    · omega
    · omega
  unfold maxLen at hnm
  have hnI : (n : Int) ≤ 9223372036854775807 := by omega
  replace hr1 := Lib.hid hr1
  replace hw := Lib.hid hw
  replace ho := Lib.hid ho
  replace hA := Lib.hid hA'
  replace hn := Lib.hid hn
  replace hxs := Lib.hid hxs
  replace hl := Lib.hid hl
  clear hA'
  go_enter Tryz.func39, Tryz.ntmps39
  go_wp2_with (at_builtin; refine app_lit rfl _ _ rfl base v l rfl ((ho.out.alloc _).alloc _) _ 1 1 _ _ _ [91] rfl (new2 w _ _) rfl rfl (by have := hl.out; omega) (by simp; omega) ?_)
  intro v1 w1 ho1 hg1
  have hB1 : FB base w w1 := (((FB.refl base w).alloc hb _).alloc (by simp; omega) _).row ((ho.out.alloc _).alloc _) hg1 (by simp; omega)
  have hvb : v.ownBlock ≠ some w.heap.size := fun e => by have := (World.ownsRow.lt ho.out _ e).2; omega
  have t1 : w1.heap[w.heap.size]? = some (.cells #[.int .i64 (p : Int), .slice va n vc] 98 (0, 0)) := box_row (old2 w _ _) hg1 hvb
  have y0 := cellB t1 1 rfl
  have hz1 := hB1.size
  have hzb : base ≤ w1.heap.size := by omega
  have hz : w.heap.size < w1.heap.size := ltB t1
  clear hg1 hvb
  replace t1 := Lib.hid t1
  replace ho1 := Lib.hid ho1
  go_wp2_with fail
  go_loopw [0, 51] (fun v0 v51 wr => ∃ k : Nat, k ≤ n ∧ v51 = .int .i64 (k : Int) ∧ Hid (OwnB wr base v0 (l ++ 91 :: fmtL true (xs.take k))) ∧ FB base w wr) (fun _ v _ => n - (intOf v).toNat)
  case atStart => exact ⟨0, Nat.zero_le _, rfl, Lib.hid (by rw [List.take_zero, fmtL]; exact ho1.out), hB1⟩
  case round =>
    obtain ⟨k, hkn, rfl, hoR, hBr⟩ := hrel
    have hzr := hBr.size
    clear hB1 ho1 hz1 hzb hz y0
    have hbr : base ≤ wr.heap.size := by omega
    by_cases hlt : k < n
    · have hltI : (k : Int) < (n : Int) := by omega
      obtain ⟨c, hc⟩ : ∃ c, cs[k]? = some c := ⟨cs[k]'(by rw [← hn.out]; exact hlt), List.getElem?_eq_getElem _⟩
      have hcm := List.mem_of_getElem? hc
      have hcx : xs[k]? = some c.x := by rw [hxs.out, List.getElem?_map, hc]; rfl
      have hcu : (cs.map Kid.u)[k]? = some c.u := by rw [List.getElem?_map, hc]; rfl
      have ihc := Lib.hid (ih c hcm)
      have hcf := hk c hcm
      have hAc := Lib.hid (allL_mem hA.out c.x (List.mem_of_getElem? hcx))
      have htk1 := htk.out k c.x hcx
      have hp1 := hpre.out (k + 1)
      rw [htk1] at hp1
      obtain ⟨g, rfl⟩ : ∃ g, va = some ⟨g, 0, none⟩ := by
        rcases rowForm2 hr1.out with ⟨h, _⟩ | ⟨g, cap, h, _⟩
        · omega
        · cases h; exact ⟨g, rfl⟩
      have hagree : Hid (∀ w', FB base w w' → ∀ j, c.l ≤ j → j < c.h → w'.heap[j]? = w0.heap[j]?) := Lib.hid (fun w' h j a b => (h.bel.block j (by have := hcf.2.2.1; omega)).trans (hw.out j (Nat.le_trans hcf.1 a) (Nat.lt_of_lt_of_le b hcf.2.2.1)))
      have hrow : wr.cell? ⟨g, k, none⟩ = some c.u := by
        refine rowCells (ownsRow_heap hr1.out fun j e => hBr.bel.block j ?_) hcu
        have := hb0 j e
        omega
      have hch : c.h ≤ base := Nat.le_trans hcf.2.2.1 hh
      have hEr := Lib.hid (hE.below (hBr.bel.mono hB))
      generalize c.u = cu at *
      generalize c.x = cx at *
      replace hcf := Lib.hid hcf
      replace hc := Lib.hid hc
      replace hcx := Lib.hid hcx
      replace hcu := Lib.hid hcu
      by_cases h0 : k = 0
      · subst h0
        rw [if_pos rfl] at htk1 hp1
        have hq : Hid ((l ++ 91 :: fmtL true (xs.take 0)).length + (fmtN cx).length ≤ 140737488355328) := Lib.hid (by
          rw [List.length_append] at hp1
          simp only [List.nil_append] at hp1
          rw [List.length_append, List.length_cons]
          have := hl.out
          omega)
        replace htk1 := Lib.hid htk1
        replace hp1 := Lib.hid hp1
        go_wp2_with fail
        refine (ihc.out _ base _ _ (hagree.out _ hBr) hEr.out hch hbr hB hoR.out hq.out hAc.out).mono ?_
        rintro e w4 ⟨v4, rfl, ho4, hb4⟩
        have hB4 := hBr.trans hb4
        replace ho4 := Lib.hid ho4
        clear hb4
        go_wp2_with fail
        go_roundw
        case measure => simp [intOf]; omega
        case rel => exact ⟨1, by omega, rfl, Lib.hid (by rw [htk1.out]; have := ho4.out; simpa using this), hB4⟩
      · rw [if_neg h0] at htk1 hp1
        have h0I : (0 : Int) < (k : Int) := by omega
        have hq : Hid ((l ++ 91 :: fmtL true (xs.take k) ++ [44]).length + (fmtN cx).length ≤ 140737488355328) := Lib.hid (by
          rw [List.length_append, List.length_append] at hp1
          rw [List.length_append, List.length_append, List.length_cons]
          have := hl.out
          omega)
        replace htk1 := Lib.hid htk1
        replace hp1 := Lib.hid hp1
        go_wp2_with (at_builtin; refine app_lit rfl _ _ rfl base _ _ rfl (hoR.out.alloc _) _ 1 1 _ _ _ [44] rfl (heap_alloc_new _ _) rfl rfl (by have := hq.out; rw [List.length_append] at this; simp only [List.length_singleton] at this; omega) (by simp; omega) ?_)
        intro v3 w3 ho3 hg3
        have hB3 : FB base w w3 := (hBr.alloc hbr _).row (hoR.out.alloc _) hg3 (by simp; omega)
        have hz3 := hB3.size
        clear hg3
        replace ho3 := Lib.hid ho3
        have hE3 := Lib.hid (hE.below (hB3.bel.mono hB))
        go_wp2_with fail
        refine (ihc.out _ base _ _ (hagree.out _ hB3) hE3.out hch (by omega) hB ho3.out (by have := hq.out; simp only [List.length_append, List.length_cons] at this ⊢; omega) hAc.out).mono ?_
        rintro e w4 ⟨v4, rfl, ho4, hb4⟩
        have hB4 := hB3.trans hb4
        replace ho4 := Lib.hid ho4
        clear hb4
        go_wp2_with fail
        go_roundw
        case measure => simp [intOf]; omega
        case rel => exact ⟨k + 1, by omega, by go_num, Lib.hid (by rw [htk1.out]; have := ho4.out; simpa using this), hB4⟩
    · obtain rfl : k = n := by omega
      have hlt' : ¬ (k : Int) < (k : Int) := by omega
      go_wp2_with (at_builtin; refine app_lit rfl _ _ rfl base _ _ rfl (hoR.out.alloc _) _ 1 1 _ _ _ [93] rfl (heap_alloc_new _ _) rfl rfl (by rw [hall.out, List.length_append, List.length_cons]; have := hl.out; omega) (by simp; omega) ?_)
      intro v3 w3 ho3 hg3
      have hB3 : FB base w w3 := (hBr.alloc hbr _).row (hoR.out.alloc _) hg3 (by simp; omega)
      rw [hall.out] at ho3
      clear hg3
      go_wp2_with fail
      go_ret
      exact ⟨v3, rfl, by simpa using ho3, hB3⟩

end Go.Proofs.YtibopkodoidjoaaGreatDoor

/- append of bytes of the call's own, in a region that draws its order. -/
namespace Go.Proofs.YtibopkodoidjoaaGreatDoor
open Go Go.RowKit

theorem step_app_lit {ops : Array Oper} {o : Oper} {a : Act} {w : World} {K : Act → World → Prop} {Q : Exit → Act → World → Prop} {E : Prop}
    (hgd : o.guard = none) (sl x : Operand) (ho : o.op = .call { callee := .builtin .append, args := #[sl, x], argTypes := #[104, 104] }) (base : Nat) (v : Value) (l : List UInt8) (hs : a.eval sl = v) (hown : OwnB w base v l)
    (g k c : Nat) (cs : Array Value) (t : TypeId) (fr : Nat × Nat) (news : List UInt8) (hx : a.eval x = .slice (some ⟨g, 0, none⟩) k c) (hg : w.heap[g]? = some (.cells cs t fr)) (hcs : cs = (u8c news).toArray) (hk : news.length = k)
    (hlen : l.length + k ≤ 140737488355328) (hbase : base ≤ w.heap.size)
    (h : ∀ v' w', OwnB w' base v' (l ++ news) → w.grownBy w' v.ownBlock → K (a.put o.dst v') w') : if Region.wanted o (yielded ops a.tmps) = true then Oper.wp Tryz.prog o a w K Q else E := by
  have hw : Region.wanted o (yielded ops a.tmps) = true := by simp [Region.wanted, hgd]
  rw [if_pos hw]
  obtain ⟨i0, hi, hi2⟩ := Option.map_eq_some_iff.1 infoU8
  simp only [Prod.mk.injEq] at hi2
  refine wp_append_own _ sl x 104 ho base 5 i0 (.int .u8 0) 1 1 Tryz.underlying104 hi hi2.1 hi2.2.1 hi2.2.2 rfl (by decide) v l.length (u8c l) hs hown ⟨g, 0, none⟩ k c (u8c news) hx (by rw [u8c_len]; omega) ?_ ?_ (by unfold maxLen; omega) (by omega) hbase ?_
  · intro j u hj
    have : (⟨g, 0, none⟩ : Addr).add j = ⟨g, j, none⟩ := by simp only [Addr.add, Nat.zero_add]; split <;> simp_all
    rw [this]
    refine cellB hg j ?_
    rw [hcs, List.getElem?_toArray]
    exact hj
  · intro u hu
    obtain ⟨b, _, rfl⟩ := List.mem_map.1 hu
    rfl
  · intro v' w' h1 h2 _
    refine h v' w' ?_ h2
    unfold OwnB
    rw [u8c_append, List.length_append, hk]
    exact h1

end Go.Proofs.YtibopkodoidjoaaGreatDoor

/- Package tree: format of an object. -/
namespace Go.Proofs.YtibopkodoidjoaaGreatDoor
open Go Go.RowKit

theorem flat_get3 : ∀ (cs : List Kid) (j : Nat) (c : Kid) (i : Nat), cs[j]? = some c → i < 3 → (cs.flatMap memC)[j * 3 + i]? = (memC c)[i]?
  | [], j, c, i, h, _ => by simp at h
  | t :: ts, 0, c, i, h, hi => by
    simp at h
    subst h
    rw [List.flatMap_cons, Nat.zero_mul, Nat.zero_add, List.getElem?_append_left (by show i < 3; exact hi)]
  | t :: ts, j + 1, c, i, h, hi => by
    simp at h
    rw [List.flatMap_cons, List.getElem?_append_right (by show 3 ≤ (j + 1) * 3 + i; omega)]
    have : (j + 1) * 3 + i - (memC t).length = j * 3 + i := by show (j + 1) * 3 + i - 3 = _; omega
    rw [this]
    exact flat_get3 ts j c i h hi
theorem rowMem {w : World} {base g n cap : Nat} {cs : List Kid} (h : w.ownsRow base 103 3 (.slice (some ⟨g, 0, none⟩) n cap) n (cs.flatMap memC)) {j : Nat} {c : Kid} (hj : cs[j]? = some c) :
    w.cell? ⟨g, j * 3, none⟩ = some (.string c.key) ∧ w.cell? ⟨g, j * 3 + 1, none⟩ = some (.int .i64 (c.pl : Int)) ∧ w.cell? ⟨g, j * 3 + 2, none⟩ = some c.u := by
  have h0 := flat_get3 cs j c 0 hj (by decide)
  have h1 := flat_get3 cs j c 1 hj (by decide)
  have h2 := flat_get3 cs j c 2 hj (by decide)
  exact ⟨rowCells h h0, rowCells h h1, rowCells h h2⟩
/-- A member lies in block g. -/
def MemHeld (g : Nat) (key : ByteArray) (pl : Nat) (u : Value) (w : World) : Prop := w.heap[g]? = some (.cells #[.string key, .int .i64 (pl : Int), u] 103 (0, 0))
theorem MemHeld.cells {g : Nat} {key : ByteArray} {pl : Nat} {u : Value} {w : World} (h : MemHeld g key pl u w) : w.cell? ⟨g, 0, none⟩ = some (.string key) ∧ w.cell? ⟨g, 2, none⟩ = some u ∧ MemHeld g key pl u w := ⟨cellB h 0 rfl, cellB h 2 rfl, h⟩
theorem MemHeld.drew {g : Nat} {key : ByteArray} {pl : Nat} {u : Value} {w : World} (h : MemHeld g key pl u w) : MemHeld g key pl u w.drew := h
theorem MemHeld.alloc {g : Nat} {key : ByteArray} {pl : Nat} {u : Value} {w : World} (h : MemHeld g key pl u w) (o : Obj) : MemHeld g key pl u (w.alloc o) := box_next h ((Below.refl _ _).alloc (Nat.le_refl _) _)
theorem MemHeld.fb {g base : Nat} {key : ByteArray} {pl : Nat} {u : Value} {w w' : World} (h : MemHeld g key pl u w) (hf : FB base w w') : MemHeld g key pl u w' := hf.keep _ _ h (fun cs fr e => by cases e)
/-- The ':' in a block of its own. -/
abbrev Col : Obj := .cells #[.int .u8 58] 5 (0, 0)
set_option maxHeartbeats 2000000 in
set_option maxRecDepth 100000 in
theorem fmt_obj {A : Nat → Addr} {B : Nat} {w0 : World} (lo hi p : Nat) (vr : Value) (cs : List Kid) (hr : w0.ownsRow lo 103 3 vr cs.length (cs.flatMap memC)) (hb0 : ∀ k, vr.ownBlock = some k → k < hi)
    (hk : ∀ c ∈ cs, c.fits lo hi vr.ownBlock) (hform : ∀ c ∈ cs, ∃ t a, c.u = .iface t a) (ih : ∀ c ∈ cs, FmtC A B w0 c.l c.h c.u c.x) : FmtC A B w0 lo hi (.iface 101 (.agg #[.int .i64 (p : Int), vr])) (.obj p (cs.map Kid.mem)) := by
  intro w base v l hw hE hh hb hB ho hl hA
  rw [fmtN] at hl ⊢
  have hr1 : w.ownsRow lo 103 3 vr cs.length (cs.flatMap memC) := ownsRow_heap hr (fun k e => hw k (hr.lt k e).1 (hb0 k e))
  obtain ⟨n, hn⟩ : ∃ n, n = cs.length := ⟨_, rfl⟩
  obtain ⟨xs, hxs⟩ : ∃ xs, xs = cs.map Kid.mem := ⟨_, rfl⟩
  have hA' : allM smallT xs := by rw [hxs]; exact hA
  rw [← hxs] at hl ⊢
  rw [← hn] at hr1
  rw [List.length_cons, List.length_append, List.length_singleton] at hl
  have hpre := Lib.hid (fmtM_pre xs)
  have htk := Lib.hid (fun k t p x (h : xs[k]? = some (t, p, x)) => fmtM_take h)
  have hall : xs.take n = xs := List.take_of_length_le (by rw [hxs, hn]; simp)
  replace hall := Lib.hid hall
  have hF : ∃ a c, vr = .slice a n c := by
    obtain ⟨a, c, h⟩ := rowForm hr1
    exact ⟨a, c, h⟩
  obtain ⟨va, vc, rfl⟩ := hF
  have hnm : n ≤ maxLen := by
    rcases rowForm2 hr1 with ⟨h, _⟩ | ⟨g, cap, h, _, _, h1, h2⟩
    · omega
    · omega
  unfold maxLen at hnm
  have hnI : (n : Int) ≤ 9223372036854775807 := by omega
  replace hr1 := Lib.hid hr1
  replace hw := Lib.hid hw
  replace ho := Lib.hid ho
  replace hA := Lib.hid hA'
  replace hn := Lib.hid hn
  replace hxs := Lib.hid hxs
  replace hl := Lib.hid hl
  clear hA'
  go_enter Tryz.func39, Tryz.ntmps39
  go_wp2_with (at_builtin; refine app_lit rfl _ _ rfl base v l rfl ((ho.out.alloc _).alloc _) _ 1 1 _ _ _ [123] rfl (new2 w _ _) rfl rfl (by have := hl.out; omega) (by simp; omega) ?_)
  intro v1 w1 ho1 hg1
  have hB1 : FB base w w1 := (((FB.refl base w).alloc hb _).alloc (by simp; omega) _).row ((ho.out.alloc _).alloc _) hg1 (by simp; omega)
  have hvb : v.ownBlock ≠ some w.heap.size := fun e => by have := (World.ownsRow.lt ho.out _ e).2; omega
  have t1 : w1.heap[w.heap.size]? = some (.cells #[.int .i64 (p : Int), .slice va n vc] 101 (0, 0)) := box_row (old2 w _ _) hg1 hvb
  have y0 := cellB t1 1 rfl
  have hz1 := hB1.size
  have hzb : base ≤ w1.heap.size := by omega
  have hz : w.heap.size < w1.heap.size := ltB t1
  clear hg1 hvb
  replace t1 := Lib.hid t1
  replace ho1 := Lib.hid ho1
  go_wp2_with fail
  go_loopw [0, 77] (fun v0 v77 wr => ∃ k : Nat, k ≤ n ∧ v77 = .int .i64 (k : Int) ∧ Hid (OwnB wr base v0 (l ++ 123 :: fmtM true (xs.take k))) ∧ FB base w wr) (fun _ v _ => n - (intOf v).toNat)
  case atStart => exact ⟨0, Nat.zero_le _, rfl, Lib.hid (by rw [List.take_zero, fmtM]; exact ho1.out), hB1⟩
  case round =>
    obtain ⟨k, hkn, rfl, hoR, hBr⟩ := hrel
    have hzr := hBr.size
    clear hB1 ho1 hz1 hzb hz y0
    have hbr : base ≤ wr.heap.size := by omega
    by_cases hlt : k < n
    · have hltI : (k : Int) < (n : Int) := by omega
      obtain ⟨c, hc⟩ : ∃ c, cs[k]? = some c := ⟨cs[k]'(by rw [← hn.out]; exact hlt), List.getElem?_eq_getElem _⟩
      have hcm := List.mem_of_getElem? hc
      have hcx : xs[k]? = some (c.key, c.pl, c.x) := by rw [hxs.out, List.getElem?_map, hc]; rfl
      have ihc := Lib.hid (ih c hcm)
      have hcf := hk c hcm
      have hA2 := allM_mem hA.out _ (List.mem_of_getElem? hcx)
      have hAk := Lib.hid (show c.key.size ≤ 3518437208882 from hA2.1)
      have hAc := Lib.hid hA2.2
      clear hA2
      have htk1 := htk.out k _ _ _ hcx
      have hp1 := hpre.out (k + 1)
      rw [htk1] at hp1
      obtain ⟨g, rfl⟩ : ∃ g, va = some ⟨g, 0, none⟩ := by
        rcases rowForm2 hr1.out with ⟨h, _⟩ | ⟨g, cap, h, _⟩
        · omega
        · cases h; exact ⟨g, rfl⟩
      have hagree : Hid (∀ w', FB base w w' → ∀ j, c.l ≤ j → j < c.h → w'.heap[j]? = w0.heap[j]?) := Lib.hid (fun w' h j a b => (h.bel.block j (by have := hcf.2.2.1; omega)).trans (hw.out j (Nat.le_trans hcf.1 a) (Nat.lt_of_lt_of_le b hcf.2.2.1)))
      have hrow := rowMem (ownsRow_heap hr1.out fun j e => hBr.bel.block j (by have := hb0 j e; omega)) hc
      obtain ⟨q0, q1, q2⟩ := hrow
      have hch : c.h ≤ base := Nat.le_trans hcf.2.2.1 hh
      have hEr := Lib.hid (hE.below (hBr.bel.mono hB))
      obtain ⟨ut, ua, hu⟩ := hform c hcm
      rw [hu] at q2 ihc
      replace hu := Lib.hid hu
      generalize c.x = cx at *
      generalize c.key = key at *
      generalize c.pl = pl at *
      replace hcf := Lib.hid hcf
      replace hc := Lib.hid hc
      replace hcx := Lib.hid hcx
      by_cases h0 : k = 0
      · subst h0
        rw [if_pos rfl] at htk1 hp1
        have hq : Hid ((l ++ 123 :: fmtM true (xs.take 0) ++ qN key ++ [58]).length + (fmtN cx).length ≤ 140737488355328) := Lib.hid (by
          rw [List.length_append] at hp1
          simp only [List.nil_append, List.length_append, List.length_cons] at hp1
          simp only [List.length_append, List.length_cons, List.length_nil]
          have := hl.out
          omega)
        replace htk1 := Lib.hid htk1
        replace hp1 := Lib.hid hp1
        have hMX : MemHeld wr.heap.size key pl (.iface ut ua) (wr.alloc (.cells #[.string key, .int .i64 (pl : Int), .iface ut ua] 103 (0, 0))) := heap_alloc_new wr _
        have hoX : Hid (OwnB (wr.alloc (.cells #[.string key, .int .i64 (pl : Int), .iface ut ua] 103 (0, 0))) base u0 (l ++ 123 :: fmtM true (xs.take 0))) := Lib.hid (hoR.out.alloc _)
        have hBX : FB base w (wr.alloc (.cells #[.string key, .int .i64 (pl : Int), .iface ut ua] 103 (0, 0))) := hBr.alloc hbr _
        go_wp2_with fail
        generalize wr.alloc (.cells #[.string key, .int .i64 (pl : Int), .iface ut ua] 103 (0, 0)) = X at *
        have QC : Hid (∀ W, OwnB W base u0 (l ++ 123 :: fmtM true (xs.take 0)) → Env A B SU W → base ≤ W.heap.size → Calls Tryz.prog 70 #[u0, .string key] W (fun e w' => OutR base W (l ++ 123 :: fmtM true (xs.take 0) ++ qN key) e w' ∧ W.grownBy w' (u0).ownBlock)) := Lib.hid (fun W h1 h2 h3 => quoted_calls key u0 _ W h2 h1 h3 hAk.out (by have := hq.out; simp only [List.length_append, List.length_cons] at this ⊢; omega))
        have AP : Hid (∀ x : Nat, x = (l ++ 123 :: fmtM true (xs.take 0) ++ qN key).length → x + 1 ≤ 140737488355328) := Lib.hid (fun x hx => by have := hq.out; simp only [List.length_append, List.length_cons, List.length_nil] at this hx; omega)
        have hlv : Hid (∀ k, (u0).ownBlock = some k → k < X.heap.size) := Lib.hid (fun k e => (World.ownsRow.lt hoX.out k e).2)
        have hsX := hBX.size
        have hbX : base ≤ X.heap.size := by omega
        have hEX : Hid (∀ W, FB base X W → Env A B SU W) := Lib.hid (fun W h => hE.below ((hBX.trans h).bel.mono hB))
        have hXd : FB base X X.drew := FB.ofB (below_drewN (Below.refl _ _) 1) hbX
        have hXc : FB base X (X.alloc Col).drew := (FB.alloc (FB.refl _ _) hbX Col).trans (FB.ofB (below_drewN (Below.refl _ _) 1) (by simp; omega))
        have hbXd : base ≤ X.drew.heap.size := hbX
        have hbXc : base ≤ (X.alloc Col).drew.heap.size := by have := hXc.size; omega
        have hoXd : Hid (OwnB X.drew base u0 (l ++ 123 :: fmtM true (xs.take 0))) := Lib.hid (hoX.out.next (below_drewN (Below.refl _ _) 1))
        have hoXc : Hid (OwnB (X.alloc Col).drew base u0 (l ++ 123 :: fmtM true (xs.take 0))) := Lib.hid ((OwnB.alloc hoX.out Col).next (below_drewN (Below.refl _ _) 1))
        go_wp2_with fail
        go_region_held3 (fun w' => w'.cell? ⟨wr.heap.size, 0, none⟩ = some (.string key) ∧ w'.cell? ⟨wr.heap.size, 2, none⟩ = some (.iface ut ua) ∧ MemHeld wr.heap.size key pl (.iface ut ua) w') (first | exact MemHeld.cells ‹_› | exact MemHeld.cells (MemHeld.alloc ‹_› _) | exact MemHeld.cells (MemHeld.alloc hMX _).drew | exact MemHeld.cells hMX.drew) (first
          | (go_at_call 70; (with_reducible refine (QC.out X.drew hoXd.out (hEX.out _ hXd) hbXd).mono ?_); rintro e w5 ⟨⟨v5, rfl, ho5, hF5⟩, hG5⟩; have hM5 := MemHeld.fb hMX.drew hF5; have hz5 := FB.size hF5; have hF5' := hXd.trans hF5)
          | (go_at_call 70; (with_reducible refine (QC.out (X.alloc Col).drew hoXc.out (hEX.out _ hXc) hbXc).mono ?_); rintro e w5 ⟨⟨v5, rfl, ho5, hF5⟩, hG5⟩; have hM5 := MemHeld.fb (MemHeld.alloc hMX Col).drew hF5; have hz5 := FB.size hF5; have hlit := box_row (show (X.alloc Col).drew.heap[X.heap.size]? = some Col from heap_alloc_new X Col) hG5 (fun e => by have := hlv.out _ e; omega); have hF5' := hXc.trans hF5)
          | (refine step_app_lit rfl _ _ rfl base v5 (l ++ 123 :: fmtM true (xs.take 0) ++ qN key) rfl (ho5.alloc Col) w5.heap.size 1 1 #[.int .u8 58] 5 (0, 0) [58] rfl (heap_alloc_new w5 _) rfl rfl (AP.out _ rfl) (by have := FB.size hF5'; simp; omega) ?_; intro v6 w6 ho6 hg6; have hF6 := FB.row (FB.alloc hF5' (by have := FB.size hF5'; omega) Col) (ho5.alloc Col) hg6 (by have := FB.size hF5'; simp; omega); have hM6 := MemHeld.fb hMX hF6)
          | (refine step_app_lit rfl _ _ rfl base v5 (l ++ 123 :: fmtM true (xs.take 0) ++ qN key) rfl ho5 X.heap.size 1 1 #[.int .u8 58] 5 (0, 0) [58] rfl hlit rfl rfl (AP.out _ rfl) (by have := FB.size hF5'; omega) ?_; intro v6 w6 ho6 hg6; have hF6 := FB.row hF5' ho5 hg6 (by have := FB.size hF5'; omega); have hM6 := MemHeld.fb hMX hF6)
          | (go_at_call 39; have hz6 : base ≤ w6.heap.size := Nat.le_trans hbX (FB.size hF6); have Q := ihc.out w6 base v6 _ (hagree.out _ (hBX.trans hF6)) (hEX.out _ hF6) hch hz6 hB ho6 hq.out hAc.out; (with_reducible refine Q.mono ?_); rintro e w7 ⟨v7, rfl, ho7, hF7⟩; have hM7 := MemHeld.fb hM6 hF7; have hB7 := (hBX.trans hF6).trans hF7; replace ho7 := Lib.hid ho7))
        all_goals
          go_wp2_with fail
          go_roundw
          case measure => simp [intOf]; omega
          case rel => exact ⟨1, by omega, rfl, Lib.hid (by rw [htk1.out]; have := ho7.out; simpa using this), hB7⟩
      · rw [if_neg h0] at htk1 hp1
        have h0I : (0 : Int) < (k : Int) := by omega
        have hq : Hid ((l ++ 123 :: fmtM true (xs.take k) ++ [44] ++ qN key ++ [58]).length + (fmtN cx).length ≤ 140737488355328) := Lib.hid (by
          rw [List.length_append] at hp1
          simp only [List.length_append, List.length_cons, List.length_nil] at hp1
          simp only [List.length_append, List.length_cons, List.length_nil]
          have := hl.out
          omega)
        replace htk1 := Lib.hid htk1
        replace hp1 := Lib.hid hp1
        have hvb2 : ∀ k, u0.ownBlock = some k → k < wr.heap.size := fun k e => (World.ownsRow.lt hoR.out k e).2
        go_wp2_with (at_builtin; refine app_lit rfl _ _ rfl base _ _ rfl ((hoR.out.alloc _).alloc _) _ 1 1 _ _ _ [44] rfl (new2 wr _ _) rfl rfl (by have := hq.out; simp only [List.length_append, List.length_cons, List.length_nil] at this ⊢; omega) (by simp; omega) ?_)
        intro v3 X ho3 hg3
        have hBX : FB base w X := ((hBr.alloc hbr _).alloc (by simp; omega) _).row ((hoR.out.alloc _).alloc _) hg3 (by simp; omega)
        have hMX : MemHeld wr.heap.size key pl (.iface ut ua) X := box_row (old2 wr _ _) hg3 (fun e => by have := hvb2 _ e; omega)
        have hoX : Hid (OwnB X base v3 (l ++ 123 :: fmtM true (xs.take k) ++ [44])) := Lib.hid (by simpa using ho3)
        clear hg3 ho3 hvb2
        have QC : Hid (∀ W, OwnB W base v3 (l ++ 123 :: fmtM true (xs.take k) ++ [44]) → Env A B SU W → base ≤ W.heap.size → Calls Tryz.prog 70 #[v3, .string key] W (fun e w' => OutR base W (l ++ 123 :: fmtM true (xs.take k) ++ [44] ++ qN key) e w' ∧ W.grownBy w' (v3).ownBlock)) := Lib.hid (fun W h1 h2 h3 => quoted_calls key v3 _ W h2 h1 h3 hAk.out (by have := hq.out; simp only [List.length_append, List.length_cons] at this ⊢; omega))
        have AP : Hid (∀ x : Nat, x = (l ++ 123 :: fmtM true (xs.take k) ++ [44] ++ qN key).length → x + 1 ≤ 140737488355328) := Lib.hid (fun x hx => by have := hq.out; simp only [List.length_append, List.length_cons, List.length_nil] at this hx; omega)
        have hlv : Hid (∀ k, (v3).ownBlock = some k → k < X.heap.size) := Lib.hid (fun k e => (World.ownsRow.lt hoX.out k e).2)
        have hsX := hBX.size
        have hbX : base ≤ X.heap.size := by omega
        have hEX : Hid (∀ W, FB base X W → Env A B SU W) := Lib.hid (fun W h => hE.below ((hBX.trans h).bel.mono hB))
        have hXd : FB base X X.drew := FB.ofB (below_drewN (Below.refl _ _) 1) hbX
        have hXc : FB base X (X.alloc Col).drew := (FB.alloc (FB.refl _ _) hbX Col).trans (FB.ofB (below_drewN (Below.refl _ _) 1) (by simp; omega))
        have hbXd : base ≤ X.drew.heap.size := hbX
        have hbXc : base ≤ (X.alloc Col).drew.heap.size := by have := hXc.size; omega
        have hoXd : Hid (OwnB X.drew base v3 (l ++ 123 :: fmtM true (xs.take k) ++ [44])) := Lib.hid (hoX.out.next (below_drewN (Below.refl _ _) 1))
        have hoXc : Hid (OwnB (X.alloc Col).drew base v3 (l ++ 123 :: fmtM true (xs.take k) ++ [44])) := Lib.hid ((OwnB.alloc hoX.out Col).next (below_drewN (Below.refl _ _) 1))
        go_wp2_with fail
        go_region_held3 (fun w' => w'.cell? ⟨wr.heap.size, 0, none⟩ = some (.string key) ∧ w'.cell? ⟨wr.heap.size, 2, none⟩ = some (.iface ut ua) ∧ MemHeld wr.heap.size key pl (.iface ut ua) w') (first | exact MemHeld.cells ‹_› | exact MemHeld.cells (MemHeld.alloc ‹_› _) | exact MemHeld.cells (MemHeld.alloc hMX _).drew | exact MemHeld.cells hMX.drew) (first
          | (go_at_call 70; (with_reducible refine (QC.out X.drew hoXd.out (hEX.out _ hXd) hbXd).mono ?_); rintro e w5 ⟨⟨v5, rfl, ho5, hF5⟩, hG5⟩; have hM5 := MemHeld.fb hMX.drew hF5; have hz5 := FB.size hF5; have hF5' := hXd.trans hF5)
          | (go_at_call 70; (with_reducible refine (QC.out (X.alloc Col).drew hoXc.out (hEX.out _ hXc) hbXc).mono ?_); rintro e w5 ⟨⟨v5, rfl, ho5, hF5⟩, hG5⟩; have hM5 := MemHeld.fb (MemHeld.alloc hMX Col).drew hF5; have hz5 := FB.size hF5; have hlit := box_row (show (X.alloc Col).drew.heap[X.heap.size]? = some Col from heap_alloc_new X Col) hG5 (fun e => by have := hlv.out _ e; omega); have hF5' := hXc.trans hF5)
          | (refine step_app_lit rfl _ _ rfl base v5 (l ++ 123 :: fmtM true (xs.take k) ++ [44] ++ qN key) rfl (ho5.alloc Col) w5.heap.size 1 1 #[.int .u8 58] 5 (0, 0) [58] rfl (heap_alloc_new w5 _) rfl rfl (AP.out _ rfl) (by have := FB.size hF5'; simp; omega) ?_; intro v6 w6 ho6 hg6; have hF6 := FB.row (FB.alloc hF5' (by have := FB.size hF5'; omega) Col) (ho5.alloc Col) hg6 (by have := FB.size hF5'; simp; omega); have hM6 := MemHeld.fb hMX hF6)
          | (refine step_app_lit rfl _ _ rfl base v5 (l ++ 123 :: fmtM true (xs.take k) ++ [44] ++ qN key) rfl ho5 X.heap.size 1 1 #[.int .u8 58] 5 (0, 0) [58] rfl hlit rfl rfl (AP.out _ rfl) (by have := FB.size hF5'; omega) ?_; intro v6 w6 ho6 hg6; have hF6 := FB.row hF5' ho5 hg6 (by have := FB.size hF5'; omega); have hM6 := MemHeld.fb hMX hF6)
          | (go_at_call 39; have hz6 : base ≤ w6.heap.size := Nat.le_trans hbX (FB.size hF6); have Q := ihc.out w6 base v6 _ (hagree.out _ (hBX.trans hF6)) (hEX.out _ hF6) hch hz6 hB ho6 hq.out hAc.out; (with_reducible refine Q.mono ?_); rintro e w7 ⟨v7, rfl, ho7, hF7⟩; have hM7 := MemHeld.fb hM6 hF7; have hB7 := (hBX.trans hF6).trans hF7; replace ho7 := Lib.hid ho7))
        all_goals
          go_wp2_with fail
          go_roundw
          case measure => simp [intOf]; omega
          case rel => exact ⟨k + 1, by omega, by go_num, Lib.hid (by rw [htk1.out]; have := ho7.out; simpa using this), hB7⟩
    · obtain rfl : k = n := by omega
      have hlt' : ¬ (k : Int) < (k : Int) := by omega
      go_wp2_with (at_builtin; refine app_lit rfl _ _ rfl base _ _ rfl (hoR.out.alloc _) _ 1 1 _ _ _ [125] rfl (heap_alloc_new _ _) rfl rfl (by rw [hall.out, List.length_append, List.length_cons]; have := hl.out; omega) (by simp; omega) ?_)
      intro v3 w3 ho3 hg3
      have hB3 : FB base w w3 := (hBr.alloc hbr _).row (hoR.out.alloc _) hg3 (by simp; omega)
      rw [hall.out] at ho3
      clear hg3
      go_wp2_with fail
      go_ret
      exact ⟨v3, rfl, by simpa using ho3, hB3⟩
theorem format_calls {A : Nat → Addr} {B : Nat} {w0 : World} {lo hi : Nat} {u : Value} {x : Nd} (h : OwnN w0 lo hi u x) : FmtC A B w0 lo hi u x := by
  induction h with
  | null lo hi p => exact fmt_null lo hi p
  | flag lo hi p b => exact fmt_flag lo hi p b
  | num lo hi p t => exact fmt_num lo hi p t
  | text lo hi p t => exact fmt_text lo hi p t
  | lst lo hi p v cs ho hb hk hp hc ih => exact fmt_lst lo hi p v cs ho hb hk ih
  | obj lo hi p v cs ho hb hk hp hc ih => exact fmt_obj lo hi p v cs ho hb hk (fun c hm => (hc c hm).form) ih
/-- A text's own form, or nothing. -/
def formS (s : ByteArray) : ByteArray := match parseS s with | .ok x _ => ⟨(fmtN x).toArray⟩ | _ => ⟨#[]⟩
/-- What a function answers that parses first: its value, or the zero value and the error. -/
def ErrR (A : Nat → Addr) (lo : Nat) (r : PR Nd) (ok zero : Value) (e : Ending) (w' : World) : Prop := match r with
  | .ok _ _ => e = .returned (.tuple #[ok, .nilIface])
  | .err k pl => ∃ g, lo ≤ g ∧ e = .returned (.tuple #[zero, .iface 69 (.pointer (some ⟨g, 0, none⟩))]) ∧ AtB (pl : Int) (.iface 237 (.pointer (some (A k)))) g w'
  | .out => False
theorem parse_len {s : ByteArray} {x : Nd} {q : Nat} (hs : s.size ≤ 4194304) (h : parseS s = .ok x q) : (fmtN x).length ≤ 140737488355328 := by
  unfold parseS at h
  by_cases h0 : (someS s).2.1 = 0
  · rw [if_pos h0] at h
    obtain ⟨h1, h2⟩ := parse_pV h
    have hO := some_ok (by omega) h0
    obtain ⟨hu, hch, _⟩ := some_chain h0
    have hv0 := (utfE_brk s).1 hu
    have hbd := chain_bd _ 0 hv0 (Nat.zero_le _) hch
    have hlen := chain_len _ 0 hv0 (Nat.zero_le _) hch
    have ht : ∀ T ∈ (someS s).1, T.text.size ≤ s.size := fun T hT => by
      obtain ⟨h1, h2, h3, h4, h5, h6⟩ := hbd T hT
      have h7 := one_fr (by omega) h4 h6
      have := h7.2.2.2.2.1
      omega
    have := (p_len (s := s) (ts := (someS s).1) (m := s.size) (M := 6 * s.size + 8) (Nat.le_refl _) (textT_le ht) (wordT_le (Nat.le_refl _)) _).1 _ _ _ _ h1
    rw [h2] at this
    have h3 := Nat.mul_le_mul (show (someS s).1.length ≤ 4194304 by omega) (show 6 * s.size + 8 ≤ 25165832 by omega)
    omega
  · rw [if_neg h0] at h; cases h
theorem parse_small {s : ByteArray} {x : Nd} {q : Nat} (hs : s.size ≤ 3518437208882) (h : parseS s = .ok x q) : allT smallT x := by
  unfold parseS at h
  by_cases h0 : (someS s).2.1 = 0
  · rw [if_pos h0] at h
    obtain ⟨h1, h2⟩ := parse_pV h
    obtain ⟨hu, hch, _⟩ := some_chain h0
    have hv0 := (utfE_brk s).1 hu
    have hbd := chain_bd _ 0 hv0 (Nat.zero_le _) hch
    have ht : ∀ T ∈ (someS s).1, T.text.size ≤ s.size := fun T hT => by
      obtain ⟨h1, h2, h3, h4, h5, h6⟩ := hbd T hT
      have h7 := one_fr (by omega) h4 h6
      have := h7.2.2.2.2.1
      omega
    exact (p_all (P := smallT) (fun p _ => Nat.le_trans (textT_le ht p) hs) _).1 _ _ _ _ h1
  · rw [if_neg h0] at h; cases h
set_option maxHeartbeats 1000000 in
set_option maxRecDepth 100000 in
theorem Format_len {A : Nat → Addr} {B : Nat} (s : ByteArray) (w : World) (hE : Env A B SVN w) (hs : s.size ≤ 3518437208882) (hL : ∀ x q, parseS s = .ok x q → (fmtN x).length ≤ 140737488355328) :
    Calls Tryz.prog 15 #[.string s] w fun e w' => ErrR A w.heap.size (parseS s) (.string (formS s)) (.string ⟨#[]⟩) e w' ∧ Below w.heap.size w w' := by
  have P := Lib.hid (fun w hE => Parse_calls (A := A) (B := B) s w hE (by omega))
  have hlen := Lib.hid hL
  clear hL
  have hsm := Lib.hid (fun x q => parse_small (s := s) (x := x) (q := q) (by omega))
  have hf : formS s = match parseS s with | .ok x _ => ⟨(fmtN x).toArray⟩ | _ => ⟨#[]⟩ := rfl
  have hBw := hE.hB
  replace hE := Lib.hid hE
  generalize formS s = F at *
  generalize parseS s = R at *
  cases R with
  | out =>
    replace hf := Lib.hid hf
    go_enter Tryz.func15, Tryz.ntmps15
    (go_wp2_with fail; repeat (any_goals (go_quiet (fail); go_wp2_with fail)))
    refine (P.out _ (hE.out.next (by repeat (first | assumption | exact Below.refl _ _ | apply Below.drew | apply below_drewN | apply balloc | (refine Below.setCell ?_ (by first | omega | (simp <;> omega)) _))))).mono ?_
    rintro e w1 ⟨hr, hb⟩
    exact hr.elim
  | err k pl =>
    replace hf := Lib.hid hf
    go_enter Tryz.func15, Tryz.ntmps15
    (go_wp2_with fail; repeat (any_goals (go_quiet (fail); go_wp2_with fail)))
    refine (P.out _ (hE.out.next (by repeat (first | assumption | exact Below.refl _ _ | apply Below.drew | apply below_drewN | apply balloc | (refine Below.setCell ?_ (by first | omega | (simp <;> omega)) _))))).mono ?_
    rintro e w1 ⟨⟨g, hg, rfl, hat⟩, hb⟩
    have hb1 : Below w.heap.size w w1 := bcall (by repeat (first | assumption | exact Below.refl _ _ | apply Below.drew | apply below_drewN | apply balloc | (refine Below.setCell ?_ (by first | omega | (simp <;> omega)) _))) hb
    replace hat := Lib.hid hat
    (go_wp2_with fail; repeat (any_goals (go_quiet (fail); go_wp2_with fail)))
    go_ret2
    exact ⟨⟨g, hg, rfl, hat.out⟩, hb1⟩
  | ok x q =>
    have hlen := Lib.hid (hlen.out x q rfl)
    have hsm := Lib.hid (hsm.out x q rfl)
    replace hf := Lib.hid hf
    go_enter Tryz.func15, Tryz.ntmps15
    (go_wp2_with fail; repeat (any_goals (go_quiet (fail); go_wp2_with fail)))
    refine (P.out _ (hE.out.next (by repeat (first | assumption | exact Below.refl _ _ | apply Below.drew | apply below_drewN | apply balloc | (refine Below.setCell ?_ (by first | omega | (simp <;> omega)) _))))).mono ?_
    rintro e w1 ⟨⟨u, rfl, hN⟩, hb⟩
    have hb1 : Below w.heap.size w w1 := bcall (by repeat (first | assumption | exact Below.refl _ _ | apply Below.drew | apply below_drewN | apply balloc | (refine Below.setCell ?_ (by first | omega | (simp <;> omega)) _))) hb
    have hz := hb1.size
    obtain ⟨ut, ua, rfl⟩ := hN.form
    have FC := Lib.hid (format_calls (A := A) (B := B) hN)
    replace hN := Lib.hid hN
    go_wp2_with fail
    refine (FC.out w1 w1.heap.size _ [] (fun _ _ _ => rfl) ((hE.out.next hb1).sub (by decide)) (Nat.le_refl _) (Nat.le_refl _) (by omega) (OwnB.nil _ _) (by have := hlen.out; simpa using this) hsm.out).mono ?_
    rintro e w2 ⟨v', rfl, ho, hF⟩
    have hcv := conv_own ho
    rw [List.nil_append, ← hf.out] at hcv
    have hb2 : Below w.heap.size w w2 := hb1.trans (hF.bel.mono hz)
    clear ho hF
    go_wp2_with fail
    go_ret2
    exact ⟨rfl, hb2⟩
theorem Format_calls {A : Nat → Addr} {B : Nat} (s : ByteArray) (w : World) (hE : Env A B SVN w) (hs : s.size ≤ 4194304) :
    Calls Tryz.prog 15 #[.string s] w fun e w' => ErrR A w.heap.size (parseS s) (.string (formS s)) (.string ⟨#[]⟩) e w' ∧ Below w.heap.size w w' := Format_len s w hE (by omega) (fun _ _ h => parse_len hs h)

end Go.Proofs.YtibopkodoidjoaaGreatDoor

/- Package tree: kind, names, Name. -/
namespace Go.Proofs.YtibopkodoidjoaaGreatDoor
open Go Go.RowKit

/-- The number of a node's name. -/
def nameN : Nd → Nat
  | .null _ => 0
  | .flag _ _ => 1
  | .num _ _ => 2
  | .text _ _ => 3
  | .lst _ _ => 4
  | .obj _ _ => 5
def nameV : Array Value := #[.string ⟨#[110, 117, 108, 108]⟩, .string ⟨#[102, 108, 97, 103]⟩, .string ⟨#[110, 117, 109, 98, 101, 114]⟩, .string ⟨#[116, 101, 120, 116]⟩, .string ⟨#[108, 105, 115, 116]⟩, .string ⟨#[111, 98, 106, 101, 99, 116]⟩]
def nameS (n : Nat) : ByteArray := match n with | 0 => ⟨#[110, 117, 108, 108]⟩ | 1 => ⟨#[102, 108, 97, 103]⟩ | 2 => ⟨#[110, 117, 109, 98, 101, 114]⟩ | 3 => ⟨#[116, 101, 120, 116]⟩ | 4 => ⟨#[108, 105, 115, 116]⟩ | _ => ⟨#[111, 98, 106, 101, 99, 116]⟩
set_option maxHeartbeats 1000000 in
set_option maxRecDepth 100000 in
theorem kind_calls {w0 : World} {lo hi : Nat} {u : Value} {x : Nd} (h : OwnN w0 lo hi u x) (w : World) :
    Calls Tryz.prog 41 #[u] w fun e w' => e = .returned (.int .i64 (nameN x : Int)) ∧ Below w.heap.size w w' := by
  cases h with
  | null p =>
    go_enter Tryz.func41, Tryz.ntmps41
    (go_wp2_with fail; repeat (any_goals (go_quiet (fail); go_wp2_with fail)))
    go_ret
    exact ⟨rfl, (by repeat (first | assumption | exact Below.refl _ _ | apply Below.drew | apply below_drewN | apply balloc | (refine Below.setCell ?_ (by first | omega | (simp <;> omega)) _)))⟩
  | flag p b =>
    go_enter Tryz.func41, Tryz.ntmps41
    (go_wp2_with fail; repeat (any_goals (go_quiet (fail); go_wp2_with fail)))
    go_ret
    exact ⟨rfl, (by repeat (first | assumption | exact Below.refl _ _ | apply Below.drew | apply below_drewN | apply balloc | (refine Below.setCell ?_ (by first | omega | (simp <;> omega)) _)))⟩
  | num p t =>
    go_enter Tryz.func41, Tryz.ntmps41
    (go_wp2_with fail; repeat (any_goals (go_quiet (fail); go_wp2_with fail)))
    go_ret
    exact ⟨rfl, (by repeat (first | assumption | exact Below.refl _ _ | apply Below.drew | apply below_drewN | apply balloc | (refine Below.setCell ?_ (by first | omega | (simp <;> omega)) _)))⟩
  | text p t =>
    go_enter Tryz.func41, Tryz.ntmps41
    (go_wp2_with fail; repeat (any_goals (go_quiet (fail); go_wp2_with fail)))
    go_ret
    exact ⟨rfl, (by repeat (first | assumption | exact Below.refl _ _ | apply Below.drew | apply below_drewN | apply balloc | (refine Below.setCell ?_ (by first | omega | (simp <;> omega)) _)))⟩
  | lst _ _ p v cs ho hb hk hp hc =>
    clear ho hb hk hp hc
    go_enter Tryz.func41, Tryz.ntmps41
    (go_wp2_with fail; repeat (any_goals (go_quiet (fail); go_wp2_with fail)))
    go_ret
    exact ⟨rfl, (by repeat (first | assumption | exact Below.refl _ _ | apply Below.drew | apply below_drewN | apply balloc | (refine Below.setCell ?_ (by first | omega | (simp <;> omega)) _)))⟩
  | obj _ _ p v cs ho hb hk hp hc =>
    clear ho hb hk hp hc
    go_enter Tryz.func41, Tryz.ntmps41
    (go_wp2_with fail; repeat (any_goals (go_quiet (fail); go_wp2_with fail)))
    go_ret
    exact ⟨rfl, (by repeat (first | assumption | exact Below.refl _ _ | apply Below.drew | apply below_drewN | apply balloc | (refine Below.setCell ?_ (by first | omega | (simp <;> omega)) _)))⟩
set_option maxHeartbeats 1000000 in
theorem names_calls (w : World) : Calls Tryz.prog 40 #[] w fun e w' => e = .returned (.agg nameV) ∧ Below w.heap.size w w' := by
  go_enter Tryz.func40, Tryz.ntmps40
  (go_wp2_with fail; repeat (any_goals (go_quiet (fail); go_wp2_with fail)))
  exact bodyPost_ret (v := .agg nameV) (by simp [results, Tryz.results40, go_sem, nameV]) rfl ⟨rfl, (by repeat (first | assumption | exact Below.refl _ _ | apply Below.drew | apply below_drewN | apply balloc | (refine Below.setCell ?_ (by first | omega | (simp <;> omega)) _)))⟩
theorem name_index (n : Nat) (h : n < 6) (w : World) : (Instr.index 107 (.agg nameV) (.int .i64 (n : Int))).run Tryz.prog w = .ok (.string (nameS n)) w := by
  rcases (show n = 0 ∨ n = 1 ∨ n = 2 ∨ n = 3 ∨ n = 4 ∨ n = 5 by omega) with rfl | rfl | rfl | rfl | rfl | rfl <;> kernel_rfl
theorem nameN_lt (x : Nd) : nameN x < 6 := by cases x <;> simp [nameN]
set_option maxHeartbeats 1000000 in
set_option maxRecDepth 100000 in
theorem Name_calls {A : Nat → Addr} {B : Nat} (s : ByteArray) (w : World) (hE : Env A B SVN w) (hs : s.size ≤ 3518437208882) :
    Calls Tryz.prog 16 #[.string s] w fun e w' => ErrR A w.heap.size (parseS s) (.string (nameS (match parseS s with | .ok x _ => nameN x | _ => 0))) (.string ⟨#[]⟩) e w' ∧ Below w.heap.size w w' := by
  have P := Lib.hid (fun w hE => Parse_calls (A := A) (B := B) s w hE (by omega))
  replace hE := Lib.hid hE
  generalize parseS s = R at *
  cases R with
  | out =>
    go_enter Tryz.func16, Tryz.ntmps16
    (go_wp2_with fail; repeat (any_goals (go_quiet (fail); go_wp2_with fail)))
    refine (P.out _ (hE.out.next (by repeat (first | assumption | exact Below.refl _ _ | apply Below.drew | apply below_drewN | apply balloc | (refine Below.setCell ?_ (by first | omega | (simp <;> omega)) _))))).mono ?_
    rintro e w1 ⟨hr, hb⟩
    exact hr.elim
  | err k pl =>
    go_enter Tryz.func16, Tryz.ntmps16
    (go_wp2_with fail; repeat (any_goals (go_quiet (fail); go_wp2_with fail)))
    refine (P.out _ (hE.out.next (by repeat (first | assumption | exact Below.refl _ _ | apply Below.drew | apply below_drewN | apply balloc | (refine Below.setCell ?_ (by first | omega | (simp <;> omega)) _))))).mono ?_
    rintro e w1 ⟨⟨g, hg, rfl, hat⟩, hb⟩
    have hb1 : Below w.heap.size w w1 := bcall (by repeat (first | assumption | exact Below.refl _ _ | apply Below.drew | apply below_drewN | apply balloc | (refine Below.setCell ?_ (by first | omega | (simp <;> omega)) _))) hb
    replace hat := Lib.hid hat
    (go_wp2_with fail; repeat (any_goals (go_quiet (fail); go_wp2_with fail)))
    go_ret2
    exact ⟨⟨g, hg, rfl, hat.out⟩, hb1⟩
  | ok x q =>
    dsimp only
    have hix := name_index (nameN x) (nameN_lt x)
    have NC := Lib.hid names_calls
    have KC : Hid (∀ w0 lo hi u, OwnN w0 lo hi u x → ∀ w, Calls Tryz.prog 41 #[u] w fun e w' => e = .returned (.int .i64 (nameN x : Int)) ∧ Below w.heap.size w w') := Lib.hid (fun _ _ _ _ h w => kind_calls h w)
    generalize nameN x = n at *
    generalize nameS n = ns at *
    generalize nameV = nv at *
    go_enter Tryz.func16, Tryz.ntmps16
    (go_wp2_with fail; repeat (any_goals (go_quiet (fail); go_wp2_with fail)))
    refine (P.out _ (hE.out.next (by repeat (first | assumption | exact Below.refl _ _ | apply Below.drew | apply below_drewN | apply balloc | (refine Below.setCell ?_ (by first | omega | (simp <;> omega)) _))))).mono ?_
    rintro e w1 ⟨⟨u, rfl, hN⟩, hb⟩
    have hb1 : Below w.heap.size w w1 := bcall (by repeat (first | assumption | exact Below.refl _ _ | apply Below.drew | apply below_drewN | apply balloc | (refine Below.setCell ?_ (by first | omega | (simp <;> omega)) _))) hb
    obtain ⟨ut, ua, rfl⟩ := hN.form
    replace hN := Lib.hid hN
    go_wp2_with fail
    refine (NC.out _).mono ?_
    rintro e w2 ⟨rfl, hb⟩
    have hb2 : Below w.heap.size w w2 := bcall hb1 hb
    clear hb
    go_wp2_with fail
    refine (KC.out _ _ _ _ hN.out _).mono ?_
    rintro e w3 ⟨rfl, hb⟩
    have hb3 : Below w.heap.size w w3 := bcall hb2 hb
    clear hb
    go_wp2_with fail
    go_ret2
    exact ⟨rfl, hb3⟩

end Go.Proofs.YtibopkodoidjoaaGreatDoor

/- Package tree: count, Count. -/
namespace Go.Proofs.YtibopkodoidjoaaGreatDoor
open Go Go.RowKit

def one6 (n : Nat) (i : Nat) : Nat := if i = n then 1 else 0
mutual
/-- How many nodes of each name. -/
def cntN : Nd → Nat → Nat
  | .null _, i => one6 0 i
  | .flag _ _, i => one6 1 i
  | .num _ _, i => one6 2 i
  | .text _ _, i => one6 3 i
  | .lst _ xs, i => one6 4 i + cntL xs i
  | .obj _ xs, i => one6 5 i + cntM xs i
def cntL : List Nd → Nat → Nat
  | [], _ => 0
  | x :: xs, i => cntN x i + cntL xs i
def cntM : List (ByteArray × Nat × Nd) → Nat → Nat
  | [], _ => 0
  | (_, _, x) :: xs, i => cntN x i + cntM xs i
end
mutual
theorem cnt_strip : ∀ (x : Nd) (i : Nat), cntN x.strip i = cntN x i
  | .null _, _ => rfl
  | .flag _ _, _ => rfl
  | .num _ _, _ => rfl
  | .text _ _, _ => rfl
  | .lst _ xs, i => by rw [Nd.strip, cntN, cntN, cntL_strip]
  | .obj _ xs, i => by rw [Nd.strip, cntN, cntN, cntM_strip]
theorem cntL_strip : ∀ (xs : List Nd) (i : Nat), cntL (stripL xs) i = cntL xs i
  | [], _ => by rw [stripL]
  | x :: xs, i => by rw [stripL, cntL, cntL, cnt_strip x, cntL_strip xs]
theorem cntM_strip : ∀ (xs : List (ByteArray × Nat × Nd)) (i : Nat), cntM (stripM xs) i = cntM xs i
  | [], _ => by rw [stripM]
  | (k, p, x) :: xs, i => by rw [stripM, cntM, cntM, cnt_strip x, cntM_strip xs]
end
theorem cntL_app : ∀ (xs ys : List Nd) (i : Nat), cntL (xs ++ ys) i = cntL xs i + cntL ys i
  | [], ys, i => by rw [List.nil_append, cntL, Nat.zero_add]
  | x :: xs, ys, i => by rw [List.cons_append, cntL, cntL, cntL_app xs ys, Nat.add_assoc]
theorem cntM_app : ∀ (xs ys : List (ByteArray × Nat × Nd)) (i : Nat), cntM (xs ++ ys) i = cntM xs i + cntM ys i
  | [], ys, i => by rw [List.nil_append, cntM, Nat.zero_add]
  | (k, p, x) :: xs, ys, i => by rw [List.cons_append, cntM, cntM, cntM_app xs ys, Nat.add_assoc]
/-- The six counts as values. -/
def intsC (f : Nat → Nat) : Array Value := #[.int .i64 (f 0 : Int), .int .i64 (f 1 : Int), .int .i64 (f 2 : Int), .int .i64 (f 3 : Int), .int .i64 (f 4 : Int), .int .i64 (f 5 : Int)]
def CntB (b : Nat) (f : Nat → Nat) (w : World) : Prop := w.heap[b]? = some (.cells (intsC f) 44 (0, 0))
theorem CntB.at {b : Nat} {f : Nat → Nat} {w : World} (h : CntB b f w) {n : Nat} (hn : n < 6) : w.cell? ⟨b, n, none⟩ = some (.int .i64 (f n : Int)) := by
  refine cellB h n ?_
  rcases (show n = 0 ∨ n = 1 ∨ n = 2 ∨ n = 3 ∨ n = 4 ∨ n = 5 by omega) with rfl | rfl | rfl | rfl | rfl | rfl <;> rfl
theorem CntB.inc {b : Nat} {f : Nat → Nat} {w : World} (h : CntB b f w) {n : Nat} (hn : n < 6) : CntB b (fun i => f i + one6 n i) (w.setCell ⟨b, n, none⟩ (.int .i64 ((f n : Int) + 1))) := by
  unfold CntB at h ⊢
  rw [Lib.heap_setCell_same (i := n) h]
  rcases (show n = 0 ∨ n = 1 ∨ n = 2 ∨ n = 3 ∨ n = 4 ∨ n = 5 by omega) with rfl | rfl | rfl | rfl | rfl | rfl <;> simp [intsC, one6]
theorem CntB.grown {b : Nat} {f : Nat → Nat} {w w' : World} (h : CntB b f w) (hb : Below w.heap.size w w') : CntB b f w' := box_next h hb
theorem CntB.congr {b : Nat} {f g : Nat → Nat} {w : World} (h : CntB b f w) (e : ∀ i, g i = f i) : CntB b g w := by
  have : g = f := funext e
  rw [this]; exact h
set_option maxHeartbeats 1000000 in
set_option maxRecDepth 100000 in
theorem kind_same {w0 : World} {lo hi : Nat} {u : Value} {x : Nd} (h : OwnN w0 lo hi u x) (w : World) :
    Calls Tryz.prog 41 #[u] w fun e w' => e = .returned (.int .i64 (nameN x : Int)) ∧ w = w' := by
  cases h with
  | lst _ _ p v cs ho hb hk hp hc =>
    clear ho hb hk hp hc
    go_enter Tryz.func41, Tryz.ntmps41
    (go_wp2_with fail; repeat (any_goals (go_quiet (fail); go_wp2_with fail)))
    go_ret
    exact ⟨rfl, rfl⟩
  | obj _ _ p v cs ho hb hk hp hc =>
    clear ho hb hk hp hc
    go_enter Tryz.func41, Tryz.ntmps41
    (go_wp2_with fail; repeat (any_goals (go_quiet (fail); go_wp2_with fail)))
    go_ret
    exact ⟨rfl, rfl⟩
  | _ =>
    go_enter Tryz.func41, Tryz.ntmps41
    (go_wp2_with fail; repeat (any_goals (go_quiet (fail); go_wp2_with fail)))
    go_ret
    exact ⟨rfl, rfl⟩
/-- What is asked of count at a node that lay in world w0. -/
def CntC (w0 : World) (lo hi : Nat) (u : Value) (x : Nd) : Prop := ∀ w b f, (∀ k, lo ≤ k → k < hi → w.heap[k]? = w0.heap[k]?) → (b < lo ∨ hi ≤ b) → hi ≤ w.heap.size → CntB b f w → (∀ i, f i + cntN x i ≤ 4611686018427387904) →
  Calls Tryz.prog 42 #[.pointer (some ⟨b, 0, none⟩), u] w fun e w' => e = .returned (.tuple #[]) ∧ CntB b (fun i => f i + cntN x i) w' ∧ w.grownBy w' (some b)
theorem wrap_id {z : Int} (h1 : 0 ≤ z) (h2 : z ≤ 9223372036854775807) : IntKind.i64.wrap z = z := by
  simp [IntKind.wrap, IntKind.bits]
  omega
theorem cntL_pre (xs : List Nd) (k i : Nat) : cntL (xs.take k) i ≤ cntL xs i := by
  conv => rhs; rw [← List.take_append_drop k xs, cntL_app]
  omega
theorem cntM_pre (xs : List (ByteArray × Nat × Nd)) (k i : Nat) : cntM (xs.take k) i ≤ cntM xs i := by
  conv => rhs; rw [← List.take_append_drop k xs, cntM_app]
  omega
theorem cntL_take {xs : List Nd} {k : Nat} {x : Nd} (h : xs[k]? = some x) (i : Nat) : cntL (xs.take (k + 1)) i = cntL (xs.take k) i + cntN x i := by
  obtain ⟨hk, hx⟩ := List.getElem?_eq_some_iff.1 h
  rw [List.take_succ_eq_append_getElem hk, hx, cntL_app, cntL, cntL, Nat.add_zero]
theorem cntM_take {xs : List (ByteArray × Nat × Nd)} {k : Nat} {t : ByteArray} {p : Nat} {x : Nd} (h : xs[k]? = some (t, p, x)) (i : Nat) : cntM (xs.take (k + 1)) i = cntM (xs.take k) i + cntN x i := by
  obtain ⟨hk, hx⟩ := List.getElem?_eq_some_iff.1 h
  rw [List.take_succ_eq_append_getElem hk, hx, cntM_app, cntM, cntM, Nat.add_zero]
section
variable {w0 : World}
set_option maxHeartbeats 1000000 in
set_option maxRecDepth 100000 in
theorem cnt_null (lo hi p : Nat)  : CntC w0 lo hi (.iface 90 (.agg #[.int .i64 (p : Int)])) (.null p) := by
  intro w b f hw hbl hh hB hf
  have hn6 := nameN_lt (.null p)
  have hfn := hf (nameN (.null p))
  have hc1 : 1 ≤ cntN (.null p) (nameN (.null p)) := by simp [nameN, cntN, one6]
  have KS := Lib.hid (kind_same (w0 := w0) (.null lo hi p))
  have hcell := hB.at hn6
  have hfz := freeB hB (nameN (.null p))
  have hbz := ltB hB
  obtain ⟨n, hn⟩ : ∃ n, n = nameN (.null p) := ⟨_, rfl⟩
  rw [← hn] at hn6 hfn hc1 KS hcell hfz
  have hfi : (f n : Int) ≤ 4611686018427387903 := by omega
  have hni : (n : Int) < 6 := by omega
  replace hn := Lib.hid hn
  replace hB := Lib.hid hB
  replace hf := Lib.hid hf
  replace hw := Lib.hid hw
  obtain ⟨fn, hfn2⟩ : ∃ fn, fn = f n := ⟨_, rfl⟩
  rw [← hfn2] at hcell hfi
  replace hfn2 := Lib.hid hfn2
  replace hfn := Lib.hid hfn
  replace hc1 := Lib.hid hc1
  go_enter Tryz.func42, Tryz.ntmps42
  go_wp2_with fail
  go_region_with ((go_at_call 41; refine (KS.out _).mono ?_; rintro e w1 ⟨rfl, rfl⟩))
  rw [wrap_id (by omega) (by omega)]
  have hB1 : Hid (CntB b (fun i => f i + one6 n i) (w.setCell ⟨b, n, none⟩ (.int .i64 ((fn : Int) + 1))).drew) := Lib.hid (by rw [hfn2.out]; exact CntB.inc hB.out hn6)
  have hg1 : Hid (w.grownBy (w.setCell ⟨b, n, none⟩ (.int .i64 ((fn : Int) + 1))).drew (some b)) := Lib.hid (grown_drew (grown_set _ _ _ _))
  clear hcell hfz
  generalize (w.setCell ⟨b, n, none⟩ (.int .i64 ((fn : Int) + 1))).drew = w1 at *
  go_wp2_with fail
  go_end0
  exact ⟨rfl, hB1.out.congr (fun i => by rw [hn.out]; rfl), hg1.out⟩
set_option maxHeartbeats 1000000 in
set_option maxRecDepth 100000 in
theorem cnt_flag (lo hi p : Nat) (b' : Bool) : CntC w0 lo hi (.iface 92 (.agg #[.int .i64 (p : Int), .bool b'])) (.flag p b') := by
  intro w b f hw hbl hh hB hf
  have hn6 := nameN_lt (.flag p b')
  have hfn := hf (nameN (.flag p b'))
  have hc1 : 1 ≤ cntN (.flag p b') (nameN (.flag p b')) := by simp [nameN, cntN, one6]
  have KS := Lib.hid (kind_same (w0 := w0) (.flag lo hi p b'))
  have hcell := hB.at hn6
  have hfz := freeB hB (nameN (.flag p b'))
  have hbz := ltB hB
  obtain ⟨n, hn⟩ : ∃ n, n = nameN (.flag p b') := ⟨_, rfl⟩
  rw [← hn] at hn6 hfn hc1 KS hcell hfz
  have hfi : (f n : Int) ≤ 4611686018427387903 := by omega
  have hni : (n : Int) < 6 := by omega
  replace hn := Lib.hid hn
  replace hB := Lib.hid hB
  replace hf := Lib.hid hf
  replace hw := Lib.hid hw
  obtain ⟨fn, hfn2⟩ : ∃ fn, fn = f n := ⟨_, rfl⟩
  rw [← hfn2] at hcell hfi
  replace hfn2 := Lib.hid hfn2
  replace hfn := Lib.hid hfn
  replace hc1 := Lib.hid hc1
  go_enter Tryz.func42, Tryz.ntmps42
  go_wp2_with fail
  go_region_with ((go_at_call 41; refine (KS.out _).mono ?_; rintro e w1 ⟨rfl, rfl⟩))
  rw [wrap_id (by omega) (by omega)]
  have hB1 : Hid (CntB b (fun i => f i + one6 n i) (w.setCell ⟨b, n, none⟩ (.int .i64 ((fn : Int) + 1))).drew) := Lib.hid (by rw [hfn2.out]; exact CntB.inc hB.out hn6)
  have hg1 : Hid (w.grownBy (w.setCell ⟨b, n, none⟩ (.int .i64 ((fn : Int) + 1))).drew (some b)) := Lib.hid (grown_drew (grown_set _ _ _ _))
  clear hcell hfz
  generalize (w.setCell ⟨b, n, none⟩ (.int .i64 ((fn : Int) + 1))).drew = w1 at *
  go_wp2_with fail
  go_end0
  exact ⟨rfl, hB1.out.congr (fun i => by rw [hn.out]; rfl), hg1.out⟩
set_option maxHeartbeats 1000000 in
set_option maxRecDepth 100000 in
theorem cnt_num (lo hi p : Nat) (t : ByteArray) : CntC w0 lo hi (.iface 94 (.agg #[.int .i64 (p : Int), .string t])) (.num p t) := by
  intro w b f hw hbl hh hB hf
  have hn6 := nameN_lt (.num p t)
  have hfn := hf (nameN (.num p t))
  have hc1 : 1 ≤ cntN (.num p t) (nameN (.num p t)) := by simp [nameN, cntN, one6]
  have KS := Lib.hid (kind_same (w0 := w0) (.num lo hi p t))
  have hcell := hB.at hn6
  have hfz := freeB hB (nameN (.num p t))
  have hbz := ltB hB
  obtain ⟨n, hn⟩ : ∃ n, n = nameN (.num p t) := ⟨_, rfl⟩
  rw [← hn] at hn6 hfn hc1 KS hcell hfz
  have hfi : (f n : Int) ≤ 4611686018427387903 := by omega
  have hni : (n : Int) < 6 := by omega
  replace hn := Lib.hid hn
  replace hB := Lib.hid hB
  replace hf := Lib.hid hf
  replace hw := Lib.hid hw
  obtain ⟨fn, hfn2⟩ : ∃ fn, fn = f n := ⟨_, rfl⟩
  rw [← hfn2] at hcell hfi
  replace hfn2 := Lib.hid hfn2
  replace hfn := Lib.hid hfn
  replace hc1 := Lib.hid hc1
  go_enter Tryz.func42, Tryz.ntmps42
  go_wp2_with fail
  go_region_with ((go_at_call 41; refine (KS.out _).mono ?_; rintro e w1 ⟨rfl, rfl⟩))
  rw [wrap_id (by omega) (by omega)]
  have hB1 : Hid (CntB b (fun i => f i + one6 n i) (w.setCell ⟨b, n, none⟩ (.int .i64 ((fn : Int) + 1))).drew) := Lib.hid (by rw [hfn2.out]; exact CntB.inc hB.out hn6)
  have hg1 : Hid (w.grownBy (w.setCell ⟨b, n, none⟩ (.int .i64 ((fn : Int) + 1))).drew (some b)) := Lib.hid (grown_drew (grown_set _ _ _ _))
  clear hcell hfz
  generalize (w.setCell ⟨b, n, none⟩ (.int .i64 ((fn : Int) + 1))).drew = w1 at *
  go_wp2_with fail
  go_end0
  exact ⟨rfl, hB1.out.congr (fun i => by rw [hn.out]; rfl), hg1.out⟩
set_option maxHeartbeats 1000000 in
set_option maxRecDepth 100000 in
theorem cnt_text (lo hi p : Nat) (t : ByteArray) : CntC w0 lo hi (.iface 95 (.agg #[.int .i64 (p : Int), .string t])) (.text p t) := by
  intro w b f hw hbl hh hB hf
  have hn6 := nameN_lt (.text p t)
  have hfn := hf (nameN (.text p t))
  have hc1 : 1 ≤ cntN (.text p t) (nameN (.text p t)) := by simp [nameN, cntN, one6]
  have KS := Lib.hid (kind_same (w0 := w0) (.text lo hi p t))
  have hcell := hB.at hn6
  have hfz := freeB hB (nameN (.text p t))
  have hbz := ltB hB
  obtain ⟨n, hn⟩ : ∃ n, n = nameN (.text p t) := ⟨_, rfl⟩
  rw [← hn] at hn6 hfn hc1 KS hcell hfz
  have hfi : (f n : Int) ≤ 4611686018427387903 := by omega
  have hni : (n : Int) < 6 := by omega
  replace hn := Lib.hid hn
  replace hB := Lib.hid hB
  replace hf := Lib.hid hf
  replace hw := Lib.hid hw
  obtain ⟨fn, hfn2⟩ : ∃ fn, fn = f n := ⟨_, rfl⟩
  rw [← hfn2] at hcell hfi
  replace hfn2 := Lib.hid hfn2
  replace hfn := Lib.hid hfn
  replace hc1 := Lib.hid hc1
  go_enter Tryz.func42, Tryz.ntmps42
  go_wp2_with fail
  go_region_with ((go_at_call 41; refine (KS.out _).mono ?_; rintro e w1 ⟨rfl, rfl⟩))
  rw [wrap_id (by omega) (by omega)]
  have hB1 : Hid (CntB b (fun i => f i + one6 n i) (w.setCell ⟨b, n, none⟩ (.int .i64 ((fn : Int) + 1))).drew) := Lib.hid (by rw [hfn2.out]; exact CntB.inc hB.out hn6)
  have hg1 : Hid (w.grownBy (w.setCell ⟨b, n, none⟩ (.int .i64 ((fn : Int) + 1))).drew (some b)) := Lib.hid (grown_drew (grown_set _ _ _ _))
  clear hcell hfz
  generalize (w.setCell ⟨b, n, none⟩ (.int .i64 ((fn : Int) + 1))).drew = w1 at *
  go_wp2_with fail
  go_end0
  exact ⟨rfl, hB1.out.congr (fun i => by rw [hn.out]; rfl), hg1.out⟩
set_option maxHeartbeats 2000000 in
set_option maxRecDepth 100000 in
theorem cnt_lst (lo hi p : Nat) (vr : Value) (cs : List Kid) (hr : w0.ownsRow lo 24 1 vr cs.length (cs.map Kid.u)) (hb0 : ∀ k, vr.ownBlock = some k → k < hi)
    (hk : ∀ c ∈ cs, c.fits lo hi vr.ownBlock) (hN : OwnN w0 lo hi (.iface 98 (.agg #[.int .i64 (p : Int), vr])) (.lst p (cs.map Kid.x))) (ih : ∀ c ∈ cs, CntC w0 c.l c.h c.u c.x) : CntC w0 lo hi (.iface 98 (.agg #[.int .i64 (p : Int), vr])) (.lst p (cs.map Kid.x)) := by
  obtain ⟨m, hm⟩ : ∃ m, m = cs.length := ⟨_, rfl⟩
  obtain ⟨xs, hxs⟩ : ∃ xs, xs = cs.map Kid.x := ⟨_, rfl⟩
  rw [← hxs] at hN ⊢
  rw [← hm] at hr
  obtain ⟨va, vc, rfl⟩ : ∃ a c, vr = .slice a m c := by
    obtain ⟨a, c, h⟩ := rowForm hr
    exact ⟨a, c, h⟩
  have hnm : m ≤ maxLen := by
    rcases rowForm2 hr with ⟨h, _⟩ | ⟨g, cap, h, _, _, h1, h2⟩
    · omega
    · omega
  unfold maxLen at hnm
  have hnI : (m : Int) ≤ 9223372036854775807 := by omega
  have hall : Hid (xs.take m = xs) := Lib.hid (List.take_of_length_le (by rw [hxs, hm]; simp))
  replace hr := Lib.hid hr
  replace hm := Lib.hid hm
  replace hxs := Lib.hid hxs
  intro w b f hw hbl hh hB hf
  have hn6 := nameN_lt (.lst p xs)
  have hfn := hf (nameN (.lst p xs))
  have hc1 : 1 ≤ cntN (.lst p xs) (nameN (.lst p xs)) := by simp [nameN, cntN, one6]
  have KS := Lib.hid (kind_same (w0 := w0) hN)
  have hcell := hB.at hn6
  have hfz := freeB hB (nameN (.lst p xs))
  have hbz := ltB hB
  obtain ⟨n, hn⟩ : ∃ n, n = nameN (.lst p xs) := ⟨_, rfl⟩
  rw [← hn] at hn6 hfn hc1 KS hcell hfz
  have hfi : (f n : Int) ≤ 4611686018427387903 := by omega
  have hni : (n : Int) < 6 := by omega
  replace hn := Lib.hid hn
  replace hB := Lib.hid hB
  replace hf := Lib.hid hf
  replace hw := Lib.hid hw
  obtain ⟨fn, hfn2⟩ : ∃ fn, fn = f n := ⟨_, rfl⟩
  rw [← hfn2] at hcell hfi
  replace hfn2 := Lib.hid hfn2
  replace hfn := Lib.hid hfn
  replace hc1 := Lib.hid hc1
  go_enter Tryz.func42, Tryz.ntmps42
  go_wp2_with fail
  go_region_with ((go_at_call 41; refine (KS.out _).mono ?_; rintro e w1 ⟨rfl, rfl⟩))
  rw [wrap_id (by omega) (by omega)]
  have hB1 : Hid (CntB b (fun i => f i + one6 n i) (w.setCell ⟨b, n, none⟩ (.int .i64 ((fn : Int) + 1))).drew) := Lib.hid (by rw [hfn2.out]; exact CntB.inc hB.out hn6)
  have hg1 : Hid (w.grownBy (w.setCell ⟨b, n, none⟩ (.int .i64 ((fn : Int) + 1))).drew (some b)) := Lib.hid (grown_drew (grown_set _ _ _ _))
  clear hcell hfz
  generalize (w.setCell ⟨b, n, none⟩ (.int .i64 ((fn : Int) + 1))).drew = w1 at *
  go_wp2_with fail
  go_loopw [26] (fun v26 wr => ∃ k : Nat, k ≤ m ∧ v26 = .int .i64 (k : Int) ∧ Hid (CntB b (fun i => f i + one6 n i + cntL (xs.take k) i) wr) ∧ Hid (w.grownBy wr (some b))) (fun v _ => m - (intOf v).toNat)
  case atStart => exact ⟨0, Nat.zero_le _, rfl, Lib.hid ((hB1.out.grown ((Below.refl _ _).alloc (Nat.le_refl _) _)).congr (fun i => by rw [List.take_zero, cntL, Nat.add_zero])), Lib.hid (grown_trans hg1.out (World.grownBy_alloc _ _ _))⟩
  case round =>
    obtain ⟨k, hkn, rfl, hBr, hgr⟩ := hrel
    clear hB1 hg1
    have hzr := hgr.out.size
    by_cases hlt : k < m
    · have hltI : (k : Int) < (m : Int) := by omega
      obtain ⟨c, hc⟩ : ∃ c, cs[k]? = some c := ⟨cs[k]'(by rw [← hm.out]; exact hlt), List.getElem?_eq_getElem _⟩
      have hcm := List.mem_of_getElem? hc
      have hcx : xs[k]? = some c.x := by rw [hxs.out, List.getElem?_map, hc]; rfl
      have hcu : (cs.map Kid.u)[k]? = some c.u := by rw [List.getElem?_map, hc]; rfl
      have hcf := hk c hcm
      obtain ⟨g, rfl⟩ : ∃ g, va = some ⟨g, 0, none⟩ := by
        rcases rowForm2 hr.out with ⟨h, _⟩ | ⟨g, cap, h, _⟩
        · omega
        · cases h; exact ⟨g, rfl⟩
      have hag : Hid (∀ j, lo ≤ j → j < hi → wr.heap[j]? = w0.heap[j]?) := Lib.hid (fun j a c => (hgr.out.block j (by omega) (fun e => by have := Option.some.inj e; omega)).trans (hw.out j a c))
      have hrow : wr.cell? ⟨g, k, none⟩ = some c.u := by
        refine rowCells (ownsRow_heap hr.out fun j e => hag.out j (hr.out.lt j e).1 (hb0 j e)) hcu
      have hcnt := Lib.hid (cntL_take hcx)
      have hpre := Lib.hid (cntL_pre xs (k + 1))
      have hone : Hid (∀ i, one6 n i = one6 4 i) := Lib.hid (fun i => by rw [hn.out, nameN])
      have IC := Lib.hid (ih c hcm wr b _ (fun j a c => hag.out j (Nat.le_trans hcf.1 a) (Nat.lt_of_lt_of_le c hcf.2.2.1)) (by have h1 := hcf.1; have h2 := hcf.2.2.1; omega) (Nat.le_trans hcf.2.2.1 (by omega)) hBr.out (fun i => by have h1 := hf.out i; have h2 := hpre.out i; have h3 := hcnt.out i; rw [cntN] at h1; have h4 := hone.out i; omega))
      generalize c.u = cu at *
      generalize c.x = cx at *
      replace hcf := Lib.hid hcf
      replace hc := Lib.hid hc
      replace hcx := Lib.hid hcx
      replace hcu := Lib.hid hcu
      go_wp2_with fail
      refine IC.out.mono ?_
      rintro e w4 ⟨rfl, hB4, hg4⟩
      have hg5 := grown_trans hgr.out hg4
      replace hB4 := Lib.hid hB4
      replace hg5 := Lib.hid hg5
      clear hg4
      go_wp2_with fail
      go_roundw
      case measure => simp [intOf]; omega
      case rel => exact ⟨k + 1, by omega, by go_num, Lib.hid (hB4.out.congr (fun i => by rw [hcnt.out i]; omega)), hg5⟩
    · obtain rfl : k = m := by omega
      have hlt' : ¬ (k : Int) < (k : Int) := by omega
      go_wp2_with fail
      go_end0
      exact ⟨rfl, hBr.out.congr (fun i => by rw [hall.out, hn.out, cntN]; show _ = f i + one6 4 i + _; omega), hgr.out⟩
set_option maxHeartbeats 2000000 in
set_option maxRecDepth 100000 in
theorem cnt_obj (lo hi p : Nat) (vr : Value) (cs : List Kid) (hr : w0.ownsRow lo 103 3 vr cs.length (cs.flatMap memC)) (hb0 : ∀ k, vr.ownBlock = some k → k < hi)
    (hk : ∀ c ∈ cs, c.fits lo hi vr.ownBlock) (hN : OwnN w0 lo hi (.iface 101 (.agg #[.int .i64 (p : Int), vr])) (.obj p (cs.map Kid.mem))) (hform : ∀ c ∈ cs, ∃ t a, c.u = .iface t a) (ih : ∀ c ∈ cs, CntC w0 c.l c.h c.u c.x) : CntC w0 lo hi (.iface 101 (.agg #[.int .i64 (p : Int), vr])) (.obj p (cs.map Kid.mem)) := by
  obtain ⟨m, hm⟩ : ∃ m, m = cs.length := ⟨_, rfl⟩
  obtain ⟨xs, hxs⟩ : ∃ xs, xs = cs.map Kid.mem := ⟨_, rfl⟩
  rw [← hxs] at hN ⊢
  rw [← hm] at hr
  obtain ⟨va, vc, rfl⟩ : ∃ a c, vr = .slice a m c := by
    obtain ⟨a, c, h⟩ := rowForm hr
    exact ⟨a, c, h⟩
  have hnm : m ≤ maxLen := by
    rcases rowForm2 hr with ⟨h, _⟩ | ⟨g, cap, h, _, _, h1, h2⟩
    · omega
    · omega
  unfold maxLen at hnm
  have hnI : (m : Int) ≤ 9223372036854775807 := by omega
  have hall : Hid (xs.take m = xs) := Lib.hid (List.take_of_length_le (by rw [hxs, hm]; simp))
  replace hr := Lib.hid hr
  replace hm := Lib.hid hm
  replace hxs := Lib.hid hxs
  intro w b f hw hbl hh hB hf
  have hn6 := nameN_lt (.obj p xs)
  have hfn := hf (nameN (.obj p xs))
  have hc1 : 1 ≤ cntN (.obj p xs) (nameN (.obj p xs)) := by simp [nameN, cntN, one6]
  have KS := Lib.hid (kind_same (w0 := w0) hN)
  have hcell := hB.at hn6
  have hfz := freeB hB (nameN (.obj p xs))
  have hbz := ltB hB
  obtain ⟨n, hn⟩ : ∃ n, n = nameN (.obj p xs) := ⟨_, rfl⟩
  rw [← hn] at hn6 hfn hc1 KS hcell hfz
  have hfi : (f n : Int) ≤ 4611686018427387903 := by omega
  have hni : (n : Int) < 6 := by omega
  replace hn := Lib.hid hn
  replace hB := Lib.hid hB
  replace hf := Lib.hid hf
  replace hw := Lib.hid hw
  obtain ⟨fn, hfn2⟩ : ∃ fn, fn = f n := ⟨_, rfl⟩
  rw [← hfn2] at hcell hfi
  replace hfn2 := Lib.hid hfn2
  replace hfn := Lib.hid hfn
  replace hc1 := Lib.hid hc1
  go_enter Tryz.func42, Tryz.ntmps42
  go_wp2_with fail
  go_region_with ((go_at_call 41; refine (KS.out _).mono ?_; rintro e w1 ⟨rfl, rfl⟩))
  rw [wrap_id (by omega) (by omega)]
  have hB1 : Hid (CntB b (fun i => f i + one6 n i) (w.setCell ⟨b, n, none⟩ (.int .i64 ((fn : Int) + 1))).drew) := Lib.hid (by rw [hfn2.out]; exact CntB.inc hB.out hn6)
  have hg1 : Hid (w.grownBy (w.setCell ⟨b, n, none⟩ (.int .i64 ((fn : Int) + 1))).drew (some b)) := Lib.hid (grown_drew (grown_set _ _ _ _))
  clear hcell hfz
  generalize (w.setCell ⟨b, n, none⟩ (.int .i64 ((fn : Int) + 1))).drew = w1 at *
  go_wp2_with fail
  go_loopw [40] (fun v40 wr => ∃ k : Nat, k ≤ m ∧ v40 = .int .i64 (k : Int) ∧ Hid (CntB b (fun i => f i + one6 n i + cntM (xs.take k) i) wr) ∧ Hid (w.grownBy wr (some b))) (fun v _ => m - (intOf v).toNat)
  case atStart => exact ⟨0, Nat.zero_le _, rfl, Lib.hid ((hB1.out.grown ((Below.refl _ _).alloc (Nat.le_refl _) _)).congr (fun i => by rw [List.take_zero, cntM, Nat.add_zero])), Lib.hid (grown_trans hg1.out (World.grownBy_alloc _ _ _))⟩
  case round =>
    obtain ⟨k, hkn, rfl, hBr, hgr⟩ := hrel
    clear hB1 hg1
    have hzr := hgr.out.size
    by_cases hlt : k < m
    · have hltI : (k : Int) < (m : Int) := by omega
      obtain ⟨c, hc⟩ : ∃ c, cs[k]? = some c := ⟨cs[k]'(by rw [← hm.out]; exact hlt), List.getElem?_eq_getElem _⟩
      have hcm := List.mem_of_getElem? hc
      have hcx : xs[k]? = some (c.key, c.pl, c.x) := by rw [hxs.out, List.getElem?_map, hc]; rfl
      have hcf := hk c hcm
      obtain ⟨g, rfl⟩ : ∃ g, va = some ⟨g, 0, none⟩ := by
        rcases rowForm2 hr.out with ⟨h, _⟩ | ⟨g, cap, h, _⟩
        · omega
        · cases h; exact ⟨g, rfl⟩
      have hag : Hid (∀ j, lo ≤ j → j < hi → wr.heap[j]? = w0.heap[j]?) := Lib.hid (fun j a c => (hgr.out.block j (by omega) (fun e => by have := Option.some.inj e; omega)).trans (hw.out j a c))
      obtain ⟨q0, q1, q2⟩ := rowMem (ownsRow_heap hr.out fun j e => hag.out j (hr.out.lt j e).1 (hb0 j e)) hc
      obtain ⟨ut, ua, hu⟩ := hform c hcm
      have hcnt := Lib.hid (cntM_take hcx)
      have hpre := Lib.hid (cntM_pre xs (k + 1))
      have hone : Hid (∀ i, one6 n i = one6 5 i) := Lib.hid (fun i => by rw [hn.out, nameN])
      have IC := Lib.hid (ih c hcm (wr.alloc (.cells #[.string c.key, .int .i64 (c.pl : Int), c.u] 103 (0, 0))) b _ (fun j a d => (Below.heap_alloc _ _ _ (by have := hcf.2.2.1; omega)).trans (hag.out j (Nat.le_trans hcf.1 a) (Nat.lt_of_lt_of_le d hcf.2.2.1))) (by have h1 := hcf.1; have h2 := hcf.2.2.1; omega) (by have := hcf.2.2.1; simp; omega) (hBr.out.grown ((Below.refl _ _).alloc (Nat.le_refl _) _)) (fun i => by have h1 := hf.out i; have h2 := hpre.out i; have h3 := hcnt.out i; rw [cntN] at h1; have h4 := hone.out i; omega))
      rw [hu] at q2 IC
      generalize c.key = key at *
      generalize c.pl = pl at *
      generalize c.x = cx at *
      replace hu := Lib.hid hu
      replace hcf := Lib.hid hcf
      replace hc := Lib.hid hc
      replace hcx := Lib.hid hcx
      go_wp2_with fail
      refine IC.out.mono ?_
      rintro e w4 ⟨rfl, hB4, hg4⟩
      have hg5 := grown_trans (grown_trans hgr.out (World.grownBy_alloc _ _ _)) hg4
      replace hB4 := Lib.hid hB4
      replace hg5 := Lib.hid hg5
      clear hg4
      go_wp2_with fail
      go_roundw
      case measure => simp [intOf]; omega
      case rel => exact ⟨k + 1, by omega, by go_num, Lib.hid (hB4.out.congr (fun i => by rw [hcnt.out i]; omega)), hg5⟩
    · obtain rfl : k = m := by omega
      have hlt' : ¬ (k : Int) < (k : Int) := by omega
      go_wp2_with fail
      go_end0
      exact ⟨rfl, hBr.out.congr (fun i => by rw [hall.out, hn.out, cntN]; show _ = f i + one6 5 i + _; omega), hgr.out⟩
end
theorem count_calls {w0 : World} {lo hi : Nat} {u : Value} {x : Nd} (h : OwnN w0 lo hi u x) : CntC w0 lo hi u x := by
  induction h with
  | null lo hi p => exact cnt_null lo hi p
  | flag lo hi p b => exact cnt_flag lo hi p b
  | num lo hi p t => exact cnt_num lo hi p t
  | text lo hi p t => exact cnt_text lo hi p t
  | lst lo hi p v cs ho hb hk hp hc ih => exact cnt_lst lo hi p v cs ho hb hk (.lst lo hi p v cs ho hb hk hp hc) ih
  | obj lo hi p v cs ho hb hk hp hc ih => exact cnt_obj lo hi p v cs ho hb hk (.obj lo hi p v cs ho hb hk hp hc) (fun c hm => (hc c hm).form) ih

end Go.Proofs.YtibopkodoidjoaaGreatDoor

/- Package tree, a plain law: blanks put between the tokens of a text change neither its form nor the kind of its error. No program in sight. -/
namespace Go.Proofs.YtibopkodoidjoaaGreatDoor
open Go Go.RowKit

/-- The blank that a byte stands for. -/
def blkB (c : Nat) : UInt8 := if c % 4 = 0 then 32 else if c % 4 = 1 then 9 else if c % 4 = 2 then 10 else 13
/-- k blanks of a text. -/
def gapK (b : ByteArray) (k : Nat) : List UInt8 := (List.range k).map fun j => blkB (bAt b j)
/-- The blanks that a text stands for. -/
def gapB (b : ByteArray) : List UInt8 := if b.size = 0 then [32] else gapK b (min b.size 9)
theorem blkB_blank (c : Nat) : blankN (blkB c).toNat = true := by unfold blkB; repeat' split
                                                                  all_goals decide
theorem gapK_zero (b : ByteArray) : gapK b 0 = [] := rfl
theorem gapK_succ (b : ByteArray) (k : Nat) : gapK b (k + 1) = gapK b k ++ [blkB (bAt b k)] := by unfold gapK; rw [List.range_succ, List.map_append]; rfl
theorem gapK_len (b : ByteArray) (k : Nat) : (gapK b k).length = k := by unfold gapK; simp
theorem gapK_blank (b : ByteArray) (k : Nat) : blanksL (gapK b k) := by
  intro c hc
  obtain ⟨j, _, rfl⟩ := List.mem_map.1 hc
  exact blkB_blank _
theorem gapB_blank (b : ByteArray) : blanksL (gapB b) := by
  unfold gapB
  split
  · intro c hc; rw [List.mem_singleton.1 hc]; decide
  · exact gapK_blank _ _
theorem gapB_pos (b : ByteArray) : gapB b ≠ [] := by
  unfold gapB
  split
  · exact List.cons_ne_nil _ _
  · intro h
    have := congrArg List.length h
    rw [gapK_len, List.length_nil] at this
    omega
theorem gapB_len (b : ByteArray) : (gapB b).length ≤ 9 := by
  unfold gapB
  split
  · simp
  · rw [gapK_len]; omega
/-- The tokens with the blanks ahead of each. -/
def itemsS (bs : List ByteArray) : Nat → List Tk → List (List UInt8 × Tk)
  | _, [] => []
  | i, T :: r => (gapB (bs.getD (i % bs.length) noS), T) :: itemsS bs (i + 1) r
theorem itemsS_mem {bs : List ByteArray} : ∀ (ts : List Tk) (i : Nat), ∀ x ∈ itemsS bs i ts, blanksL x.1 ∧ x.2 ∈ ts
  | [], i, x, h => by cases h
  | _ :: r, i, x, h => by
    rcases List.mem_cons.1 h with rfl | h
    · exact ⟨gapB_blank _, List.mem_cons_self ..⟩
    · have := itemsS_mem r (i + 1) x h
      exact ⟨this.1, List.mem_cons_of_mem _ this.2⟩
theorem itemsS_glue (bs : List ByteArray) : ∀ (ts : List Tk) (i : Nat), glueOk (itemsS bs i ts)
  | [], _ => trivial
  | [_], _ => trivial
  | _ :: T' :: r, i => ⟨fun h => absurd h (gapB_pos _), itemsS_glue bs (T' :: r) (i + 1)⟩
theorem itemsS_snoc (bs : List ByteArray) (T : Tk) : ∀ (ts : List Tk) (i : Nat), itemsS bs i (ts ++ [T]) = itemsS bs i ts ++ [(gapB (bs.getD ((i + ts.length) % bs.length) noS), T)]
  | [], i => rfl
  | T' :: r, i => by
    rw [List.cons_append, itemsS, itemsS_snoc bs T r (i + 1), itemsS, List.cons_append, List.length_cons, show i + 1 + r.length = i + (r.length + 1) by omega]
theorem itemsS_snd (bs : List ByteArray) : ∀ (ts : List Tk) (i : Nat), (itemsS bs i ts).map Prod.snd = ts
  | [], _ => rfl
  | T :: r, i => by rw [itemsS, List.map_cons, itemsS_snd bs r]
/-- The text that the statement makes of the first k tokens. -/
def spacedK (s : ByteArray) (bs : List ByteArray) (ts : List Tk) : List UInt8 := layL s [] (itemsS bs 0 ts)
theorem layL_snoc' (s : ByteArray) (b : List UInt8) (T : Tk) : ∀ it : List (List UInt8 × Tk), layL s [] (it ++ [(b, T)]) = layL s [] it ++ (b ++ segL s T)
  | [] => by show b ++ (segL s T ++ []) = _; simp [layL]
  | (b', T') :: r => by
    rw [List.cons_append, layL, layL_snoc' s b T r, layL]
    simp
theorem layL_end' (s : ByteArray) (Z : List UInt8) : ∀ it : List (List UInt8 × Tk), layL s Z it = layL s [] it ++ Z
  | [] => rfl
  | (b, T) :: r => by rw [layL, layL_end' s Z r, layL]; simp
theorem spacedK_snoc (s : ByteArray) (bs : List ByteArray) (ts : List Tk) (T : Tk) : spacedK s bs (ts ++ [T]) = spacedK s bs ts ++ (gapB (bs.getD (ts.length % bs.length) noS) ++ segL s T) := by
  unfold spacedK
  rw [itemsS_snoc, layL_snoc', Nat.zero_add]
theorem spacedK_len (s : ByteArray) (bs : List ByteArray) (m : Nat) (hm : s.size ≤ m) : ∀ (ts : List Tk) (i : Nat), (layL s [] (itemsS bs i ts)).length ≤ ts.length * (m + 9)
  | [], _ => Nat.zero_le _
  | T :: r, i => by
    rw [itemsS, layL, List.length_append, List.length_append, List.length_cons, Nat.succ_mul]
    have h1 := spacedK_len s bs m hm r (i + 1)
    have h2 := gapB_len (bs.getD (i % bs.length) noS)
    have h3 : (segL s T).length ≤ s.size := by
      unfold segL
      rw [Array.length_toList]
      show (s.extract T.fr T.to).size ≤ _
      rw [ByteArray.size_extract]; omega
    omega
theorem want_get (s : ByteArray) : ∀ (it : List (List UInt8 × Tk)) (A Z : List UInt8) (j : Nat) (x : List UInt8 × Tk), it[j]? = some x → (∀ y ∈ it, y.2.fr ≤ y.2.to ∧ y.2.to ≤ s.size) →
    ∃ T' : Tk, (wantL A.length it)[j]? = some T' ∧ T'.kind = x.2.kind ∧ T'.text = x.2.text ∧ ∃ B C, A ++ layL s Z it = B ++ (segL s x.2 ++ C) ∧ T'.fr = B.length ∧ T'.to = B.length + (segL s x.2).length
  | [], A, Z, j, x, h, _ => by simp at h
  | (b, T) :: r, A, Z, 0, x, h, hit => by
    simp at h
    subst h
    have hT := hit (b, T) (List.mem_cons_self ..)
    refine ⟨⟨T.kind, A.length + b.length, A.length + b.length + (T.to - T.fr), T.text⟩, by rw [wantL, List.getElem?_cons_zero], rfl, rfl, A ++ b, layL s Z r, by rw [layL, List.append_assoc], by rw [List.length_append], ?_⟩
    rw [List.length_append, segL_len hT.2]
  | (b, T) :: r, A, Z, j + 1, x, h, hit => by
    simp at h
    have hT := hit (b, T) (List.mem_cons_self ..)
    obtain ⟨T', h1, h2, h3, B, C, h4, h5, h6⟩ := want_get s r (A ++ b ++ segL s T) Z j x h (fun y hy => hit y (List.mem_cons_of_mem _ hy))
    refine ⟨T', ?_, h2, h3, B, C, ?_, h5, h6⟩
    · rw [wantL, List.getElem?_cons_succ, ← h1, List.length_append, List.length_append, segL_len hT.2]
    · rw [layL, ← h4]; simp
theorem wantL_len' : ∀ (it : List (List UInt8 × Tk)) (p : Nat), (wantL p it).length = it.length
  | [], _ => rfl
  | (b, T) :: r, p => by rw [wantL, List.length_cons, List.length_cons, wantL_len' r]
theorem ext_mid (B S C : List UInt8) : (⟨(B ++ (S ++ C)).toArray⟩ : ByteArray).extract B.length (B.length + S.length) = ⟨S.toArray⟩ := by
  apply ByteArray.ext
  simp [ByteArray.data_extract]
theorem seg_ext (s : ByteArray) (T : Tk) : s.extract T.fr T.to = ⟨(segL s T).toArray⟩ := rfl
/-- Laid out anew, the tokens are alike. -/
theorem lay_alike {s : ByteArray} (h0 : (someS s).2.1 = 0) (Z : List UInt8) (it : List (List UInt8 × Tk)) (hit : it.map Prod.snd = (someS s).1) : Alike s (someS s).1 ⟨(layL s Z it).toArray⟩ (wantL 0 it) := by
  obtain ⟨hu, hch, _⟩ := some_chain h0
  have hbd := chain_bd _ 0 ((utfE_brk _).1 hu) (Nat.zero_le _) hch
  have hb : ∀ y ∈ it, y.2.fr ≤ y.2.to ∧ y.2.to ≤ s.size := fun y hy => by
    have := hbd y.2 (by rw [← hit]; exact List.mem_map_of_mem hy)
    exact ⟨by omega, this.2.2.1⟩
  have hlen : (wantL 0 it).length = (someS s).1.length := by rw [wantL_len', ← hit, List.length_map]
  have key : ∀ (p : Nat) (T : Tk), (someS s).1[p]? = some T → ∃ T' : Tk, (wantL 0 it)[p]? = some T' ∧ T'.kind = T.kind ∧ T'.text = T.text ∧ (⟨(layL s Z it).toArray⟩ : ByteArray).extract T'.fr T'.to = s.extract T.fr T.to := by
    intro p T hT
    rw [← hit, List.getElem?_map] at hT
    obtain ⟨x, hx, rfl⟩ := Option.map_eq_some_iff.1 hT
    obtain ⟨T', h1, h2, h3, B, C, h4, h5, h6⟩ := want_get s it [] Z p x hx hb
    refine ⟨T', h1, h2, h3, ?_⟩
    rw [h5, h6, seg_ext, ← ext_mid B (segL s x.2) C]
    rw [← h4]; rfl
  have none : ∀ p : Nat, (someS s).1[p]? = none → (wantL 0 it)[p]? = none := fun p hp => by
    rw [List.getElem?_eq_none_iff] at hp ⊢
    omega
  refine ⟨hlen, fun p => ?_, fun p => ?_, fun p _ => ?_⟩
  · unfold kindT
    cases hT : (someS s).1[p]? with
    | none => rw [none p hT]
    | some T => obtain ⟨T', h1, h2, _⟩ := key p T hT; rw [h1]; exact h2
  · unfold textT
    cases hT : (someS s).1[p]? with
    | none => rw [none p hT]
    | some T => obtain ⟨T', h1, h2, h3, _⟩ := key p T hT; rw [h1]; exact h3
  · unfold wordT
    cases hT : (someS s).1[p]? with
    | none => rw [none p hT]
    | some T => obtain ⟨T', h1, h2, h3, h4⟩ := key p T hT; rw [h1]; exact h4
/-- Two parses that are the same, places aside. -/
def SameR : PR Nd → PR Nd → Prop
  | .ok x q, .ok x' q' => x'.strip = x.strip ∧ q' = q
  | .err k _, .err k' _ => k' = k
  | .out, .out => True
  | _, _ => False
theorem same_of_strip {r r' : PR Nd} (h : r'.strip Nd.strip = r.strip Nd.strip) : SameR r r' := by
  cases r <;> cases r' <;> simp_all [PR.strip, SameR]
theorem parse_alike {s t : ByteArray} (h0 : (someS s).2.1 = 0) (h1 : (someS t).2.1 = 0) (h : Alike s (someS s).1 t (someS t).1) : SameR (parseS s) (parseS t) := by
  unfold parseS
  rw [if_pos h0, if_pos h1]
  exact same_of_strip (pP_alike h)
/-- The statement's text, whole. -/
def spacedS (s : ByteArray) (bs : List ByteArray) : ByteArray := ⟨(spacedK s bs (someS s).1 ++ [10]).toArray⟩
theorem spaced_same {s : ByteArray} (h0 : (someS s).2.1 = 0) (bs : List ByteArray) : SameR (parseS s) (parseS (spacedS s bs)) := by
  have hit := itemsS_mem (bs := bs) (someS s).1 0
  have h1 := lay_scan h0 (Z := [10]) (fun c hc => by rw [List.mem_singleton.1 hc]; decide) (itemsS bs 0 (someS s).1) hit (itemsS_glue bs _ 0)
  have h2 : spacedS s bs = ⟨(layL s [10] (itemsS bs 0 (someS s).1)).toArray⟩ := by unfold spacedS spacedK; rw [layL_end' s [10]]
  rw [← h2] at h1
  have h3 := lay_alike h0 [10] (itemsS bs 0 (someS s).1) (itemsS_snd bs _ 0)
  rw [← h2] at h3
  refine parse_alike h0 (by rw [h1]) ?_
  rw [h1]
  exact h3
theorem same_form {s t : ByteArray} (h : SameR (parseS s) (parseS t)) : formS t = formS s := by
  unfold formS
  revert h
  cases parseS s <;> cases parseS t <;> simp only [SameR] <;> intro h
  · rename_i x q x' q'
    rw [← fmt_strip x', h.1, fmt_strip]
  all_goals first | trivial | rfl | cases h

end Go.Proofs.YtibopkodoidjoaaGreatDoor

/- Package tree, plain laws: the tokens of a node's text; the text's scan is just these tokens. No program in sight. -/
namespace Go.Proofs.YtibopkodoidjoaaGreatDoor
open Go Go.RowKit

/-- A token as it stands in a text of one form: its kind, its text, its bytes. -/
structure CT where
  kind : Nat
  text : ByteArray
  bytes : List UInt8
def pun (k : Nat) (c : UInt8) : CT := ⟨k, noS, [c]⟩
mutual
def toksN : Nd → List CT
  | .null _ => [⟨1, noS, litNull⟩]
  | .flag _ b => [⟨if b then 2 else 3, noS, litFlag b⟩]
  | .num _ t => [⟨4, noS, t.data.toList⟩]
  | .text _ t => [⟨5, t, qN t⟩]
  | .lst _ xs => pun 8 91 :: (toksL true xs ++ [pun 9 93])
  | .obj _ xs => pun 6 123 :: (toksM true xs ++ [pun 7 125])
def toksL : Bool → List Nd → List CT
  | _, [] => []
  | b, x :: xs => (if b then [] else [pun 11 44]) ++ (toksN x ++ toksL false xs)
def toksM : Bool → List (ByteArray × Nat × Nd) → List CT
  | _, [] => []
  | b, (k, _, x) :: xs => (if b then [] else [pun 11 44]) ++ (⟨5, k, qN k⟩ :: pun 10 58 :: (toksN x ++ toksM false xs))
end
def flatC (cs : List CT) : List UInt8 := cs.flatMap CT.bytes
theorem flatC_app (a b : List CT) : flatC (a ++ b) = flatC a ++ flatC b := by unfold flatC; rw [List.flatMap_append]
theorem flatC_cons (a : CT) (b : List CT) : flatC (a :: b) = a.bytes ++ flatC b := by unfold flatC; rw [List.flatMap_cons]
theorem flatC_nil : flatC [] = [] := rfl
mutual
theorem flat_fmt : ∀ x : Nd, flatC (toksN x) = fmtN x
  | .null _ => by rw [toksN, fmtN, flatC_cons, flatC_nil, List.append_nil]
  | .flag _ b => by rw [toksN, fmtN, flatC_cons, flatC_nil, List.append_nil]
  | .num _ t => by rw [toksN, fmtN, flatC_cons, flatC_nil, List.append_nil]
  | .text _ t => by rw [toksN, fmtN, flatC_cons, flatC_nil, List.append_nil]
  | .lst _ xs => by
    rw [toksN, fmtN, flatC_cons, flatC_app, flat_fmtL true xs]
    rfl
  | .obj _ xs => by
    rw [toksN, fmtN, flatC_cons, flatC_app, flat_fmtM true xs]
    rfl
theorem flat_fmtL : ∀ (b : Bool) (xs : List Nd), flatC (toksL b xs) = fmtL b xs
  | _, [] => by rw [toksL, fmtL]; rfl
  | b, x :: xs => by
    rw [toksL, fmtL, flatC_app, flatC_app, flat_fmt x, flat_fmtL false xs]
    cases b <;> rfl
theorem flat_fmtM : ∀ (b : Bool) (xs : List (ByteArray × Nat × Nd)), flatC (toksM b xs) = fmtM b xs
  | _, [] => by rw [toksM, fmtM]; rfl
  | b, (k, p, x) :: xs => by
    rw [toksM, fmtM, flatC_app, flatC_cons, flatC_cons, flatC_app, flat_fmt x, flat_fmtM false xs]
    cases b <;> rfl
end
/-- What comes next stops a number. -/
def stopsC : List CT → Prop
  | [] => True
  | b :: _ => stopB (nthN b.bytes 0) ∧ b.bytes ≠ []
/-- Behind each number stands what stops it. -/
def adjC : List CT → Prop
  | [] => True
  | a :: r => (a.kind = 4 → stopsC r) ∧ adjC r
theorem stop44 : stopB 44 := ⟨by decide, by decide, by decide, by decide⟩
theorem stop93 : stopB 93 := ⟨by decide, by decide, by decide, by decide⟩
theorem stop125 : stopB 125 := ⟨by decide, by decide, by decide, by decide⟩
mutual
theorem adj_toks : ∀ (x : Nd) (r : List CT), stopsC r → adjC r → adjC (toksN x ++ r)
  | .null _, r, h, h2 => by rw [toksN]; exact ⟨(fun e => by cases e), h2⟩
  | .flag _ b, r, h, h2 => by rw [toksN]; exact ⟨(fun e => by cases b <;> cases e), h2⟩
  | .num _ t, r, h, h2 => by rw [toksN]; exact ⟨(fun _ => h), h2⟩
  | .text _ t, r, h, h2 => by rw [toksN]; exact ⟨(fun e => by cases e), h2⟩
  | .lst _ xs, r, h, h2 => by
    rw [toksN, List.cons_append, List.append_assoc]
    exact ⟨(fun e => by cases e), adj_toksL true xs _ ⟨stop93, List.cons_ne_nil _ _⟩ ⟨(fun e => by cases e), h2⟩⟩
  | .obj _ xs, r, h, h2 => by
    rw [toksN, List.cons_append, List.append_assoc]
    exact ⟨(fun e => by cases e), adj_toksM true xs _ ⟨stop125, List.cons_ne_nil _ _⟩ ⟨(fun e => by cases e), h2⟩⟩
theorem adj_toksL : ∀ (b : Bool) (xs : List Nd) (r : List CT), stopsC r → adjC r → adjC (toksL b xs ++ r)
  | _, [], r, h, h2 => by rw [toksL]; exact h2
  | b, x :: xs, r, h, h2 => by
    have h3 := adj_toksL false xs r h h2
    have h4 : stopsC (toksL false xs ++ r) := by
      cases xs with
      | nil => rw [toksL]; exact h
      | cons y ys => rw [toksL]; exact ⟨stop44, List.cons_ne_nil _ _⟩
    have h5 := adj_toks x _ h4 h3
    rw [toksL, List.append_assoc, List.append_assoc]
    cases b with
    | true => exact h5
    | false => exact ⟨(fun e => by cases e), h5⟩
theorem adj_toksM : ∀ (b : Bool) (xs : List (ByteArray × Nat × Nd)) (r : List CT), stopsC r → adjC r → adjC (toksM b xs ++ r)
  | _, [], r, h, h2 => by rw [toksM]; exact h2
  | b, (k, p, x) :: xs, r, h, h2 => by
    have h3 := adj_toksM false xs r h h2
    have h4 : stopsC (toksM false xs ++ r) := by
      cases xs with
      | nil => rw [toksM]; exact h
      | cons y ys => obtain ⟨k', p', y⟩ := y; rw [toksM]; exact ⟨stop44, List.cons_ne_nil _ _⟩
    have h5 := adj_toks x _ h4 h3
    rw [toksM, List.append_assoc, List.cons_append, List.cons_append, List.append_assoc]
    cases b with
    | true => exact ⟨(fun e => by cases e), (fun e => by cases e), h5⟩
    | false => exact ⟨(fun e => by cases e), (fun e => by cases e), (fun e => by cases e), h5⟩
end
/-- Wherever it stands, it is that one token. -/
structure okC (c : CT) : Prop where
  one : ∀ B Z : List UInt8, (c.kind = 4 → stopB (nthN Z 0)) → oneAt ⟨(B ++ (c.bytes ++ Z)).toArray⟩ B.length = (0, 0, ⟨c.kind, B.length, B.length + c.bytes.length, c.text⟩)
  pos : 0 < c.bytes.length
  vl : VL (c.bytes.map UInt8.toNat)
def wantC : Nat → List CT → List Tk
  | _, [] => []
  | p, c :: r => ⟨c.kind, p, p + c.bytes.length, c.text⟩ :: wantC (p + c.bytes.length) r
theorem chainC : ∀ (cs : List CT) (A : List UInt8), adjC cs → (∀ c ∈ cs, okC c) → Chain ⟨(A ++ flatC cs).toArray⟩ A.length (wantC A.length cs)
  | [], A, _, _ => by
    rw [flatC_nil, List.append_nil]
    exact ⟨by rw [size_mk]; omega, fun j h1 h2 => by rw [size_mk] at h2; omega⟩
  | c :: r, A, h, hok => by
    have hc := hok c (List.mem_cons_self ..)
    have hst : c.kind = 4 → stopB (nthN (flatC r) 0) := by
      intro e
      have := h.1 e
      cases r with
      | nil => exact stop0
      | cons b r =>
        rw [flatC_cons, nth_left (List.length_pos_iff.2 this.2)]
        exact this.1
    have h1 := hc.one A (flatC r) hst
    have ih := chainC r (A ++ c.bytes) h.2 (fun x hx => hok x (List.mem_cons_of_mem _ hx))
    rw [List.append_assoc, List.length_append] at ih
    rw [flatC_cons]
    refine ⟨Nat.le_refl _, ?_, fun j h1 h2 => ?_, h1, ih⟩
    · show A.length < _
      rw [size_mk, List.length_append, List.length_append]
      have := hc.pos
      omega
    · simp only at h2
      omega
theorem vlC : ∀ cs : List CT, (∀ c ∈ cs, okC c) → VL ((flatC cs).map UInt8.toNat)
  | [], _ => VL.nil
  | c :: r, h => by
    rw [flatC_cons, List.map_append]
    exact VL.append (h c (List.mem_cons_self ..)).vl (vlC r fun x hx => h x (List.mem_cons_of_mem _ hx))
theorem scanC {cs : List CT} (ha : adjC cs) (hok : ∀ c ∈ cs, okC c) : someS ⟨(flatC cs).toArray⟩ = (wantC 0 cs, 0, 0) := by
  have hu : utfE ⟨(flatC cs).toArray⟩ = 0 := by rw [utfE_mk]; exact vlC cs hok
  rw [someS_eq, if_pos hu]
  have := chainC cs [] ha hok
  exact (scan_chain _ 0 (Nat.zero_le _) ((utfE_brk _).1 hu)).2 this
theorem wantC_len : ∀ (cs : List CT) (p : Nat), (wantC p cs).length = cs.length
  | [], _ => rfl
  | c :: r, p => by rw [wantC, List.length_cons, List.length_cons, wantC_len r]
theorem wantC_get : ∀ (cs : List CT) (A : List UInt8) (j : Nat) (c : CT), cs[j]? = some c → ∃ T' : Tk, (wantC A.length cs)[j]? = some T' ∧ T'.kind = c.kind ∧ T'.text = c.text ∧ (⟨(A ++ flatC cs).toArray⟩ : ByteArray).extract T'.fr T'.to = ⟨c.bytes.toArray⟩
  | [], A, j, c, h => by simp at h
  | c' :: r, A, 0, c, h => by
    simp at h
    subst h
    refine ⟨_, by rw [wantC, List.getElem?_cons_zero], rfl, rfl, ?_⟩
    rw [flatC_cons]
    exact ext_mid A c'.bytes (flatC r)
  | c' :: r, A, j + 1, c, h => by
    simp at h
    obtain ⟨T', h1, h2, h3, h4⟩ := wantC_get r (A ++ c'.bytes) j c h
    refine ⟨T', ?_, h2, h3, ?_⟩
    · rw [wantC, List.getElem?_cons_succ, ← h1, List.length_append]
    · rw [flatC_cons, ← List.append_assoc]; exact h4
/-- How long the tokens are together. -/
def sumT : List Tk → Nat
  | [] => 0
  | T :: r => (T.to - T.fr) + sumT r
theorem sum_want : ∀ (cs : List CT) (p : Nat), sumT (wantC p cs) = (flatC cs).length
  | [], _ => rfl
  | c :: r, p => by
    rw [wantC, sumT, sum_want r, flatC_cons, List.length_append]
    show p + c.bytes.length - p + _ = _
    omega

/-! ### The tokens of a parsed text -/
def bytesI (s : ByteArray) (ts : List Tk) (p : Nat) : List UInt8 :=
  if kindT ts p = 1 then litNull else if kindT ts p = 2 then litFlag true else if kindT ts p = 3 then litFlag false else if kindT ts p = 4 then (wordT s ts p).data.toList
  else if kindT ts p = 5 then qN (textT ts p) else if kindT ts p = 6 then [123] else if kindT ts p = 7 then [125] else if kindT ts p = 8 then [91] else if kindT ts p = 9 then [93] else if kindT ts p = 10 then [58] else [44]
def canI (s : ByteArray) (ts : List Tk) (p : Nat) : CT := ⟨kindT ts p, textT ts p, bytesI s ts p⟩
def segI (s : ByteArray) (ts : List Tk) (p n : Nat) : List CT := (List.range' p n).map (canI s ts)
theorem segI_one (s : ByteArray) (ts : List Tk) (p : Nat) : segI s ts p 1 = [canI s ts p] := rfl
theorem segI_cons (s : ByteArray) (ts : List Tk) (p n : Nat) : segI s ts p (n + 1) = canI s ts p :: segI s ts (p + 1) n := by unfold segI; rw [List.range'_succ, List.map_cons]
theorem segI_app (s : ByteArray) (ts : List Tk) (p m n : Nat) : segI s ts p m ++ segI s ts (p + m) n = segI s ts p (m + n) := by
  unfold segI
  rw [← List.map_append, List.range'_append_1]
theorem p_toks {s : ByteArray} {ts : List Tk} (hno : ∀ p, kindT ts p ≠ 5 → textT ts p = noS) : ∀ f,
    (∀ deep p x q, pV s ts f deep p = .ok x q → p < q ∧ toksN x = segI s ts p (q - p)) ∧
    (∀ deep p xs q, pI s ts f deep p = .ok xs q → p < q ∧ xs ≠ [] ∧ toksL true xs ++ [pun 9 93] = segI s ts p (q - p)) ∧
    (∀ deep seen p xs q, pM s ts f deep seen p = .ok xs q → p < q ∧ xs ≠ [] ∧ toksM true xs ++ [pun 7 125] = segI s ts p (q - p))
  | 0 => ⟨(fun _ _ _ _ h => by rw [pV] at h; cases h), (fun _ _ _ _ h => by rw [pI] at h; cases h), (fun _ _ _ _ _ h => by rw [pM] at h; cases h)⟩
  | f + 1 => by
    obtain ⟨iV, iI, iM⟩ := p_toks hno f
    have c8 : ∀ p, kindT ts p = 8 → canI s ts p = pun 8 91 := fun p h => by unfold canI bytesI; rw [hno p (by omega), h]; rfl
    have c6 : ∀ p, kindT ts p = 6 → canI s ts p = pun 6 123 := fun p h => by unfold canI bytesI; rw [hno p (by omega), h]; rfl
    have c9 : ∀ p, kindT ts p = 9 → canI s ts p = pun 9 93 := fun p h => by unfold canI bytesI; rw [hno p (by omega), h]; rfl
    have c7 : ∀ p, kindT ts p = 7 → canI s ts p = pun 7 125 := fun p h => by unfold canI bytesI; rw [hno p (by omega), h]; rfl
    have c10 : ∀ p, kindT ts p = 10 → canI s ts p = pun 10 58 := fun p h => by unfold canI bytesI; rw [hno p (by omega), h]; rfl
    have c11 : ∀ p, kindT ts p = 11 → canI s ts p = pun 11 44 := fun p h => by unfold canI bytesI; rw [hno p (by omega), h]; rfl
    have c5 : ∀ p, kindT ts p = 5 → canI s ts p = ⟨5, textT ts p, qN (textT ts p)⟩ := fun p h => by unfold canI bytesI; rw [h]; rfl
    have one : ∀ p, p + 1 - p = 1 := fun p => by omega
    have rst : ∀ stop r b r', rest s ts stop r = .ok b r' → r' = r + 1 ∧ (b = true → kindT ts r = stop) ∧ (b = false → kindT ts r = 11) := fun stop r b r' h => by
      unfold rest at h
      split at h
      · cases h; exact ⟨rfl, (fun _ => by assumption), (fun e => by cases e)⟩
      · split at h
        · cases h; exact ⟨rfl, (fun e => by cases e), (fun _ => by assumption)⟩
        · cases h
    have commaL : ∀ ys, toksL false ys = if ys = [] then [] else pun 11 44 :: toksL true ys := fun ys => by
      cases ys with
      | nil => rw [toksL]; rfl
      | cons y ys => rw [if_neg (List.cons_ne_nil _ _), toksL, toksL]; rfl
    have commaM : ∀ ys, toksM false ys = if ys = [] then [] else pun 11 44 :: toksM true ys := fun ys => by
      cases ys with
      | nil => rw [toksM]; rfl
      | cons y ys => obtain ⟨k, p, y⟩ := y; rw [if_neg (List.cons_ne_nil _ _), toksM, toksM]; rfl
    refine ⟨?_, ?_, ?_⟩
    · intro deep p x q h
      rw [pV] at h
      split at h
      · rename_i k; cases h; exact ⟨Nat.lt_succ_self _, by rw [one, segI_one, toksN]; unfold canI bytesI; rw [hno p (by omega), k]; rfl⟩
      split at h
      · rename_i k; cases h; exact ⟨Nat.lt_succ_self _, by rw [one, segI_one, toksN]; unfold canI bytesI; rw [hno p (by omega), k]; rfl⟩
      split at h
      · rename_i k; cases h; exact ⟨Nat.lt_succ_self _, by rw [one, segI_one, toksN]; unfold canI bytesI; rw [hno p (by omega), k]; rfl⟩
      split at h
      · rename_i k; cases h; exact ⟨Nat.lt_succ_self _, by rw [one, segI_one, toksN]; unfold canI bytesI; rw [hno p (by omega), k]; rfl⟩
      split at h
      · rename_i k; cases h; exact ⟨Nat.lt_succ_self _, by rw [one, segI_one, toksN, c5 p k]⟩
      split at h
      · rename_i k8
        split at h
        · cases h
        · by_cases h9 : kindT ts (p + 1) = 9
          · rw [if_pos h9] at h; cases h
            refine ⟨by omega, ?_⟩
            rw [show p + 2 - p = 1 + 1 by omega, segI_cons, segI_one, c8 p k8, c9 _ h9, toksN, toksL]; rfl
          · rw [if_neg h9] at h
            cases hI : pI s ts f deep (p + 1) with
            | ok xs r =>
              rw [hI] at h; cases h
              obtain ⟨h1, _, h2⟩ := iI _ _ _ _ hI
              refine ⟨by omega, ?_⟩
              rw [show q - p = (q - (p + 1)) + 1 by omega, segI_cons, c8 p k8, toksN, h2]
            | err k pl => rw [hI] at h; cases h
            | out => rw [hI] at h; cases h
      split at h
      · rename_i k6
        split at h
        · cases h
        · by_cases h9 : kindT ts (p + 1) = 7
          · rw [if_pos h9] at h; cases h
            refine ⟨by omega, ?_⟩
            rw [show p + 2 - p = 1 + 1 by omega, segI_cons, segI_one, c6 p k6, c7 _ h9, toksN, toksM]; rfl
          · rw [if_neg h9] at h
            cases hI : pM s ts f deep [] (p + 1) with
            | ok xs r =>
              rw [hI] at h; cases h
              obtain ⟨h1, _, h2⟩ := iM _ _ _ _ _ hI
              refine ⟨by omega, ?_⟩
              rw [show q - p = (q - (p + 1)) + 1 by omega, segI_cons, c6 p k6, toksN, h2]
            | err k pl => rw [hI] at h; cases h
            | out => rw [hI] at h; cases h
      cases h
    · intro deep p xs q h
      rw [pI] at h
      cases hV : pV s ts f (deep + 1) p with
      | err k pl => rw [hV] at h; cases h
      | out => rw [hV] at h; cases h
      | ok x r =>
        rw [hV] at h
        dsimp only at h
        obtain ⟨h1, h2⟩ := iV _ _ _ _ hV
        cases hr : rest s ts 9 r with
        | err k pl => rw [hr] at h; cases h
        | out => rw [hr] at h; cases h
        | ok b r' =>
          obtain ⟨rfl, hb1, hb2⟩ := rst _ _ _ _ hr
          rw [hr] at h
          cases b with
          | true =>
            cases h
            refine ⟨by omega, List.cons_ne_nil _ _, ?_⟩
            rw [toksL, toksL, h2, show r + 1 - p = (r - p) + 1 by omega, ← segI_app, segI_one, show p + (r - p) = r by omega, c9 r (hb1 rfl)]
            simp
          | false =>
            dsimp only at h
            cases hI : pI s ts f deep (r + 1) with
            | ok ys r2 =>
              rw [hI] at h; cases h
              obtain ⟨h3, hne, h4⟩ := iI _ _ _ _ hI
              refine ⟨by omega, List.cons_ne_nil _ _, ?_⟩
              rw [toksL, commaL, if_neg hne, h2]
              rw [show q - p = (r - p) + ((q - (r + 1)) + 1) by omega, ← segI_app, show p + (r - p) = r by omega, segI_cons, c11 r (hb2 rfl), ← h4]
              simp
            | err k pl => rw [hI] at h; cases h
            | out => rw [hI] at h; cases h
    · intro deep seen p xs q h
      rw [pM] at h
      split at h
      · rename_i k5
        split at h
        · cases h
        · split at h
          · rename_i k10
            cases hV : pV s ts f (deep + 1) (p + 2) with
            | err k pl => rw [hV] at h; cases h
            | out => rw [hV] at h; cases h
            | ok x r =>
              rw [hV] at h
              dsimp only at h
              obtain ⟨h1, h2⟩ := iV _ _ _ _ hV
              cases hr : rest s ts 7 r with
              | err k pl => rw [hr] at h; cases h
              | out => rw [hr] at h; cases h
              | ok b r' =>
                obtain ⟨rfl, hb1, hb2⟩ := rst _ _ _ _ hr
                rw [hr] at h
                cases b with
                | true =>
                  cases h
                  refine ⟨by omega, List.cons_ne_nil _ _, ?_⟩
                  rw [toksM, toksM, h2, show r + 1 - p = ((r - (p + 2)) + 1 + 1) + 1 by omega, segI_cons, segI_cons, ← segI_app, segI_one, show p + 1 + 1 + (r - (p + 2)) = r by omega, c7 r (hb1 rfl), c5 p k5, c10 _ k10]
                  simp
                | false =>
                  dsimp only at h
                  cases hI : pM s ts f deep (seen ++ [textT ts p]) (r + 1) with
                  | ok ys r2 =>
                    rw [hI] at h; cases h
                    obtain ⟨h3, hne, h4⟩ := iM _ _ _ _ _ hI
                    refine ⟨by omega, List.cons_ne_nil _ _, ?_⟩
                    rw [toksM, commaM, if_neg hne, h2]
                    rw [show q - p = ((r - (p + 2)) + ((q - (r + 1)) + 1) + 1) + 1 by omega, segI_cons, segI_cons, ← segI_app, show p + 1 + 1 + (r - (p + 2)) = r by omega, segI_cons, c11 r (hb2 rfl), ← h4, c5 p k5, c10 _ k10]
                    simp
                  | err k pl => rw [hI] at h; cases h
                  | out => rw [hI] at h; cases h
          · cases h
      · cases h

end Go.Proofs.YtibopkodoidjoaaGreatDoor

/- Package tree: Count; a parse's node is small. -/
namespace Go.Proofs.YtibopkodoidjoaaGreatDoor
open Go Go.RowKit

theorem one6_le (n i : Nat) : one6 n i ≤ 1 := by unfold one6; split <;> omega
mutual
theorem cnt_le : ∀ (x : Nd) (i : Nat), cntN x i ≤ (toksN x).length
  | .null _, i => by rw [cntN, toksN]; exact one6_le _ _
  | .flag _ _, i => by rw [cntN, toksN]; exact one6_le _ _
  | .num _ _, i => by rw [cntN, toksN]; exact one6_le _ _
  | .text _ _, i => by rw [cntN, toksN]; exact one6_le _ _
  | .lst _ xs, i => by
    have h1 := one6_le 4 i
    have h2 := cntL_le true xs i
    rw [cntN, toksN, List.length_cons, List.length_append]
    omega
  | .obj _ xs, i => by
    have h1 := one6_le 5 i
    have h2 := cntM_le true xs i
    rw [cntN, toksN, List.length_cons, List.length_append]
    omega
theorem cntL_le : ∀ (b : Bool) (xs : List Nd) (i : Nat), cntL xs i ≤ (toksL b xs).length
  | _, [], i => by rw [cntL]; exact Nat.zero_le _
  | b, x :: xs, i => by
    have h1 := cnt_le x i
    have h2 := cntL_le false xs i
    rw [cntL, toksL, List.length_append, List.length_append]
    omega
theorem cntM_le : ∀ (b : Bool) (xs : List (ByteArray × Nat × Nd)) (i : Nat), cntM xs i ≤ (toksM b xs).length
  | _, [], i => by rw [cntM]; exact Nat.zero_le _
  | b, (k, p, x) :: xs, i => by
    have h1 := cnt_le x i
    have h2 := cntM_le false xs i
    rw [cntM, toksM, List.length_append, List.length_cons, List.length_cons, List.length_append]
    omega
end
/-- Only a text's token has a text. -/
theorem one_text_no {s : ByteArray} {i : Nat} {T : Tk} (h : oneAt s i = (0, 0, T)) (hk : T.kind ≠ 5) : T.text = noS := by
  unfold oneAt at h
  simp only at h
  split at h
  · cases h; rfl
  split at h
  · split at h
    · cases h; rfl
    · cases h
  split at h
  · split at h
    · cases h; rfl
    · cases h
  split at h
  · split at h
    · cases h; rfl
    · cases h
  split at h
  · split at h
    · cases h; rfl
    · cases h
  split at h
  · split at h
    · cases h; exact absurd rfl hk
    · rename_i h5
      simp only [Prod.mk.injEq] at h
      exact absurd h.1 h5
  · cases h
/-- Of a text that scans: its tokens, each by itself. -/
theorem some_tok {s : ByteArray} (h : (someS s).2.1 = 0) : ∀ T ∈ (someS s).1, T.fr < T.to ∧ T.to ≤ s.size ∧ brkAt s T.fr = s.size ∧ oneAt s T.fr = (0, 0, T) := by
  obtain ⟨hu, hch, _⟩ := some_chain h
  intro T hT
  obtain ⟨h1, h2, h3, h4, h5, h6⟩ := chain_bd _ 0 ((utfE_brk s).1 hu) (Nat.zero_le _) hch T hT
  exact ⟨h2, h3, h4, h6⟩
theorem some_no {s : ByteArray} (h : (someS s).2.1 = 0) (p : Nat) (hk : kindT (someS s).1 p ≠ 5) : textT (someS s).1 p = noS := by
  unfold textT
  unfold kindT at hk
  cases hT : (someS s).1[p]? with
  | none => rfl
  | some T =>
    rw [hT] at hk
    exact one_text_no (some_tok h T (List.mem_of_getElem? hT)).2.2.2 hk
theorem parse_toks {s : ByteArray} {x : Nd} {q : Nat} (h : parseS s = .ok x q) : (someS s).2.1 = 0 ∧ q = (someS s).1.length ∧ toksN x = segI s (someS s).1 0 (someS s).1.length := by
  unfold parseS at h
  by_cases h0 : (someS s).2.1 = 0
  · rw [if_pos h0] at h
    obtain ⟨h1, h2⟩ := parse_pV h
    have := (p_toks (s := s) (some_no h0) _).1 _ _ _ _ h1
    rw [h2, Nat.sub_zero] at this
    exact ⟨h0, h2, this.2⟩
  · rw [if_neg h0] at h; cases h
theorem parse_cnt {s : ByteArray} {x : Nd} {q : Nat} (hs : s.size ≤ 4611686018427387904) (h : parseS s = .ok x q) (i : Nat) : cntN x i ≤ 4611686018427387904 := by
  obtain ⟨h0, h1, h2⟩ := parse_toks h
  obtain ⟨hu, hch, _⟩ := some_chain h0
  have hlen := chain_len _ 0 ((utfE_brk s).1 hu) (Nat.zero_le _) hch
  have h3 := cnt_le x i
  rw [h2] at h3
  unfold segI at h3
  simp at h3
  omega
theorem fin_cells {w : World} {b : Nat} {f : Nat → Nat} (h : CntB b f w) : w.cell? ⟨b, 0, none⟩ = some (.int .i64 (f 0 : Int)) ∧ w.cell? ⟨b, 1, none⟩ = some (.int .i64 (f 1 : Int)) ∧ w.cell? ⟨b, 2, none⟩ = some (.int .i64 (f 2 : Int)) ∧
    w.cell? ⟨b, 3, none⟩ = some (.int .i64 (f 3 : Int)) ∧ w.cell? ⟨b, 4, none⟩ = some (.int .i64 (f 4 : Int)) ∧ w.cell? ⟨b, 5, none⟩ = some (.int .i64 (f 5 : Int)) :=
  ⟨h.at (by decide), h.at (by decide), h.at (by decide), h.at (by decide), h.at (by decide), h.at (by decide)⟩
theorem fin_free {w : World} {b : Nat} {f : Nat → Nat} (h : CntB b f w) : w.frozen? ⟨b, 0, none⟩ = false ∧ w.frozen? ⟨b, 1, none⟩ = false ∧ w.frozen? ⟨b, 2, none⟩ = false ∧ w.frozen? ⟨b, 3, none⟩ = false ∧ w.frozen? ⟨b, 4, none⟩ = false ∧ w.frozen? ⟨b, 5, none⟩ = false :=
  ⟨freeB h 0, freeB h 1, freeB h 2, freeB h 3, freeB h 4, freeB h 5⟩
def set6 (w : World) (r : Nat) (v0 v1 v2 v3 v4 v5 : Value) : World := (((((w.setCell ⟨r, 0, none⟩ v0).setCell ⟨r, 1, none⟩ v1).setCell ⟨r, 2, none⟩ v2).setCell ⟨r, 3, none⟩ v3).setCell ⟨r, 4, none⟩ v4).setCell ⟨r, 5, none⟩ v5
theorem below_set6 {n : Nat} {w w1 : World} {r : Nat} (h : Below n w w1) (hr : n ≤ r) (v0 v1 v2 v3 v4 v5 : Value) : Below n w (set6 w1 r v0 v1 v2 v3 v4 v5) :=
  (((((h.setCell hr v0).setCell hr v1).setCell hr v2).setCell hr v3).setCell hr v4).setCell hr v5
theorem far_set6 {w : World} {r g : Nat} (h : g ≠ r) (v0 v1 v2 v3 v4 v5 : Value) : (set6 w r v0 v1 v2 v3 v4 v5).heap[g]? = w.heap[g]? := by
  unfold set6
  rw [set_far _ _ _ h, set_far _ _ _ h, set_far _ _ _ h, set_far _ _ _ h, set_far _ _ _ h, set_far _ _ _ h]
set_option maxHeartbeats 1000000 in
set_option maxRecDepth 100000 in
theorem Count_calls {A : Nat → Addr} {B : Nat} (s : ByteArray) (w : World) (hE : Env A B SVN w) (hs : s.size ≤ 3518437208882) :
    Calls Tryz.prog 17 #[.string s] w fun e w' => ErrR A w.heap.size (parseS s) (.agg (intsC (match parseS s with | .ok x _ => cntN x | _ => fun _ => 0))) (.agg (intsC fun _ => 0)) e w' ∧ Below w.heap.size w w' := by
  have P := Lib.hid (fun w hE => Parse_calls (A := A) (B := B) s w hE hs)
  have hc := Lib.hid (fun x q h => parse_cnt (s := s) (x := x) (q := q) (by omega) h)
  have hz0 : (.agg (intsC fun _ => 0) : Value) = .agg #[.int .i64 0, .int .i64 0, .int .i64 0, .int .i64 0, .int .i64 0, .int .i64 0] := rfl
  replace hE := Lib.hid hE
  generalize parseS s = R at *
  cases R with
  | out =>
    go_enter Tryz.func17, Tryz.ntmps17
    (go_wp2_with fail; repeat (any_goals (go_quiet (fail); go_wp2_with fail)))
    refine (P.out _ (hE.out.next (by repeat (first | assumption | exact Below.refl _ _ | apply Below.drew | apply below_drewN | apply balloc | (refine Below.setCell ?_ (by first | omega | (simp <;> omega)) _))))).mono ?_
    rintro e w1 ⟨hr, hb⟩
    exact hr.elim
  | err k pl =>
    rw [hz0]
    clear hz0
    go_enter Tryz.func17, Tryz.ntmps17
    (go_wp2_with fail; repeat (any_goals (go_quiet (fail); go_wp2_with fail)))
    refine (P.out _ (hE.out.next (by repeat (first | assumption | exact Below.refl _ _ | apply Below.drew | apply below_drewN | apply balloc | (refine Below.setCell ?_ (by first | omega | (simp <;> omega)) _))))).mono ?_
    rintro e w1 ⟨⟨g, hg, rfl, hat⟩, hb⟩
    have hb1 : Below w.heap.size w w1 := bcall (by repeat (first | assumption | exact Below.refl _ _ | apply Below.drew | apply below_drewN | apply balloc | (refine Below.setCell ?_ (by first | omega | (simp <;> omega)) _))) hb
    have q1 : CntB w.heap.size (fun _ => 0) w1 := (hb.block _ (by simp; omega)).trans (old2 w _ _)
    have q2 : CntB (w.heap.size + 1) (fun _ => 0) w1 := (hb.block _ (by simp)).trans (new2 w _ _)
    replace hat := Lib.hid hat
    clear hb
    obtain ⟨c0, c1, c2, c3, c4, c5⟩ := fin_cells q2
    obtain ⟨d0, d1, d2, d3, d4, d5⟩ := fin_cells q1
    obtain ⟨f0, f1, f2, f3, f4, f5⟩ := fin_free q1
    have hlt := ltB q1
    replace q1 := Lib.hid q1
    replace q2 := Lib.hid q2
    simp only [Int.natCast_zero] at c0 c1 c2 c3 c4 c5 d0 d1 d2 d3 d4 d5
    go_wp2_with fail
    refine bodyPost_ret (v := .tuple #[.agg #[.int .i64 0, .int .i64 0, .int .i64 0, .int .i64 0, .int .i64 0, .int .i64 0], .iface 69 (.pointer (some ⟨g, 0, none⟩))]) (by simp [results, Tryz.results17, go_sem, *]) rfl ?_
    have hg' : w.heap.size < g := by simp at hg; omega
    exact ⟨⟨g, Nat.le_of_lt hg', rfl, (far_set6 (Nat.ne_of_gt hg') _ _ _ _ _ _).trans hat.out⟩, below_set6 hb1 (Nat.le_refl _) _ _ _ _ _ _⟩
  | ok x q =>
    have hcx := Lib.hid (hc.out x q rfl)
    have CC : Hid (∀ w0 lo hi u, OwnN w0 lo hi u x → CntC w0 lo hi u x) := Lib.hid (fun _ _ _ _ h => count_calls h)
    obtain ⟨F, hF⟩ : ∃ F : Nat → Nat, F = cntN x := ⟨_, rfl⟩
    have hpost : (.agg (intsC (match (PR.ok x q : PR Nd) with | .ok x _ => cntN x | _ => fun _ => 0)) : Value) = .agg #[.int .i64 (F 0 : Int), .int .i64 (F 1 : Int), .int .i64 (F 2 : Int), .int .i64 (F 3 : Int), .int .i64 (F 4 : Int), .int .i64 (F 5 : Int)] := by rw [hF]; rfl
    rw [hpost, hz0]
    clear hz0 hpost
    have hFx : Hid (∀ i, F i = 0 + cntN x i) := Lib.hid (fun i => by rw [hF, Nat.zero_add])
    replace hF := Lib.hid hF
    go_enter Tryz.func17, Tryz.ntmps17
    (go_wp2_with fail; repeat (any_goals (go_quiet (fail); go_wp2_with fail)))
    refine (P.out _ (hE.out.next (by repeat (first | assumption | exact Below.refl _ _ | apply Below.drew | apply below_drewN | apply balloc | (refine Below.setCell ?_ (by first | omega | (simp <;> omega)) _))))).mono ?_
    rintro e w1 ⟨⟨u, rfl, hN⟩, hb⟩
    have hb1 : Below w.heap.size w w1 := bcall (by repeat (first | assumption | exact Below.refl _ _ | apply Below.drew | apply below_drewN | apply balloc | (refine Below.setCell ?_ (by first | omega | (simp <;> omega)) _))) hb
    have p1 : CntB w.heap.size (fun _ => 0) w1 := (hb.block _ (by simp; omega)).trans (old2 w _ _)
    have p2 : CntB (w.heap.size + 1) (fun _ => 0) w1 := (hb.block _ (by simp)).trans (new2 w _ _)
    have hz1 := hb.size
    simp at hz1
    obtain ⟨ut, ua, rfl⟩ := hN.form
    have C := Lib.hid (CC.out _ _ _ _ hN w1 (w.heap.size + 1) (fun _ => 0) (fun _ _ _ => rfl) (Or.inl (by simp)) (Nat.le_refl _) p2 (fun i => by rw [Nat.zero_add]; exact hcx.out i))
    replace hN := Lib.hid hN
    replace p1 := Lib.hid p1
    clear hb p2
    go_wp2_with fail
    refine C.out.mono ?_
    rintro e w2 ⟨rfl, hB2, hg2⟩
    have q2 : CntB (w.heap.size + 1) F w2 := hB2.congr (fun i => hFx.out i)
    have q1 : CntB w.heap.size (fun _ => 0) w2 := (hg2.block _ (ltB p1.out) (fun e => by have := Option.some.inj e; omega)).trans p1.out
    have hb2 : Below w.heap.size w w2 := hb1.trans (grown_below hg2 (by omega) (by omega))
    clear hB2 hg2 hb1
    obtain ⟨c0, c1, c2, c3, c4, c5⟩ := fin_cells q2
    obtain ⟨d0, d1, d2, d3, d4, d5⟩ := fin_cells q1
    obtain ⟨f0, f1, f2, f3, f4, f5⟩ := fin_free q1
    have hlt := ltB q1
    replace q1 := Lib.hid q1
    replace q2 := Lib.hid q2
    simp only [Int.natCast_zero] at c0 c1 c2 c3 c4 c5 d0 d1 d2 d3 d4 d5
    go_wp2_with fail
    refine bodyPost_ret (v := .tuple #[.agg #[.int .i64 (F 0 : Int), .int .i64 (F 1 : Int), .int .i64 (F 2 : Int), .int .i64 (F 3 : Int), .int .i64 (F 4 : Int), .int .i64 (F 5 : Int)], .nilIface]) (by simp [results, Tryz.results17, go_sem, *]) rfl ?_
    exact ⟨rfl, below_set6 hb2 (Nat.le_refl _) _ _ _ _ _ _⟩

end Go.Proofs.YtibopkodoidjoaaGreatDoor
