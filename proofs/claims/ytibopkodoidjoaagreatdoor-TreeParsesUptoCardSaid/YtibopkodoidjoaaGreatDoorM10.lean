/- Lemmas of the proof, put together: Rd11, TreeCount, TreeBlPlain, TreeTok, TreeCount2, Rd12, TreeParses. -/
import Derived.Test.YtibopkodoidjoaaGreatDoorM9
import Derived.Test.YtibopkodoidjoaaGreatDoorM8
import Derived.Test.YtibopkodoidjoaaGreatDoorM7
import Derived.Test.YtibopkodoidjoaaGreatDoorM6
import Derived.Test.YtibopkodoidjoaaGreatDoorM4

/- The reference's tree: value, lists and objects; value whole. -/
namespace Go.Proofs.YtibopkodoidjoaaGreatDoor
open Go Go.RowKit

theorem own_lst {w W : World} {v : Value} {g n0 P : Nat} {cs : List RKid} (hr : w.ownsRow n0 33 7 v cs.length (cs.flatMap RKid.u)) (hk : RKids n0 w [v.ownBlock] cs) (hg : g < n0) (hG : w.grownBy W (some g)) :
    OwnR W g W.heap.size (rdC 4 P false noS v (.slice none 0 0) (.slice none 0 0)) (.lst P (cs.map RKid.x)) :=
  .lst _ _ _ _ cs (ownsRow_base (row_grown hr hG hg) (Nat.le_of_lt hg)) (fun k e => ((row_grown hr hG hg).lt k e).2) (fun c hm => ((hk.other hG hg).fit c hm).wide (Nat.le_of_lt hg) (Nat.le_refl _)) (hk.other hG hg).kid
theorem own_obj {w W : World} {vi vk vp : Value} {g n0 P : Nat} {cs : List RKid} (hr : R3 n0 w vi vk vp cs) (hk : RKids n0 w [vi.ownBlock, vk.ownBlock, vp.ownBlock] cs) (hg : g < n0) (hG : w.grownBy W (some g)) :
    OwnR W g W.heap.size (rdC 5 P false noS vi vk vp) (.obj P (cs.map RKid.mem)) :=
  have h := (hr.grown hG hg).base (Nat.le_of_lt hg)
  .obj _ _ _ _ _ _ cs h.i (fun k e => (h.i.lt k e).2) h.k (fun k e => (h.k.lt k e).2) h.p (fun k e => (h.p.lt k e).2) (fun c hm => ((hk.other hG hg).fit c hm).wide (Nat.le_of_lt hg) (Nat.le_refl _)) (hk.other hG hg).kid
def lstR (P : Nat) : PR (List Nd) → PR Nd
  | .ok xs q => .ok (.lst P xs) q
  | .err k pl => .err k pl
  | .out => .out
def objR (P : Nat) : PR (List (ByteArray × Nat × Nd)) → PR Nd
  | .ok xs q => .ok (.obj P xs) q
  | .err k pl => .err k pl
  | .out => .out
set_option maxHeartbeats 2000000 in
set_option maxRecDepth 100000 in
theorem rvalue_deep8 {base : Nat} {v : Value} {ts : List Tk} (s : ByteArray) (p pl b : Nat) (w : World) (hW : RdW base s v ts p pl 0 b w) (hK : kindT ts p = 8) :
    Calls Tryz.prog 34 #[.pointer (some ⟨b, 0, none⟩), .int .i64 64] w (PostRV s v ts.length pl b w (.err 3 (placeT s ts p))) := by
  have F := Lib.hid (fun q w hW => rfail_new s v p pl b q 3 w hW)
  have H := Lib.hid (fun w hW => here_calls (base := base) (v := v) (ts := ts) s p pl 0 b w hW)
  have N := Lib.hid (fun w hW => peek_calls (base := base) (v := v) (ts := ts) s p pl 0 b w hW)
  obtain ⟨P1, hP1⟩ : ∃ P1, P1 = placeT s ts p := ⟨_, rfl⟩
  rw [← hP1] at H ⊢
  rw [hK] at N
  have hbl := hW.lt
  have hpb : (p : Int) + 1 ≤ 3518437208884 := by have := hW.hl; have := hW.hp; omega
  replace hW := Lib.hid hW
  replace hP1 := Lib.hid hP1
  replace hK := Lib.hid hK
  go_enter Tryz.func34, Tryz.ntmps34
  (go_wp2_with fail; repeat (any_goals (go_quiet (fail); go_wp2_with fail)))
  refine (H.out _ (hW.out.next (by repeat (first | assumption | exact Below.refl _ _ | apply Below.drew | apply below_drewN | apply balloc | (refine Below.setCell ?_ (by first | omega | (simp <;> omega)) _))))).mono ?_
  rintro e w1 ⟨rfl, hb⟩
  have hb1 : Below w.heap.size w w1 := bcall (by repeat (first | assumption | exact Below.refl _ _ | apply Below.drew | apply below_drewN | apply balloc | (refine Below.setCell ?_ (by first | omega | (simp <;> omega)) _))) hb
  have hx := boxed hb
  have hz1 := ltB hx
  have hz2 : b ≠ w.heap.size := by omega
  have hz3 : b ≠ w1.heap.size := by omega
  have hz4 : w.heap.size ≠ w1.heap.size := by omega
  clear hb
  have hW1 := hW.out.next hb1
  have x4 := hW1.rd.c4
  have hbl1 := hW1.lt
  replace hW1 := Lib.hid hW1
  go_wp2_with fail
  refine (N.out _ (hW1.out.next (by repeat (first | assumption | exact Below.refl _ _ | apply Below.drew | apply below_drewN | apply balloc | (refine Below.setCell ?_ (by first | omega | (simp <;> omega)) _))))).mono ?_
  rintro e w2 ⟨rfl, hb⟩
  have hb2 : Below w.heap.size w w2 := bcall (balloc hb1) hb
  have hn := boxed hb
  replace hx := box_next hx (bcall (w := w1) (balloc (Below.refl _ _)) hb)
  clear hb x4
  have hW2 := hW.out.next hb2
  have x2 := hW2.rd.c2
  have f2 := freeB hW2.rd 2
  have hbl2 := hW2.lt
  have hx0 := ltB hx
  have hn0 := ltB hn
  replace hW2 := Lib.hid hW2
  have yc0 := cellB hx 0 rfl
  have yc1 := cellB hx 1 rfl
  have yc2 := cellB hx 2 rfl
  have yc3 := cellB hx 3 rfl
  have yc4 := cellB hx 4 rfl
  have yc5 := cellB hx 5 rfl
  have yc6 := cellB hx 6 rfl
  have yf0 := freeB hx 0
  have yf1 := freeB hx 1
  have yf2 := freeB hx 2
  have yf3 := freeB hx 3
  have yf4 := freeB hx 4
  have yf5 := freeB hx 5
  have yf6 := freeB hx 6
  have zc0 := cellB hn 0 rfl
  have zc1 := cellB hn 1 rfl
  have zc2 := cellB hn 2 rfl
  have zc3 := cellB hn 3 rfl
  have zc4 := cellB hn 4 rfl
  have zc5 := cellB hn 5 rfl
  have zc6 := cellB hn 6 rfl
  have zf0 := freeB hn 0
  have zf1 := freeB hn 1
  have zf2 := freeB hn 2
  have zf3 := freeB hn 3
  have zf4 := freeB hn 4
  have zf5 := freeB hn 5
  have zf6 := freeB hn 6
  go_wp2_with fail
  refine (H.out _ (hW2.out.next (by repeat (first | assumption | exact Below.refl _ _ | apply Below.drew | apply below_drewN | apply balloc | (refine Below.setCell ?_ (by first | omega | (simp <;> omega)) _))))).mono ?_
  rintro e w3 ⟨rfl, hb⟩
  have hb3 : Below w.heap.size w w3 := bcall hb2 hb
  replace hx := box_next hx hb
  replace hn := box_next hn hb
  clear hb yc0 yc1 yc2 yc3 yc4 yc5 yc6 yf0 yf1 yf2 yf3 yf4 yf5 yf6 zc0 zc1 zc2 zc3 zc4 zc5 zc6 zf0 zf1 zf2 zf3 zf4 zf5 zf6 x2 f2 hx0 hn0 hbl2
  go_wp2_with fail
  refine (F.out _ _ (hW.out.next hb3).rd).mono ?_
  rintro e w4 ⟨rfl, hr, hg⟩
  have hx := (hg.block _ (ltB hx) (by intro e; cases e; exact hz2 rfl)).trans hx
  have hn := (hg.block _ (ltB hn) (by intro e; cases e; exact hz3 rfl)).trans hn
  have hg4 := grown_trans (grown_of_below (r := some b) hb3) hg
  clear hg
  have yc0 := cellB hx 0 rfl
  have yc1 := cellB hx 1 rfl
  have yc2 := cellB hx 2 rfl
  have yc3 := cellB hx 3 rfl
  have yc4 := cellB hx 4 rfl
  have yc5 := cellB hx 5 rfl
  have yc6 := cellB hx 6 rfl
  have yf0 := freeB hx 0
  have yf1 := freeB hx 1
  have yf2 := freeB hx 2
  have yf3 := freeB hx 3
  have yf4 := freeB hx 4
  have yf5 := freeB hx 5
  have yf6 := freeB hx 6
  have zc0 := cellB hn 0 rfl
  have zc1 := cellB hn 1 rfl
  have zc2 := cellB hn 2 rfl
  have zc3 := cellB hn 3 rfl
  have zc4 := cellB hn 4 rfl
  have zc5 := cellB hn 5 rfl
  have zc6 := cellB hn 6 rfl
  have zf0 := freeB hn 0
  have zf1 := freeB hn 1
  have zf2 := freeB hn 2
  have zf3 := freeB hn 3
  have zf4 := freeB hn 4
  have zf5 := freeB hn 5
  have zf6 := freeB hn 6
  have hx0 := ltB hx
  have hn0 := ltB hn
  have hp := hW.out.hp
  replace hr := Lib.hid hr
  replace hp := Lib.hid hp
  go_wp2_with fail
  obtain ⟨e1, e2, e3⟩ := rd_end hx hg4 hr.out hz2 (Nat.le_refl _) (.int .i64 0) (.int .i64 (P1 : Int)) (.bool false) (.string ⟨#[]⟩) (.slice none 0 0) (.slice none 0 0) (.slice none 0 0)
  exact bodyPost_ret (results_cell_row rfl _ _ w.heap.size 33 _ (0, 0) _ rfl e1 Tryz.underlying33 rfl info7) rfl ⟨e2, 0, P1, false, noS, _, _, _, p, rfl, ⟨⟨_, _, _, rfl⟩, ⟨_, _, _, rfl⟩, ⟨_, _, _, rfl⟩⟩, hp.out, e3⟩
set_option maxHeartbeats 2000000 in
set_option maxRecDepth 100000 in
theorem rvalue_deep6 {base : Nat} {v : Value} {ts : List Tk} (s : ByteArray) (p pl b : Nat) (w : World) (hW : RdW base s v ts p pl 0 b w) (hK : kindT ts p = 6) :
    Calls Tryz.prog 34 #[.pointer (some ⟨b, 0, none⟩), .int .i64 64] w (PostRV s v ts.length pl b w (.err 3 (placeT s ts p))) := by
  have F := Lib.hid (fun q w hW => rfail_new s v p pl b q 3 w hW)
  have H := Lib.hid (fun w hW => here_calls (base := base) (v := v) (ts := ts) s p pl 0 b w hW)
  have N := Lib.hid (fun w hW => peek_calls (base := base) (v := v) (ts := ts) s p pl 0 b w hW)
  obtain ⟨P1, hP1⟩ : ∃ P1, P1 = placeT s ts p := ⟨_, rfl⟩
  rw [← hP1] at H ⊢
  rw [hK] at N
  have hbl := hW.lt
  have hpb : (p : Int) + 1 ≤ 3518437208884 := by have := hW.hl; have := hW.hp; omega
  replace hW := Lib.hid hW
  replace hP1 := Lib.hid hP1
  replace hK := Lib.hid hK
  go_enter Tryz.func34, Tryz.ntmps34
  (go_wp2_with fail; repeat (any_goals (go_quiet (fail); go_wp2_with fail)))
  refine (H.out _ (hW.out.next (by repeat (first | assumption | exact Below.refl _ _ | apply Below.drew | apply below_drewN | apply balloc | (refine Below.setCell ?_ (by first | omega | (simp <;> omega)) _))))).mono ?_
  rintro e w1 ⟨rfl, hb⟩
  have hb1 : Below w.heap.size w w1 := bcall (by repeat (first | assumption | exact Below.refl _ _ | apply Below.drew | apply below_drewN | apply balloc | (refine Below.setCell ?_ (by first | omega | (simp <;> omega)) _))) hb
  have hx := boxed hb
  have hz1 := ltB hx
  have hz2 : b ≠ w.heap.size := by omega
  have hz3 : b ≠ w1.heap.size := by omega
  have hz4 : w.heap.size ≠ w1.heap.size := by omega
  clear hb
  have hW1 := hW.out.next hb1
  have x4 := hW1.rd.c4
  have hbl1 := hW1.lt
  replace hW1 := Lib.hid hW1
  go_wp2_with fail
  refine (N.out _ (hW1.out.next (by repeat (first | assumption | exact Below.refl _ _ | apply Below.drew | apply below_drewN | apply balloc | (refine Below.setCell ?_ (by first | omega | (simp <;> omega)) _))))).mono ?_
  rintro e w2 ⟨rfl, hb⟩
  have hb2 : Below w.heap.size w w2 := bcall (balloc hb1) hb
  have hn := boxed hb
  replace hx := box_next hx (bcall (w := w1) (balloc (Below.refl _ _)) hb)
  clear hb x4
  have hW2 := hW.out.next hb2
  have x2 := hW2.rd.c2
  have f2 := freeB hW2.rd 2
  have hbl2 := hW2.lt
  have hx0 := ltB hx
  have hn0 := ltB hn
  replace hW2 := Lib.hid hW2
  have yc0 := cellB hx 0 rfl
  have yc1 := cellB hx 1 rfl
  have yc2 := cellB hx 2 rfl
  have yc3 := cellB hx 3 rfl
  have yc4 := cellB hx 4 rfl
  have yc5 := cellB hx 5 rfl
  have yc6 := cellB hx 6 rfl
  have yf0 := freeB hx 0
  have yf1 := freeB hx 1
  have yf2 := freeB hx 2
  have yf3 := freeB hx 3
  have yf4 := freeB hx 4
  have yf5 := freeB hx 5
  have yf6 := freeB hx 6
  have zc0 := cellB hn 0 rfl
  have zc1 := cellB hn 1 rfl
  have zc2 := cellB hn 2 rfl
  have zc3 := cellB hn 3 rfl
  have zc4 := cellB hn 4 rfl
  have zc5 := cellB hn 5 rfl
  have zc6 := cellB hn 6 rfl
  have zf0 := freeB hn 0
  have zf1 := freeB hn 1
  have zf2 := freeB hn 2
  have zf3 := freeB hn 3
  have zf4 := freeB hn 4
  have zf5 := freeB hn 5
  have zf6 := freeB hn 6
  go_wp2_with fail
  refine (H.out _ (hW2.out.next (by repeat (first | assumption | exact Below.refl _ _ | apply Below.drew | apply below_drewN | apply balloc | (refine Below.setCell ?_ (by first | omega | (simp <;> omega)) _))))).mono ?_
  rintro e w3 ⟨rfl, hb⟩
  have hb3 : Below w.heap.size w w3 := bcall hb2 hb
  replace hx := box_next hx hb
  replace hn := box_next hn hb
  clear hb yc0 yc1 yc2 yc3 yc4 yc5 yc6 yf0 yf1 yf2 yf3 yf4 yf5 yf6 zc0 zc1 zc2 zc3 zc4 zc5 zc6 zf0 zf1 zf2 zf3 zf4 zf5 zf6 x2 f2 hx0 hn0 hbl2
  go_wp2_with fail
  refine (F.out _ _ (hW.out.next hb3).rd).mono ?_
  rintro e w4 ⟨rfl, hr, hg⟩
  have hx := (hg.block _ (ltB hx) (by intro e; cases e; exact hz2 rfl)).trans hx
  have hn := (hg.block _ (ltB hn) (by intro e; cases e; exact hz3 rfl)).trans hn
  have hg4 := grown_trans (grown_of_below (r := some b) hb3) hg
  clear hg
  have yc0 := cellB hx 0 rfl
  have yc1 := cellB hx 1 rfl
  have yc2 := cellB hx 2 rfl
  have yc3 := cellB hx 3 rfl
  have yc4 := cellB hx 4 rfl
  have yc5 := cellB hx 5 rfl
  have yc6 := cellB hx 6 rfl
  have yf0 := freeB hx 0
  have yf1 := freeB hx 1
  have yf2 := freeB hx 2
  have yf3 := freeB hx 3
  have yf4 := freeB hx 4
  have yf5 := freeB hx 5
  have yf6 := freeB hx 6
  have zc0 := cellB hn 0 rfl
  have zc1 := cellB hn 1 rfl
  have zc2 := cellB hn 2 rfl
  have zc3 := cellB hn 3 rfl
  have zc4 := cellB hn 4 rfl
  have zc5 := cellB hn 5 rfl
  have zc6 := cellB hn 6 rfl
  have zf0 := freeB hn 0
  have zf1 := freeB hn 1
  have zf2 := freeB hn 2
  have zf3 := freeB hn 3
  have zf4 := freeB hn 4
  have zf5 := freeB hn 5
  have zf6 := freeB hn 6
  have hx0 := ltB hx
  have hn0 := ltB hn
  have hp := hW.out.hp
  replace hr := Lib.hid hr
  replace hp := Lib.hid hp
  go_wp2_with fail
  obtain ⟨e1, e2, e3⟩ := rd_end hx hg4 hr.out hz2 (Nat.le_refl _) (.int .i64 0) (.int .i64 (P1 : Int)) (.bool false) (.string ⟨#[]⟩) (.slice none 0 0) (.slice none 0 0) (.slice none 0 0)
  exact bodyPost_ret (results_cell_row rfl _ _ w.heap.size 33 _ (0, 0) _ rfl e1 Tryz.underlying33 rfl info7) rfl ⟨e2, 0, P1, false, noS, _, _, _, p, rfl, ⟨⟨_, _, _, rfl⟩, ⟨_, _, _, rfl⟩, ⟨_, _, _, rfl⟩⟩, hp.out, e3⟩
set_option maxHeartbeats 2000000 in
set_option maxRecDepth 100000 in
theorem rvalue_lst {base : Nat} {v : Value} {ts : List Tk} (s : ByteArray) (f : Nat) (hV : ∀ f', f' < f → RVC base s v ts f') (deep p pl b : Nat) (w : World) (hW : RdW base s v ts p pl 0 b w) (hd : deep < 64) (hl : ts.length ≤ 1048577) (hK : kindT ts p = 8)
    (R : PR (List Nd)) (hR : R = if kindT ts (p + 1) = 9 then .ok [] (p + 1 + 1) else pI s ts f deep (p + 1)) (hRo : R ≠ .out) :
    Calls Tryz.prog 34 #[.pointer (some ⟨b, 0, none⟩), .int .i64 (deep : Int)] w (PostRV s v ts.length pl b w (lstR (placeT s ts p) R)) := by
  have hpl : p < ts.length := kindT_lt (by omega)
  have hdI : (deep : Int) < 64 := by omega
  have hdI2 : ¬ (64 : Int) ≤ (deep : Int) := by omega
  have IC := Lib.hid (fun P w hW => ritems_calls (base := base) (s := s) (v := v) (ts := ts) f hV deep (p + 1) pl P b w hW hd hl R hR hRo)
  replace hV := Lib.hid hV
  replace hRo := Lib.hid hRo
  replace hR := Lib.hid hR
  replace hl := Lib.hid hl
  replace hpl := Lib.hid hpl
  clear hd
  generalize (deep : Int) = D at *
  have H := Lib.hid (fun w hW => here_calls (base := base) (v := v) (ts := ts) s p pl 0 b w hW)
  have N := Lib.hid (fun w hW => peek_calls (base := base) (v := v) (ts := ts) s p pl 0 b w hW)
  obtain ⟨P1, hP1⟩ : ∃ P1, P1 = placeT s ts p := ⟨_, rfl⟩
  rw [← hP1] at H ⊢
  rw [hK] at N
  have hbl := hW.lt
  have hpb : (p : Int) + 1 ≤ 3518437208884 := by have := hW.hl; have := hW.hp; omega
  replace hW := Lib.hid hW
  replace hP1 := Lib.hid hP1
  replace hK := Lib.hid hK
  go_enter Tryz.func34, Tryz.ntmps34
  (go_wp2_with fail; repeat (any_goals (go_quiet (fail); go_wp2_with fail)))
  refine (H.out _ (hW.out.next (by repeat (first | assumption | exact Below.refl _ _ | apply Below.drew | apply below_drewN | apply balloc | (refine Below.setCell ?_ (by first | omega | (simp <;> omega)) _))))).mono ?_
  rintro e w1 ⟨rfl, hb⟩
  have hb1 : Below w.heap.size w w1 := bcall (by repeat (first | assumption | exact Below.refl _ _ | apply Below.drew | apply below_drewN | apply balloc | (refine Below.setCell ?_ (by first | omega | (simp <;> omega)) _))) hb
  have hx := boxed hb
  have hz1 := ltB hx
  have hz2 : b ≠ w.heap.size := by omega
  have hz3 : b ≠ w1.heap.size := by omega
  have hz4 : w.heap.size ≠ w1.heap.size := by omega
  clear hb
  have hW1 := hW.out.next hb1
  have x4 := hW1.rd.c4
  have hbl1 := hW1.lt
  replace hW1 := Lib.hid hW1
  go_wp2_with fail
  refine (N.out _ (hW1.out.next (by repeat (first | assumption | exact Below.refl _ _ | apply Below.drew | apply below_drewN | apply balloc | (refine Below.setCell ?_ (by first | omega | (simp <;> omega)) _))))).mono ?_
  rintro e w2 ⟨rfl, hb⟩
  have hb2 : Below w.heap.size w w2 := bcall (balloc hb1) hb
  have hn := boxed hb
  replace hx := box_next hx (bcall (w := w1) (balloc (Below.refl _ _)) hb)
  clear hb x4
  have hW2 := hW.out.next hb2
  have x2 := hW2.rd.c2
  have f2 := freeB hW2.rd 2
  have hbl2 := hW2.lt
  have hx0 := ltB hx
  have hn0 := ltB hn
  replace hW2 := Lib.hid hW2
  have yc0 := cellB hx 0 rfl
  have yc1 := cellB hx 1 rfl
  have yc2 := cellB hx 2 rfl
  have yc3 := cellB hx 3 rfl
  have yc4 := cellB hx 4 rfl
  have yc5 := cellB hx 5 rfl
  have yc6 := cellB hx 6 rfl
  have yf0 := freeB hx 0
  have yf1 := freeB hx 1
  have yf2 := freeB hx 2
  have yf3 := freeB hx 3
  have yf4 := freeB hx 4
  have yf5 := freeB hx 5
  have yf6 := freeB hx 6
  have zc0 := cellB hn 0 rfl
  have zc1 := cellB hn 1 rfl
  have zc2 := cellB hn 2 rfl
  have zc3 := cellB hn 3 rfl
  have zc4 := cellB hn 4 rfl
  have zc5 := cellB hn 5 rfl
  have zc6 := cellB hn 6 rfl
  have zf0 := freeB hn 0
  have zf1 := freeB hn 1
  have zf2 := freeB hn 2
  have zf3 := freeB hn 3
  have zf4 := freeB hn 4
  have zf5 := freeB hn 5
  have zf6 := freeB hn 6
  go_upto_if 84 with fail
  rw [show decide ((64 : Int) ≤ D) = false from decide_eq_false (by omega)]
  go_wp2_with fail
  have hx3 := other (i := 2) (u := .int .i64 ((p : Int) + 1)) hx hz2.symm
  have hr3 := RdB.set2 (q := p + 1) hW2.out.rd
  have hg3 := grown_trans (grown_of_below (r := some b) hb2) (grown_set _ b 2 (.int .i64 ((p : Int) + 1)))
  have hW3 := hW.out.step hg3 hr3 hpl.out
  refine (IC.out P1 _ hW3).mono ?_
  rintro e w4 ⟨hg4, vi, rfl, hm⟩
  cases R with
  | out => exact absurd rfl hRo.out
  | ok xs q =>
    obtain ⟨cs, hrow, hkids, rfl, hr4⟩ := hm
    obtain ⟨av, nv, cv, rfl⟩ := ownsRow_sl hrow
    have hx4 := (hg4.block _ (ltB hx3) (by intro e; cases e; exact hz2 rfl)).trans hx3
    have hg5 := Lib.hid (grown_trans hg3 hg4)
    have hgs := Lib.hid (ltB hx3)
    clear yc0 yc1 yc2 yc3 yc4 yc5 yc6 yf0 yf1 yf2 yf3 yf4 yf5 yf6 zc0 zc1 zc2 zc3 zc4 zc5 zc6 zf0 zf1 zf2 zf3 zf4 zf5 zf6 x2 f2 hx0 hn0 hg4
    have yc0 := cellB hx4 0 rfl
    have yc1 := cellB hx4 1 rfl
    have yc2 := cellB hx4 2 rfl
    have yc3 := cellB hx4 3 rfl
    have yc4 := cellB hx4 4 rfl
    have yc5 := cellB hx4 5 rfl
    have yc6 := cellB hx4 6 rfl
    have yf0 := freeB hx4 0
    have yf1 := freeB hx4 1
    have yf2 := freeB hx4 2
    have yf3 := freeB hx4 3
    have yf4 := freeB hx4 4
    have yf5 := freeB hx4 5
    have yf6 := freeB hx4 6
    have hx04 := ltB hx4
    replace hrow := Lib.hid hrow
    replace hkids := Lib.hid hkids
    replace hr4 := Lib.hid hr4
    go_wp2_with fail
    obtain ⟨e1, e2, e3⟩ := rd_end hx4 hg5.out hr4.out hz2 (Nat.le_refl _) (.int .i64 4) (.int .i64 (P1 : Int)) (.bool false) (.string ⟨#[]⟩) (.slice av nv cv) (.slice none 0 0) (.slice none 0 0)
    exact bodyPost_ret (results_cell_row rfl _ _ w.heap.size 33 _ (0, 0) _ rfl e1 Tryz.underlying33 rfl info7) rfl ⟨e2, _, rfl, own_lst hrow.out hkids.out hgs.out (set7_grown _ _ _ _ _ _ _ _ _), e3⟩
  | err k pl2 =>
    obtain ⟨⟨av, nv, cv, rfl⟩, q, hq, hr4⟩ := hm
    have hx4 := (hg4.block _ (ltB hx3) (by intro e; cases e; exact hz2 rfl)).trans hx3
    have hg5 := Lib.hid (grown_trans hg3 hg4)
    clear yc0 yc1 yc2 yc3 yc4 yc5 yc6 yf0 yf1 yf2 yf3 yf4 yf5 yf6 zc0 zc1 zc2 zc3 zc4 zc5 zc6 zf0 zf1 zf2 zf3 zf4 zf5 zf6 x2 f2 hx0 hn0 hg4
    have yc0 := cellB hx4 0 rfl
    have yc1 := cellB hx4 1 rfl
    have yc2 := cellB hx4 2 rfl
    have yc3 := cellB hx4 3 rfl
    have yc4 := cellB hx4 4 rfl
    have yc5 := cellB hx4 5 rfl
    have yc6 := cellB hx4 6 rfl
    have yf0 := freeB hx4 0
    have yf1 := freeB hx4 1
    have yf2 := freeB hx4 2
    have yf3 := freeB hx4 3
    have yf4 := freeB hx4 4
    have yf5 := freeB hx4 5
    have yf6 := freeB hx4 6
    have hx04 := ltB hx4
    replace hr4 := Lib.hid hr4
    go_wp2_with fail
    obtain ⟨e1, e2, e3⟩ := rd_end hx4 hg5.out hr4.out hz2 (Nat.le_refl _) (.int .i64 4) (.int .i64 (P1 : Int)) (.bool false) (.string ⟨#[]⟩) (.slice av nv cv) (.slice none 0 0) (.slice none 0 0)
    exact bodyPost_ret (results_cell_row rfl _ _ w.heap.size 33 _ (0, 0) _ rfl e1 Tryz.underlying33 rfl info7) rfl ⟨e2, 4, P1, false, noS, _, _, _, q, rfl, ⟨⟨_, _, _, rfl⟩, ⟨_, _, _, rfl⟩, ⟨_, _, _, rfl⟩⟩, hq, e3⟩
set_option maxHeartbeats 2000000 in
set_option maxRecDepth 100000 in
theorem rvalue_obj {base : Nat} {v : Value} {ts : List Tk} (s : ByteArray) (f : Nat) (hV : ∀ f', f' < f → RVC base s v ts f') (deep p pl b : Nat) (w : World) (hW : RdW base s v ts p pl 0 b w) (hd : deep < 64) (hl : ts.length ≤ 1048577) (hK : kindT ts p = 6)
    (R : PR (List (ByteArray × Nat × Nd))) (hR : R = if kindT ts (p + 1) = 7 then .ok [] (p + 1 + 1) else pM s ts f deep [] (p + 1)) (hRo : R ≠ .out) :
    Calls Tryz.prog 34 #[.pointer (some ⟨b, 0, none⟩), .int .i64 (deep : Int)] w (PostRV s v ts.length pl b w (objR (placeT s ts p) R)) := by
  have hpl : p < ts.length := kindT_lt (by omega)
  have hdI : (deep : Int) < 64 := by omega
  have hdI2 : ¬ (64 : Int) ≤ (deep : Int) := by omega
  have IC := Lib.hid (fun P w hW => rmembers_calls (base := base) (s := s) (v := v) (ts := ts) f hV deep (p + 1) pl P b w hW hd hl R hR hRo)
  replace hV := Lib.hid hV
  replace hRo := Lib.hid hRo
  replace hR := Lib.hid hR
  replace hl := Lib.hid hl
  replace hpl := Lib.hid hpl
  clear hd
  generalize (deep : Int) = D at *
  have H := Lib.hid (fun w hW => here_calls (base := base) (v := v) (ts := ts) s p pl 0 b w hW)
  have N := Lib.hid (fun w hW => peek_calls (base := base) (v := v) (ts := ts) s p pl 0 b w hW)
  obtain ⟨P1, hP1⟩ : ∃ P1, P1 = placeT s ts p := ⟨_, rfl⟩
  rw [← hP1] at H ⊢
  rw [hK] at N
  have hbl := hW.lt
  have hpb : (p : Int) + 1 ≤ 3518437208884 := by have := hW.hl; have := hW.hp; omega
  replace hW := Lib.hid hW
  replace hP1 := Lib.hid hP1
  replace hK := Lib.hid hK
  go_enter Tryz.func34, Tryz.ntmps34
  (go_wp2_with fail; repeat (any_goals (go_quiet (fail); go_wp2_with fail)))
  refine (H.out _ (hW.out.next (by repeat (first | assumption | exact Below.refl _ _ | apply Below.drew | apply below_drewN | apply balloc | (refine Below.setCell ?_ (by first | omega | (simp <;> omega)) _))))).mono ?_
  rintro e w1 ⟨rfl, hb⟩
  have hb1 : Below w.heap.size w w1 := bcall (by repeat (first | assumption | exact Below.refl _ _ | apply Below.drew | apply below_drewN | apply balloc | (refine Below.setCell ?_ (by first | omega | (simp <;> omega)) _))) hb
  have hx := boxed hb
  have hz1 := ltB hx
  have hz2 : b ≠ w.heap.size := by omega
  have hz3 : b ≠ w1.heap.size := by omega
  have hz4 : w.heap.size ≠ w1.heap.size := by omega
  clear hb
  have hW1 := hW.out.next hb1
  have x4 := hW1.rd.c4
  have hbl1 := hW1.lt
  replace hW1 := Lib.hid hW1
  go_wp2_with fail
  refine (N.out _ (hW1.out.next (by repeat (first | assumption | exact Below.refl _ _ | apply Below.drew | apply below_drewN | apply balloc | (refine Below.setCell ?_ (by first | omega | (simp <;> omega)) _))))).mono ?_
  rintro e w2 ⟨rfl, hb⟩
  have hb2 : Below w.heap.size w w2 := bcall (balloc hb1) hb
  have hn := boxed hb
  replace hx := box_next hx (bcall (w := w1) (balloc (Below.refl _ _)) hb)
  clear hb x4
  have hW2 := hW.out.next hb2
  have x2 := hW2.rd.c2
  have f2 := freeB hW2.rd 2
  have hbl2 := hW2.lt
  have hx0 := ltB hx
  have hn0 := ltB hn
  replace hW2 := Lib.hid hW2
  have yc0 := cellB hx 0 rfl
  have yc1 := cellB hx 1 rfl
  have yc2 := cellB hx 2 rfl
  have yc3 := cellB hx 3 rfl
  have yc4 := cellB hx 4 rfl
  have yc5 := cellB hx 5 rfl
  have yc6 := cellB hx 6 rfl
  have yf0 := freeB hx 0
  have yf1 := freeB hx 1
  have yf2 := freeB hx 2
  have yf3 := freeB hx 3
  have yf4 := freeB hx 4
  have yf5 := freeB hx 5
  have yf6 := freeB hx 6
  have zc0 := cellB hn 0 rfl
  have zc1 := cellB hn 1 rfl
  have zc2 := cellB hn 2 rfl
  have zc3 := cellB hn 3 rfl
  have zc4 := cellB hn 4 rfl
  have zc5 := cellB hn 5 rfl
  have zc6 := cellB hn 6 rfl
  have zf0 := freeB hn 0
  have zf1 := freeB hn 1
  have zf2 := freeB hn 2
  have zf3 := freeB hn 3
  have zf4 := freeB hn 4
  have zf5 := freeB hn 5
  have zf6 := freeB hn 6
  go_upto_if 84 with fail
  rw [show decide ((64 : Int) ≤ D) = false from decide_eq_false (by omega)]
  go_wp2_with fail
  have hx3 := other (i := 2) (u := .int .i64 ((p : Int) + 1)) hx hz2.symm
  have hr3 := RdB.set2 (q := p + 1) hW2.out.rd
  have hg3 := grown_trans (grown_of_below (r := some b) hb2) (grown_set _ b 2 (.int .i64 ((p : Int) + 1)))
  have hW3 := hW.out.step hg3 hr3 hpl.out
  refine (IC.out P1 _ hW3).mono ?_
  rintro e w4 ⟨hg4, vi, vk, vp, rfl, hm⟩
  cases R with
  | out => exact absurd rfl hRo.out
  | ok xs q =>
    obtain ⟨cs, hrow, hkids, rfl, hr4⟩ := hm
    obtain ⟨⟨a1, n1, c1, rfl⟩, ⟨a2, n2, c2, rfl⟩, ⟨a3, n3, c3, rfl⟩⟩ := hrow.sl
    have hx4 := (hg4.block _ (ltB hx3) (by intro e; cases e; exact hz2 rfl)).trans hx3
    have hg5 := Lib.hid (grown_trans hg3 hg4)
    have hgs := Lib.hid (ltB hx3)
    clear yc0 yc1 yc2 yc3 yc4 yc5 yc6 yf0 yf1 yf2 yf3 yf4 yf5 yf6 zc0 zc1 zc2 zc3 zc4 zc5 zc6 zf0 zf1 zf2 zf3 zf4 zf5 zf6 x2 f2 hx0 hn0 hg4
    have yc0 := cellB hx4 0 rfl
    have yc1 := cellB hx4 1 rfl
    have yc2 := cellB hx4 2 rfl
    have yc3 := cellB hx4 3 rfl
    have yc4 := cellB hx4 4 rfl
    have yc5 := cellB hx4 5 rfl
    have yc6 := cellB hx4 6 rfl
    have yf0 := freeB hx4 0
    have yf1 := freeB hx4 1
    have yf2 := freeB hx4 2
    have yf3 := freeB hx4 3
    have yf4 := freeB hx4 4
    have yf5 := freeB hx4 5
    have yf6 := freeB hx4 6
    have hx04 := ltB hx4
    replace hrow := Lib.hid hrow
    replace hkids := Lib.hid hkids
    replace hr4 := Lib.hid hr4
    go_wp2_with fail
    obtain ⟨e1, e2, e3⟩ := rd_end hx4 hg5.out hr4.out hz2 (Nat.le_refl _) (.int .i64 5) (.int .i64 (P1 : Int)) (.bool false) (.string ⟨#[]⟩) (.slice a1 n1 c1) (.slice a2 n2 c2) (.slice a3 n3 c3)
    exact bodyPost_ret (results_cell_row rfl _ _ w.heap.size 33 _ (0, 0) _ rfl e1 Tryz.underlying33 rfl info7) rfl ⟨e2, _, rfl, own_obj hrow.out hkids.out hgs.out (set7_grown _ _ _ _ _ _ _ _ _), e3⟩
  | err k pl2 =>
    obtain ⟨⟨⟨a1, n1, c1, rfl⟩, ⟨a2, n2, c2, rfl⟩, ⟨a3, n3, c3, rfl⟩⟩, q, hq, hr4⟩ := hm
    have hx4 := (hg4.block _ (ltB hx3) (by intro e; cases e; exact hz2 rfl)).trans hx3
    have hg5 := Lib.hid (grown_trans hg3 hg4)
    clear yc0 yc1 yc2 yc3 yc4 yc5 yc6 yf0 yf1 yf2 yf3 yf4 yf5 yf6 zc0 zc1 zc2 zc3 zc4 zc5 zc6 zf0 zf1 zf2 zf3 zf4 zf5 zf6 x2 f2 hx0 hn0 hg4
    have yc0 := cellB hx4 0 rfl
    have yc1 := cellB hx4 1 rfl
    have yc2 := cellB hx4 2 rfl
    have yc3 := cellB hx4 3 rfl
    have yc4 := cellB hx4 4 rfl
    have yc5 := cellB hx4 5 rfl
    have yc6 := cellB hx4 6 rfl
    have yf0 := freeB hx4 0
    have yf1 := freeB hx4 1
    have yf2 := freeB hx4 2
    have yf3 := freeB hx4 3
    have yf4 := freeB hx4 4
    have yf5 := freeB hx4 5
    have yf6 := freeB hx4 6
    have hx04 := ltB hx4
    replace hr4 := Lib.hid hr4
    go_wp2_with fail
    obtain ⟨e1, e2, e3⟩ := rd_end hx4 hg5.out hr4.out hz2 (Nat.le_refl _) (.int .i64 5) (.int .i64 (P1 : Int)) (.bool false) (.string ⟨#[]⟩) (.slice a1 n1 c1) (.slice a2 n2 c2) (.slice a3 n3 c3)
    exact bodyPost_ret (results_cell_row rfl _ _ w.heap.size 33 _ (0, 0) _ rfl e1 Tryz.underlying33 rfl info7) rfl ⟨e2, 5, P1, false, noS, _, _, _, q, rfl, ⟨⟨_, _, _, rfl⟩, ⟨_, _, _, rfl⟩, ⟨_, _, _, rfl⟩⟩, hq, e3⟩
/-- value, at every fuel. -/
theorem rvalue_calls {base : Nat} {v : Value} {ts : List Tk} (s : ByteArray) (hbd : ∀ T ∈ ts, T.fr ≤ T.to ∧ T.to ≤ s.size) (hl : ts.length ≤ 1048577) : ∀ f, RVC base s v ts f := by
  intro f
  induction f using Nat.strongRecOn with
  | ind f ih =>
    intro deep p pl b w hout hd hW
    cases f with
    | zero => exact absurd (by rw [pV]) hout
    | succ f =>
      rw [pV] at hout ⊢
      by_cases k1 : kindT ts p = 1
      · rw [if_pos k1]; exact rvalue_null s p pl b _ w hW k1
      rw [if_neg k1] at hout ⊢
      by_cases k2 : kindT ts p = 2
      · rw [if_pos k2]; exact rvalue_flag2 s p pl b _ w hW k2
      rw [if_neg k2] at hout ⊢
      by_cases k3 : kindT ts p = 3
      · rw [if_pos k3]; exact rvalue_flag3 s p pl b _ w hW k3
      rw [if_neg k3] at hout ⊢
      by_cases k4 : kindT ts p = 4
      · rw [if_pos k4]; exact rvalue_num s p pl b _ w hbd hW k4
      rw [if_neg k4] at hout ⊢
      by_cases k5 : kindT ts p = 5
      · rw [if_pos k5]; exact rvalue_text s p pl b _ w hbd hW k5
      rw [if_neg k5] at hout ⊢
      by_cases k8 : kindT ts p = 8
      · rw [if_pos k8] at hout ⊢
        by_cases hd64 : deep = 64
        · subst hd64
          rw [if_pos rfl]
          exact rvalue_deep8 s p pl b w hW k8
        · rw [if_neg hd64] at hout ⊢
          generalize hR : (if kindT ts (p + 1) = 9 then PR.ok [] (p + 2) else pI s ts f deep (p + 1)) = R at hout ⊢
          have h1 := rvalue_lst s f (fun f' h => ih f' (Nat.lt_succ_of_lt h)) deep p pl b w hW (by omega) hl k8 R hR.symm (fun h => hout (by rw [h]))
          cases R <;> exact h1
      rw [if_neg k8] at hout ⊢
      by_cases k6 : kindT ts p = 6
      · rw [if_pos k6] at hout ⊢
        by_cases hd64 : deep = 64
        · subst hd64
          rw [if_pos rfl]
          exact rvalue_deep6 s p pl b w hW k6
        · rw [if_neg hd64] at hout ⊢
          generalize hR : (if kindT ts (p + 1) = 7 then PR.ok [] (p + 2) else pM s ts f deep [] (p + 1)) = R at hout ⊢
          have h1 := rvalue_obj s f (fun f' h => ih f' (Nat.lt_succ_of_lt h)) deep p pl b w hW (by omega) hl k6 R hR.symm (fun h => hout (by rw [h]))
          cases R <;> exact h1
      rw [if_neg k6] at hout ⊢
      exact rvalue_bad s p pl b _ _ w hW rfl k1 k2 k3 k4 k5 k6 k8

end Go.Proofs.YtibopkodoidjoaaGreatDoor

/- Package tree: count, Count. -/
namespace Go.Proofs.YtibopkodoidjoaaGreatDoor
open Go Go.RowKit

def one6 (n : Nat) (i : Nat) : Nat := if i = n then 1 else 0
mutual
/-- How many nodes of each name. -/
def cntN : Nd → Nat → Nat
  | .null _, i => one6 0 i
  | .flag _ _, i => one6 1 i
  | .num _ _, i => one6 2 i
  | .text _ _, i => one6 3 i
  | .lst _ xs, i => one6 4 i + cntL xs i
  | .obj _ xs, i => one6 5 i + cntM xs i
def cntL : List Nd → Nat → Nat
  | [], _ => 0
  | x :: xs, i => cntN x i + cntL xs i
def cntM : List (ByteArray × Nat × Nd) → Nat → Nat
  | [], _ => 0
  | (_, _, x) :: xs, i => cntN x i + cntM xs i
end
mutual
theorem cnt_strip : ∀ (x : Nd) (i : Nat), cntN x.strip i = cntN x i
  | .null _, _ => rfl
  | .flag _ _, _ => rfl
  | .num _ _, _ => rfl
  | .text _ _, _ => rfl
  | .lst _ xs, i => by rw [Nd.strip, cntN, cntN, cntL_strip]
  | .obj _ xs, i => by rw [Nd.strip, cntN, cntN, cntM_strip]
theorem cntL_strip : ∀ (xs : List Nd) (i : Nat), cntL (stripL xs) i = cntL xs i
  | [], _ => by rw [stripL]
  | x :: xs, i => by rw [stripL, cntL, cntL, cnt_strip x, cntL_strip xs]
theorem cntM_strip : ∀ (xs : List (ByteArray × Nat × Nd)) (i : Nat), cntM (stripM xs) i = cntM xs i
  | [], _ => by rw [stripM]
  | (k, p, x) :: xs, i => by rw [stripM, cntM, cntM, cnt_strip x, cntM_strip xs]
end
theorem cntL_app : ∀ (xs ys : List Nd) (i : Nat), cntL (xs ++ ys) i = cntL xs i + cntL ys i
  | [], ys, i => by rw [List.nil_append, cntL, Nat.zero_add]
  | x :: xs, ys, i => by rw [List.cons_append, cntL, cntL, cntL_app xs ys, Nat.add_assoc]
theorem cntM_app : ∀ (xs ys : List (ByteArray × Nat × Nd)) (i : Nat), cntM (xs ++ ys) i = cntM xs i + cntM ys i
  | [], ys, i => by rw [List.nil_append, cntM, Nat.zero_add]
  | (k, p, x) :: xs, ys, i => by rw [List.cons_append, cntM, cntM, cntM_app xs ys, Nat.add_assoc]
/-- The six counts as values. -/
def intsC (f : Nat → Nat) : Array Value := #[.int .i64 (f 0 : Int), .int .i64 (f 1 : Int), .int .i64 (f 2 : Int), .int .i64 (f 3 : Int), .int .i64 (f 4 : Int), .int .i64 (f 5 : Int)]
def CntB (b : Nat) (f : Nat → Nat) (w : World) : Prop := w.heap[b]? = some (.cells (intsC f) 44 (0, 0))
theorem CntB.at {b : Nat} {f : Nat → Nat} {w : World} (h : CntB b f w) {n : Nat} (hn : n < 6) : w.cell? ⟨b, n, none⟩ = some (.int .i64 (f n : Int)) := by
  refine cellB h n ?_
  rcases (show n = 0 ∨ n = 1 ∨ n = 2 ∨ n = 3 ∨ n = 4 ∨ n = 5 by omega) with rfl | rfl | rfl | rfl | rfl | rfl <;> rfl
theorem CntB.inc {b : Nat} {f : Nat → Nat} {w : World} (h : CntB b f w) {n : Nat} (hn : n < 6) : CntB b (fun i => f i + one6 n i) (w.setCell ⟨b, n, none⟩ (.int .i64 ((f n : Int) + 1))) := by
  unfold CntB at h ⊢
  rw [Lib.heap_setCell_same (i := n) h]
  rcases (show n = 0 ∨ n = 1 ∨ n = 2 ∨ n = 3 ∨ n = 4 ∨ n = 5 by omega) with rfl | rfl | rfl | rfl | rfl | rfl <;> simp [intsC, one6]
theorem CntB.grown {b : Nat} {f : Nat → Nat} {w w' : World} (h : CntB b f w) (hb : Below w.heap.size w w') : CntB b f w' := box_next h hb
theorem CntB.congr {b : Nat} {f g : Nat → Nat} {w : World} (h : CntB b f w) (e : ∀ i, g i = f i) : CntB b g w := by
  have : g = f := funext e
  rw [this]; exact h
set_option maxHeartbeats 1000000 in
set_option maxRecDepth 100000 in
theorem kind_same {w0 : World} {lo hi : Nat} {u : Value} {x : Nd} (h : OwnN w0 lo hi u x) (w : World) :
    Calls Tryz.prog 41 #[u] w fun e w' => e = .returned (.int .i64 (nameN x : Int)) ∧ w = w' := by
  cases h with
  | lst _ _ p v cs ho hb hk hp hc =>
    clear ho hb hk hp hc
    go_enter Tryz.func41, Tryz.ntmps41
    (go_wp2_with fail; repeat (any_goals (go_quiet (fail); go_wp2_with fail)))
    go_ret
    exact ⟨rfl, rfl⟩
  | obj _ _ p v cs ho hb hk hp hc =>
    clear ho hb hk hp hc
    go_enter Tryz.func41, Tryz.ntmps41
    (go_wp2_with fail; repeat (any_goals (go_quiet (fail); go_wp2_with fail)))
    go_ret
    exact ⟨rfl, rfl⟩
  | _ =>
    go_enter Tryz.func41, Tryz.ntmps41
    (go_wp2_with fail; repeat (any_goals (go_quiet (fail); go_wp2_with fail)))
    go_ret
    exact ⟨rfl, rfl⟩
/-- What is asked of count at a node that lay in world w0. -/
def CntC (w0 : World) (lo hi : Nat) (u : Value) (x : Nd) : Prop := ∀ w b f, (∀ k, lo ≤ k → k < hi → w.heap[k]? = w0.heap[k]?) → (b < lo ∨ hi ≤ b) → hi ≤ w.heap.size → CntB b f w → (∀ i, f i + cntN x i ≤ 4611686018427387904) →
  Calls Tryz.prog 42 #[.pointer (some ⟨b, 0, none⟩), u] w fun e w' => e = .returned (.tuple #[]) ∧ CntB b (fun i => f i + cntN x i) w' ∧ w.grownBy w' (some b)
theorem wrap_id {z : Int} (h1 : 0 ≤ z) (h2 : z ≤ 9223372036854775807) : IntKind.i64.wrap z = z := by
  simp [IntKind.wrap, IntKind.bits]
  omega
theorem cntL_pre (xs : List Nd) (k i : Nat) : cntL (xs.take k) i ≤ cntL xs i := by
  conv => rhs; rw [← List.take_append_drop k xs, cntL_app]
  omega
theorem cntM_pre (xs : List (ByteArray × Nat × Nd)) (k i : Nat) : cntM (xs.take k) i ≤ cntM xs i := by
  conv => rhs; rw [← List.take_append_drop k xs, cntM_app]
  omega
theorem cntL_take {xs : List Nd} {k : Nat} {x : Nd} (h : xs[k]? = some x) (i : Nat) : cntL (xs.take (k + 1)) i = cntL (xs.take k) i + cntN x i := by
  obtain ⟨hk, hx⟩ := List.getElem?_eq_some_iff.1 h
  rw [List.take_succ_eq_append_getElem hk, hx, cntL_app, cntL, cntL, Nat.add_zero]
theorem cntM_take {xs : List (ByteArray × Nat × Nd)} {k : Nat} {t : ByteArray} {p : Nat} {x : Nd} (h : xs[k]? = some (t, p, x)) (i : Nat) : cntM (xs.take (k + 1)) i = cntM (xs.take k) i + cntN x i := by
  obtain ⟨hk, hx⟩ := List.getElem?_eq_some_iff.1 h
  rw [List.take_succ_eq_append_getElem hk, hx, cntM_app, cntM, cntM, Nat.add_zero]
section
variable {w0 : World}
set_option maxHeartbeats 1000000 in
set_option maxRecDepth 100000 in
theorem cnt_null (lo hi p : Nat)  : CntC w0 lo hi (.iface 90 (.agg #[.int .i64 (p : Int)])) (.null p) := by
  intro w b f hw hbl hh hB hf
  have hn6 := nameN_lt (.null p)
  have hfn := hf (nameN (.null p))
  have hc1 : 1 ≤ cntN (.null p) (nameN (.null p)) := by simp [nameN, cntN, one6]
  have KS := Lib.hid (kind_same (w0 := w0) (.null lo hi p))
  have hcell := hB.at hn6
  have hfz := freeB hB (nameN (.null p))
  have hbz := ltB hB
  obtain ⟨n, hn⟩ : ∃ n, n = nameN (.null p) := ⟨_, rfl⟩
  rw [← hn] at hn6 hfn hc1 KS hcell hfz
  have hfi : (f n : Int) ≤ 4611686018427387903 := by omega
  have hni : (n : Int) < 6 := by omega
  replace hn := Lib.hid hn
  replace hB := Lib.hid hB
  replace hf := Lib.hid hf
  replace hw := Lib.hid hw
  obtain ⟨fn, hfn2⟩ : ∃ fn, fn = f n := ⟨_, rfl⟩
  rw [← hfn2] at hcell hfi
  replace hfn2 := Lib.hid hfn2
  replace hfn := Lib.hid hfn
  replace hc1 := Lib.hid hc1
  go_enter Tryz.func42, Tryz.ntmps42
  go_wp2_with fail
  go_region_with ((go_at_call 41; refine (KS.out _).mono ?_; rintro e w1 ⟨rfl, rfl⟩))
  rw [wrap_id (by omega) (by omega)]
  have hB1 : Hid (CntB b (fun i => f i + one6 n i) (w.setCell ⟨b, n, none⟩ (.int .i64 ((fn : Int) + 1))).drew) := Lib.hid (by rw [hfn2.out]; exact CntB.inc hB.out hn6)
  have hg1 : Hid (w.grownBy (w.setCell ⟨b, n, none⟩ (.int .i64 ((fn : Int) + 1))).drew (some b)) := Lib.hid (grown_drew (grown_set _ _ _ _))
  clear hcell hfz
  generalize (w.setCell ⟨b, n, none⟩ (.int .i64 ((fn : Int) + 1))).drew = w1 at *
  go_wp2_with fail
  go_end0
  exact ⟨rfl, hB1.out.congr (fun i => by rw [hn.out]; rfl), hg1.out⟩
set_option maxHeartbeats 1000000 in
set_option maxRecDepth 100000 in
theorem cnt_flag (lo hi p : Nat) (b' : Bool) : CntC w0 lo hi (.iface 92 (.agg #[.int .i64 (p : Int), .bool b'])) (.flag p b') := by
  intro w b f hw hbl hh hB hf
  have hn6 := nameN_lt (.flag p b')
  have hfn := hf (nameN (.flag p b'))
  have hc1 : 1 ≤ cntN (.flag p b') (nameN (.flag p b')) := by simp [nameN, cntN, one6]
  have KS := Lib.hid (kind_same (w0 := w0) (.flag lo hi p b'))
  have hcell := hB.at hn6
  have hfz := freeB hB (nameN (.flag p b'))
  have hbz := ltB hB
  obtain ⟨n, hn⟩ : ∃ n, n = nameN (.flag p b') := ⟨_, rfl⟩
  rw [← hn] at hn6 hfn hc1 KS hcell hfz
  have hfi : (f n : Int) ≤ 4611686018427387903 := by omega
  have hni : (n : Int) < 6 := by omega
  replace hn := Lib.hid hn
  replace hB := Lib.hid hB
  replace hf := Lib.hid hf
  replace hw := Lib.hid hw
  obtain ⟨fn, hfn2⟩ : ∃ fn, fn = f n := ⟨_, rfl⟩
  rw [← hfn2] at hcell hfi
  replace hfn2 := Lib.hid hfn2
  replace hfn := Lib.hid hfn
  replace hc1 := Lib.hid hc1
  go_enter Tryz.func42, Tryz.ntmps42
  go_wp2_with fail
  go_region_with ((go_at_call 41; refine (KS.out _).mono ?_; rintro e w1 ⟨rfl, rfl⟩))
  rw [wrap_id (by omega) (by omega)]
  have hB1 : Hid (CntB b (fun i => f i + one6 n i) (w.setCell ⟨b, n, none⟩ (.int .i64 ((fn : Int) + 1))).drew) := Lib.hid (by rw [hfn2.out]; exact CntB.inc hB.out hn6)
  have hg1 : Hid (w.grownBy (w.setCell ⟨b, n, none⟩ (.int .i64 ((fn : Int) + 1))).drew (some b)) := Lib.hid (grown_drew (grown_set _ _ _ _))
  clear hcell hfz
  generalize (w.setCell ⟨b, n, none⟩ (.int .i64 ((fn : Int) + 1))).drew = w1 at *
  go_wp2_with fail
  go_end0
  exact ⟨rfl, hB1.out.congr (fun i => by rw [hn.out]; rfl), hg1.out⟩
set_option maxHeartbeats 1000000 in
set_option maxRecDepth 100000 in
theorem cnt_num (lo hi p : Nat) (t : ByteArray) : CntC w0 lo hi (.iface 94 (.agg #[.int .i64 (p : Int), .string t])) (.num p t) := by
  intro w b f hw hbl hh hB hf
  have hn6 := nameN_lt (.num p t)
  have hfn := hf (nameN (.num p t))
  have hc1 : 1 ≤ cntN (.num p t) (nameN (.num p t)) := by simp [nameN, cntN, one6]
  have KS := Lib.hid (kind_same (w0 := w0) (.num lo hi p t))
  have hcell := hB.at hn6
  have hfz := freeB hB (nameN (.num p t))
  have hbz := ltB hB
  obtain ⟨n, hn⟩ : ∃ n, n = nameN (.num p t) := ⟨_, rfl⟩
  rw [← hn] at hn6 hfn hc1 KS hcell hfz
  have hfi : (f n : Int) ≤ 4611686018427387903 := by omega
  have hni : (n : Int) < 6 := by omega
  replace hn := Lib.hid hn
  replace hB := Lib.hid hB
  replace hf := Lib.hid hf
  replace hw := Lib.hid hw
  obtain ⟨fn, hfn2⟩ : ∃ fn, fn = f n := ⟨_, rfl⟩
  rw [← hfn2] at hcell hfi
  replace hfn2 := Lib.hid hfn2
  replace hfn := Lib.hid hfn
  replace hc1 := Lib.hid hc1
  go_enter Tryz.func42, Tryz.ntmps42
  go_wp2_with fail
  go_region_with ((go_at_call 41; refine (KS.out _).mono ?_; rintro e w1 ⟨rfl, rfl⟩))
  rw [wrap_id (by omega) (by omega)]
  have hB1 : Hid (CntB b (fun i => f i + one6 n i) (w.setCell ⟨b, n, none⟩ (.int .i64 ((fn : Int) + 1))).drew) := Lib.hid (by rw [hfn2.out]; exact CntB.inc hB.out hn6)
  have hg1 : Hid (w.grownBy (w.setCell ⟨b, n, none⟩ (.int .i64 ((fn : Int) + 1))).drew (some b)) := Lib.hid (grown_drew (grown_set _ _ _ _))
  clear hcell hfz
  generalize (w.setCell ⟨b, n, none⟩ (.int .i64 ((fn : Int) + 1))).drew = w1 at *
  go_wp2_with fail
  go_end0
  exact ⟨rfl, hB1.out.congr (fun i => by rw [hn.out]; rfl), hg1.out⟩
set_option maxHeartbeats 1000000 in
set_option maxRecDepth 100000 in
theorem cnt_text (lo hi p : Nat) (t : ByteArray) : CntC w0 lo hi (.iface 95 (.agg #[.int .i64 (p : Int), .string t])) (.text p t) := by
  intro w b f hw hbl hh hB hf
  have hn6 := nameN_lt (.text p t)
  have hfn := hf (nameN (.text p t))
  have hc1 : 1 ≤ cntN (.text p t) (nameN (.text p t)) := by simp [nameN, cntN, one6]
  have KS := Lib.hid (kind_same (w0 := w0) (.text lo hi p t))
  have hcell := hB.at hn6
  have hfz := freeB hB (nameN (.text p t))
  have hbz := ltB hB
  obtain ⟨n, hn⟩ : ∃ n, n = nameN (.text p t) := ⟨_, rfl⟩
  rw [← hn] at hn6 hfn hc1 KS hcell hfz
  have hfi : (f n : Int) ≤ 4611686018427387903 := by omega
  have hni : (n : Int) < 6 := by omega
  replace hn := Lib.hid hn
  replace hB := Lib.hid hB
  replace hf := Lib.hid hf
  replace hw := Lib.hid hw
  obtain ⟨fn, hfn2⟩ : ∃ fn, fn = f n := ⟨_, rfl⟩
  rw [← hfn2] at hcell hfi
  replace hfn2 := Lib.hid hfn2
  replace hfn := Lib.hid hfn
  replace hc1 := Lib.hid hc1
  go_enter Tryz.func42, Tryz.ntmps42
  go_wp2_with fail
  go_region_with ((go_at_call 41; refine (KS.out _).mono ?_; rintro e w1 ⟨rfl, rfl⟩))
  rw [wrap_id (by omega) (by omega)]
  have hB1 : Hid (CntB b (fun i => f i + one6 n i) (w.setCell ⟨b, n, none⟩ (.int .i64 ((fn : Int) + 1))).drew) := Lib.hid (by rw [hfn2.out]; exact CntB.inc hB.out hn6)
  have hg1 : Hid (w.grownBy (w.setCell ⟨b, n, none⟩ (.int .i64 ((fn : Int) + 1))).drew (some b)) := Lib.hid (grown_drew (grown_set _ _ _ _))
  clear hcell hfz
  generalize (w.setCell ⟨b, n, none⟩ (.int .i64 ((fn : Int) + 1))).drew = w1 at *
  go_wp2_with fail
  go_end0
  exact ⟨rfl, hB1.out.congr (fun i => by rw [hn.out]; rfl), hg1.out⟩
set_option maxHeartbeats 2000000 in
set_option maxRecDepth 100000 in
theorem cnt_lst (lo hi p : Nat) (vr : Value) (cs : List Kid) (hr : w0.ownsRow lo 24 1 vr cs.length (cs.map Kid.u)) (hb0 : ∀ k, vr.ownBlock = some k → k < hi)
    (hk : ∀ c ∈ cs, c.fits lo hi vr.ownBlock) (hN : OwnN w0 lo hi (.iface 98 (.agg #[.int .i64 (p : Int), vr])) (.lst p (cs.map Kid.x))) (ih : ∀ c ∈ cs, CntC w0 c.l c.h c.u c.x) : CntC w0 lo hi (.iface 98 (.agg #[.int .i64 (p : Int), vr])) (.lst p (cs.map Kid.x)) := by
  obtain ⟨m, hm⟩ : ∃ m, m = cs.length := ⟨_, rfl⟩
  obtain ⟨xs, hxs⟩ : ∃ xs, xs = cs.map Kid.x := ⟨_, rfl⟩
  rw [← hxs] at hN ⊢
  rw [← hm] at hr
  obtain ⟨va, vc, rfl⟩ : ∃ a c, vr = .slice a m c := by
    obtain ⟨a, c, h⟩ := rowForm hr
    exact ⟨a, c, h⟩
  have hnm : m ≤ maxLen := by
    rcases rowForm2 hr with ⟨h, _⟩ | ⟨g, cap, h, _, _, h1, h2⟩
    · omega
    · omega
  unfold maxLen at hnm
  have hnI : (m : Int) ≤ 9223372036854775807 := by omega
  have hall : Hid (xs.take m = xs) := Lib.hid (List.take_of_length_le (by rw [hxs, hm]; simp))
  replace hr := Lib.hid hr
  replace hm := Lib.hid hm
  replace hxs := Lib.hid hxs
  intro w b f hw hbl hh hB hf
  have hn6 := nameN_lt (.lst p xs)
  have hfn := hf (nameN (.lst p xs))
  have hc1 : 1 ≤ cntN (.lst p xs) (nameN (.lst p xs)) := by simp [nameN, cntN, one6]
  have KS := Lib.hid (kind_same (w0 := w0) hN)
  have hcell := hB.at hn6
  have hfz := freeB hB (nameN (.lst p xs))
  have hbz := ltB hB
  obtain ⟨n, hn⟩ : ∃ n, n = nameN (.lst p xs) := ⟨_, rfl⟩
  rw [← hn] at hn6 hfn hc1 KS hcell hfz
  have hfi : (f n : Int) ≤ 4611686018427387903 := by omega
  have hni : (n : Int) < 6 := by omega
  replace hn := Lib.hid hn
  replace hB := Lib.hid hB
  replace hf := Lib.hid hf
  replace hw := Lib.hid hw
  obtain ⟨fn, hfn2⟩ : ∃ fn, fn = f n := ⟨_, rfl⟩
  rw [← hfn2] at hcell hfi
  replace hfn2 := Lib.hid hfn2
  replace hfn := Lib.hid hfn
  replace hc1 := Lib.hid hc1
  go_enter Tryz.func42, Tryz.ntmps42
  go_wp2_with fail
  go_region_with ((go_at_call 41; refine (KS.out _).mono ?_; rintro e w1 ⟨rfl, rfl⟩))
  rw [wrap_id (by omega) (by omega)]
  have hB1 : Hid (CntB b (fun i => f i + one6 n i) (w.setCell ⟨b, n, none⟩ (.int .i64 ((fn : Int) + 1))).drew) := Lib.hid (by rw [hfn2.out]; exact CntB.inc hB.out hn6)
  have hg1 : Hid (w.grownBy (w.setCell ⟨b, n, none⟩ (.int .i64 ((fn : Int) + 1))).drew (some b)) := Lib.hid (grown_drew (grown_set _ _ _ _))
  clear hcell hfz
  generalize (w.setCell ⟨b, n, none⟩ (.int .i64 ((fn : Int) + 1))).drew = w1 at *
  go_wp2_with fail
  go_loopw [26] (fun v26 wr => ∃ k : Nat, k ≤ m ∧ v26 = .int .i64 (k : Int) ∧ Hid (CntB b (fun i => f i + one6 n i + cntL (xs.take k) i) wr) ∧ Hid (w.grownBy wr (some b))) (fun v _ => m - (intOf v).toNat)
  case atStart => exact ⟨0, Nat.zero_le _, rfl, Lib.hid ((hB1.out.grown ((Below.refl _ _).alloc (Nat.le_refl _) _)).congr (fun i => by rw [List.take_zero, cntL, Nat.add_zero])), Lib.hid (grown_trans hg1.out (World.grownBy_alloc _ _ _))⟩
  case round =>
    obtain ⟨k, hkn, rfl, hBr, hgr⟩ := hrel
    clear hB1 hg1
    have hzr := hgr.out.size
    by_cases hlt : k < m
    · have hltI : (k : Int) < (m : Int) := by omega
      obtain ⟨c, hc⟩ : ∃ c, cs[k]? = some c := ⟨cs[k]'(by rw [← hm.out]; exact hlt), List.getElem?_eq_getElem _⟩
      have hcm := List.mem_of_getElem? hc
      have hcx : xs[k]? = some c.x := by rw [hxs.out, List.getElem?_map, hc]; rfl
      have hcu : (cs.map Kid.u)[k]? = some c.u := by rw [List.getElem?_map, hc]; rfl
      have hcf := hk c hcm
      obtain ⟨g, rfl⟩ : ∃ g, va = some ⟨g, 0, none⟩ := by
        rcases rowForm2 hr.out with ⟨h, _⟩ | ⟨g, cap, h, _⟩
        · omega
        · cases h; exact ⟨g, rfl⟩
      have hag : Hid (∀ j, lo ≤ j → j < hi → wr.heap[j]? = w0.heap[j]?) := Lib.hid (fun j a c => (hgr.out.block j (by omega) (fun e => by have := Option.some.inj e; omega)).trans (hw.out j a c))
      have hrow : wr.cell? ⟨g, k, none⟩ = some c.u := by
        refine rowCells (ownsRow_heap hr.out fun j e => hag.out j (hr.out.lt j e).1 (hb0 j e)) hcu
      have hcnt := Lib.hid (cntL_take hcx)
      have hpre := Lib.hid (cntL_pre xs (k + 1))
      have hone : Hid (∀ i, one6 n i = one6 4 i) := Lib.hid (fun i => by rw [hn.out, nameN])
      have IC := Lib.hid (ih c hcm wr b _ (fun j a c => hag.out j (Nat.le_trans hcf.1 a) (Nat.lt_of_lt_of_le c hcf.2.2.1)) (by have h1 := hcf.1; have h2 := hcf.2.2.1; omega) (Nat.le_trans hcf.2.2.1 (by omega)) hBr.out (fun i => by have h1 := hf.out i; have h2 := hpre.out i; have h3 := hcnt.out i; rw [cntN] at h1; have h4 := hone.out i; omega))
      generalize c.u = cu at *
      generalize c.x = cx at *
      replace hcf := Lib.hid hcf
      replace hc := Lib.hid hc
      replace hcx := Lib.hid hcx
      replace hcu := Lib.hid hcu
      go_wp2_with fail
      refine IC.out.mono ?_
      rintro e w4 ⟨rfl, hB4, hg4⟩
      have hg5 := grown_trans hgr.out hg4
      replace hB4 := Lib.hid hB4
      replace hg5 := Lib.hid hg5
      clear hg4
      go_wp2_with fail
      go_roundw
      case measure => simp [intOf]; omega
      case rel => exact ⟨k + 1, by omega, by go_num, Lib.hid (hB4.out.congr (fun i => by rw [hcnt.out i]; omega)), hg5⟩
    · obtain rfl : k = m := by omega
      have hlt' : ¬ (k : Int) < (k : Int) := by omega
      go_wp2_with fail
      go_end0
      exact ⟨rfl, hBr.out.congr (fun i => by rw [hall.out, hn.out, cntN]; show _ = f i + one6 4 i + _; omega), hgr.out⟩
set_option maxHeartbeats 2000000 in
set_option maxRecDepth 100000 in
theorem cnt_obj (lo hi p : Nat) (vr : Value) (cs : List Kid) (hr : w0.ownsRow lo 103 3 vr cs.length (cs.flatMap memC)) (hb0 : ∀ k, vr.ownBlock = some k → k < hi)
    (hk : ∀ c ∈ cs, c.fits lo hi vr.ownBlock) (hN : OwnN w0 lo hi (.iface 101 (.agg #[.int .i64 (p : Int), vr])) (.obj p (cs.map Kid.mem))) (hform : ∀ c ∈ cs, ∃ t a, c.u = .iface t a) (ih : ∀ c ∈ cs, CntC w0 c.l c.h c.u c.x) : CntC w0 lo hi (.iface 101 (.agg #[.int .i64 (p : Int), vr])) (.obj p (cs.map Kid.mem)) := by
  obtain ⟨m, hm⟩ : ∃ m, m = cs.length := ⟨_, rfl⟩
  obtain ⟨xs, hxs⟩ : ∃ xs, xs = cs.map Kid.mem := ⟨_, rfl⟩
  rw [← hxs] at hN ⊢
  rw [← hm] at hr
  obtain ⟨va, vc, rfl⟩ : ∃ a c, vr = .slice a m c := by
    obtain ⟨a, c, h⟩ := rowForm hr
    exact ⟨a, c, h⟩
  have hnm : m ≤ maxLen := by
    rcases rowForm2 hr with ⟨h, _⟩ | ⟨g, cap, h, _, _, h1, h2⟩
    · omega
    · omega
  unfold maxLen at hnm
  have hnI : (m : Int) ≤ 9223372036854775807 := by omega
  have hall : Hid (xs.take m = xs) := Lib.hid (List.take_of_length_le (by rw [hxs, hm]; simp))
  replace hr := Lib.hid hr
  replace hm := Lib.hid hm
  replace hxs := Lib.hid hxs
  intro w b f hw hbl hh hB hf
  have hn6 := nameN_lt (.obj p xs)
  have hfn := hf (nameN (.obj p xs))
  have hc1 : 1 ≤ cntN (.obj p xs) (nameN (.obj p xs)) := by simp [nameN, cntN, one6]
  have KS := Lib.hid (kind_same (w0 := w0) hN)
  have hcell := hB.at hn6
  have hfz := freeB hB (nameN (.obj p xs))
  have hbz := ltB hB
  obtain ⟨n, hn⟩ : ∃ n, n = nameN (.obj p xs) := ⟨_, rfl⟩
  rw [← hn] at hn6 hfn hc1 KS hcell hfz
  have hfi : (f n : Int) ≤ 4611686018427387903 := by omega
  have hni : (n : Int) < 6 := by omega
  replace hn := Lib.hid hn
  replace hB := Lib.hid hB
  replace hf := Lib.hid hf
  replace hw := Lib.hid hw
  obtain ⟨fn, hfn2⟩ : ∃ fn, fn = f n := ⟨_, rfl⟩
  rw [← hfn2] at hcell hfi
  replace hfn2 := Lib.hid hfn2
  replace hfn := Lib.hid hfn
  replace hc1 := Lib.hid hc1
  go_enter Tryz.func42, Tryz.ntmps42
  go_wp2_with fail
  go_region_with ((go_at_call 41; refine (KS.out _).mono ?_; rintro e w1 ⟨rfl, rfl⟩))
  rw [wrap_id (by omega) (by omega)]
  have hB1 : Hid (CntB b (fun i => f i + one6 n i) (w.setCell ⟨b, n, none⟩ (.int .i64 ((fn : Int) + 1))).drew) := Lib.hid (by rw [hfn2.out]; exact CntB.inc hB.out hn6)
  have hg1 : Hid (w.grownBy (w.setCell ⟨b, n, none⟩ (.int .i64 ((fn : Int) + 1))).drew (some b)) := Lib.hid (grown_drew (grown_set _ _ _ _))
  clear hcell hfz
  generalize (w.setCell ⟨b, n, none⟩ (.int .i64 ((fn : Int) + 1))).drew = w1 at *
  go_wp2_with fail
  go_loopw [40] (fun v40 wr => ∃ k : Nat, k ≤ m ∧ v40 = .int .i64 (k : Int) ∧ Hid (CntB b (fun i => f i + one6 n i + cntM (xs.take k) i) wr) ∧ Hid (w.grownBy wr (some b))) (fun v _ => m - (intOf v).toNat)
  case atStart => exact ⟨0, Nat.zero_le _, rfl, Lib.hid ((hB1.out.grown ((Below.refl _ _).alloc (Nat.le_refl _) _)).congr (fun i => by rw [List.take_zero, cntM, Nat.add_zero])), Lib.hid (grown_trans hg1.out (World.grownBy_alloc _ _ _))⟩
  case round =>
    obtain ⟨k, hkn, rfl, hBr, hgr⟩ := hrel
    clear hB1 hg1
    have hzr := hgr.out.size
    by_cases hlt : k < m
    · have hltI : (k : Int) < (m : Int) := by omega
      obtain ⟨c, hc⟩ : ∃ c, cs[k]? = some c := ⟨cs[k]'(by rw [← hm.out]; exact hlt), List.getElem?_eq_getElem _⟩
      have hcm := List.mem_of_getElem? hc
      have hcx : xs[k]? = some (c.key, c.pl, c.x) := by rw [hxs.out, List.getElem?_map, hc]; rfl
      have hcf := hk c hcm
      obtain ⟨g, rfl⟩ : ∃ g, va = some ⟨g, 0, none⟩ := by
        rcases rowForm2 hr.out with ⟨h, _⟩ | ⟨g, cap, h, _⟩
        · omega
        · cases h; exact ⟨g, rfl⟩
      have hag : Hid (∀ j, lo ≤ j → j < hi → wr.heap[j]? = w0.heap[j]?) := Lib.hid (fun j a c => (hgr.out.block j (by omega) (fun e => by have := Option.some.inj e; omega)).trans (hw.out j a c))
      obtain ⟨q0, q1, q2⟩ := rowMem (ownsRow_heap hr.out fun j e => hag.out j (hr.out.lt j e).1 (hb0 j e)) hc
      obtain ⟨ut, ua, hu⟩ := hform c hcm
      have hcnt := Lib.hid (cntM_take hcx)
      have hpre := Lib.hid (cntM_pre xs (k + 1))
      have hone : Hid (∀ i, one6 n i = one6 5 i) := Lib.hid (fun i => by rw [hn.out, nameN])
      have IC := Lib.hid (ih c hcm (wr.alloc (.cells #[.string c.key, .int .i64 (c.pl : Int), c.u] 103 (0, 0))) b _ (fun j a d => (Below.heap_alloc _ _ _ (by have := hcf.2.2.1; omega)).trans (hag.out j (Nat.le_trans hcf.1 a) (Nat.lt_of_lt_of_le d hcf.2.2.1))) (by have h1 := hcf.1; have h2 := hcf.2.2.1; omega) (by have := hcf.2.2.1; simp; omega) (hBr.out.grown ((Below.refl _ _).alloc (Nat.le_refl _) _)) (fun i => by have h1 := hf.out i; have h2 := hpre.out i; have h3 := hcnt.out i; rw [cntN] at h1; have h4 := hone.out i; omega))
      rw [hu] at q2 IC
      generalize c.key = key at *
      generalize c.pl = pl at *
      generalize c.x = cx at *
      replace hu := Lib.hid hu
      replace hcf := Lib.hid hcf
      replace hc := Lib.hid hc
      replace hcx := Lib.hid hcx
      go_wp2_with fail
      refine IC.out.mono ?_
      rintro e w4 ⟨rfl, hB4, hg4⟩
      have hg5 := grown_trans (grown_trans hgr.out (World.grownBy_alloc _ _ _)) hg4
      replace hB4 := Lib.hid hB4
      replace hg5 := Lib.hid hg5
      clear hg4
      go_wp2_with fail
      go_roundw
      case measure => simp [intOf]; omega
      case rel => exact ⟨k + 1, by omega, by go_num, Lib.hid (hB4.out.congr (fun i => by rw [hcnt.out i]; omega)), hg5⟩
    · obtain rfl : k = m := by omega
      have hlt' : ¬ (k : Int) < (k : Int) := by omega
      go_wp2_with fail
      go_end0
      exact ⟨rfl, hBr.out.congr (fun i => by rw [hall.out, hn.out, cntN]; show _ = f i + one6 5 i + _; omega), hgr.out⟩
end
theorem count_calls {w0 : World} {lo hi : Nat} {u : Value} {x : Nd} (h : OwnN w0 lo hi u x) : CntC w0 lo hi u x := by
  induction h with
  | null lo hi p => exact cnt_null lo hi p
  | flag lo hi p b => exact cnt_flag lo hi p b
  | num lo hi p t => exact cnt_num lo hi p t
  | text lo hi p t => exact cnt_text lo hi p t
  | lst lo hi p v cs ho hb hk hp hc ih => exact cnt_lst lo hi p v cs ho hb hk (.lst lo hi p v cs ho hb hk hp hc) ih
  | obj lo hi p v cs ho hb hk hp hc ih => exact cnt_obj lo hi p v cs ho hb hk (.obj lo hi p v cs ho hb hk hp hc) (fun c hm => (hc c hm).form) ih

end Go.Proofs.YtibopkodoidjoaaGreatDoor

/- Package tree, a plain law: blanks put between the tokens of a text change neither its form nor the kind of its error. No program in sight. -/
namespace Go.Proofs.YtibopkodoidjoaaGreatDoor
open Go Go.RowKit

/-- The blank that a byte stands for. -/
def blkB (c : Nat) : UInt8 := if c % 4 = 0 then 32 else if c % 4 = 1 then 9 else if c % 4 = 2 then 10 else 13
/-- k blanks of a text. -/
def gapK (b : ByteArray) (k : Nat) : List UInt8 := (List.range k).map fun j => blkB (bAt b j)
/-- The blanks that a text stands for. -/
def gapB (b : ByteArray) : List UInt8 := if b.size = 0 then [32] else gapK b (min b.size 9)
theorem blkB_blank (c : Nat) : blankN (blkB c).toNat = true := by unfold blkB; repeat' split
                                                                  all_goals decide
theorem gapK_zero (b : ByteArray) : gapK b 0 = [] := rfl
theorem gapK_succ (b : ByteArray) (k : Nat) : gapK b (k + 1) = gapK b k ++ [blkB (bAt b k)] := by unfold gapK; rw [List.range_succ, List.map_append]; rfl
theorem gapK_len (b : ByteArray) (k : Nat) : (gapK b k).length = k := by unfold gapK; simp
theorem gapK_blank (b : ByteArray) (k : Nat) : blanksL (gapK b k) := by
  intro c hc
  obtain ⟨j, _, rfl⟩ := List.mem_map.1 hc
  exact blkB_blank _
theorem gapB_blank (b : ByteArray) : blanksL (gapB b) := by
  unfold gapB
  split
  · intro c hc; rw [List.mem_singleton.1 hc]; decide
  · exact gapK_blank _ _
theorem gapB_pos (b : ByteArray) : gapB b ≠ [] := by
  unfold gapB
  split
  · exact List.cons_ne_nil _ _
  · intro h
    have := congrArg List.length h
    rw [gapK_len, List.length_nil] at this
    omega
theorem gapB_len (b : ByteArray) : (gapB b).length ≤ 9 := by
  unfold gapB
  split
  · simp
  · rw [gapK_len]; omega
/-- The tokens with the blanks ahead of each. -/
def itemsS (bs : List ByteArray) : Nat → List Tk → List (List UInt8 × Tk)
  | _, [] => []
  | i, T :: r => (gapB (bs.getD (i % bs.length) noS), T) :: itemsS bs (i + 1) r
theorem itemsS_mem {bs : List ByteArray} : ∀ (ts : List Tk) (i : Nat), ∀ x ∈ itemsS bs i ts, blanksL x.1 ∧ x.2 ∈ ts
  | [], i, x, h => by cases h
  | _ :: r, i, x, h => by
    rcases List.mem_cons.1 h with rfl | h
    · exact ⟨gapB_blank _, List.mem_cons_self ..⟩
    · have := itemsS_mem r (i + 1) x h
      exact ⟨this.1, List.mem_cons_of_mem _ this.2⟩
theorem itemsS_glue (bs : List ByteArray) : ∀ (ts : List Tk) (i : Nat), glueOk (itemsS bs i ts)
  | [], _ => trivial
  | [_], _ => trivial
  | _ :: T' :: r, i => ⟨fun h => absurd h (gapB_pos _), itemsS_glue bs (T' :: r) (i + 1)⟩
theorem itemsS_snoc (bs : List ByteArray) (T : Tk) : ∀ (ts : List Tk) (i : Nat), itemsS bs i (ts ++ [T]) = itemsS bs i ts ++ [(gapB (bs.getD ((i + ts.length) % bs.length) noS), T)]
  | [], i => rfl
  | T' :: r, i => by
    rw [List.cons_append, itemsS, itemsS_snoc bs T r (i + 1), itemsS, List.cons_append, List.length_cons, show i + 1 + r.length = i + (r.length + 1) by omega]
theorem itemsS_snd (bs : List ByteArray) : ∀ (ts : List Tk) (i : Nat), (itemsS bs i ts).map Prod.snd = ts
  | [], _ => rfl
  | T :: r, i => by rw [itemsS, List.map_cons, itemsS_snd bs r]
/-- The text that the statement makes of the first k tokens. -/
def spacedK (s : ByteArray) (bs : List ByteArray) (ts : List Tk) : List UInt8 := layL s [] (itemsS bs 0 ts)
theorem layL_snoc' (s : ByteArray) (b : List UInt8) (T : Tk) : ∀ it : List (List UInt8 × Tk), layL s [] (it ++ [(b, T)]) = layL s [] it ++ (b ++ segL s T)
  | [] => by show b ++ (segL s T ++ []) = _; simp [layL]
  | (b', T') :: r => by
    rw [List.cons_append, layL, layL_snoc' s b T r, layL]
    simp
theorem layL_end' (s : ByteArray) (Z : List UInt8) : ∀ it : List (List UInt8 × Tk), layL s Z it = layL s [] it ++ Z
  | [] => rfl
  | (b, T) :: r => by rw [layL, layL_end' s Z r, layL]; simp
theorem spacedK_snoc (s : ByteArray) (bs : List ByteArray) (ts : List Tk) (T : Tk) : spacedK s bs (ts ++ [T]) = spacedK s bs ts ++ (gapB (bs.getD (ts.length % bs.length) noS) ++ segL s T) := by
  unfold spacedK
  rw [itemsS_snoc, layL_snoc', Nat.zero_add]
theorem spacedK_len (s : ByteArray) (bs : List ByteArray) (m : Nat) (hm : s.size ≤ m) : ∀ (ts : List Tk) (i : Nat), (layL s [] (itemsS bs i ts)).length ≤ ts.length * (m + 9)
  | [], _ => Nat.zero_le _
  | T :: r, i => by
    rw [itemsS, layL, List.length_append, List.length_append, List.length_cons, Nat.succ_mul]
    have h1 := spacedK_len s bs m hm r (i + 1)
    have h2 := gapB_len (bs.getD (i % bs.length) noS)
    have h3 : (segL s T).length ≤ s.size := by
      unfold segL
      rw [Array.length_toList]
      show (s.extract T.fr T.to).size ≤ _
      rw [ByteArray.size_extract]; omega
    omega
theorem want_get (s : ByteArray) : ∀ (it : List (List UInt8 × Tk)) (A Z : List UInt8) (j : Nat) (x : List UInt8 × Tk), it[j]? = some x → (∀ y ∈ it, y.2.fr ≤ y.2.to ∧ y.2.to ≤ s.size) →
    ∃ T' : Tk, (wantL A.length it)[j]? = some T' ∧ T'.kind = x.2.kind ∧ T'.text = x.2.text ∧ ∃ B C, A ++ layL s Z it = B ++ (segL s x.2 ++ C) ∧ T'.fr = B.length ∧ T'.to = B.length + (segL s x.2).length
  | [], A, Z, j, x, h, _ => by simp at h
  | (b, T) :: r, A, Z, 0, x, h, hit => by
    simp at h
    subst h
    have hT := hit (b, T) (List.mem_cons_self ..)
    refine ⟨⟨T.kind, A.length + b.length, A.length + b.length + (T.to - T.fr), T.text⟩, by rw [wantL, List.getElem?_cons_zero], rfl, rfl, A ++ b, layL s Z r, by rw [layL, List.append_assoc], by rw [List.length_append], ?_⟩
    rw [List.length_append, segL_len hT.2]
  | (b, T) :: r, A, Z, j + 1, x, h, hit => by
    simp at h
    have hT := hit (b, T) (List.mem_cons_self ..)
    obtain ⟨T', h1, h2, h3, B, C, h4, h5, h6⟩ := want_get s r (A ++ b ++ segL s T) Z j x h (fun y hy => hit y (List.mem_cons_of_mem _ hy))
    refine ⟨T', ?_, h2, h3, B, C, ?_, h5, h6⟩
    · rw [wantL, List.getElem?_cons_succ, ← h1, List.length_append, List.length_append, segL_len hT.2]
    · rw [layL, ← h4]; simp
theorem wantL_len' : ∀ (it : List (List UInt8 × Tk)) (p : Nat), (wantL p it).length = it.length
  | [], _ => rfl
  | (b, T) :: r, p => by rw [wantL, List.length_cons, List.length_cons, wantL_len' r]
theorem ext_mid (B S C : List UInt8) : (⟨(B ++ (S ++ C)).toArray⟩ : ByteArray).extract B.length (B.length + S.length) = ⟨S.toArray⟩ := by
  apply ByteArray.ext
  simp [ByteArray.data_extract]
theorem seg_ext (s : ByteArray) (T : Tk) : s.extract T.fr T.to = ⟨(segL s T).toArray⟩ := rfl
/-- Laid out anew, the tokens are alike. -/
theorem lay_alike {s : ByteArray} (h0 : (someS s).2.1 = 0) (Z : List UInt8) (it : List (List UInt8 × Tk)) (hit : it.map Prod.snd = (someS s).1) : Alike s (someS s).1 ⟨(layL s Z it).toArray⟩ (wantL 0 it) := by
  obtain ⟨hu, hch, _⟩ := some_chain h0
  have hbd := chain_bd _ 0 ((utfE_brk _).1 hu) (Nat.zero_le _) hch
  have hb : ∀ y ∈ it, y.2.fr ≤ y.2.to ∧ y.2.to ≤ s.size := fun y hy => by
    have := hbd y.2 (by rw [← hit]; exact List.mem_map_of_mem hy)
    exact ⟨by omega, this.2.2.1⟩
  have hlen : (wantL 0 it).length = (someS s).1.length := by rw [wantL_len', ← hit, List.length_map]
  have key : ∀ (p : Nat) (T : Tk), (someS s).1[p]? = some T → ∃ T' : Tk, (wantL 0 it)[p]? = some T' ∧ T'.kind = T.kind ∧ T'.text = T.text ∧ (⟨(layL s Z it).toArray⟩ : ByteArray).extract T'.fr T'.to = s.extract T.fr T.to := by
    intro p T hT
    rw [← hit, List.getElem?_map] at hT
    obtain ⟨x, hx, rfl⟩ := Option.map_eq_some_iff.1 hT
    obtain ⟨T', h1, h2, h3, B, C, h4, h5, h6⟩ := want_get s it [] Z p x hx hb
    refine ⟨T', h1, h2, h3, ?_⟩
    rw [h5, h6, seg_ext, ← ext_mid B (segL s x.2) C]
    rw [← h4]; rfl
  have none : ∀ p : Nat, (someS s).1[p]? = none → (wantL 0 it)[p]? = none := fun p hp => by
    rw [List.getElem?_eq_none_iff] at hp ⊢
    omega
  refine ⟨hlen, fun p => ?_, fun p => ?_, fun p _ => ?_⟩
  · unfold kindT
    cases hT : (someS s).1[p]? with
    | none => rw [none p hT]
    | some T => obtain ⟨T', h1, h2, _⟩ := key p T hT; rw [h1]; exact h2
  · unfold textT
    cases hT : (someS s).1[p]? with
    | none => rw [none p hT]
    | some T => obtain ⟨T', h1, h2, h3, _⟩ := key p T hT; rw [h1]; exact h3
  · unfold wordT
    cases hT : (someS s).1[p]? with
    | none => rw [none p hT]
    | some T => obtain ⟨T', h1, h2, h3, h4⟩ := key p T hT; rw [h1]; exact h4
/-- Two parses that are the same, places aside. -/
def SameR : PR Nd → PR Nd → Prop
  | .ok x q, .ok x' q' => x'.strip = x.strip ∧ q' = q
  | .err k _, .err k' _ => k' = k
  | .out, .out => True
  | _, _ => False
theorem same_of_strip {r r' : PR Nd} (h : r'.strip Nd.strip = r.strip Nd.strip) : SameR r r' := by
  cases r <;> cases r' <;> simp_all [PR.strip, SameR]
theorem parse_alike {s t : ByteArray} (h0 : (someS s).2.1 = 0) (h1 : (someS t).2.1 = 0) (h : Alike s (someS s).1 t (someS t).1) : SameR (parseS s) (parseS t) := by
  unfold parseS
  rw [if_pos h0, if_pos h1]
  exact same_of_strip (pP_alike h)
/-- The statement's text, whole. -/
def spacedS (s : ByteArray) (bs : List ByteArray) : ByteArray := ⟨(spacedK s bs (someS s).1 ++ [10]).toArray⟩
theorem spaced_same {s : ByteArray} (h0 : (someS s).2.1 = 0) (bs : List ByteArray) : SameR (parseS s) (parseS (spacedS s bs)) := by
  have hit := itemsS_mem (bs := bs) (someS s).1 0
  have h1 := lay_scan h0 (Z := [10]) (fun c hc => by rw [List.mem_singleton.1 hc]; decide) (itemsS bs 0 (someS s).1) hit (itemsS_glue bs _ 0)
  have h2 : spacedS s bs = ⟨(layL s [10] (itemsS bs 0 (someS s).1)).toArray⟩ := by unfold spacedS spacedK; rw [layL_end' s [10]]
  rw [← h2] at h1
  have h3 := lay_alike h0 [10] (itemsS bs 0 (someS s).1) (itemsS_snd bs _ 0)
  rw [← h2] at h3
  refine parse_alike h0 (by rw [h1]) ?_
  rw [h1]
  exact h3
theorem same_form {s t : ByteArray} (h : SameR (parseS s) (parseS t)) : formS t = formS s := by
  unfold formS
  revert h
  cases parseS s <;> cases parseS t <;> simp only [SameR] <;> intro h
  · rename_i x q x' q'
    rw [← fmt_strip x', h.1, fmt_strip]
  all_goals first | trivial | rfl | cases h

end Go.Proofs.YtibopkodoidjoaaGreatDoor

/- Package tree, plain laws: the tokens of a node's text; the text's scan is just these tokens. No program in sight. -/
namespace Go.Proofs.YtibopkodoidjoaaGreatDoor
open Go Go.RowKit

/-- A token as it stands in a text of one form: its kind, its text, its bytes. -/
structure CT where
  kind : Nat
  text : ByteArray
  bytes : List UInt8
def pun (k : Nat) (c : UInt8) : CT := ⟨k, noS, [c]⟩
mutual
def toksN : Nd → List CT
  | .null _ => [⟨1, noS, litNull⟩]
  | .flag _ b => [⟨if b then 2 else 3, noS, litFlag b⟩]
  | .num _ t => [⟨4, noS, t.data.toList⟩]
  | .text _ t => [⟨5, t, qN t⟩]
  | .lst _ xs => pun 8 91 :: (toksL true xs ++ [pun 9 93])
  | .obj _ xs => pun 6 123 :: (toksM true xs ++ [pun 7 125])
def toksL : Bool → List Nd → List CT
  | _, [] => []
  | b, x :: xs => (if b then [] else [pun 11 44]) ++ (toksN x ++ toksL false xs)
def toksM : Bool → List (ByteArray × Nat × Nd) → List CT
  | _, [] => []
  | b, (k, _, x) :: xs => (if b then [] else [pun 11 44]) ++ (⟨5, k, qN k⟩ :: pun 10 58 :: (toksN x ++ toksM false xs))
end
def flatC (cs : List CT) : List UInt8 := cs.flatMap CT.bytes
theorem flatC_app (a b : List CT) : flatC (a ++ b) = flatC a ++ flatC b := by unfold flatC; rw [List.flatMap_append]
theorem flatC_cons (a : CT) (b : List CT) : flatC (a :: b) = a.bytes ++ flatC b := by unfold flatC; rw [List.flatMap_cons]
theorem flatC_nil : flatC [] = [] := rfl
mutual
theorem flat_fmt : ∀ x : Nd, flatC (toksN x) = fmtN x
  | .null _ => by rw [toksN, fmtN, flatC_cons, flatC_nil, List.append_nil]
  | .flag _ b => by rw [toksN, fmtN, flatC_cons, flatC_nil, List.append_nil]
  | .num _ t => by rw [toksN, fmtN, flatC_cons, flatC_nil, List.append_nil]
  | .text _ t => by rw [toksN, fmtN, flatC_cons, flatC_nil, List.append_nil]
  | .lst _ xs => by
    rw [toksN, fmtN, flatC_cons, flatC_app, flat_fmtL true xs]
    rfl
  | .obj _ xs => by
    rw [toksN, fmtN, flatC_cons, flatC_app, flat_fmtM true xs]
    rfl
theorem flat_fmtL : ∀ (b : Bool) (xs : List Nd), flatC (toksL b xs) = fmtL b xs
  | _, [] => by rw [toksL, fmtL]; rfl
  | b, x :: xs => by
    rw [toksL, fmtL, flatC_app, flatC_app, flat_fmt x, flat_fmtL false xs]
    cases b <;> rfl
theorem flat_fmtM : ∀ (b : Bool) (xs : List (ByteArray × Nat × Nd)), flatC (toksM b xs) = fmtM b xs
  | _, [] => by rw [toksM, fmtM]; rfl
  | b, (k, p, x) :: xs => by
    rw [toksM, fmtM, flatC_app, flatC_cons, flatC_cons, flatC_app, flat_fmt x, flat_fmtM false xs]
    cases b <;> rfl
end
/-- What comes next stops a number. -/
def stopsC : List CT → Prop
  | [] => True
  | b :: _ => stopB (nthN b.bytes 0) ∧ b.bytes ≠ []
/-- Behind each number stands what stops it. -/
def adjC : List CT → Prop
  | [] => True
  | a :: r => (a.kind = 4 → stopsC r) ∧ adjC r
theorem stop44 : stopB 44 := ⟨by decide, by decide, by decide, by decide⟩
theorem stop93 : stopB 93 := ⟨by decide, by decide, by decide, by decide⟩
theorem stop125 : stopB 125 := ⟨by decide, by decide, by decide, by decide⟩
mutual
theorem adj_toks : ∀ (x : Nd) (r : List CT), stopsC r → adjC r → adjC (toksN x ++ r)
  | .null _, r, h, h2 => by rw [toksN]; exact ⟨(fun e => by cases e), h2⟩
  | .flag _ b, r, h, h2 => by rw [toksN]; exact ⟨(fun e => by cases b <;> cases e), h2⟩
  | .num _ t, r, h, h2 => by rw [toksN]; exact ⟨(fun _ => h), h2⟩
  | .text _ t, r, h, h2 => by rw [toksN]; exact ⟨(fun e => by cases e), h2⟩
  | .lst _ xs, r, h, h2 => by
    rw [toksN, List.cons_append, List.append_assoc]
    exact ⟨(fun e => by cases e), adj_toksL true xs _ ⟨stop93, List.cons_ne_nil _ _⟩ ⟨(fun e => by cases e), h2⟩⟩
  | .obj _ xs, r, h, h2 => by
    rw [toksN, List.cons_append, List.append_assoc]
    exact ⟨(fun e => by cases e), adj_toksM true xs _ ⟨stop125, List.cons_ne_nil _ _⟩ ⟨(fun e => by cases e), h2⟩⟩
theorem adj_toksL : ∀ (b : Bool) (xs : List Nd) (r : List CT), stopsC r → adjC r → adjC (toksL b xs ++ r)
  | _, [], r, h, h2 => by rw [toksL]; exact h2
  | b, x :: xs, r, h, h2 => by
    have h3 := adj_toksL false xs r h h2
    have h4 : stopsC (toksL false xs ++ r) := by
      cases xs with
      | nil => rw [toksL]; exact h
      | cons y ys => rw [toksL]; exact ⟨stop44, List.cons_ne_nil _ _⟩
    have h5 := adj_toks x _ h4 h3
    rw [toksL, List.append_assoc, List.append_assoc]
    cases b with
    | true => exact h5
    | false => exact ⟨(fun e => by cases e), h5⟩
theorem adj_toksM : ∀ (b : Bool) (xs : List (ByteArray × Nat × Nd)) (r : List CT), stopsC r → adjC r → adjC (toksM b xs ++ r)
  | _, [], r, h, h2 => by rw [toksM]; exact h2
  | b, (k, p, x) :: xs, r, h, h2 => by
    have h3 := adj_toksM false xs r h h2
    have h4 : stopsC (toksM false xs ++ r) := by
      cases xs with
      | nil => rw [toksM]; exact h
      | cons y ys => obtain ⟨k', p', y⟩ := y; rw [toksM]; exact ⟨stop44, List.cons_ne_nil _ _⟩
    have h5 := adj_toks x _ h4 h3
    rw [toksM, List.append_assoc, List.cons_append, List.cons_append, List.append_assoc]
    cases b with
    | true => exact ⟨(fun e => by cases e), (fun e => by cases e), h5⟩
    | false => exact ⟨(fun e => by cases e), (fun e => by cases e), (fun e => by cases e), h5⟩
end
/-- Wherever it stands, it is that one token. -/
structure okC (c : CT) : Prop where
  one : ∀ B Z : List UInt8, (c.kind = 4 → stopB (nthN Z 0)) → oneAt ⟨(B ++ (c.bytes ++ Z)).toArray⟩ B.length = (0, 0, ⟨c.kind, B.length, B.length + c.bytes.length, c.text⟩)
  pos : 0 < c.bytes.length
  vl : VL (c.bytes.map UInt8.toNat)
def wantC : Nat → List CT → List Tk
  | _, [] => []
  | p, c :: r => ⟨c.kind, p, p + c.bytes.length, c.text⟩ :: wantC (p + c.bytes.length) r
theorem chainC : ∀ (cs : List CT) (A : List UInt8), adjC cs → (∀ c ∈ cs, okC c) → Chain ⟨(A ++ flatC cs).toArray⟩ A.length (wantC A.length cs)
  | [], A, _, _ => by
    rw [flatC_nil, List.append_nil]
    exact ⟨by rw [size_mk]; omega, fun j h1 h2 => by rw [size_mk] at h2; omega⟩
  | c :: r, A, h, hok => by
    have hc := hok c (List.mem_cons_self ..)
    have hst : c.kind = 4 → stopB (nthN (flatC r) 0) := by
      intro e
      have := h.1 e
      cases r with
      | nil => exact stop0
      | cons b r =>
        rw [flatC_cons, nth_left (List.length_pos_iff.2 this.2)]
        exact this.1
    have h1 := hc.one A (flatC r) hst
    have ih := chainC r (A ++ c.bytes) h.2 (fun x hx => hok x (List.mem_cons_of_mem _ hx))
    rw [List.append_assoc, List.length_append] at ih
    rw [flatC_cons]
    refine ⟨Nat.le_refl _, ?_, fun j h1 h2 => ?_, h1, ih⟩
    · show A.length < _
      rw [size_mk, List.length_append, List.length_append]
      have := hc.pos
      omega
    · simp only at h2
      omega
theorem vlC : ∀ cs : List CT, (∀ c ∈ cs, okC c) → VL ((flatC cs).map UInt8.toNat)
  | [], _ => VL.nil
  | c :: r, h => by
    rw [flatC_cons, List.map_append]
    exact VL.append (h c (List.mem_cons_self ..)).vl (vlC r fun x hx => h x (List.mem_cons_of_mem _ hx))
theorem scanC {cs : List CT} (ha : adjC cs) (hok : ∀ c ∈ cs, okC c) : someS ⟨(flatC cs).toArray⟩ = (wantC 0 cs, 0, 0) := by
  have hu : utfE ⟨(flatC cs).toArray⟩ = 0 := by rw [utfE_mk]; exact vlC cs hok
  rw [someS_eq, if_pos hu]
  have := chainC cs [] ha hok
  exact (scan_chain _ 0 (Nat.zero_le _) ((utfE_brk _).1 hu)).2 this
theorem wantC_len : ∀ (cs : List CT) (p : Nat), (wantC p cs).length = cs.length
  | [], _ => rfl
  | c :: r, p => by rw [wantC, List.length_cons, List.length_cons, wantC_len r]
theorem wantC_get : ∀ (cs : List CT) (A : List UInt8) (j : Nat) (c : CT), cs[j]? = some c → ∃ T' : Tk, (wantC A.length cs)[j]? = some T' ∧ T'.kind = c.kind ∧ T'.text = c.text ∧ (⟨(A ++ flatC cs).toArray⟩ : ByteArray).extract T'.fr T'.to = ⟨c.bytes.toArray⟩
  | [], A, j, c, h => by simp at h
  | c' :: r, A, 0, c, h => by
    simp at h
    subst h
    refine ⟨_, by rw [wantC, List.getElem?_cons_zero], rfl, rfl, ?_⟩
    rw [flatC_cons]
    exact ext_mid A c'.bytes (flatC r)
  | c' :: r, A, j + 1, c, h => by
    simp at h
    obtain ⟨T', h1, h2, h3, h4⟩ := wantC_get r (A ++ c'.bytes) j c h
    refine ⟨T', ?_, h2, h3, ?_⟩
    · rw [wantC, List.getElem?_cons_succ, ← h1, List.length_append]
    · rw [flatC_cons, ← List.append_assoc]; exact h4
/-- How long the tokens are together. -/
def sumT : List Tk → Nat
  | [] => 0
  | T :: r => (T.to - T.fr) + sumT r
theorem sum_want : ∀ (cs : List CT) (p : Nat), sumT (wantC p cs) = (flatC cs).length
  | [], _ => rfl
  | c :: r, p => by
    rw [wantC, sumT, sum_want r, flatC_cons, List.length_append]
    show p + c.bytes.length - p + _ = _
    omega

/-! ### The tokens of a parsed text -/
def bytesI (s : ByteArray) (ts : List Tk) (p : Nat) : List UInt8 :=
  if kindT ts p = 1 then litNull else if kindT ts p = 2 then litFlag true else if kindT ts p = 3 then litFlag false else if kindT ts p = 4 then (wordT s ts p).data.toList
  else if kindT ts p = 5 then qN (textT ts p) else if kindT ts p = 6 then [123] else if kindT ts p = 7 then [125] else if kindT ts p = 8 then [91] else if kindT ts p = 9 then [93] else if kindT ts p = 10 then [58] else [44]
def canI (s : ByteArray) (ts : List Tk) (p : Nat) : CT := ⟨kindT ts p, textT ts p, bytesI s ts p⟩
def segI (s : ByteArray) (ts : List Tk) (p n : Nat) : List CT := (List.range' p n).map (canI s ts)
theorem segI_one (s : ByteArray) (ts : List Tk) (p : Nat) : segI s ts p 1 = [canI s ts p] := rfl
theorem segI_cons (s : ByteArray) (ts : List Tk) (p n : Nat) : segI s ts p (n + 1) = canI s ts p :: segI s ts (p + 1) n := by unfold segI; rw [List.range'_succ, List.map_cons]
theorem segI_app (s : ByteArray) (ts : List Tk) (p m n : Nat) : segI s ts p m ++ segI s ts (p + m) n = segI s ts p (m + n) := by
  unfold segI
  rw [← List.map_append, List.range'_append_1]
theorem p_toks {s : ByteArray} {ts : List Tk} (hno : ∀ p, kindT ts p ≠ 5 → textT ts p = noS) : ∀ f,
    (∀ deep p x q, pV s ts f deep p = .ok x q → p < q ∧ toksN x = segI s ts p (q - p)) ∧
    (∀ deep p xs q, pI s ts f deep p = .ok xs q → p < q ∧ xs ≠ [] ∧ toksL true xs ++ [pun 9 93] = segI s ts p (q - p)) ∧
    (∀ deep seen p xs q, pM s ts f deep seen p = .ok xs q → p < q ∧ xs ≠ [] ∧ toksM true xs ++ [pun 7 125] = segI s ts p (q - p))
  | 0 => ⟨(fun _ _ _ _ h => by rw [pV] at h; cases h), (fun _ _ _ _ h => by rw [pI] at h; cases h), (fun _ _ _ _ _ h => by rw [pM] at h; cases h)⟩
  | f + 1 => by
    obtain ⟨iV, iI, iM⟩ := p_toks hno f
    have c8 : ∀ p, kindT ts p = 8 → canI s ts p = pun 8 91 := fun p h => by unfold canI bytesI; rw [hno p (by omega), h]; rfl
    have c6 : ∀ p, kindT ts p = 6 → canI s ts p = pun 6 123 := fun p h => by unfold canI bytesI; rw [hno p (by omega), h]; rfl
    have c9 : ∀ p, kindT ts p = 9 → canI s ts p = pun 9 93 := fun p h => by unfold canI bytesI; rw [hno p (by omega), h]; rfl
    have c7 : ∀ p, kindT ts p = 7 → canI s ts p = pun 7 125 := fun p h => by unfold canI bytesI; rw [hno p (by omega), h]; rfl
    have c10 : ∀ p, kindT ts p = 10 → canI s ts p = pun 10 58 := fun p h => by unfold canI bytesI; rw [hno p (by omega), h]; rfl
    have c11 : ∀ p, kindT ts p = 11 → canI s ts p = pun 11 44 := fun p h => by unfold canI bytesI; rw [hno p (by omega), h]; rfl
    have c5 : ∀ p, kindT ts p = 5 → canI s ts p = ⟨5, textT ts p, qN (textT ts p)⟩ := fun p h => by unfold canI bytesI; rw [h]; rfl
    have one : ∀ p, p + 1 - p = 1 := fun p => by omega
    have rst : ∀ stop r b r', rest s ts stop r = .ok b r' → r' = r + 1 ∧ (b = true → kindT ts r = stop) ∧ (b = false → kindT ts r = 11) := fun stop r b r' h => by
      unfold rest at h
      split at h
      · cases h; exact ⟨rfl, (fun _ => by assumption), (fun e => by cases e)⟩
      · split at h
        · cases h; exact ⟨rfl, (fun e => by cases e), (fun _ => by assumption)⟩
        · cases h
    have commaL : ∀ ys, toksL false ys = if ys = [] then [] else pun 11 44 :: toksL true ys := fun ys => by
      cases ys with
      | nil => rw [toksL]; rfl
      | cons y ys => rw [if_neg (List.cons_ne_nil _ _), toksL, toksL]; rfl
    have commaM : ∀ ys, toksM false ys = if ys = [] then [] else pun 11 44 :: toksM true ys := fun ys => by
      cases ys with
      | nil => rw [toksM]; rfl
      | cons y ys => obtain ⟨k, p, y⟩ := y; rw [if_neg (List.cons_ne_nil _ _), toksM, toksM]; rfl
    refine ⟨?_, ?_, ?_⟩
    · intro deep p x q h
      rw [pV] at h
      split at h
      · rename_i k; cases h; exact ⟨Nat.lt_succ_self _, by rw [one, segI_one, toksN]; unfold canI bytesI; rw [hno p (by omega), k]; rfl⟩
      split at h
      · rename_i k; cases h; exact ⟨Nat.lt_succ_self _, by rw [one, segI_one, toksN]; unfold canI bytesI; rw [hno p (by omega), k]; rfl⟩
      split at h
      · rename_i k; cases h; exact ⟨Nat.lt_succ_self _, by rw [one, segI_one, toksN]; unfold canI bytesI; rw [hno p (by omega), k]; rfl⟩
      split at h
      · rename_i k; cases h; exact ⟨Nat.lt_succ_self _, by rw [one, segI_one, toksN]; unfold canI bytesI; rw [hno p (by omega), k]; rfl⟩
      split at h
      · rename_i k; cases h; exact ⟨Nat.lt_succ_self _, by rw [one, segI_one, toksN, c5 p k]⟩
      split at h
      · rename_i k8
        split at h
        · cases h
        · by_cases h9 : kindT ts (p + 1) = 9
          · rw [if_pos h9] at h; cases h
            refine ⟨by omega, ?_⟩
            rw [show p + 2 - p = 1 + 1 by omega, segI_cons, segI_one, c8 p k8, c9 _ h9, toksN, toksL]; rfl
          · rw [if_neg h9] at h
            cases hI : pI s ts f deep (p + 1) with
            | ok xs r =>
              rw [hI] at h; cases h
              obtain ⟨h1, _, h2⟩ := iI _ _ _ _ hI
              refine ⟨by omega, ?_⟩
              rw [show q - p = (q - (p + 1)) + 1 by omega, segI_cons, c8 p k8, toksN, h2]
            | err k pl => rw [hI] at h; cases h
            | out => rw [hI] at h; cases h
      split at h
      · rename_i k6
        split at h
        · cases h
        · by_cases h9 : kindT ts (p + 1) = 7
          · rw [if_pos h9] at h; cases h
            refine ⟨by omega, ?_⟩
            rw [show p + 2 - p = 1 + 1 by omega, segI_cons, segI_one, c6 p k6, c7 _ h9, toksN, toksM]; rfl
          · rw [if_neg h9] at h
            cases hI : pM s ts f deep [] (p + 1) with
            | ok xs r =>
              rw [hI] at h; cases h
              obtain ⟨h1, _, h2⟩ := iM _ _ _ _ _ hI
              refine ⟨by omega, ?_⟩
              rw [show q - p = (q - (p + 1)) + 1 by omega, segI_cons, c6 p k6, toksN, h2]
            | err k pl => rw [hI] at h; cases h
            | out => rw [hI] at h; cases h
      cases h
    · intro deep p xs q h
      rw [pI] at h
      cases hV : pV s ts f (deep + 1) p with
      | err k pl => rw [hV] at h; cases h
      | out => rw [hV] at h; cases h
      | ok x r =>
        rw [hV] at h
        dsimp only at h
        obtain ⟨h1, h2⟩ := iV _ _ _ _ hV
        cases hr : rest s ts 9 r with
        | err k pl => rw [hr] at h; cases h
        | out => rw [hr] at h; cases h
        | ok b r' =>
          obtain ⟨rfl, hb1, hb2⟩ := rst _ _ _ _ hr
          rw [hr] at h
          cases b with
          | true =>
            cases h
            refine ⟨by omega, List.cons_ne_nil _ _, ?_⟩
            rw [toksL, toksL, h2, show r + 1 - p = (r - p) + 1 by omega, ← segI_app, segI_one, show p + (r - p) = r by omega, c9 r (hb1 rfl)]
            simp
          | false =>
            dsimp only at h
            cases hI : pI s ts f deep (r + 1) with
            | ok ys r2 =>
              rw [hI] at h; cases h
              obtain ⟨h3, hne, h4⟩ := iI _ _ _ _ hI
              refine ⟨by omega, List.cons_ne_nil _ _, ?_⟩
              rw [toksL, commaL, if_neg hne, h2]
              rw [show q - p = (r - p) + ((q - (r + 1)) + 1) by omega, ← segI_app, show p + (r - p) = r by omega, segI_cons, c11 r (hb2 rfl), ← h4]
              simp
            | err k pl => rw [hI] at h; cases h
            | out => rw [hI] at h; cases h
    · intro deep seen p xs q h
      rw [pM] at h
      split at h
      · rename_i k5
        split at h
        · cases h
        · split at h
          · rename_i k10
            cases hV : pV s ts f (deep + 1) (p + 2) with
            | err k pl => rw [hV] at h; cases h
            | out => rw [hV] at h; cases h
            | ok x r =>
              rw [hV] at h
              dsimp only at h
              obtain ⟨h1, h2⟩ := iV _ _ _ _ hV
              cases hr : rest s ts 7 r with
              | err k pl => rw [hr] at h; cases h
              | out => rw [hr] at h; cases h
              | ok b r' =>
                obtain ⟨rfl, hb1, hb2⟩ := rst _ _ _ _ hr
                rw [hr] at h
                cases b with
                | true =>
                  cases h
                  refine ⟨by omega, List.cons_ne_nil _ _, ?_⟩
                  rw [toksM, toksM, h2, show r + 1 - p = ((r - (p + 2)) + 1 + 1) + 1 by omega, segI_cons, segI_cons, ← segI_app, segI_one, show p + 1 + 1 + (r - (p + 2)) = r by omega, c7 r (hb1 rfl), c5 p k5, c10 _ k10]
                  simp
                | false =>
                  dsimp only at h
                  cases hI : pM s ts f deep (seen ++ [textT ts p]) (r + 1) with
                  | ok ys r2 =>
                    rw [hI] at h; cases h
                    obtain ⟨h3, hne, h4⟩ := iM _ _ _ _ _ hI
                    refine ⟨by omega, List.cons_ne_nil _ _, ?_⟩
                    rw [toksM, commaM, if_neg hne, h2]
                    rw [show q - p = ((r - (p + 2)) + ((q - (r + 1)) + 1) + 1) + 1 by omega, segI_cons, segI_cons, ← segI_app, show p + 1 + 1 + (r - (p + 2)) = r by omega, segI_cons, c11 r (hb2 rfl), ← h4, c5 p k5, c10 _ k10]
                    simp
                  | err k pl => rw [hI] at h; cases h
                  | out => rw [hI] at h; cases h
          · cases h
      · cases h

end Go.Proofs.YtibopkodoidjoaaGreatDoor

/- Package tree: Count; a parse's node is small. -/
namespace Go.Proofs.YtibopkodoidjoaaGreatDoor
open Go Go.RowKit

theorem one6_le (n i : Nat) : one6 n i ≤ 1 := by unfold one6; split <;> omega
mutual
theorem cnt_le : ∀ (x : Nd) (i : Nat), cntN x i ≤ (toksN x).length
  | .null _, i => by rw [cntN, toksN]; exact one6_le _ _
  | .flag _ _, i => by rw [cntN, toksN]; exact one6_le _ _
  | .num _ _, i => by rw [cntN, toksN]; exact one6_le _ _
  | .text _ _, i => by rw [cntN, toksN]; exact one6_le _ _
  | .lst _ xs, i => by
    have h1 := one6_le 4 i
    have h2 := cntL_le true xs i
    rw [cntN, toksN, List.length_cons, List.length_append]
    omega
  | .obj _ xs, i => by
    have h1 := one6_le 5 i
    have h2 := cntM_le true xs i
    rw [cntN, toksN, List.length_cons, List.length_append]
    omega
theorem cntL_le : ∀ (b : Bool) (xs : List Nd) (i : Nat), cntL xs i ≤ (toksL b xs).length
  | _, [], i => by rw [cntL]; exact Nat.zero_le _
  | b, x :: xs, i => by
    have h1 := cnt_le x i
    have h2 := cntL_le false xs i
    rw [cntL, toksL, List.length_append, List.length_append]
    omega
theorem cntM_le : ∀ (b : Bool) (xs : List (ByteArray × Nat × Nd)) (i : Nat), cntM xs i ≤ (toksM b xs).length
  | _, [], i => by rw [cntM]; exact Nat.zero_le _
  | b, (k, p, x) :: xs, i => by
    have h1 := cnt_le x i
    have h2 := cntM_le false xs i
    rw [cntM, toksM, List.length_append, List.length_cons, List.length_cons, List.length_append]
    omega
end
/-- Only a text's token has a text. -/
theorem one_text_no {s : ByteArray} {i : Nat} {T : Tk} (h : oneAt s i = (0, 0, T)) (hk : T.kind ≠ 5) : T.text = noS := by
  unfold oneAt at h
  simp only at h
  split at h
  · cases h; rfl
  split at h
  · split at h
    · cases h; rfl
    · cases h
  split at h
  · split at h
    · cases h; rfl
    · cases h
  split at h
  · split at h
    · cases h; rfl
    · cases h
  split at h
  · split at h
    · cases h; rfl
    · cases h
  split at h
  · split at h
    · cases h; exact absurd rfl hk
    · rename_i h5
      simp only [Prod.mk.injEq] at h
      exact absurd h.1 h5
  · cases h
/-- Of a text that scans: its tokens, each by itself. -/
theorem some_tok {s : ByteArray} (h : (someS s).2.1 = 0) : ∀ T ∈ (someS s).1, T.fr < T.to ∧ T.to ≤ s.size ∧ brkAt s T.fr = s.size ∧ oneAt s T.fr = (0, 0, T) := by
  obtain ⟨hu, hch, _⟩ := some_chain h
  intro T hT
  obtain ⟨h1, h2, h3, h4, h5, h6⟩ := chain_bd _ 0 ((utfE_brk s).1 hu) (Nat.zero_le _) hch T hT
  exact ⟨h2, h3, h4, h6⟩
theorem some_no {s : ByteArray} (h : (someS s).2.1 = 0) (p : Nat) (hk : kindT (someS s).1 p ≠ 5) : textT (someS s).1 p = noS := by
  unfold textT
  unfold kindT at hk
  cases hT : (someS s).1[p]? with
  | none => rfl
  | some T =>
    rw [hT] at hk
    exact one_text_no (some_tok h T (List.mem_of_getElem? hT)).2.2.2 hk
theorem parse_toks {s : ByteArray} {x : Nd} {q : Nat} (h : parseS s = .ok x q) : (someS s).2.1 = 0 ∧ q = (someS s).1.length ∧ toksN x = segI s (someS s).1 0 (someS s).1.length := by
  unfold parseS at h
  by_cases h0 : (someS s).2.1 = 0
  · rw [if_pos h0] at h
    obtain ⟨h1, h2⟩ := parse_pV h
    have := (p_toks (s := s) (some_no h0) _).1 _ _ _ _ h1
    rw [h2, Nat.sub_zero] at this
    exact ⟨h0, h2, this.2⟩
  · rw [if_neg h0] at h; cases h
theorem parse_cnt {s : ByteArray} {x : Nd} {q : Nat} (hs : s.size ≤ 4611686018427387904) (h : parseS s = .ok x q) (i : Nat) : cntN x i ≤ 4611686018427387904 := by
  obtain ⟨h0, h1, h2⟩ := parse_toks h
  obtain ⟨hu, hch, _⟩ := some_chain h0
  have hlen := chain_len _ 0 ((utfE_brk s).1 hu) (Nat.zero_le _) hch
  have h3 := cnt_le x i
  rw [h2] at h3
  unfold segI at h3
  simp at h3
  omega
theorem fin_cells {w : World} {b : Nat} {f : Nat → Nat} (h : CntB b f w) : w.cell? ⟨b, 0, none⟩ = some (.int .i64 (f 0 : Int)) ∧ w.cell? ⟨b, 1, none⟩ = some (.int .i64 (f 1 : Int)) ∧ w.cell? ⟨b, 2, none⟩ = some (.int .i64 (f 2 : Int)) ∧
    w.cell? ⟨b, 3, none⟩ = some (.int .i64 (f 3 : Int)) ∧ w.cell? ⟨b, 4, none⟩ = some (.int .i64 (f 4 : Int)) ∧ w.cell? ⟨b, 5, none⟩ = some (.int .i64 (f 5 : Int)) :=
  ⟨h.at (by decide), h.at (by decide), h.at (by decide), h.at (by decide), h.at (by decide), h.at (by decide)⟩
theorem fin_free {w : World} {b : Nat} {f : Nat → Nat} (h : CntB b f w) : w.frozen? ⟨b, 0, none⟩ = false ∧ w.frozen? ⟨b, 1, none⟩ = false ∧ w.frozen? ⟨b, 2, none⟩ = false ∧ w.frozen? ⟨b, 3, none⟩ = false ∧ w.frozen? ⟨b, 4, none⟩ = false ∧ w.frozen? ⟨b, 5, none⟩ = false :=
  ⟨freeB h 0, freeB h 1, freeB h 2, freeB h 3, freeB h 4, freeB h 5⟩
def set6 (w : World) (r : Nat) (v0 v1 v2 v3 v4 v5 : Value) : World := (((((w.setCell ⟨r, 0, none⟩ v0).setCell ⟨r, 1, none⟩ v1).setCell ⟨r, 2, none⟩ v2).setCell ⟨r, 3, none⟩ v3).setCell ⟨r, 4, none⟩ v4).setCell ⟨r, 5, none⟩ v5
theorem below_set6 {n : Nat} {w w1 : World} {r : Nat} (h : Below n w w1) (hr : n ≤ r) (v0 v1 v2 v3 v4 v5 : Value) : Below n w (set6 w1 r v0 v1 v2 v3 v4 v5) :=
  (((((h.setCell hr v0).setCell hr v1).setCell hr v2).setCell hr v3).setCell hr v4).setCell hr v5
theorem far_set6 {w : World} {r g : Nat} (h : g ≠ r) (v0 v1 v2 v3 v4 v5 : Value) : (set6 w r v0 v1 v2 v3 v4 v5).heap[g]? = w.heap[g]? := by
  unfold set6
  rw [set_far _ _ _ h, set_far _ _ _ h, set_far _ _ _ h, set_far _ _ _ h, set_far _ _ _ h, set_far _ _ _ h]
set_option maxHeartbeats 1000000 in
set_option maxRecDepth 100000 in
theorem Count_calls {A : Nat → Addr} {B : Nat} (s : ByteArray) (w : World) (hE : Env A B SVN w) (hs : s.size ≤ 3518437208882) :
    Calls Tryz.prog 17 #[.string s] w fun e w' => ErrR A w.heap.size (parseS s) (.agg (intsC (match parseS s with | .ok x _ => cntN x | _ => fun _ => 0))) (.agg (intsC fun _ => 0)) e w' ∧ Below w.heap.size w w' := by
  have P := Lib.hid (fun w hE => Parse_calls (A := A) (B := B) s w hE hs)
  have hc := Lib.hid (fun x q h => parse_cnt (s := s) (x := x) (q := q) (by omega) h)
  have hz0 : (.agg (intsC fun _ => 0) : Value) = .agg #[.int .i64 0, .int .i64 0, .int .i64 0, .int .i64 0, .int .i64 0, .int .i64 0] := rfl
  replace hE := Lib.hid hE
  generalize parseS s = R at *
  cases R with
  | out =>
    go_enter Tryz.func17, Tryz.ntmps17
    (go_wp2_with fail; repeat (any_goals (go_quiet (fail); go_wp2_with fail)))
    refine (P.out _ (hE.out.next (by repeat (first | assumption | exact Below.refl _ _ | apply Below.drew | apply below_drewN | apply balloc | (refine Below.setCell ?_ (by first | omega | (simp <;> omega)) _))))).mono ?_
    rintro e w1 ⟨hr, hb⟩
    exact hr.elim
  | err k pl =>
    rw [hz0]
    clear hz0
    go_enter Tryz.func17, Tryz.ntmps17
    (go_wp2_with fail; repeat (any_goals (go_quiet (fail); go_wp2_with fail)))
    refine (P.out _ (hE.out.next (by repeat (first | assumption | exact Below.refl _ _ | apply Below.drew | apply below_drewN | apply balloc | (refine Below.setCell ?_ (by first | omega | (simp <;> omega)) _))))).mono ?_
    rintro e w1 ⟨⟨g, hg, rfl, hat⟩, hb⟩
    have hb1 : Below w.heap.size w w1 := bcall (by repeat (first | assumption | exact Below.refl _ _ | apply Below.drew | apply below_drewN | apply balloc | (refine Below.setCell ?_ (by first | omega | (simp <;> omega)) _))) hb
    have q1 : CntB w.heap.size (fun _ => 0) w1 := (hb.block _ (by simp; omega)).trans (old2 w _ _)
    have q2 : CntB (w.heap.size + 1) (fun _ => 0) w1 := (hb.block _ (by simp)).trans (new2 w _ _)
    replace hat := Lib.hid hat
    clear hb
    obtain ⟨c0, c1, c2, c3, c4, c5⟩ := fin_cells q2
    obtain ⟨d0, d1, d2, d3, d4, d5⟩ := fin_cells q1
    obtain ⟨f0, f1, f2, f3, f4, f5⟩ := fin_free q1
    have hlt := ltB q1
    replace q1 := Lib.hid q1
    replace q2 := Lib.hid q2
    simp only [Int.natCast_zero] at c0 c1 c2 c3 c4 c5 d0 d1 d2 d3 d4 d5
    go_wp2_with fail
    refine bodyPost_ret (v := .tuple #[.agg #[.int .i64 0, .int .i64 0, .int .i64 0, .int .i64 0, .int .i64 0, .int .i64 0], .iface 69 (.pointer (some ⟨g, 0, none⟩))]) (by simp [results, Tryz.results17, go_sem, *]) rfl ?_
    have hg' : w.heap.size < g := by simp at hg; omega
    exact ⟨⟨g, Nat.le_of_lt hg', rfl, (far_set6 (Nat.ne_of_gt hg') _ _ _ _ _ _).trans hat.out⟩, below_set6 hb1 (Nat.le_refl _) _ _ _ _ _ _⟩
  | ok x q =>
    have hcx := Lib.hid (hc.out x q rfl)
    have CC : Hid (∀ w0 lo hi u, OwnN w0 lo hi u x → CntC w0 lo hi u x) := Lib.hid (fun _ _ _ _ h => count_calls h)
    obtain ⟨F, hF⟩ : ∃ F : Nat → Nat, F = cntN x := ⟨_, rfl⟩
    have hpost : (.agg (intsC (match (PR.ok x q : PR Nd) with | .ok x _ => cntN x | _ => fun _ => 0)) : Value) = .agg #[.int .i64 (F 0 : Int), .int .i64 (F 1 : Int), .int .i64 (F 2 : Int), .int .i64 (F 3 : Int), .int .i64 (F 4 : Int), .int .i64 (F 5 : Int)] := by rw [hF]; rfl
    rw [hpost, hz0]
    clear hz0 hpost
    have hFx : Hid (∀ i, F i = 0 + cntN x i) := Lib.hid (fun i => by rw [hF, Nat.zero_add])
    replace hF := Lib.hid hF
    go_enter Tryz.func17, Tryz.ntmps17
    (go_wp2_with fail; repeat (any_goals (go_quiet (fail); go_wp2_with fail)))
    refine (P.out _ (hE.out.next (by repeat (first | assumption | exact Below.refl _ _ | apply Below.drew | apply below_drewN | apply balloc | (refine Below.setCell ?_ (by first | omega | (simp <;> omega)) _))))).mono ?_
    rintro e w1 ⟨⟨u, rfl, hN⟩, hb⟩
    have hb1 : Below w.heap.size w w1 := bcall (by repeat (first | assumption | exact Below.refl _ _ | apply Below.drew | apply below_drewN | apply balloc | (refine Below.setCell ?_ (by first | omega | (simp <;> omega)) _))) hb
    have p1 : CntB w.heap.size (fun _ => 0) w1 := (hb.block _ (by simp; omega)).trans (old2 w _ _)
    have p2 : CntB (w.heap.size + 1) (fun _ => 0) w1 := (hb.block _ (by simp)).trans (new2 w _ _)
    have hz1 := hb.size
    simp at hz1
    obtain ⟨ut, ua, rfl⟩ := hN.form
    have C := Lib.hid (CC.out _ _ _ _ hN w1 (w.heap.size + 1) (fun _ => 0) (fun _ _ _ => rfl) (Or.inl (by simp)) (Nat.le_refl _) p2 (fun i => by rw [Nat.zero_add]; exact hcx.out i))
    replace hN := Lib.hid hN
    replace p1 := Lib.hid p1
    clear hb p2
    go_wp2_with fail
    refine C.out.mono ?_
    rintro e w2 ⟨rfl, hB2, hg2⟩
    have q2 : CntB (w.heap.size + 1) F w2 := hB2.congr (fun i => hFx.out i)
    have q1 : CntB w.heap.size (fun _ => 0) w2 := (hg2.block _ (ltB p1.out) (fun e => by have := Option.some.inj e; omega)).trans p1.out
    have hb2 : Below w.heap.size w w2 := hb1.trans (grown_below hg2 (by omega) (by omega))
    clear hB2 hg2 hb1
    obtain ⟨c0, c1, c2, c3, c4, c5⟩ := fin_cells q2
    obtain ⟨d0, d1, d2, d3, d4, d5⟩ := fin_cells q1
    obtain ⟨f0, f1, f2, f3, f4, f5⟩ := fin_free q1
    have hlt := ltB q1
    replace q1 := Lib.hid q1
    replace q2 := Lib.hid q2
    simp only [Int.natCast_zero] at c0 c1 c2 c3 c4 c5 d0 d1 d2 d3 d4 d5
    go_wp2_with fail
    refine bodyPost_ret (v := .tuple #[.agg #[.int .i64 (F 0 : Int), .int .i64 (F 1 : Int), .int .i64 (F 2 : Int), .int .i64 (F 3 : Int), .int .i64 (F 4 : Int), .int .i64 (F 5 : Int)], .nilIface]) (by simp [results, Tryz.results17, go_sem, *]) rfl ?_
    exact ⟨rfl, below_set6 hb2 (Nat.le_refl _) _ _ _ _ _ _⟩

end Go.Proofs.YtibopkodoidjoaaGreatDoor

/- The reference's tree: Parse. -/
namespace Go.Proofs.YtibopkodoidjoaaGreatDoor
open Go Go.RowKit

def finP (s : ByteArray) (ts : List Tk) : PR Nd → PR Nd
  | .ok x q => if q < ts.length then .err 2 (placeT s ts q) else .ok x q
  | .err k pl => .err k pl
  | .out => .out
theorem pP_fin (s : ByteArray) (ts : List Tk) : pP s ts = finP s ts (pV s ts (2 * ts.length + 1) 0 0) := by
  unfold pP
  cases pV s ts (2 * ts.length + 1) 0 0 <;> rfl
/-- What the reference's Parse answers. -/
def RefR (lo : Nat) (r : PR Nd) (e : Ending) (w' : World) : Prop := match r with
  | .ok x _ => ∃ u : List Value, e = .returned (.tuple #[.agg u.toArray, .int .i64 0, .int .i64 0]) ∧ OwnR w' lo w'.heap.size u x
  | .err k pl => e = .returned (.tuple #[.agg #[.int .i64 0, .int .i64 0, .bool false, .string ⟨#[]⟩, .slice none 0 0, .slice none 0 0, .slice none 0 0], .int .i64 (pl : Int), .int .i64 (k : Int)])
  | .out => False
set_option maxHeartbeats 2000000 in
set_option maxRecDepth 100000 in
theorem rParse_err (s : ByteArray) (w : World) (hs : s.size ≤ 1048576) (h0 : (someS s).2.1 ≠ 0) :
    Calls Tryz.prog 10 #[.string s] w fun e w' => RefR w.heap.size (.err (someS s).2.1 (someS s).2.2) e w' ∧ Below w.heap.size w w' := by
  have S := Lib.hid (fun w => rScan_calls s w (by omega))
  unfold rScanR at S
  rw [if_neg h0, if_neg h0] at S
  obtain ⟨k, hk⟩ : ∃ k, k = (someS s).2.1 := ⟨_, rfl⟩
  obtain ⟨pl, hpl⟩ : ∃ pl, pl = (someS s).2.2 := ⟨_, rfl⟩
  rw [← hk] at S h0
  rw [← hk, ← hpl]
  rw [← hpl] at S
  have h1 : ((k : Int) == 0) = false := by simp; omega
  have h1' : ¬ (k : Int) = 0 := by omega
  replace hk := Lib.hid hk
  replace hpl := Lib.hid hpl
  go_enter Tryz.func10, Tryz.ntmps10
  (go_wp2_with fail; repeat (any_goals (go_quiet (fail); go_wp2_with fail)))
  refine (S.out _).mono ?_
  rintro e w1 ⟨⟨v, rfl, _, hv⟩, hb⟩
  obtain rfl := hv h0
  have hb1 : Below w.heap.size w w1 := bcall (by repeat (first | assumption | exact Below.refl _ _ | apply Below.drew | apply below_drewN | apply balloc | (refine Below.setCell ?_ (by first | omega | (simp <;> omega)) _))) hb
  have hx := boxed hb
  have hx0 := ltB hx
  clear hb
  have yc0 := cellB hx 0 rfl
  have yc1 := cellB hx 1 rfl
  have yc2 := cellB hx 2 rfl
  have yc3 := cellB hx 3 rfl
  have yc4 := cellB hx 4 rfl
  have yc5 := cellB hx 5 rfl
  have yc6 := cellB hx 6 rfl
  have yf0 := freeB hx 0
  have yf1 := freeB hx 1
  have yf2 := freeB hx 2
  have yf3 := freeB hx 3
  have yf4 := freeB hx 4
  have yf5 := freeB hx 5
  have yf6 := freeB hx 6
  go_wp2_with fail
  have e1 := set7 hx (.int .i64 0) (.int .i64 0) (.bool false) (.string ⟨#[]⟩) (.slice none 0 0) (.slice none 0 0) (.slice none 0 0)
  clear yc0 yc1 yc2 yc3 yc4 yc5 yc6 yf0 yf1 yf2 yf3 yf4 yf5 yf6 hx
  have d0 := cellB e1 0 rfl
  have d1 := cellB e1 1 rfl
  have d2 := cellB e1 2 rfl
  have d3 := cellB e1 3 rfl
  have d4 := cellB e1 4 rfl
  have d5 := cellB e1 5 rfl
  have d6 := cellB e1 6 rfl
  refine bodyPost_ret (v := .tuple #[.agg #[.int .i64 0, .int .i64 0, .bool false, .string ⟨#[]⟩, .slice none 0 0, .slice none 0 0, .slice none 0 0], .int .i64 (pl : Int), .int .i64 (k : Int)]) (by simp [results, Tryz.results10, go_sem, d0, d1, d2, d3, d4, d5, d6]) rfl ?_
  exact ⟨rfl, below7 hb1 (Nat.le_refl _) _ _ _ _ _ _ _⟩

set_option maxHeartbeats 2000000 in
set_option maxRecDepth 100000 in
theorem rParse_ok (s : ByteArray) (w : World) (hs : s.size ≤ 1048576) (h0 : (someS s).2.1 = 0) :
    Calls Tryz.prog 10 #[.string s] w fun e w' => RefR w.heap.size (pP s (someS s).1) e w' ∧ Below w.heap.size w w' := by
  have S := Lib.hid (fun w => rScan_calls s w (by omega))
  unfold rScanR at S
  rw [if_pos h0, if_pos h0, h0] at S
  have hbd : ∀ T ∈ (someS s).1, T.fr ≤ T.to ∧ T.to ≤ s.size := fun T hT => by have := some_tok h0 T hT; omega
  have hlen : (someS s).1.length ≤ 1048576 := by
    obtain ⟨hu, hch, _⟩ := some_chain h0
    have := chain_len _ 0 ((utfE_brk s).1 hu) (Nat.zero_le _) hch
    omega
  generalize (someS s).1 = ts at *
  have fit := pV_fits s ts
  have hout : pV s ts (2 * ts.length + 1) 0 0 ≠ .out := fun h => by rw [h] at fit; exact fit
  have V := Lib.hid (fun base v b w hW => rvalue_calls (base := base) (v := v) s hbd (by omega) (2 * ts.length + 1) 0 0 0 b w hout (by omega) hW)
  rw [pP_fin]
  generalize pV s ts (2 * ts.length + 1) 0 0 = R at *
  replace hbd := Lib.hid hbd
  replace hout := Lib.hid hout
  cases R with
  | out => exact fit.elim
  | err k pl =>
    show Calls _ _ _ _ fun e w' => RefR w.heap.size (.err k pl) e w' ∧ _
    go_enter Tryz.func10, Tryz.ntmps10
    (go_wp2_with fail; repeat (any_goals (go_quiet (fail); go_wp2_with fail)))
    refine (S.out _).mono ?_
    rintro e w1 ⟨⟨v, rfl, hT, _⟩, hb⟩
    have hb1 : Below w.heap.size w w1 := bcall (by repeat (first | assumption | exact Below.refl _ _ | apply Below.drew | apply below_drewN | apply balloc | (refine Below.setCell ?_ (by first | omega | (simp <;> omega)) _))) hb
    have hx := boxed hb
    have hx0 := ltB hx
    obtain ⟨ta, tc, rfl⟩ := hT.form2
    have hown : ∀ k, (Value.slice ta ts.length tc).ownBlock = some k → k < w1.heap.size := fun k e => (World.ownsRow.lt hT k e).2
    replace hT := Lib.hid hT
    replace hown := Lib.hid hown
    clear hb
    go_wp2_with fail
    have hrd : RdB s (.slice ta ts.length tc) 0 0 0 w1.heap.size (w1.alloc (.cells #[.string s, .slice ta ts.length tc, .int .i64 0, .int .i64 0, .int .i64 0] 80 (0, 0))) := heap_alloc_new _ _
    have hWr : RdW _ s (.slice ta ts.length tc) ts 0 0 0 w1.heap.size (w1.alloc (.cells #[.string s, .slice ta ts.length tc, .int .i64 0, .int .i64 0, .int .i64 0] 80 (0, 0))) := ⟨hrd, hT.out.next (balloc (Below.refl _ _)), fun h => by have := hown.out _ h; omega, Nat.zero_le _, by omega⟩
    refine (V.out _ _ _ _ hWr).mono ?_
    rintro e w2 ⟨hg2, hm⟩
    have hb2 : Below w.heap.size w w2 := (Below.grown (balloc hb1) hg2 (by simp; omega) (fun k e => by cases e; omega))
    have hz1 : w.heap.size ≠ w1.heap.size := by omega
    replace hx := (hg2.block _ (ltB (al_keep hx)) (fun e => by have := Option.some.inj e; omega)).trans (al_keep hx)
    have hz2 := hg2.size
    simp at hz2
    clear hrd
    obtain ⟨m, p, f, t, vi, vk, vp, q, rfl, ⟨⟨a1, n1, c1, rfl⟩, ⟨a2, n2, c2, rfl⟩, ⟨a3, n3, c3, rfl⟩⟩, hq, hr⟩ := hm
    rw [rdC_arr]
    have hk : k = 2 ∨ k = 3 ∨ k = 6 := fit
    have hk1 : ((k : Int) == 0) = false := by simp; omega
    have hk2 : ¬ (k : Int) = 0 := by omega
    clear fit hWr hg2
    have x3 := hr.c3
    have x4 := hr.c4
    have hbr := ltB hr
    have hx0 := ltB hx
    have yc0 := cellB hx 0 rfl
    have yc1 := cellB hx 1 rfl
    have yc2 := cellB hx 2 rfl
    have yc3 := cellB hx 3 rfl
    have yc4 := cellB hx 4 rfl
    have yc5 := cellB hx 5 rfl
    have yc6 := cellB hx 6 rfl
    have yf0 := freeB hx 0
    have yf1 := freeB hx 1
    have yf2 := freeB hx 2
    have yf3 := freeB hx 3
    have yf4 := freeB hx 4
    have yf5 := freeB hx 5
    have yf6 := freeB hx 6
    replace hr := Lib.hid hr
    go_wp2_with fail
    go_region
    go_wp2_with fail
    have e0 := set7 hx (.int .i64 0) (.int .i64 0) (.bool false) (.string ⟨#[]⟩) (.slice none 0 0) (.slice none 0 0) (.slice none 0 0)
    clear yc0 yc1 yc2 yc3 yc4 yc5 yc6 yf0 yf1 yf2 yf3 yf4 yf5 yf6 hx
    have e1 := drewH (al_keep (o' := .cells #[.int .i64 (m : Int), .int .i64 (p : Int), .bool f, .string t, .slice a1 n1 c1, .slice a2 n2 c2, .slice a3 n3 c3] 33 (0, 0)) e0)
    have d0 := cellB e1 0 rfl
    have d1 := cellB e1 1 rfl
    have d2 := cellB e1 2 rfl
    have d3 := cellB e1 3 rfl
    have d4 := cellB e1 4 rfl
    have d5 := cellB e1 5 rfl
    have d6 := cellB e1 6 rfl
    refine bodyPost_ret (v := .tuple #[.agg #[.int .i64 0, .int .i64 0, .bool false, .string ⟨#[]⟩, .slice none 0 0, .slice none 0 0, .slice none 0 0], .int .i64 (pl : Int), .int .i64 (k : Int)]) (by simp [results, Tryz.results10, go_sem, d0, d1, d2, d3, d4, d5, d6]) rfl ?_
    exact ⟨rfl, Below.drew (balloc (below7 hb2 (Nat.le_refl _) _ _ _ _ _ _ _))⟩
  | ok x q =>
    by_cases hql : q < ts.length
    · rw [show finP s ts (.ok x q) = .err 2 (placeT s ts q) by show (if q < ts.length then _ else _) = _; rw [if_pos hql]]
      have HC := Lib.hid (fun ta tc base b w hW => here_calls (base := base) (v := (.slice ta ts.length tc)) (ts := ts) s q 0 0 b w hW)
      obtain ⟨P1, hP1⟩ : ∃ P1, P1 = placeT s ts q := ⟨_, rfl⟩
      rw [← hP1] at HC ⊢
      replace hP1 := Lib.hid hP1
      have hqI : (q : Int) < (ts.length : Int) := by omega
      go_enter Tryz.func10, Tryz.ntmps10
      (go_wp2_with fail; repeat (any_goals (go_quiet (fail); go_wp2_with fail)))
      refine (S.out _).mono ?_
      rintro e w1 ⟨⟨v, rfl, hT, _⟩, hb⟩
      have hb1 : Below w.heap.size w w1 := bcall (by repeat (first | assumption | exact Below.refl _ _ | apply Below.drew | apply below_drewN | apply balloc | (refine Below.setCell ?_ (by first | omega | (simp <;> omega)) _))) hb
      have hx := boxed hb
      have hx0 := ltB hx
      obtain ⟨ta, tc, rfl⟩ := hT.form2
      have hown : ∀ k, (Value.slice ta ts.length tc).ownBlock = some k → k < w1.heap.size := fun k e => (World.ownsRow.lt hT k e).2
      replace hT := Lib.hid hT
      replace hown := Lib.hid hown
      clear hb
      go_wp2_with fail
      have hrd : RdB s (.slice ta ts.length tc) 0 0 0 w1.heap.size (w1.alloc (.cells #[.string s, .slice ta ts.length tc, .int .i64 0, .int .i64 0, .int .i64 0] 80 (0, 0))) := heap_alloc_new _ _
      have hWr : RdW _ s (.slice ta ts.length tc) ts 0 0 0 w1.heap.size (w1.alloc (.cells #[.string s, .slice ta ts.length tc, .int .i64 0, .int .i64 0, .int .i64 0] 80 (0, 0))) := ⟨hrd, hT.out.next (balloc (Below.refl _ _)), fun h => by have := hown.out _ h; omega, Nat.zero_le _, by omega⟩
      refine (V.out _ _ _ _ hWr).mono ?_
      rintro e w2 ⟨hg2, hm⟩
      have hb2 : Below w.heap.size w w2 := (Below.grown (balloc hb1) hg2 (by simp; omega) (fun k e => by cases e; omega))
      have hz1 : w.heap.size ≠ w1.heap.size := by omega
      replace hx := (hg2.block _ (ltB (al_keep hx)) (fun e => by have := Option.some.inj e; omega)).trans (al_keep hx)
      have hz2 := hg2.size
      simp at hz2
      clear hrd
      obtain ⟨u, rfl, hN, hr⟩ := hm
      have hq : q ≤ ts.length := fit.2
      have hW2 := hWr.step hg2 hr hq
      obtain ⟨m, p, f, t, vi, vk, vp, rfl, ⟨a1, n1, c1, rfl⟩, ⟨a2, n2, c2, rfl⟩, ⟨a3, n3, c3, rfl⟩⟩ := hN.form
      rw [rdC_arr]
      clear fit hWr hg2 hT
      have x2 := hr.c2
      have x4 := hr.c4
      have hbr := ltB hr
      have hx0 := ltB hx
      have hW3 := hW2.next (balloc (o := .cells #[.int .i64 (m : Int), .int .i64 (p : Int), .bool f, .string t, .slice a1 n1 c1, .slice a2 n2 c2, .slice a3 n3 c3] 33 (0, 0)) (Below.refl w2.heap.size w2))
      have hx3 := al_keep (o' := .cells #[.int .i64 (m : Int), .int .i64 (p : Int), .bool f, .string t, .slice a1 n1 c1, .slice a2 n2 c2, .slice a3 n3 c3] 33 (0, 0)) hx
      have hb3 : Below w.heap.size w (w2.alloc (.cells #[.int .i64 (m : Int), .int .i64 (p : Int), .bool f, .string t, .slice a1 n1 c1, .slice a2 n2 c2, .slice a3 n3 c3] 33 (0, 0))) := balloc hb2
      clear hW2 hN hql
      replace hW3 := Lib.hid hW3
      replace hx3 := Lib.hid hx3
      replace hb3 := Lib.hid hb3
      go_wp2_with fail
      refine (HC.out _ _ _ _ _ hW3.out).mono ?_
      rintro e w4 ⟨rfl, hb⟩
      have hx4 := box_next hx3.out hb
      have hW4 := hW3.out.next hb
      have hb4 := hb3.out.trans (hb.mono hb3.out.size)
      clear hb hx hr x2 x4 hW3 hx3 hb3
      go_wp2_with fail
      refine (rfail_new s _ q 0 w1.heap.size P1 2 w4 hW4.rd).mono ?_
      rintro e w5 ⟨rfl, hr, hg⟩
      have hx := (hg.block _ (ltB hx4) (fun e => by have := Option.some.inj e; omega)).trans hx4
      have hb5 : Below w.heap.size w w5 := Below.grown hb4 hg hb4.size (fun k e => by cases e; omega)
      clear hg hx4 hb4 hW4 hx0 hbr
      have x3 := hr.c3
      have x4 := hr.c4
      have hbr := ltB hr
      have hx0 := ltB hx
      have yc0 := cellB hx 0 rfl
      have yc1 := cellB hx 1 rfl
      have yc2 := cellB hx 2 rfl
      have yc3 := cellB hx 3 rfl
      have yc4 := cellB hx 4 rfl
      have yc5 := cellB hx 5 rfl
      have yc6 := cellB hx 6 rfl
      have yf0 := freeB hx 0
      have yf1 := freeB hx 1
      have yf2 := freeB hx 2
      have yf3 := freeB hx 3
      have yf4 := freeB hx 4
      have yf5 := freeB hx 5
      have yf6 := freeB hx 6
      replace hr := Lib.hid hr
      go_wp2_with fail
      go_region
      go_wp2_with fail
      have e0 := set7 hx (.int .i64 0) (.int .i64 0) (.bool false) (.string ⟨#[]⟩) (.slice none 0 0) (.slice none 0 0) (.slice none 0 0)
      clear yc0 yc1 yc2 yc3 yc4 yc5 yc6 yf0 yf1 yf2 yf3 yf4 yf5 yf6 hx
      have e1 := drewH e0
      have d0 := cellB e1 0 rfl
      have d1 := cellB e1 1 rfl
      have d2 := cellB e1 2 rfl
      have d3 := cellB e1 3 rfl
      have d4 := cellB e1 4 rfl
      have d5 := cellB e1 5 rfl
      have d6 := cellB e1 6 rfl
      refine bodyPost_ret (v := .tuple #[.agg #[.int .i64 0, .int .i64 0, .bool false, .string ⟨#[]⟩, .slice none 0 0, .slice none 0 0, .slice none 0 0], .int .i64 (P1 : Int), .int .i64 (2 : Int)]) (by simp [results, Tryz.results10, go_sem, d0, d1, d2, d3, d4, d5, d6]) rfl ?_
      exact ⟨rfl, Below.drew (below7 hb5 (Nat.le_refl _) _ _ _ _ _ _ _)⟩
    · rw [show finP s ts (.ok x q) = .ok x q by show (if q < ts.length then _ else _) = _; rw [if_neg hql]]
      have hqI : ¬ (q : Int) < (ts.length : Int) := by omega
      go_enter Tryz.func10, Tryz.ntmps10
      (go_wp2_with fail; repeat (any_goals (go_quiet (fail); go_wp2_with fail)))
      refine (S.out _).mono ?_
      rintro e w1 ⟨⟨v, rfl, hT, _⟩, hb⟩
      have hb1 : Below w.heap.size w w1 := bcall (by repeat (first | assumption | exact Below.refl _ _ | apply Below.drew | apply below_drewN | apply balloc | (refine Below.setCell ?_ (by first | omega | (simp <;> omega)) _))) hb
      have hx := boxed hb
      have hx0 := ltB hx
      obtain ⟨ta, tc, rfl⟩ := hT.form2
      have hown : ∀ k, (Value.slice ta ts.length tc).ownBlock = some k → k < w1.heap.size := fun k e => (World.ownsRow.lt hT k e).2
      replace hT := Lib.hid hT
      replace hown := Lib.hid hown
      clear hb
      go_wp2_with fail
      have hrd : RdB s (.slice ta ts.length tc) 0 0 0 w1.heap.size (w1.alloc (.cells #[.string s, .slice ta ts.length tc, .int .i64 0, .int .i64 0, .int .i64 0] 80 (0, 0))) := heap_alloc_new _ _
      have hWr : RdW _ s (.slice ta ts.length tc) ts 0 0 0 w1.heap.size (w1.alloc (.cells #[.string s, .slice ta ts.length tc, .int .i64 0, .int .i64 0, .int .i64 0] 80 (0, 0))) := ⟨hrd, hT.out.next (balloc (Below.refl _ _)), fun h => by have := hown.out _ h; omega, Nat.zero_le _, by omega⟩
      refine (V.out _ _ _ _ hWr).mono ?_
      rintro e w2 ⟨hg2, hm⟩
      have hb2 : Below w.heap.size w w2 := (Below.grown (balloc hb1) hg2 (by simp; omega) (fun k e => by cases e; omega))
      have hz1 : w.heap.size ≠ w1.heap.size := by omega
      replace hx := (hg2.block _ (ltB (al_keep hx)) (fun e => by have := Option.some.inj e; omega)).trans (al_keep hx)
      have hz2 := hg2.size
      simp at hz2
      clear hrd
      obtain ⟨u, rfl, hN, hr⟩ := hm
      have hq : q ≤ ts.length := fit.2
      have hW2 := hWr.step hg2 hr hq
      obtain ⟨m, p, f, t, vi, vk, vp, rfl, ⟨a1, n1, c1, rfl⟩, ⟨a2, n2, c2, rfl⟩, ⟨a3, n3, c3, rfl⟩⟩ := hN.form
      rw [rdC_arr]
      clear fit hWr hg2 hT
      have x2 := hr.c2
      have x4 := hr.c4
      have hbr := ltB hr
      have hx0 := ltB hx
      clear hql hW2
      have yc0 := cellB hx 0 rfl
      have yc1 := cellB hx 1 rfl
      have yc2 := cellB hx 2 rfl
      have yc3 := cellB hx 3 rfl
      have yc4 := cellB hx 4 rfl
      have yc5 := cellB hx 5 rfl
      have yc6 := cellB hx 6 rfl
      have yf0 := freeB hx 0
      have yf1 := freeB hx 1
      have yf2 := freeB hx 2
      have yf3 := freeB hx 3
      have yf4 := freeB hx 4
      have yf5 := freeB hx 5
      have yf6 := freeB hx 6
      replace hr := Lib.hid hr
      replace hN := Lib.hid hN
      go_wp2_with fail
      have e0 := set7 hx (.int .i64 (m : Int)) (.int .i64 (p : Int)) (.bool f) (.string t) (.slice a1 n1 c1) (.slice a2 n2 c2) (.slice a3 n3 c3)
      clear yc0 yc1 yc2 yc3 yc4 yc5 yc6 yf0 yf1 yf2 yf3 yf4 yf5 yf6 hx
      have e1 := al_keep (o' := .cells #[.int .i64 (m : Int), .int .i64 (p : Int), .bool f, .string t, .slice a1 n1 c1, .slice a2 n2 c2, .slice a3 n3 c3] 33 (0, 0)) e0
      have d0 := cellB e1 0 rfl
      have d1 := cellB e1 1 rfl
      have d2 := cellB e1 2 rfl
      have d3 := cellB e1 3 rfl
      have d4 := cellB e1 4 rfl
      have d5 := cellB e1 5 rfl
      have d6 := cellB e1 6 rfl
      refine bodyPost_ret (v := .tuple #[.agg #[.int .i64 (m : Int), .int .i64 (p : Int), .bool f, .string t, .slice a1 n1 c1, .slice a2 n2 c2, .slice a3 n3 c3], .int .i64 0, .int .i64 0]) (by simp [results, Tryz.results10, go_sem, d0, d1, d2, d3, d4, d5, d6]) rfl ?_
      refine ⟨⟨_, rfl, ?_⟩, balloc (below7 hb2 (Nat.le_refl _) _ _ _ _ _ _ _)⟩
      have hG := grown_belowR (set7_grown w2 w.heap.size (.int .i64 (m : Int)) (.int .i64 (p : Int)) (.bool f) (.string t) (.slice a1 n1 c1) (.slice a2 n2 c2) (.slice a3 n3 c3)) (balloc (o := .cells #[.int .i64 (m : Int), .int .i64 (p : Int), .bool f, .string t, .slice a1 n1 c1, .slice a2 n2 c2, .slice a3 n3 c3] 33 (0, 0)) (Below.refl _ _))
      exact (hN.out.grown hG (Nat.le_refl _) (by simp; omega)).wide (by simp; omega) hG.size

theorem rParse_calls (s : ByteArray) (w : World) (hs : s.size ≤ 1048576) :
    Calls Tryz.prog 10 #[.string s] w fun e w' => RefR w.heap.size (parseS s) e w' ∧ Below w.heap.size w w' := by
  unfold parseS
  by_cases h0 : (someS s).2.1 = 0
  · rw [if_pos h0]; exact rParse_ok s w hs h0
  · rw [if_neg h0]; exact rParse_err s w hs h0

end Go.Proofs.YtibopkodoidjoaaGreatDoor

/- TreeParses: the law walked: it answers true. -/
namespace Go.Proofs.YtibopkodoidjoaaGreatDoor
open Go Go.RowKit

theorem scanF_k (s : ByteArray) : ∀ f i, (scanF s f i).2.1 ≤ 2
  | 0, _ => by rw [scanF]; exact Nat.zero_le _
  | f + 1, i => by
    rw [scanF]
    split
    · split
      · exact scanF_k s f (i + 1)
      · split
        · exact scanF_k s f _
        · rename_i hi _ h
          have := (oneAt_bad s i hi h).1
          show (oneAt s i).1 ≤ 2
          omega
    · exact Nat.zero_le _
theorem someS_k (s : ByteArray) : (someS s).2.1 ≤ 2 := by
  unfold someS
  split
  · exact scanF_k s _ _
  · exact Nat.le_succ 1
theorem parse_k {s : ByteArray} {k pl : Nat} (h : parseS s = .err k pl) : 1 ≤ k ∧ k ≤ 19 := by
  unfold parseS at h
  split at h
  · have := pP_fits s (someS s).1
    rw [h] at this
    have : k = 2 ∨ k = 3 ∨ k = 6 := this
    omega
  · rename_i h0
    have := someS_k s
    cases h
    omega
set_option maxHeartbeats 4000000 in
set_option maxRecDepth 100000 in
theorem TreeParses_calls {A : Nat → Addr} {B : Nat} (s : ByteArray) (w : World) (hs : s.size ≤ 1048576) (hE : EnvA A B w) :
    Calls Tryz.prog 3 #[.string s] w fun e w' => e = .returned (.bool true) ∧ Below w.heap.size w w' := by
  have L := Lib.hid (fun w hE => lives_calls (A := A) (B := B) w hE)
  have P := Lib.hid (fun w hE => Parse_calls (A := A) (B := B) s w hE (by omega))
  have R := Lib.hid (fun w => rParse_calls s w hs)
  replace hE := Lib.hid hE
  cases hP : parseS s with
  | out =>
    rw [hP] at P
    replace hP := Lib.hid hP
    go_enter Tryz.func3, Tryz.ntmps3
    (go_wp2_with fail; repeat (any_goals (go_quiet (fail); go_wp2_with fail)))
    refine (L.out _ (hE.out.next (by repeat (first | assumption | exact Below.refl _ _ | apply Below.drew | apply below_drewN | apply balloc | (refine Below.setCell ?_ (by first | omega | (simp <;> omega)) _)))).env).mono ?_
    rintro e w1 ⟨rfl, hb⟩
    have hb1 : Below w.heap.size w w1 := bcall (by repeat (first | assumption | exact Below.refl _ _ | apply Below.drew | apply below_drewN | apply balloc | (refine Below.setCell ?_ (by first | omega | (simp <;> omega)) _))) hb
    clear hb
    (go_wp2_with fail; repeat (any_goals (go_quiet (fail); go_wp2_with fail)))
    refine (P.out _ (hE.out.next hb1).env).mono ?_
    rintro e w2 ⟨hr, hb⟩
    exact hr.elim
  | err k pl =>
    have hk := parse_k hP
    have hk1 : ((k : Int) == 0) = false := by simp; omega
    have hk2 : ¬ (k : Int) = 0 := by omega
    rw [hP] at P R
    replace hP := Lib.hid hP
    replace hk := Lib.hid hk
    go_enter Tryz.func3, Tryz.ntmps3
    (go_wp2_with fail; repeat (any_goals (go_quiet (fail); go_wp2_with fail)))
    refine (L.out _ (hE.out.next (by repeat (first | assumption | exact Below.refl _ _ | apply Below.drew | apply below_drewN | apply balloc | (refine Below.setCell ?_ (by first | omega | (simp <;> omega)) _)))).env).mono ?_
    rintro e w1 ⟨rfl, hb⟩
    have hb1 : Below w.heap.size w w1 := bcall (by repeat (first | assumption | exact Below.refl _ _ | apply Below.drew | apply below_drewN | apply balloc | (refine Below.setCell ?_ (by first | omega | (simp <;> omega)) _))) hb
    clear hb
    (go_wp2_with fail; repeat (any_goals (go_quiet (fail); go_wp2_with fail)))
    refine (P.out _ (hE.out.next hb1).env).mono ?_
    rintro e w2 ⟨⟨g1, hg1, rfl, hat1⟩, hb⟩
    have hb2 : Below w.heap.size w w2 := bcall hb1 hb
    clear hb
    replace hat1 := Lib.hid hat1
    (go_wp2_with fail; repeat (any_goals (go_quiet (fail); go_wp2_with fail)))
    refine (P.out _ (hE.out.next hb2).env).mono ?_
    rintro e w3 ⟨⟨g2, hg2, rfl, hat2⟩, hb⟩
    have hb3 : Below w.heap.size w w3 := bcall hb2 hb
    replace hat1 := Lib.hid (show AtB _ _ g1 w3 from box_next hat1.out hb)
    replace hat2 := Lib.hid hat2
    clear hb
    (go_wp2_with fail; repeat (any_goals (go_quiet (fail); go_wp2_with fail)))
    refine (R.out _).mono ?_
    rintro e w4 ⟨rfl, hb⟩
    have hb4 : Below w.heap.size w w4 := bcall hb3 hb
    replace hat1 := Lib.hid (show AtB _ _ g1 w4 from box_next hat1.out hb)
    replace hat2 := Lib.hid (show AtB _ _ g2 w4 from box_next hat2.out hb)
    clear hb
    go_wp2_with fail
    have hb5 : Below w.heap.size w (w4.alloc (.cells #[.int .i64 0, .int .i64 0, .bool false, .string ⟨#[]⟩, .slice none 0 0, .slice none 0 0, .slice none 0 0] 33 (0, 0))) := balloc hb4
    refine (at_err k pl g1 _ (hE.out.next hb5) hk.out.1 hk.out.2 (al_keepA hat1.out)).mono ?_
    rintro e w6 ⟨rfl, hb⟩
    have hb6 : Below w.heap.size w w6 := bcall hb5 hb
    replace hat2 := Lib.hid (show AtB _ _ g2 w6 from box_next (al_keepA hat2.out) hb)
    clear hb
    go_wp2_with fail
    refine (at_err k pl g2 _ (hE.out.next hb6) hk.out.1 hk.out.2 hat2.out).mono ?_
    rintro e w7 ⟨rfl, hb⟩
    have hb7 : Below w.heap.size w w7 := bcall hb6 hb
    clear hb
    go_wp2_with fail
    go_ret
    exact ⟨rfl, hb7⟩
  | ok x q =>
    rw [hP] at P R
    replace hP := Lib.hid hP
    go_enter Tryz.func3, Tryz.ntmps3
    (go_wp2_with fail; repeat (any_goals (go_quiet (fail); go_wp2_with fail)))
    refine (L.out _ (hE.out.next (by repeat (first | assumption | exact Below.refl _ _ | apply Below.drew | apply below_drewN | apply balloc | (refine Below.setCell ?_ (by first | omega | (simp <;> omega)) _)))).env).mono ?_
    rintro e w1 ⟨rfl, hb⟩
    have hb1 : Below w.heap.size w w1 := bcall (by repeat (first | assumption | exact Below.refl _ _ | apply Below.drew | apply below_drewN | apply balloc | (refine Below.setCell ?_ (by first | omega | (simp <;> omega)) _))) hb
    clear hb
    (go_wp2_with fail; repeat (any_goals (go_quiet (fail); go_wp2_with fail)))
    refine (P.out _ (hE.out.next hb1).env).mono ?_
    rintro e w2 ⟨⟨u1, rfl, hN1⟩, hb⟩
    have hb2 : Below w.heap.size w w2 := bcall hb1 hb
    have hz1 : w.heap.size ≤ w1.heap.size := hb1.size
    have hz2 : w1.heap.size ≤ w2.heap.size := hb.size
    clear hb
    obtain ⟨ut1, ua1, rfl⟩ := hN1.form
    replace hN1 := Lib.hid hN1
    (go_wp2_with fail; repeat (any_goals (go_quiet (fail); go_wp2_with fail)))
    refine (P.out _ (hE.out.next hb2).env).mono ?_
    rintro e w3 ⟨⟨u2, rfl, hN2⟩, hb⟩
    have hb3 : Below w.heap.size w w3 := bcall hb2 hb
    have hz3 : w2.heap.size ≤ w3.heap.size := hb.size
    replace hN1 := Lib.hid (hN1.out.keep fun k _ h => hb.block k h)
    clear hb
    obtain ⟨ut2, ua2, rfl⟩ := hN2.form
    replace hN2 := Lib.hid hN2
    (go_wp2_with fail; repeat (any_goals (go_quiet (fail); go_wp2_with fail)))
    refine (R.out _).mono ?_
    rintro e w4 ⟨⟨c, rfl, hN3⟩, hb⟩
    have hb4 : Below w.heap.size w w4 := bcall hb3 hb
    have hz4 : w3.heap.size ≤ w4.heap.size := hb.size
    replace hN1 := Lib.hid (hN1.out.keep fun k _ h => hb.block k (by omega))
    replace hN2 := Lib.hid (hN2.out.keep fun k _ h => hb.block k h)
    clear hb
    have I1 := Lib.hid (is_calls hN1.out hN3)
    have I2 := Lib.hid (is_calls hN2.out hN3)
    have SP := Lib.hid (spoil_calls hN1.out)
    obtain ⟨m, p, f, t, vi, vk, vp, rfl, ⟨a1, n1, c1, rfl⟩, ⟨a2, n2, c2, rfl⟩, ⟨a3, n3, c3, rfl⟩⟩ := hN3.form
    unfold IsC at I1 I2
    rw [rdC_arr] at I1 I2
    rw [rdC_arr]
    clear hN1 hN2 hN3 hP
    go_wp2_with fail
    have hb5 : Below w.heap.size w (w4.alloc (.cells #[.int .i64 (m : Int), .int .i64 (p : Int), .bool f, .string t, .slice a1 n1 c1, .slice a2 n2 c2, .slice a3 n3 c3] 33 (0, 0))) := balloc hb4
    have hbx : Below w4.heap.size w4 (w4.alloc (.cells #[.int .i64 (m : Int), .int .i64 (p : Int), .bool f, .string t, .slice a1 n1 c1, .slice a2 n2 c2, .slice a3 n3 c3] 33 (0, 0))) := balloc (Below.refl _ _)
    have hX := heap_alloc_new w4 (.cells #[.int .i64 (m : Int), .int .i64 (p : Int), .bool f, .string t, .slice a1 n1 c1, .slice a2 n2 c2, .slice a3 n3 c3] 33 (0, 0))
    refine (at_nil 0 _).mono ?_
    rintro e w6 ⟨rfl, hb⟩
    have hb6 : Below w.heap.size w w6 := bcall hb5 hb
    replace hbx := hbx.trans (hb.mono hbx.size)
    replace hX := box_next hX hb
    clear hb hb5
    go_wp2_with fail
    refine (at_nil 0 _).mono ?_
    rintro e w7 ⟨rfl, hb⟩
    have hb7 : Below w.heap.size w w7 := bcall hb6 hb
    replace hbx := hbx.trans (hb.mono hbx.size)
    replace hX := box_next hX hb
    clear hb hb6
    have yc0 := cellB hX 0 rfl
    have yc1 := cellB hX 1 rfl
    have yc2 := cellB hX 2 rfl
    have yc3 := cellB hX 3 rfl
    have yc4 := cellB hX 4 rfl
    have yc5 := cellB hX 5 rfl
    have yc6 := cellB hX 6 rfl
    have yf0 := freeB hX 0
    have yf1 := freeB hX 1
    have yf2 := freeB hX 2
    have yf3 := freeB hX 3
    have yf4 := freeB hX 4
    have yf5 := freeB hX 5
    have yf6 := freeB hX 6
    clear yf0 yf1 yf2 yf3 yf4 yf5 yf6
    have hz7 := hbx.size
    have hlx := ltB hX
    go_wp2_with fail
    refine (I1.out _ (fun k _ h => hbx.block k (by omega)) (fun k _ h => hbx.block k h) (by omega) (by omega)).mono ?_
    rintro e w8 ⟨rfl, hb⟩
    have hb8 : Below w.heap.size w w8 := bcall hb7 hb
    replace hbx := hbx.trans (hb.mono hbx.size)
    replace hX := box_next hX hb
    clear hb hb7 yc0 yc1 yc2 yc3 yc4 yc5 yc6 hz7 hlx
    have hz8 := hbx.size
    go_wp2_with fail
    refine (SP.out _ (fun k _ h => hbx.block k (by omega)) (by omega)).mono ?_
    rintro e w9 ⟨rfl, hsp⟩
    have hX9 := hsp.keep hX (Or.inr (by omega))
    have hz9 := hsp.size
    have hb9 : Below w.heap.size w w9 := ⟨hsp.os.trans hb8.os, hsp.tape.trans hb8.tape, hsp.output.trans hb8.output, by omega, fun k h => (hsp.block k (by omega) (Or.inl (by omega))).trans (hb8.block k h)⟩
    have hag : Hid (∀ k, w2.heap.size ≤ k → k < w4.heap.size → w9.heap[k]? = w4.heap[k]?) := Lib.hid (fun k h1 h2 => (hsp.block k (by omega) (Or.inr h1)).trans (hbx.block k h2))
    clear hsp hX
    have yc0 := cellB hX9 0 rfl
    have yc1 := cellB hX9 1 rfl
    have yc2 := cellB hX9 2 rfl
    have yc3 := cellB hX9 3 rfl
    have yc4 := cellB hX9 4 rfl
    have yc5 := cellB hX9 5 rfl
    have yc6 := cellB hX9 6 rfl
    have yf0 := freeB hX9 0
    have yf1 := freeB hX9 1
    have yf2 := freeB hX9 2
    have yf3 := freeB hX9 3
    have yf4 := freeB hX9 4
    have yf5 := freeB hX9 5
    have yf6 := freeB hX9 6
    clear yf0 yf1 yf2 yf3 yf4 yf5 yf6
    have hlx := ltB hX9
    go_wp2_with fail
    refine (I2.out _ (fun k h1 h => hag.out k h1 (by omega)) (fun k h1 h => hag.out k (by omega) h) (by omega) (by omega)).mono ?_
    rintro e w10 ⟨rfl, hb⟩
    have hb10 : Below w.heap.size w w10 := bcall hb9 hb
    clear hb
    go_wp2_with fail
    go_ret
    exact ⟨rfl, hb10⟩

end Go.Proofs.YtibopkodoidjoaaGreatDoor
