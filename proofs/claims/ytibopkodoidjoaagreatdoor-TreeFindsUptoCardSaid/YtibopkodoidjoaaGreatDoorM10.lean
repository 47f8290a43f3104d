/- Lemmas of the proof, put together: Rd11, Rd12, TreeParses, Rfind, Finds, Finds2, StrsU. -/
import Derived.Test.YtibopkodoidjoaaGreatDoorM9
import Derived.Test.YtibopkodoidjoaaGreatDoorM6
import Derived.Test.YtibopkodoidjoaaGreatDoorM4
import Derived.Test.YtibopkodoidjoaaGreatDoorM7
import Derived.Test.YtibopkodoidjoaaGreatDoorM8
import Derived.Test.YtibopkodoidjoaaGreatDoorCards

/- The reference's tree: value, lists and objects; value whole. -/
namespace Go.Proofs.YtibopkodoidjoaaGreatDoor
open Go Go.RowKit

theorem own_lst {w W : World} {v : Value} {g n0 P : Nat} {cs : List RKid} (hr : w.ownsRow n0 33 7 v cs.length (cs.flatMap RKid.u)) (hk : RKids n0 w [v.ownBlock] cs) (hg : g < n0) (hG : w.grownBy W (some g)) :
    OwnR W g W.heap.size (rdC 4 P false noS v (.slice none 0 0) (.slice none 0 0)) (.lst P (cs.map RKid.x)) :=
  .lst _ _ _ _ cs (ownsRow_base (row_grown hr hG hg) (Nat.le_of_lt hg)) (fun k e => ((row_grown hr hG hg).lt k e).2) (fun c hm => ((hk.other hG hg).fit c hm).wide (Nat.le_of_lt hg) (Nat.le_refl _)) (hk.other hG hg).kid
theorem own_obj {w W : World} {vi vk vp : Value} {g n0 P : Nat} {cs : List RKid} (hr : R3 n0 w vi vk vp cs) (hk : RKids n0 w [vi.ownBlock, vk.ownBlock, vp.ownBlock] cs) (hg : g < n0) (hG : w.grownBy W (some g)) :
    OwnR W g W.heap.size (rdC 5 P false noS vi vk vp) (.obj P (cs.map RKid.mem)) :=
  have h := (hr.grown hG hg).base (Nat.le_of_lt hg)
  .obj _ _ _ _ _ _ cs h.i (fun k e => (h.i.lt k e).2) h.k (fun k e => (h.k.lt k e).2) h.p (fun k e => (h.p.lt k e).2) (fun c hm => ((hk.other hG hg).fit c hm).wide (Nat.le_of_lt hg) (Nat.le_refl _)) (hk.other hG hg).kid
def lstR (P : Nat) : PR (List Nd) → PR Nd
  | .ok xs q => .ok (.lst P xs) q
  | .err k pl => .err k pl
  | .out => .out
def objR (P : Nat) : PR (List (ByteArray × Nat × Nd)) → PR Nd
  | .ok xs q => .ok (.obj P xs) q
  | .err k pl => .err k pl
  | .out => .out
set_option maxHeartbeats 2000000 in
set_option maxRecDepth 100000 in
theorem rvalue_deep8 {base : Nat} {v : Value} {ts : List Tk} (s : ByteArray) (p pl b : Nat) (w : World) (hW : RdW base s v ts p pl 0 b w) (hK : kindT ts p = 8) :
    Calls Tryz.prog 34 #[.pointer (some ⟨b, 0, none⟩), .int .i64 64] w (PostRV s v ts.length pl b w (.err 3 (placeT s ts p))) := by
  have F := Lib.hid (fun q w hW => rfail_new s v p pl b q 3 w hW)
  have H := Lib.hid (fun w hW => here_calls (base := base) (v := v) (ts := ts) s p pl 0 b w hW)
  have N := Lib.hid (fun w hW => peek_calls (base := base) (v := v) (ts := ts) s p pl 0 b w hW)
  obtain ⟨P1, hP1⟩ : ∃ P1, P1 = placeT s ts p := ⟨_, rfl⟩
  rw [← hP1] at H ⊢
  rw [hK] at N
  have hbl := hW.lt
  have hpb : (p : Int) + 1 ≤ 3518437208884 := by have := hW.hl; have := hW.hp; omega
  replace hW := Lib.hid hW
  replace hP1 := Lib.hid hP1
  replace hK := Lib.hid hK
  go_enter Tryz.func34, Tryz.ntmps34
  (go_wp2_with fail; repeat (any_goals (go_quiet (fail); go_wp2_with fail)))
  refine (H.out _ (hW.out.next (by repeat (first | assumption | exact Below.refl _ _ | apply Below.drew | apply below_drewN | apply balloc | (refine Below.setCell ?_ (by first | omega | (simp <;> omega)) _))))).mono ?_
  rintro e w1 ⟨rfl, hb⟩
  have hb1 : Below w.heap.size w w1 := bcall (by repeat (first | assumption | exact Below.refl _ _ | apply Below.drew | apply below_drewN | apply balloc | (refine Below.setCell ?_ (by first | omega | (simp <;> omega)) _))) hb
  have hx := boxed hb
  have hz1 := ltB hx
  have hz2 : b ≠ w.heap.size := by omega
  have hz3 : b ≠ w1.heap.size := by omega
  have hz4 : w.heap.size ≠ w1.heap.size := by omega
  clear hb
  have hW1 := hW.out.next hb1
  have x4 := hW1.rd.c4
  have hbl1 := hW1.lt
  replace hW1 := Lib.hid hW1
  go_wp2_with fail
  refine (N.out _ (hW1.out.next (by repeat (first | assumption | exact Below.refl _ _ | apply Below.drew | apply below_drewN | apply balloc | (refine Below.setCell ?_ (by first | omega | (simp <;> omega)) _))))).mono ?_
  rintro e w2 ⟨rfl, hb⟩
  have hb2 : Below w.heap.size w w2 := bcall (balloc hb1) hb
  have hn := boxed hb
  replace hx := box_next hx (bcall (w := w1) (balloc (Below.refl _ _)) hb)
  clear hb x4
  have hW2 := hW.out.next hb2
  have x2 := hW2.rd.c2
  have f2 := freeB hW2.rd 2
  have hbl2 := hW2.lt
  have hx0 := ltB hx
  have hn0 := ltB hn
  replace hW2 := Lib.hid hW2
  have yc0 := cellB hx 0 rfl
  have yc1 := cellB hx 1 rfl
  have yc2 := cellB hx 2 rfl
  have yc3 := cellB hx 3 rfl
  have yc4 := cellB hx 4 rfl
  have yc5 := cellB hx 5 rfl
  have yc6 := cellB hx 6 rfl
  have yf0 := freeB hx 0
  have yf1 := freeB hx 1
  have yf2 := freeB hx 2
  have yf3 := freeB hx 3
  have yf4 := freeB hx 4
  have yf5 := freeB hx 5
  have yf6 := freeB hx 6
  have zc0 := cellB hn 0 rfl
  have zc1 := cellB hn 1 rfl
  have zc2 := cellB hn 2 rfl
  have zc3 := cellB hn 3 rfl
  have zc4 := cellB hn 4 rfl
  have zc5 := cellB hn 5 rfl
  have zc6 := cellB hn 6 rfl
  have zf0 := freeB hn 0
  have zf1 := freeB hn 1
  have zf2 := freeB hn 2
  have zf3 := freeB hn 3
  have zf4 := freeB hn 4
  have zf5 := freeB hn 5
  have zf6 := freeB hn 6
  go_wp2_with fail
  refine (H.out _ (hW2.out.next (by repeat (first | assumption | exact Below.refl _ _ | apply Below.drew | apply below_drewN | apply balloc | (refine Below.setCell ?_ (by first | omega | (simp <;> omega)) _))))).mono ?_
  rintro e w3 ⟨rfl, hb⟩
  have hb3 : Below w.heap.size w w3 := bcall hb2 hb
  replace hx := box_next hx hb
  replace hn := box_next hn hb
  clear hb yc0 yc1 yc2 yc3 yc4 yc5 yc6 yf0 yf1 yf2 yf3 yf4 yf5 yf6 zc0 zc1 zc2 zc3 zc4 zc5 zc6 zf0 zf1 zf2 zf3 zf4 zf5 zf6 x2 f2 hx0 hn0 hbl2
  go_wp2_with fail
  refine (F.out _ _ (hW.out.next hb3).rd).mono ?_
  rintro e w4 ⟨rfl, hr, hg⟩
  have hx := (hg.block _ (ltB hx) (by intro e; cases e; exact hz2 rfl)).trans hx
  have hn := (hg.block _ (ltB hn) (by intro e; cases e; exact hz3 rfl)).trans hn
  have hg4 := grown_trans (grown_of_below (r := some b) hb3) hg
  clear hg
  have yc0 := cellB hx 0 rfl
  have yc1 := cellB hx 1 rfl
  have yc2 := cellB hx 2 rfl
  have yc3 := cellB hx 3 rfl
  have yc4 := cellB hx 4 rfl
  have yc5 := cellB hx 5 rfl
  have yc6 := cellB hx 6 rfl
  have yf0 := freeB hx 0
  have yf1 := freeB hx 1
  have yf2 := freeB hx 2
  have yf3 := freeB hx 3
  have yf4 := freeB hx 4
  have yf5 := freeB hx 5
  have yf6 := freeB hx 6
  have zc0 := cellB hn 0 rfl
  have zc1 := cellB hn 1 rfl
  have zc2 := cellB hn 2 rfl
  have zc3 := cellB hn 3 rfl
  have zc4 := cellB hn 4 rfl
  have zc5 := cellB hn 5 rfl
  have zc6 := cellB hn 6 rfl
  have zf0 := freeB hn 0
  have zf1 := freeB hn 1
  have zf2 := freeB hn 2
  have zf3 := freeB hn 3
  have zf4 := freeB hn 4
  have zf5 := freeB hn 5
  have zf6 := freeB hn 6
  have hx0 := ltB hx
  have hn0 := ltB hn
  have hp := hW.out.hp
  replace hr := Lib.hid hr
  replace hp := Lib.hid hp
  go_wp2_with fail
  obtain ⟨e1, e2, e3⟩ := rd_end hx hg4 hr.out hz2 (Nat.le_refl _) (.int .i64 0) (.int .i64 (P1 : Int)) (.bool false) (.string ⟨#[]⟩) (.slice none 0 0) (.slice none 0 0) (.slice none 0 0)
  exact bodyPost_ret (results_cell_row rfl _ _ w.heap.size 33 _ (0, 0) _ rfl e1 Tryz.underlying33 rfl info7) rfl ⟨e2, 0, P1, false, noS, _, _, _, p, rfl, ⟨⟨_, _, _, rfl⟩, ⟨_, _, _, rfl⟩, ⟨_, _, _, rfl⟩⟩, hp.out, e3⟩
set_option maxHeartbeats 2000000 in
set_option maxRecDepth 100000 in
theorem rvalue_deep6 {base : Nat} {v : Value} {ts : List Tk} (s : ByteArray) (p pl b : Nat) (w : World) (hW : RdW base s v ts p pl 0 b w) (hK : kindT ts p = 6) :
    Calls Tryz.prog 34 #[.pointer (some ⟨b, 0, none⟩), .int .i64 64] w (PostRV s v ts.length pl b w (.err 3 (placeT s ts p))) := by
  have F := Lib.hid (fun q w hW => rfail_new s v p pl b q 3 w hW)
  have H := Lib.hid (fun w hW => here_calls (base := base) (v := v) (ts := ts) s p pl 0 b w hW)
  have N := Lib.hid (fun w hW => peek_calls (base := base) (v := v) (ts := ts) s p pl 0 b w hW)
  obtain ⟨P1, hP1⟩ : ∃ P1, P1 = placeT s ts p := ⟨_, rfl⟩
  rw [← hP1] at H ⊢
  rw [hK] at N
  have hbl := hW.lt
  have hpb : (p : Int) + 1 ≤ 3518437208884 := by have := hW.hl; have := hW.hp; omega
  replace hW := Lib.hid hW
  replace hP1 := Lib.hid hP1
  replace hK := Lib.hid hK
  go_enter Tryz.func34, Tryz.ntmps34
  (go_wp2_with fail; repeat (any_goals (go_quiet (fail); go_wp2_with fail)))
  refine (H.out _ (hW.out.next (by repeat (first | assumption | exact Below.refl _ _ | apply Below.drew | apply below_drewN | apply balloc | (refine Below.setCell ?_ (by first | omega | (simp <;> omega)) _))))).mono ?_
  rintro e w1 ⟨rfl, hb⟩
  have hb1 : Below w.heap.size w w1 := bcall (by repeat (first | assumption | exact Below.refl _ _ | apply Below.drew | apply below_drewN | apply balloc | (refine Below.setCell ?_ (by first | omega | (simp <;> omega)) _))) hb
  have hx := boxed hb
  have hz1 := ltB hx
  have hz2 : b ≠ w.heap.size := by omega
  have hz3 : b ≠ w1.heap.size := by omega
  have hz4 : w.heap.size ≠ w1.heap.size := by omega
  clear hb
  have hW1 := hW.out.next hb1
  have x4 := hW1.rd.c4
  have hbl1 := hW1.lt
  replace hW1 := Lib.hid hW1
  go_wp2_with fail
  refine (N.out _ (hW1.out.next (by repeat (first | assumption | exact Below.refl _ _ | apply Below.drew | apply below_drewN | apply balloc | (refine Below.setCell ?_ (by first | omega | (simp <;> omega)) _))))).mono ?_
  rintro e w2 ⟨rfl, hb⟩
  have hb2 : Below w.heap.size w w2 := bcall (balloc hb1) hb
  have hn := boxed hb
  replace hx := box_next hx (bcall (w := w1) (balloc (Below.refl _ _)) hb)
  clear hb x4
  have hW2 := hW.out.next hb2
  have x2 := hW2.rd.c2
  have f2 := freeB hW2.rd 2
  have hbl2 := hW2.lt
  have hx0 := ltB hx
  have hn0 := ltB hn
  replace hW2 := Lib.hid hW2
  have yc0 := cellB hx 0 rfl
  have yc1 := cellB hx 1 rfl
  have yc2 := cellB hx 2 rfl
  have yc3 := cellB hx 3 rfl
  have yc4 := cellB hx 4 rfl
  have yc5 := cellB hx 5 rfl
  have yc6 := cellB hx 6 rfl
  have yf0 := freeB hx 0
  have yf1 := freeB hx 1
  have yf2 := freeB hx 2
  have yf3 := freeB hx 3
  have yf4 := freeB hx 4
  have yf5 := freeB hx 5
  have yf6 := freeB hx 6
  have zc0 := cellB hn 0 rfl
  have zc1 := cellB hn 1 rfl
  have zc2 := cellB hn 2 rfl
  have zc3 := cellB hn 3 rfl
  have zc4 := cellB hn 4 rfl
  have zc5 := cellB hn 5 rfl
  have zc6 := cellB hn 6 rfl
  have zf0 := freeB hn 0
  have zf1 := freeB hn 1
  have zf2 := freeB hn 2
  have zf3 := freeB hn 3
  have zf4 := freeB hn 4
  have zf5 := freeB hn 5
  have zf6 := freeB hn 6
  go_wp2_with fail
  refine (H.out _ (hW2.out.next (by repeat (first | assumption | exact Below.refl _ _ | apply Below.drew | apply below_drewN | apply balloc | (refine Below.setCell ?_ (by first | omega | (simp <;> omega)) _))))).mono ?_
  rintro e w3 ⟨rfl, hb⟩
  have hb3 : Below w.heap.size w w3 := bcall hb2 hb
  replace hx := box_next hx hb
  replace hn := box_next hn hb
  clear hb yc0 yc1 yc2 yc3 yc4 yc5 yc6 yf0 yf1 yf2 yf3 yf4 yf5 yf6 zc0 zc1 zc2 zc3 zc4 zc5 zc6 zf0 zf1 zf2 zf3 zf4 zf5 zf6 x2 f2 hx0 hn0 hbl2
  go_wp2_with fail
  refine (F.out _ _ (hW.out.next hb3).rd).mono ?_
  rintro e w4 ⟨rfl, hr, hg⟩
  have hx := (hg.block _ (ltB hx) (by intro e; cases e; exact hz2 rfl)).trans hx
  have hn := (hg.block _ (ltB hn) (by intro e; cases e; exact hz3 rfl)).trans hn
  have hg4 := grown_trans (grown_of_below (r := some b) hb3) hg
  clear hg
  have yc0 := cellB hx 0 rfl
  have yc1 := cellB hx 1 rfl
  have yc2 := cellB hx 2 rfl
  have yc3 := cellB hx 3 rfl
  have yc4 := cellB hx 4 rfl
  have yc5 := cellB hx 5 rfl
  have yc6 := cellB hx 6 rfl
  have yf0 := freeB hx 0
  have yf1 := freeB hx 1
  have yf2 := freeB hx 2
  have yf3 := freeB hx 3
  have yf4 := freeB hx 4
  have yf5 := freeB hx 5
  have yf6 := freeB hx 6
  have zc0 := cellB hn 0 rfl
  have zc1 := cellB hn 1 rfl
  have zc2 := cellB hn 2 rfl
  have zc3 := cellB hn 3 rfl
  have zc4 := cellB hn 4 rfl
  have zc5 := cellB hn 5 rfl
  have zc6 := cellB hn 6 rfl
  have zf0 := freeB hn 0
  have zf1 := freeB hn 1
  have zf2 := freeB hn 2
  have zf3 := freeB hn 3
  have zf4 := freeB hn 4
  have zf5 := freeB hn 5
  have zf6 := freeB hn 6
  have hx0 := ltB hx
  have hn0 := ltB hn
  have hp := hW.out.hp
  replace hr := Lib.hid hr
  replace hp := Lib.hid hp
  go_wp2_with fail
  obtain ⟨e1, e2, e3⟩ := rd_end hx hg4 hr.out hz2 (Nat.le_refl _) (.int .i64 0) (.int .i64 (P1 : Int)) (.bool false) (.string ⟨#[]⟩) (.slice none 0 0) (.slice none 0 0) (.slice none 0 0)
  exact bodyPost_ret (results_cell_row rfl _ _ w.heap.size 33 _ (0, 0) _ rfl e1 Tryz.underlying33 rfl info7) rfl ⟨e2, 0, P1, false, noS, _, _, _, p, rfl, ⟨⟨_, _, _, rfl⟩, ⟨_, _, _, rfl⟩, ⟨_, _, _, rfl⟩⟩, hp.out, e3⟩
set_option maxHeartbeats 2000000 in
set_option maxRecDepth 100000 in
theorem rvalue_lst {base : Nat} {v : Value} {ts : List Tk} (s : ByteArray) (f : Nat) (hV : ∀ f', f' < f → RVC base s v ts f') (deep p pl b : Nat) (w : World) (hW : RdW base s v ts p pl 0 b w) (hd : deep < 64) (hl : ts.length ≤ 1048577) (hK : kindT ts p = 8)
    (R : PR (List Nd)) (hR : R = if kindT ts (p + 1) = 9 then .ok [] (p + 1 + 1) else pI s ts f deep (p + 1)) (hRo : R ≠ .out) :
    Calls Tryz.prog 34 #[.pointer (some ⟨b, 0, none⟩), .int .i64 (deep : Int)] w (PostRV s v ts.length pl b w (lstR (placeT s ts p) R)) := by
  have hpl : p < ts.length := kindT_lt (by omega)
  have hdI : (deep : Int) < 64 := by omega
  have hdI2 : ¬ (64 : Int) ≤ (deep : Int) := by omega
  have IC := Lib.hid (fun P w hW => ritems_calls (base := base) (s := s) (v := v) (ts := ts) f hV deep (p + 1) pl P b w hW hd hl R hR hRo)
  replace hV := Lib.hid hV
  replace hRo := Lib.hid hRo
  replace hR := Lib.hid hR
  replace hl := Lib.hid hl
  replace hpl := Lib.hid hpl
  clear hd
  generalize (deep : Int) = D at *
  have H := Lib.hid (fun w hW => here_calls (base := base) (v := v) (ts := ts) s p pl 0 b w hW)
  have N := Lib.hid (fun w hW => peek_calls (base := base) (v := v) (ts := ts) s p pl 0 b w hW)
  obtain ⟨P1, hP1⟩ : ∃ P1, P1 = placeT s ts p := ⟨_, rfl⟩
  rw [← hP1] at H ⊢
  rw [hK] at N
  have hbl := hW.lt
  have hpb : (p : Int) + 1 ≤ 3518437208884 := by have := hW.hl; have := hW.hp; omega
  replace hW := Lib.hid hW
  replace hP1 := Lib.hid hP1
  replace hK := Lib.hid hK
  go_enter Tryz.func34, Tryz.ntmps34
  (go_wp2_with fail; repeat (any_goals (go_quiet (fail); go_wp2_with fail)))
  refine (H.out _ (hW.out.next (by repeat (first | assumption | exact Below.refl _ _ | apply Below.drew | apply below_drewN | apply balloc | (refine Below.setCell ?_ (by first | omega | (simp <;> omega)) _))))).mono ?_
  rintro e w1 ⟨rfl, hb⟩
  have hb1 : Below w.heap.size w w1 := bcall (by repeat (first | assumption | exact Below.refl _ _ | apply Below.drew | apply below_drewN | apply balloc | (refine Below.setCell ?_ (by first | omega | (simp <;> omega)) _))) hb
  have hx := boxed hb
  have hz1 := ltB hx
  have hz2 : b ≠ w.heap.size := by omega
  have hz3 : b ≠ w1.heap.size := by omega
  have hz4 : w.heap.size ≠ w1.heap.size := by omega
  clear hb
  have hW1 := hW.out.next hb1
  have x4 := hW1.rd.c4
  have hbl1 := hW1.lt
  replace hW1 := Lib.hid hW1
  go_wp2_with fail
  refine (N.out _ (hW1.out.next (by repeat (first | assumption | exact Below.refl _ _ | apply Below.drew | apply below_drewN | apply balloc | (refine Below.setCell ?_ (by first | omega | (simp <;> omega)) _))))).mono ?_
  rintro e w2 ⟨rfl, hb⟩
  have hb2 : Below w.heap.size w w2 := bcall (balloc hb1) hb
  have hn := boxed hb
  replace hx := box_next hx (bcall (w := w1) (balloc (Below.refl _ _)) hb)
  clear hb x4
  have hW2 := hW.out.next hb2
  have x2 := hW2.rd.c2
  have f2 := freeB hW2.rd 2
  have hbl2 := hW2.lt
  have hx0 := ltB hx
  have hn0 := ltB hn
  replace hW2 := Lib.hid hW2
  have yc0 := cellB hx 0 rfl
  have yc1 := cellB hx 1 rfl
  have yc2 := cellB hx 2 rfl
  have yc3 := cellB hx 3 rfl
  have yc4 := cellB hx 4 rfl
  have yc5 := cellB hx 5 rfl
  have yc6 := cellB hx 6 rfl
  have yf0 := freeB hx 0
  have yf1 := freeB hx 1
  have yf2 := freeB hx 2
  have yf3 := freeB hx 3
  have yf4 := freeB hx 4
  have yf5 := freeB hx 5
  have yf6 := freeB hx 6
  have zc0 := cellB hn 0 rfl
  have zc1 := cellB hn 1 rfl
  have zc2 := cellB hn 2 rfl
  have zc3 := cellB hn 3 rfl
  have zc4 := cellB hn 4 rfl
  have zc5 := cellB hn 5 rfl
  have zc6 := cellB hn 6 rfl
  have zf0 := freeB hn 0
  have zf1 := freeB hn 1
  have zf2 := freeB hn 2
  have zf3 := freeB hn 3
  have zf4 := freeB hn 4
  have zf5 := freeB hn 5
  have zf6 := freeB hn 6
  go_upto_if 84 with fail
  rw [show decide ((64 : Int) ≤ D) = false from decide_eq_false (by omega)]
  go_wp2_with fail
  have hx3 := other (i := 2) (u := .int .i64 ((p : Int) + 1)) hx hz2.symm
  have hr3 := RdB.set2 (q := p + 1) hW2.out.rd
  have hg3 := grown_trans (grown_of_below (r := some b) hb2) (grown_set _ b 2 (.int .i64 ((p : Int) + 1)))
  have hW3 := hW.out.step hg3 hr3 hpl.out
  refine (IC.out P1 _ hW3).mono ?_
  rintro e w4 ⟨hg4, vi, rfl, hm⟩
  cases R with
  | out => exact absurd rfl hRo.out
  | ok xs q =>
    obtain ⟨cs, hrow, hkids, rfl, hr4⟩ := hm
    obtain ⟨av, nv, cv, rfl⟩ := ownsRow_sl hrow
    have hx4 := (hg4.block _ (ltB hx3) (by intro e; cases e; exact hz2 rfl)).trans hx3
    have hg5 := Lib.hid (grown_trans hg3 hg4)
    have hgs := Lib.hid (ltB hx3)
    clear yc0 yc1 yc2 yc3 yc4 yc5 yc6 yf0 yf1 yf2 yf3 yf4 yf5 yf6 zc0 zc1 zc2 zc3 zc4 zc5 zc6 zf0 zf1 zf2 zf3 zf4 zf5 zf6 x2 f2 hx0 hn0 hg4
    have yc0 := cellB hx4 0 rfl
    have yc1 := cellB hx4 1 rfl
    have yc2 := cellB hx4 2 rfl
    have yc3 := cellB hx4 3 rfl
    have yc4 := cellB hx4 4 rfl
    have yc5 := cellB hx4 5 rfl
    have yc6 := cellB hx4 6 rfl
    have yf0 := freeB hx4 0
    have yf1 := freeB hx4 1
    have yf2 := freeB hx4 2
    have yf3 := freeB hx4 3
    have yf4 := freeB hx4 4
    have yf5 := freeB hx4 5
    have yf6 := freeB hx4 6
    have hx04 := ltB hx4
    replace hrow := Lib.hid hrow
    replace hkids := Lib.hid hkids
    replace hr4 := Lib.hid hr4
    go_wp2_with fail
    obtain ⟨e1, e2, e3⟩ := rd_end hx4 hg5.out hr4.out hz2 (Nat.le_refl _) (.int .i64 4) (.int .i64 (P1 : Int)) (.bool false) (.string ⟨#[]⟩) (.slice av nv cv) (.slice none 0 0) (.slice none 0 0)
    exact bodyPost_ret (results_cell_row rfl _ _ w.heap.size 33 _ (0, 0) _ rfl e1 Tryz.underlying33 rfl info7) rfl ⟨e2, _, rfl, own_lst hrow.out hkids.out hgs.out (set7_grown _ _ _ _ _ _ _ _ _), e3⟩
  | err k pl2 =>
    obtain ⟨⟨av, nv, cv, rfl⟩, q, hq, hr4⟩ := hm
    have hx4 := (hg4.block _ (ltB hx3) (by intro e; cases e; exact hz2 rfl)).trans hx3
    have hg5 := Lib.hid (grown_trans hg3 hg4)
    clear yc0 yc1 yc2 yc3 yc4 yc5 yc6 yf0 yf1 yf2 yf3 yf4 yf5 yf6 zc0 zc1 zc2 zc3 zc4 zc5 zc6 zf0 zf1 zf2 zf3 zf4 zf5 zf6 x2 f2 hx0 hn0 hg4
    have yc0 := cellB hx4 0 rfl
    have yc1 := cellB hx4 1 rfl
    have yc2 := cellB hx4 2 rfl
    have yc3 := cellB hx4 3 rfl
    have yc4 := cellB hx4 4 rfl
    have yc5 := cellB hx4 5 rfl
    have yc6 := cellB hx4 6 rfl
    have yf0 := freeB hx4 0
    have yf1 := freeB hx4 1
    have yf2 := freeB hx4 2
    have yf3 := freeB hx4 3
    have yf4 := freeB hx4 4
    have yf5 := freeB hx4 5
    have yf6 := freeB hx4 6
    have hx04 := ltB hx4
    replace hr4 := Lib.hid hr4
    go_wp2_with fail
    obtain ⟨e1, e2, e3⟩ := rd_end hx4 hg5.out hr4.out hz2 (Nat.le_refl _) (.int .i64 4) (.int .i64 (P1 : Int)) (.bool false) (.string ⟨#[]⟩) (.slice av nv cv) (.slice none 0 0) (.slice none 0 0)
    exact bodyPost_ret (results_cell_row rfl _ _ w.heap.size 33 _ (0, 0) _ rfl e1 Tryz.underlying33 rfl info7) rfl ⟨e2, 4, P1, false, noS, _, _, _, q, rfl, ⟨⟨_, _, _, rfl⟩, ⟨_, _, _, rfl⟩, ⟨_, _, _, rfl⟩⟩, hq, e3⟩
set_option maxHeartbeats 2000000 in
set_option maxRecDepth 100000 in
theorem rvalue_obj {base : Nat} {v : Value} {ts : List Tk} (s : ByteArray) (f : Nat) (hV : ∀ f', f' < f → RVC base s v ts f') (deep p pl b : Nat) (w : World) (hW : RdW base s v ts p pl 0 b w) (hd : deep < 64) (hl : ts.length ≤ 1048577) (hK : kindT ts p = 6)
    (R : PR (List (ByteArray × Nat × Nd))) (hR : R = if kindT ts (p + 1) = 7 then .ok [] (p + 1 + 1) else pM s ts f deep [] (p + 1)) (hRo : R ≠ .out) :
    Calls Tryz.prog 34 #[.pointer (some ⟨b, 0, none⟩), .int .i64 (deep : Int)] w (PostRV s v ts.length pl b w (objR (placeT s ts p) R)) := by
  have hpl : p < ts.length := kindT_lt (by omega)
  have hdI : (deep : Int) < 64 := by omega
  have hdI2 : ¬ (64 : Int) ≤ (deep : Int) := by omega
  have IC := Lib.hid (fun P w hW => rmembers_calls (base := base) (s := s) (v := v) (ts := ts) f hV deep (p + 1) pl P b w hW hd hl R hR hRo)
  replace hV := Lib.hid hV
  replace hRo := Lib.hid hRo
  replace hR := Lib.hid hR
  replace hl := Lib.hid hl
  replace hpl := Lib.hid hpl
  clear hd
  generalize (deep : Int) = D at *
  have H := Lib.hid (fun w hW => here_calls (base := base) (v := v) (ts := ts) s p pl 0 b w hW)
  have N := Lib.hid (fun w hW => peek_calls (base := base) (v := v) (ts := ts) s p pl 0 b w hW)
  obtain ⟨P1, hP1⟩ : ∃ P1, P1 = placeT s ts p := ⟨_, rfl⟩
  rw [← hP1] at H ⊢
  rw [hK] at N
  have hbl := hW.lt
  have hpb : (p : Int) + 1 ≤ 3518437208884 := by have := hW.hl; have := hW.hp; omega
  replace hW := Lib.hid hW
  replace hP1 := Lib.hid hP1
  replace hK := Lib.hid hK
  go_enter Tryz.func34, Tryz.ntmps34
  (go_wp2_with fail; repeat (any_goals (go_quiet (fail); go_wp2_with fail)))
  refine (H.out _ (hW.out.next (by repeat (first | assumption | exact Below.refl _ _ | apply Below.drew | apply below_drewN | apply balloc | (refine Below.setCell ?_ (by first | omega | (simp <;> omega)) _))))).mono ?_
  rintro e w1 ⟨rfl, hb⟩
  have hb1 : Below w.heap.size w w1 := bcall (by repeat (first | assumption | exact Below.refl _ _ | apply Below.drew | apply below_drewN | apply balloc | (refine Below.setCell ?_ (by first | omega | (simp <;> omega)) _))) hb
  have hx := boxed hb
  have hz1 := ltB hx
  have hz2 : b ≠ w.heap.size := by omega
  have hz3 : b ≠ w1.heap.size := by omega
  have hz4 : w.heap.size ≠ w1.heap.size := by omega
  clear hb
  have hW1 := hW.out.next hb1
  have x4 := hW1.rd.c4
  have hbl1 := hW1.lt
  replace hW1 := Lib.hid hW1
  go_wp2_with fail
  refine (N.out _ (hW1.out.next (by repeat (first | assumption | exact Below.refl _ _ | apply Below.drew | apply below_drewN | apply balloc | (refine Below.setCell ?_ (by first | omega | (simp <;> omega)) _))))).mono ?_
  rintro e w2 ⟨rfl, hb⟩
  have hb2 : Below w.heap.size w w2 := bcall (balloc hb1) hb
  have hn := boxed hb
  replace hx := box_next hx (bcall (w := w1) (balloc (Below.refl _ _)) hb)
  clear hb x4
  have hW2 := hW.out.next hb2
  have x2 := hW2.rd.c2
  have f2 := freeB hW2.rd 2
  have hbl2 := hW2.lt
  have hx0 := ltB hx
  have hn0 := ltB hn
  replace hW2 := Lib.hid hW2
  have yc0 := cellB hx 0 rfl
  have yc1 := cellB hx 1 rfl
  have yc2 := cellB hx 2 rfl
  have yc3 := cellB hx 3 rfl
  have yc4 := cellB hx 4 rfl
  have yc5 := cellB hx 5 rfl
  have yc6 := cellB hx 6 rfl
  have yf0 := freeB hx 0
  have yf1 := freeB hx 1
  have yf2 := freeB hx 2
  have yf3 := freeB hx 3
  have yf4 := freeB hx 4
  have yf5 := freeB hx 5
  have yf6 := freeB hx 6
  have zc0 := cellB hn 0 rfl
  have zc1 := cellB hn 1 rfl
  have zc2 := cellB hn 2 rfl
  have zc3 := cellB hn 3 rfl
  have zc4 := cellB hn 4 rfl
  have zc5 := cellB hn 5 rfl
  have zc6 := cellB hn 6 rfl
  have zf0 := freeB hn 0
  have zf1 := freeB hn 1
  have zf2 := freeB hn 2
  have zf3 := freeB hn 3
  have zf4 := freeB hn 4
  have zf5 := freeB hn 5
  have zf6 := freeB hn 6
  go_upto_if 84 with fail
  rw [show decide ((64 : Int) ≤ D) = false from decide_eq_false (by omega)]
  go_wp2_with fail
  have hx3 := other (i := 2) (u := .int .i64 ((p : Int) + 1)) hx hz2.symm
  have hr3 := RdB.set2 (q := p + 1) hW2.out.rd
  have hg3 := grown_trans (grown_of_below (r := some b) hb2) (grown_set _ b 2 (.int .i64 ((p : Int) + 1)))
  have hW3 := hW.out.step hg3 hr3 hpl.out
  refine (IC.out P1 _ hW3).mono ?_
  rintro e w4 ⟨hg4, vi, vk, vp, rfl, hm⟩
  cases R with
  | out => exact absurd rfl hRo.out
  | ok xs q =>
    obtain ⟨cs, hrow, hkids, rfl, hr4⟩ := hm
    obtain ⟨⟨a1, n1, c1, rfl⟩, ⟨a2, n2, c2, rfl⟩, ⟨a3, n3, c3, rfl⟩⟩ := hrow.sl
    have hx4 := (hg4.block _ (ltB hx3) (by intro e; cases e; exact hz2 rfl)).trans hx3
    have hg5 := Lib.hid (grown_trans hg3 hg4)
    have hgs := Lib.hid (ltB hx3)
    clear yc0 yc1 yc2 yc3 yc4 yc5 yc6 yf0 yf1 yf2 yf3 yf4 yf5 yf6 zc0 zc1 zc2 zc3 zc4 zc5 zc6 zf0 zf1 zf2 zf3 zf4 zf5 zf6 x2 f2 hx0 hn0 hg4
    have yc0 := cellB hx4 0 rfl
    have yc1 := cellB hx4 1 rfl
    have yc2 := cellB hx4 2 rfl
    have yc3 := cellB hx4 3 rfl
    have yc4 := cellB hx4 4 rfl
    have yc5 := cellB hx4 5 rfl
    have yc6 := cellB hx4 6 rfl
    have yf0 := freeB hx4 0
    have yf1 := freeB hx4 1
    have yf2 := freeB hx4 2
    have yf3 := freeB hx4 3
    have yf4 := freeB hx4 4
    have yf5 := freeB hx4 5
    have yf6 := freeB hx4 6
    have hx04 := ltB hx4
    replace hrow := Lib.hid hrow
    replace hkids := Lib.hid hkids
    replace hr4 := Lib.hid hr4
    go_wp2_with fail
    obtain ⟨e1, e2, e3⟩ := rd_end hx4 hg5.out hr4.out hz2 (Nat.le_refl _) (.int .i64 5) (.int .i64 (P1 : Int)) (.bool false) (.string ⟨#[]⟩) (.slice a1 n1 c1) (.slice a2 n2 c2) (.slice a3 n3 c3)
    exact bodyPost_ret (results_cell_row rfl _ _ w.heap.size 33 _ (0, 0) _ rfl e1 Tryz.underlying33 rfl info7) rfl ⟨e2, _, rfl, own_obj hrow.out hkids.out hgs.out (set7_grown _ _ _ _ _ _ _ _ _), e3⟩
  | err k pl2 =>
    obtain ⟨⟨⟨a1, n1, c1, rfl⟩, ⟨a2, n2, c2, rfl⟩, ⟨a3, n3, c3, rfl⟩⟩, q, hq, hr4⟩ := hm
    have hx4 := (hg4.block _ (ltB hx3) (by intro e; cases e; exact hz2 rfl)).trans hx3
    have hg5 := Lib.hid (grown_trans hg3 hg4)
    clear yc0 yc1 yc2 yc3 yc4 yc5 yc6 yf0 yf1 yf2 yf3 yf4 yf5 yf6 zc0 zc1 zc2 zc3 zc4 zc5 zc6 zf0 zf1 zf2 zf3 zf4 zf5 zf6 x2 f2 hx0 hn0 hg4
    have yc0 := cellB hx4 0 rfl
    have yc1 := cellB hx4 1 rfl
    have yc2 := cellB hx4 2 rfl
    have yc3 := cellB hx4 3 rfl
    have yc4 := cellB hx4 4 rfl
    have yc5 := cellB hx4 5 rfl
    have yc6 := cellB hx4 6 rfl
    have yf0 := freeB hx4 0
    have yf1 := freeB hx4 1
    have yf2 := freeB hx4 2
    have yf3 := freeB hx4 3
    have yf4 := freeB hx4 4
    have yf5 := freeB hx4 5
    have yf6 := freeB hx4 6
    have hx04 := ltB hx4
    replace hr4 := Lib.hid hr4
    go_wp2_with fail
    obtain ⟨e1, e2, e3⟩ := rd_end hx4 hg5.out hr4.out hz2 (Nat.le_refl _) (.int .i64 5) (.int .i64 (P1 : Int)) (.bool false) (.string ⟨#[]⟩) (.slice a1 n1 c1) (.slice a2 n2 c2) (.slice a3 n3 c3)
    exact bodyPost_ret (results_cell_row rfl _ _ w.heap.size 33 _ (0, 0) _ rfl e1 Tryz.underlying33 rfl info7) rfl ⟨e2, 5, P1, false, noS, _, _, _, q, rfl, ⟨⟨_, _, _, rfl⟩, ⟨_, _, _, rfl⟩, ⟨_, _, _, rfl⟩⟩, hq, e3⟩
/-- value, at every fuel. -/
theorem rvalue_calls {base : Nat} {v : Value} {ts : List Tk} (s : ByteArray) (hbd : ∀ T ∈ ts, T.fr ≤ T.to ∧ T.to ≤ s.size) (hl : ts.length ≤ 1048577) : ∀ f, RVC base s v ts f := by
  intro f
  induction f using Nat.strongRecOn with
  | ind f ih =>
    intro deep p pl b w hout hd hW
    cases f with
    | zero => exact absurd (by rw [pV]) hout
    | succ f =>
      rw [pV] at hout ⊢
      by_cases k1 : kindT ts p = 1
      · rw [if_pos k1]; exact rvalue_null s p pl b _ w hW k1
      rw [if_neg k1] at hout ⊢
      by_cases k2 : kindT ts p = 2
      · rw [if_pos k2]; exact rvalue_flag2 s p pl b _ w hW k2
      rw [if_neg k2] at hout ⊢
      by_cases k3 : kindT ts p = 3
      · rw [if_pos k3]; exact rvalue_flag3 s p pl b _ w hW k3
      rw [if_neg k3] at hout ⊢
      by_cases k4 : kindT ts p = 4
      · rw [if_pos k4]; exact rvalue_num s p pl b _ w hbd hW k4
      rw [if_neg k4] at hout ⊢
      by_cases k5 : kindT ts p = 5
      · rw [if_pos k5]; exact rvalue_text s p pl b _ w hbd hW k5
      rw [if_neg k5] at hout ⊢
      by_cases k8 : kindT ts p = 8
      · rw [if_pos k8] at hout ⊢
        by_cases hd64 : deep = 64
        · subst hd64
          rw [if_pos rfl]
          exact rvalue_deep8 s p pl b w hW k8
        · rw [if_neg hd64] at hout ⊢
          generalize hR : (if kindT ts (p + 1) = 9 then PR.ok [] (p + 2) else pI s ts f deep (p + 1)) = R at hout ⊢
          have h1 := rvalue_lst s f (fun f' h => ih f' (Nat.lt_succ_of_lt h)) deep p pl b w hW (by omega) hl k8 R hR.symm (fun h => hout (by rw [h]))
          cases R <;> exact h1
      rw [if_neg k8] at hout ⊢
      by_cases k6 : kindT ts p = 6
      · rw [if_pos k6] at hout ⊢
        by_cases hd64 : deep = 64
        · subst hd64
          rw [if_pos rfl]
          exact rvalue_deep6 s p pl b w hW k6
        · rw [if_neg hd64] at hout ⊢
          generalize hR : (if kindT ts (p + 1) = 7 then PR.ok [] (p + 2) else pM s ts f deep [] (p + 1)) = R at hout ⊢
          have h1 := rvalue_obj s f (fun f' h => ih f' (Nat.lt_succ_of_lt h)) deep p pl b w hW (by omega) hl k6 R hR.symm (fun h => hout (by rw [h]))
          cases R <;> exact h1
      rw [if_neg k6] at hout ⊢
      exact rvalue_bad s p pl b _ _ w hW rfl k1 k2 k3 k4 k5 k6 k8

end Go.Proofs.YtibopkodoidjoaaGreatDoor

/- The reference's tree: Parse. -/
namespace Go.Proofs.YtibopkodoidjoaaGreatDoor
open Go Go.RowKit

def finP (s : ByteArray) (ts : List Tk) : PR Nd → PR Nd
  | .ok x q => if q < ts.length then .err 2 (placeT s ts q) else .ok x q
  | .err k pl => .err k pl
  | .out => .out
theorem pP_fin (s : ByteArray) (ts : List Tk) : pP s ts = finP s ts (pV s ts (2 * ts.length + 1) 0 0) := by
  unfold pP
  cases pV s ts (2 * ts.length + 1) 0 0 <;> rfl
/-- What the reference's Parse answers. -/
def RefR (lo : Nat) (r : PR Nd) (e : Ending) (w' : World) : Prop := match r with
  | .ok x _ => ∃ u : List Value, e = .returned (.tuple #[.agg u.toArray, .int .i64 0, .int .i64 0]) ∧ OwnR w' lo w'.heap.size u x
  | .err k pl => e = .returned (.tuple #[.agg #[.int .i64 0, .int .i64 0, .bool false, .string ⟨#[]⟩, .slice none 0 0, .slice none 0 0, .slice none 0 0], .int .i64 (pl : Int), .int .i64 (k : Int)])
  | .out => False
set_option maxHeartbeats 2000000 in
set_option maxRecDepth 100000 in
theorem rParse_err (s : ByteArray) (w : World) (hs : s.size ≤ 1048576) (h0 : (someS s).2.1 ≠ 0) :
    Calls Tryz.prog 10 #[.string s] w fun e w' => RefR w.heap.size (.err (someS s).2.1 (someS s).2.2) e w' ∧ Below w.heap.size w w' := by
  have S := Lib.hid (fun w => rScan_calls s w (by omega))
  unfold rScanR at S
  rw [if_neg h0, if_neg h0] at S
  obtain ⟨k, hk⟩ : ∃ k, k = (someS s).2.1 := ⟨_, rfl⟩
  obtain ⟨pl, hpl⟩ : ∃ pl, pl = (someS s).2.2 := ⟨_, rfl⟩
  rw [← hk] at S h0
  rw [← hk, ← hpl]
  rw [← hpl] at S
  have h1 : ((k : Int) == 0) = false := by simp; omega
  have h1' : ¬ (k : Int) = 0 := by omega
  replace hk := Lib.hid hk
  replace hpl := Lib.hid hpl
  go_enter Tryz.func10, Tryz.ntmps10
  (go_wp2_with fail; repeat (any_goals (go_quiet (fail); go_wp2_with fail)))
  refine (S.out _).mono ?_
  rintro e w1 ⟨⟨v, rfl, _, hv⟩, hb⟩
  obtain rfl := hv h0
  have hb1 : Below w.heap.size w w1 := bcall (by repeat (first | assumption | exact Below.refl _ _ | apply Below.drew | apply below_drewN | apply balloc | (refine Below.setCell ?_ (by first | omega | (simp <;> omega)) _))) hb
  have hx := boxed hb
  have hx0 := ltB hx
  clear hb
  have yc0 := cellB hx 0 rfl
  have yc1 := cellB hx 1 rfl
  have yc2 := cellB hx 2 rfl
  have yc3 := cellB hx 3 rfl
  have yc4 := cellB hx 4 rfl
  have yc5 := cellB hx 5 rfl
  have yc6 := cellB hx 6 rfl
  have yf0 := freeB hx 0
  have yf1 := freeB hx 1
  have yf2 := freeB hx 2
  have yf3 := freeB hx 3
  have yf4 := freeB hx 4
  have yf5 := freeB hx 5
  have yf6 := freeB hx 6
  go_wp2_with fail
  have e1 := set7 hx (.int .i64 0) (.int .i64 0) (.bool false) (.string ⟨#[]⟩) (.slice none 0 0) (.slice none 0 0) (.slice none 0 0)
  clear yc0 yc1 yc2 yc3 yc4 yc5 yc6 yf0 yf1 yf2 yf3 yf4 yf5 yf6 hx
  have d0 := cellB e1 0 rfl
  have d1 := cellB e1 1 rfl
  have d2 := cellB e1 2 rfl
  have d3 := cellB e1 3 rfl
  have d4 := cellB e1 4 rfl
  have d5 := cellB e1 5 rfl
  have d6 := cellB e1 6 rfl
  refine bodyPost_ret (v := .tuple #[.agg #[.int .i64 0, .int .i64 0, .bool false, .string ⟨#[]⟩, .slice none 0 0, .slice none 0 0, .slice none 0 0], .int .i64 (pl : Int), .int .i64 (k : Int)]) (by simp [results, Tryz.results10, go_sem, d0, d1, d2, d3, d4, d5, d6]) rfl ?_
  exact ⟨rfl, below7 hb1 (Nat.le_refl _) _ _ _ _ _ _ _⟩

set_option maxHeartbeats 2000000 in
set_option maxRecDepth 100000 in
theorem rParse_ok (s : ByteArray) (w : World) (hs : s.size ≤ 1048576) (h0 : (someS s).2.1 = 0) :
    Calls Tryz.prog 10 #[.string s] w fun e w' => RefR w.heap.size (pP s (someS s).1) e w' ∧ Below w.heap.size w w' := by
  have S := Lib.hid (fun w => rScan_calls s w (by omega))
  unfold rScanR at S
  rw [if_pos h0, if_pos h0, h0] at S
  have hbd : ∀ T ∈ (someS s).1, T.fr ≤ T.to ∧ T.to ≤ s.size := fun T hT => by have := some_tok h0 T hT; omega
  have hlen : (someS s).1.length ≤ 1048576 := by
    obtain ⟨hu, hch, _⟩ := some_chain h0
    have := chain_len _ 0 ((utfE_brk s).1 hu) (Nat.zero_le _) hch
    omega
  generalize (someS s).1 = ts at *
  have fit := pV_fits s ts
  have hout : pV s ts (2 * ts.length + 1) 0 0 ≠ .out := fun h => by rw [h] at fit; exact fit
  have V := Lib.hid (fun base v b w hW => rvalue_calls (base := base) (v := v) s hbd (by omega) (2 * ts.length + 1) 0 0 0 b w hout (by omega) hW)
  rw [pP_fin]
  generalize pV s ts (2 * ts.length + 1) 0 0 = R at *
  replace hbd := Lib.hid hbd
  replace hout := Lib.hid hout
  cases R with
  | out => exact fit.elim
  | err k pl =>
    show Calls _ _ _ _ fun e w' => RefR w.heap.size (.err k pl) e w' ∧ _
    go_enter Tryz.func10, Tryz.ntmps10
    (go_wp2_with fail; repeat (any_goals (go_quiet (fail); go_wp2_with fail)))
    refine (S.out _).mono ?_
    rintro e w1 ⟨⟨v, rfl, hT, _⟩, hb⟩
    have hb1 : Below w.heap.size w w1 := bcall (by repeat (first | assumption | exact Below.refl _ _ | apply Below.drew | apply below_drewN | apply balloc | (refine Below.setCell ?_ (by first | omega | (simp <;> omega)) _))) hb
    have hx := boxed hb
    have hx0 := ltB hx
    obtain ⟨ta, tc, rfl⟩ := hT.form2
    have hown : ∀ k, (Value.slice ta ts.length tc).ownBlock = some k → k < w1.heap.size := fun k e => (World.ownsRow.lt hT k e).2
    replace hT := Lib.hid hT
    replace hown := Lib.hid hown
    clear hb
    go_wp2_with fail
    have hrd : RdB s (.slice ta ts.length tc) 0 0 0 w1.heap.size (w1.alloc (.cells #[.string s, .slice ta ts.length tc, .int .i64 0, .int .i64 0, .int .i64 0] 80 (0, 0))) := heap_alloc_new _ _
    have hWr : RdW _ s (.slice ta ts.length tc) ts 0 0 0 w1.heap.size (w1.alloc (.cells #[.string s, .slice ta ts.length tc, .int .i64 0, .int .i64 0, .int .i64 0] 80 (0, 0))) := ⟨hrd, hT.out.next (balloc (Below.refl _ _)), fun h => by have := hown.out _ h; omega, Nat.zero_le _, by omega⟩
    refine (V.out _ _ _ _ hWr).mono ?_
    rintro e w2 ⟨hg2, hm⟩
    have hb2 : Below w.heap.size w w2 := (Below.grown (balloc hb1) hg2 (by simp; omega) (fun k e => by cases e; omega))
    have hz1 : w.heap.size ≠ w1.heap.size := by omega
    replace hx := (hg2.block _ (ltB (al_keep hx)) (fun e => by have := Option.some.inj e; omega)).trans (al_keep hx)
    have hz2 := hg2.size
    simp at hz2
    clear hrd
    obtain ⟨m, p, f, t, vi, vk, vp, q, rfl, ⟨⟨a1, n1, c1, rfl⟩, ⟨a2, n2, c2, rfl⟩, ⟨a3, n3, c3, rfl⟩⟩, hq, hr⟩ := hm
    rw [rdC_arr]
    have hk : k = 2 ∨ k = 3 ∨ k = 6 := fit
    have hk1 : ((k : Int) == 0) = false := by simp; omega
    have hk2 : ¬ (k : Int) = 0 := by omega
    clear fit hWr hg2
    have x3 := hr.c3
    have x4 := hr.c4
    have hbr := ltB hr
    have hx0 := ltB hx
    have yc0 := cellB hx 0 rfl
    have yc1 := cellB hx 1 rfl
    have yc2 := cellB hx 2 rfl
    have yc3 := cellB hx 3 rfl
    have yc4 := cellB hx 4 rfl
    have yc5 := cellB hx 5 rfl
    have yc6 := cellB hx 6 rfl
    have yf0 := freeB hx 0
    have yf1 := freeB hx 1
    have yf2 := freeB hx 2
    have yf3 := freeB hx 3
    have yf4 := freeB hx 4
    have yf5 := freeB hx 5
    have yf6 := freeB hx 6
    replace hr := Lib.hid hr
    go_wp2_with fail
    go_region
    go_wp2_with fail
    have e0 := set7 hx (.int .i64 0) (.int .i64 0) (.bool false) (.string ⟨#[]⟩) (.slice none 0 0) (.slice none 0 0) (.slice none 0 0)
    clear yc0 yc1 yc2 yc3 yc4 yc5 yc6 yf0 yf1 yf2 yf3 yf4 yf5 yf6 hx
    have e1 := drewH (al_keep (o' := .cells #[.int .i64 (m : Int), .int .i64 (p : Int), .bool f, .string t, .slice a1 n1 c1, .slice a2 n2 c2, .slice a3 n3 c3] 33 (0, 0)) e0)
    have d0 := cellB e1 0 rfl
    have d1 := cellB e1 1 rfl
    have d2 := cellB e1 2 rfl
    have d3 := cellB e1 3 rfl
    have d4 := cellB e1 4 rfl
    have d5 := cellB e1 5 rfl
    have d6 := cellB e1 6 rfl
    refine bodyPost_ret (v := .tuple #[.agg #[.int .i64 0, .int .i64 0, .bool false, .string ⟨#[]⟩, .slice none 0 0, .slice none 0 0, .slice none 0 0], .int .i64 (pl : Int), .int .i64 (k : Int)]) (by simp [results, Tryz.results10, go_sem, d0, d1, d2, d3, d4, d5, d6]) rfl ?_
    exact ⟨rfl, Below.drew (balloc (below7 hb2 (Nat.le_refl _) _ _ _ _ _ _ _))⟩
  | ok x q =>
    by_cases hql : q < ts.length
    · rw [show finP s ts (.ok x q) = .err 2 (placeT s ts q) by show (if q < ts.length then _ else _) = _; rw [if_pos hql]]
      have HC := Lib.hid (fun ta tc base b w hW => here_calls (base := base) (v := (.slice ta ts.length tc)) (ts := ts) s q 0 0 b w hW)
      obtain ⟨P1, hP1⟩ : ∃ P1, P1 = placeT s ts q := ⟨_, rfl⟩
      rw [← hP1] at HC ⊢
      replace hP1 := Lib.hid hP1
      have hqI : (q : Int) < (ts.length : Int) := by omega
      go_enter Tryz.func10, Tryz.ntmps10
      (go_wp2_with fail; repeat (any_goals (go_quiet (fail); go_wp2_with fail)))
      refine (S.out _).mono ?_
      rintro e w1 ⟨⟨v, rfl, hT, _⟩, hb⟩
      have hb1 : Below w.heap.size w w1 := bcall (by repeat (first | assumption | exact Below.refl _ _ | apply Below.drew | apply below_drewN | apply balloc | (refine Below.setCell ?_ (by first | omega | (simp <;> omega)) _))) hb
      have hx := boxed hb
      have hx0 := ltB hx
      obtain ⟨ta, tc, rfl⟩ := hT.form2
      have hown : ∀ k, (Value.slice ta ts.length tc).ownBlock = some k → k < w1.heap.size := fun k e => (World.ownsRow.lt hT k e).2
      replace hT := Lib.hid hT
      replace hown := Lib.hid hown
      clear hb
      go_wp2_with fail
      have hrd : RdB s (.slice ta ts.length tc) 0 0 0 w1.heap.size (w1.alloc (.cells #[.string s, .slice ta ts.length tc, .int .i64 0, .int .i64 0, .int .i64 0] 80 (0, 0))) := heap_alloc_new _ _
      have hWr : RdW _ s (.slice ta ts.length tc) ts 0 0 0 w1.heap.size (w1.alloc (.cells #[.string s, .slice ta ts.length tc, .int .i64 0, .int .i64 0, .int .i64 0] 80 (0, 0))) := ⟨hrd, hT.out.next (balloc (Below.refl _ _)), fun h => by have := hown.out _ h; omega, Nat.zero_le _, by omega⟩
      refine (V.out _ _ _ _ hWr).mono ?_
      rintro e w2 ⟨hg2, hm⟩
      have hb2 : Below w.heap.size w w2 := (Below.grown (balloc hb1) hg2 (by simp; omega) (fun k e => by cases e; omega))
      have hz1 : w.heap.size ≠ w1.heap.size := by omega
      replace hx := (hg2.block _ (ltB (al_keep hx)) (fun e => by have := Option.some.inj e; omega)).trans (al_keep hx)
      have hz2 := hg2.size
      simp at hz2
      clear hrd
      obtain ⟨u, rfl, hN, hr⟩ := hm
      have hq : q ≤ ts.length := fit.2
      have hW2 := hWr.step hg2 hr hq
      obtain ⟨m, p, f, t, vi, vk, vp, rfl, ⟨a1, n1, c1, rfl⟩, ⟨a2, n2, c2, rfl⟩, ⟨a3, n3, c3, rfl⟩⟩ := hN.form
      rw [rdC_arr]
      clear fit hWr hg2 hT
      have x2 := hr.c2
      have x4 := hr.c4
      have hbr := ltB hr
      have hx0 := ltB hx
      have hW3 := hW2.next (balloc (o := .cells #[.int .i64 (m : Int), .int .i64 (p : Int), .bool f, .string t, .slice a1 n1 c1, .slice a2 n2 c2, .slice a3 n3 c3] 33 (0, 0)) (Below.refl w2.heap.size w2))
      have hx3 := al_keep (o' := .cells #[.int .i64 (m : Int), .int .i64 (p : Int), .bool f, .string t, .slice a1 n1 c1, .slice a2 n2 c2, .slice a3 n3 c3] 33 (0, 0)) hx
      have hb3 : Below w.heap.size w (w2.alloc (.cells #[.int .i64 (m : Int), .int .i64 (p : Int), .bool f, .string t, .slice a1 n1 c1, .slice a2 n2 c2, .slice a3 n3 c3] 33 (0, 0))) := balloc hb2
      clear hW2 hN hql
      replace hW3 := Lib.hid hW3
      replace hx3 := Lib.hid hx3
      replace hb3 := Lib.hid hb3
      go_wp2_with fail
      refine (HC.out _ _ _ _ _ hW3.out).mono ?_
      rintro e w4 ⟨rfl, hb⟩
      have hx4 := box_next hx3.out hb
      have hW4 := hW3.out.next hb
      have hb4 := hb3.out.trans (hb.mono hb3.out.size)
      clear hb hx hr x2 x4 hW3 hx3 hb3
      go_wp2_with fail
      refine (rfail_new s _ q 0 w1.heap.size P1 2 w4 hW4.rd).mono ?_
      rintro e w5 ⟨rfl, hr, hg⟩
      have hx := (hg.block _ (ltB hx4) (fun e => by have := Option.some.inj e; omega)).trans hx4
      have hb5 : Below w.heap.size w w5 := Below.grown hb4 hg hb4.size (fun k e => by cases e; omega)
      clear hg hx4 hb4 hW4 hx0 hbr
      have x3 := hr.c3
      have x4 := hr.c4
      have hbr := ltB hr
      have hx0 := ltB hx
      have yc0 := cellB hx 0 rfl
      have yc1 := cellB hx 1 rfl
      have yc2 := cellB hx 2 rfl
      have yc3 := cellB hx 3 rfl
      have yc4 := cellB hx 4 rfl
      have yc5 := cellB hx 5 rfl
      have yc6 := cellB hx 6 rfl
      have yf0 := freeB hx 0
      have yf1 := freeB hx 1
      have yf2 := freeB hx 2
      have yf3 := freeB hx 3
      have yf4 := freeB hx 4
      have yf5 := freeB hx 5
      have yf6 := freeB hx 6
      replace hr := Lib.hid hr
      go_wp2_with fail
      go_region
      go_wp2_with fail
      have e0 := set7 hx (.int .i64 0) (.int .i64 0) (.bool false) (.string ⟨#[]⟩) (.slice none 0 0) (.slice none 0 0) (.slice none 0 0)
      clear yc0 yc1 yc2 yc3 yc4 yc5 yc6 yf0 yf1 yf2 yf3 yf4 yf5 yf6 hx
      have e1 := drewH e0
      have d0 := cellB e1 0 rfl
      have d1 := cellB e1 1 rfl
      have d2 := cellB e1 2 rfl
      have d3 := cellB e1 3 rfl
      have d4 := cellB e1 4 rfl
      have d5 := cellB e1 5 rfl
      have d6 := cellB e1 6 rfl
      refine bodyPost_ret (v := .tuple #[.agg #[.int .i64 0, .int .i64 0, .bool false, .string ⟨#[]⟩, .slice none 0 0, .slice none 0 0, .slice none 0 0], .int .i64 (P1 : Int), .int .i64 (2 : Int)]) (by simp [results, Tryz.results10, go_sem, d0, d1, d2, d3, d4, d5, d6]) rfl ?_
      exact ⟨rfl, Below.drew (below7 hb5 (Nat.le_refl _) _ _ _ _ _ _ _)⟩
    · rw [show finP s ts (.ok x q) = .ok x q by show (if q < ts.length then _ else _) = _; rw [if_neg hql]]
      have hqI : ¬ (q : Int) < (ts.length : Int) := by omega
      go_enter Tryz.func10, Tryz.ntmps10
      (go_wp2_with fail; repeat (any_goals (go_quiet (fail); go_wp2_with fail)))
      refine (S.out _).mono ?_
      rintro e w1 ⟨⟨v, rfl, hT, _⟩, hb⟩
      have hb1 : Below w.heap.size w w1 := bcall (by repeat (first | assumption | exact Below.refl _ _ | apply Below.drew | apply below_drewN | apply balloc | (refine Below.setCell ?_ (by first | omega | (simp <;> omega)) _))) hb
      have hx := boxed hb
      have hx0 := ltB hx
      obtain ⟨ta, tc, rfl⟩ := hT.form2
      have hown : ∀ k, (Value.slice ta ts.length tc).ownBlock = some k → k < w1.heap.size := fun k e => (World.ownsRow.lt hT k e).2
      replace hT := Lib.hid hT
      replace hown := Lib.hid hown
      clear hb
      go_wp2_with fail
      have hrd : RdB s (.slice ta ts.length tc) 0 0 0 w1.heap.size (w1.alloc (.cells #[.string s, .slice ta ts.length tc, .int .i64 0, .int .i64 0, .int .i64 0] 80 (0, 0))) := heap_alloc_new _ _
      have hWr : RdW _ s (.slice ta ts.length tc) ts 0 0 0 w1.heap.size (w1.alloc (.cells #[.string s, .slice ta ts.length tc, .int .i64 0, .int .i64 0, .int .i64 0] 80 (0, 0))) := ⟨hrd, hT.out.next (balloc (Below.refl _ _)), fun h => by have := hown.out _ h; omega, Nat.zero_le _, by omega⟩
      refine (V.out _ _ _ _ hWr).mono ?_
      rintro e w2 ⟨hg2, hm⟩
      have hb2 : Below w.heap.size w w2 := (Below.grown (balloc hb1) hg2 (by simp; omega) (fun k e => by cases e; omega))
      have hz1 : w.heap.size ≠ w1.heap.size := by omega
      replace hx := (hg2.block _ (ltB (al_keep hx)) (fun e => by have := Option.some.inj e; omega)).trans (al_keep hx)
      have hz2 := hg2.size
      simp at hz2
      clear hrd
      obtain ⟨u, rfl, hN, hr⟩ := hm
      have hq : q ≤ ts.length := fit.2
      have hW2 := hWr.step hg2 hr hq
      obtain ⟨m, p, f, t, vi, vk, vp, rfl, ⟨a1, n1, c1, rfl⟩, ⟨a2, n2, c2, rfl⟩, ⟨a3, n3, c3, rfl⟩⟩ := hN.form
      rw [rdC_arr]
      clear fit hWr hg2 hT
      have x2 := hr.c2
      have x4 := hr.c4
      have hbr := ltB hr
      have hx0 := ltB hx
      clear hql hW2
      have yc0 := cellB hx 0 rfl
      have yc1 := cellB hx 1 rfl
      have yc2 := cellB hx 2 rfl
      have yc3 := cellB hx 3 rfl
      have yc4 := cellB hx 4 rfl
      have yc5 := cellB hx 5 rfl
      have yc6 := cellB hx 6 rfl
      have yf0 := freeB hx 0
      have yf1 := freeB hx 1
      have yf2 := freeB hx 2
      have yf3 := freeB hx 3
      have yf4 := freeB hx 4
      have yf5 := freeB hx 5
      have yf6 := freeB hx 6
      replace hr := Lib.hid hr
      replace hN := Lib.hid hN
      go_wp2_with fail
      have e0 := set7 hx (.int .i64 (m : Int)) (.int .i64 (p : Int)) (.bool f) (.string t) (.slice a1 n1 c1) (.slice a2 n2 c2) (.slice a3 n3 c3)
      clear yc0 yc1 yc2 yc3 yc4 yc5 yc6 yf0 yf1 yf2 yf3 yf4 yf5 yf6 hx
      have e1 := al_keep (o' := .cells #[.int .i64 (m : Int), .int .i64 (p : Int), .bool f, .string t, .slice a1 n1 c1, .slice a2 n2 c2, .slice a3 n3 c3] 33 (0, 0)) e0
      have d0 := cellB e1 0 rfl
      have d1 := cellB e1 1 rfl
      have d2 := cellB e1 2 rfl
      have d3 := cellB e1 3 rfl
      have d4 := cellB e1 4 rfl
      have d5 := cellB e1 5 rfl
      have d6 := cellB e1 6 rfl
      refine bodyPost_ret (v := .tuple #[.agg #[.int .i64 (m : Int), .int .i64 (p : Int), .bool f, .string t, .slice a1 n1 c1, .slice a2 n2 c2, .slice a3 n3 c3], .int .i64 0, .int .i64 0]) (by simp [results, Tryz.results10, go_sem, d0, d1, d2, d3, d4, d5, d6]) rfl ?_
      refine ⟨⟨_, rfl, ?_⟩, balloc (below7 hb2 (Nat.le_refl _) _ _ _ _ _ _ _)⟩
      have hG := grown_belowR (set7_grown w2 w.heap.size (.int .i64 (m : Int)) (.int .i64 (p : Int)) (.bool f) (.string t) (.slice a1 n1 c1) (.slice a2 n2 c2) (.slice a3 n3 c3)) (balloc (o := .cells #[.int .i64 (m : Int), .int .i64 (p : Int), .bool f, .string t, .slice a1 n1 c1, .slice a2 n2 c2, .slice a3 n3 c3] 33 (0, 0)) (Below.refl _ _))
      exact (hN.out.grown hG (Nat.le_refl _) (by simp; omega)).wide (by simp; omega) hG.size

theorem rParse_calls (s : ByteArray) (w : World) (hs : s.size ≤ 1048576) :
    Calls Tryz.prog 10 #[.string s] w fun e w' => RefR w.heap.size (parseS s) e w' ∧ Below w.heap.size w w' := by
  unfold parseS
  by_cases h0 : (someS s).2.1 = 0
  · rw [if_pos h0]; exact rParse_ok s w hs h0
  · rw [if_neg h0]; exact rParse_err s w hs h0

end Go.Proofs.YtibopkodoidjoaaGreatDoor

/- TreeParses: the law walked: it answers true. -/
namespace Go.Proofs.YtibopkodoidjoaaGreatDoor
open Go Go.RowKit

theorem scanF_k (s : ByteArray) : ∀ f i, (scanF s f i).2.1 ≤ 2
  | 0, _ => by rw [scanF]; exact Nat.zero_le _
  | f + 1, i => by
    rw [scanF]
    split
    · split
      · exact scanF_k s f (i + 1)
      · split
        · exact scanF_k s f _
        · rename_i hi _ h
          have := (oneAt_bad s i hi h).1
          show (oneAt s i).1 ≤ 2
          omega
    · exact Nat.zero_le _
theorem someS_k (s : ByteArray) : (someS s).2.1 ≤ 2 := by
  unfold someS
  split
  · exact scanF_k s _ _
  · exact Nat.le_succ 1
theorem parse_k {s : ByteArray} {k pl : Nat} (h : parseS s = .err k pl) : 1 ≤ k ∧ k ≤ 19 := by
  unfold parseS at h
  split at h
  · have := pP_fits s (someS s).1
    rw [h] at this
    have : k = 2 ∨ k = 3 ∨ k = 6 := this
    omega
  · rename_i h0
    have := someS_k s
    cases h
    omega
end Go.Proofs.YtibopkodoidjoaaGreatDoor

/- The reference's tree: Find. -/
namespace Go.Proofs.YtibopkodoidjoaaGreatDoor
open Go Go.RowKit

theorem toks_pos (x : Nd) : 1 ≤ (toksN x).length := by
  cases x <;> rw [toksN] <;> simp
theorem toksL_mem : ∀ (b : Bool) (xs : List Nd) (x : Nd), x ∈ xs → (toksN x).length ≤ (toksL b xs).length
  | _, [], x, h => by cases h
  | b, y :: ys, x, h => by
    rw [toksL, List.length_append, List.length_append]
    rcases List.mem_cons.1 h with rfl | h
    · omega
    · have := toksL_mem false ys x h
      omega
theorem toksL_len : ∀ (b : Bool) (xs : List Nd), xs.length ≤ (toksL b xs).length
  | _, [] => Nat.zero_le _
  | b, y :: ys => by
    rw [toksL, List.length_append, List.length_append, List.length_cons]
    have h1 := toks_pos y
    have h2 := toksL_len false ys
    omega
theorem toksM_mem : ∀ (b : Bool) (xs : List (ByteArray × Nat × Nd)) (m : ByteArray × Nat × Nd), m ∈ xs → (toksN m.2.2).length ≤ (toksM b xs).length
  | _, [], x, h => by cases h
  | b, (k, p, y) :: ys, x, h => by
    rw [toksM, List.length_append, List.length_cons, List.length_cons, List.length_append]
    rcases List.mem_cons.1 h with rfl | h
    · show (toksN y).length ≤ _
      omega
    · have := toksM_mem false ys x h
      omega
theorem parse_small2 {s : ByteArray} {x : Nd} {q : Nat} (hs : s.size ≤ 1048576) (h : parseS s = .ok x q) : (toksN x).length ≤ 1048576 := by
  obtain ⟨h0, h1, h2⟩ := parse_toks h
  obtain ⟨hu, hch, _⟩ := some_chain h0
  have hlen := chain_len _ 0 ((utfE_brk s).1 hu) (Nat.zero_le _) hch
  have h3 := congrArg List.length h2
  unfold segI at h3
  simp at h3
  omega
/-- What the reference's Find answers at a text that parses. -/
def RFindR (lo : Nat) (r : PR Nd) (e : Ending) (w' : World) : Prop := match r with
  | .ok y _ => ∃ u : List Value, e = .returned (.tuple #[.agg u.toArray, .bool false, .int .i64 0, .int .i64 0]) ∧ OwnR w' lo w'.heap.size u y
  | .err k _ => e = .returned (.tuple #[.agg #[.int .i64 0, .int .i64 0, .bool false, .string ⟨#[]⟩, .slice none 0 0, .slice none 0 0, .slice none 0 0], .bool false, .int .i64 0, .int .i64 (k : Int)])
  | .out => False
set_option maxHeartbeats 8000000 in
set_option maxRecDepth 100000 in
theorem rFind_calls (s : ByteArray) (bv : Value) (bs : List ByteArray) (w : World) (hs : s.size ≤ 1048576) (hg : StrsAt w bv bs) (hkl : ∀ b ∈ bs, b.size ≤ 281474976710656) {x : Nd} {q : Nat} (hx : parseS s = .ok x q) :
    Calls Tryz.prog 29 #[.string s, bv] w fun e w' => RFindR w.heap.size (pathN x bs) e w' ∧ Below w.heap.size w w' := by
  have P := Lib.hid (fun w => rParse_calls s w hs)
  rw [hx] at P
  have huq := Lib.hid (⟨parse_uq hx, parse_small2 hs hx⟩ : uqN x ∧ (toksN x).length ≤ 1048576)
  replace hx := Lib.hid hx
  obtain ⟨n, hn⟩ : ∃ n, n = bs.length := ⟨_, rfl⟩
  have hnle := hg.le
  obtain ⟨ga, gc, rfl⟩ := hg.form
  rw [← hn] at hg hnle ⊢
  have hnle' : (n : Int) ≤ 9223372036854775807 := by omega
  obtain ⟨R, hR⟩ : ∃ R, R = pathN x bs := ⟨_, rfl⟩
  rw [← hR]
  replace hR := Lib.hid hR
  replace hg := Lib.hid hg
  replace hn := Lib.hid hn
  go_enter Tryz.func29, Tryz.ntmps29
  (go_wp2_with fail; repeat (any_goals (go_quiet (fail); go_wp2_with fail)))
  refine (P.out _).mono ?_
  rintro e w1 ⟨⟨u, rfl, hN⟩, hb⟩
  have hb1 : Below w.heap.size w w1 := bcall (by repeat (first | assumption | exact Below.refl _ _ | apply Below.drew | apply below_drewN | apply balloc | (refine Below.setCell ?_ (by first | omega | (simp <;> omega)) _))) hb
  have hz0 := Lib.hid (boxed hb)
  have hz1 := ltB hz0.out
  obtain ⟨m1, p1, f1, t1, vi1, vk1, vp1, rfl, ⟨a1, n1, c1, rfl⟩, ⟨a2, n2, c2, rfl⟩, ⟨a3, n3, c3, rfl⟩⟩ := hN.form
  rw [rdC_arr]
  have hsz1 : w.heap.size + 1 ≤ w1.heap.size := hz1
  have hN1 := Lib.hid (hN.wide (lo' := w.heap.size + 1) (hi' := w1.heap.size) (by simp) (Nat.le_refl _))
  clear hb hN
  go_wp2_with fail
  have hst : Hid (pathN x bs = pathN x (bs.drop 0)) := Lib.hid (by rw [List.drop_zero])
  go_loopw [29] (fun v29 wr => ∃ k : Nat, k ≤ n ∧ v29 = .int .i64 (k : Int) ∧ (∃ (u : List Value) (y : Nd) (lo' hi' : Nat), Hid (OwnR w1 lo' hi' u y ∧ w.heap.size + 1 ≤ lo' ∧ hi' ≤ w1.heap.size) ∧ Hid (BoxR w1.heap.size u.toArray wr) ∧ Hid (pathN x bs = pathN y (bs.drop k)) ∧ Hid (uqN y ∧ (toksN y).length ≤ 1048576)) ∧ Below w1.heap.size w1 wr) (fun v _ => n - (intOf v).toNat)
  case atStart => exact ⟨0, Nat.zero_le _, rfl, ⟨_, x, _, _, Lib.hid ⟨hN1.out, Nat.le_refl _, Nat.le_refl _⟩, Lib.hid (heap_alloc_new w1 (.cells #[.int .i64 (m1 : Int), .int .i64 (p1 : Int), .bool f1, .string t1, .slice a1 n1 c1, .slice a2 n2 c2, .slice a3 n3 c3] 33 (0, 0))), hst, huq⟩, (by repeat (first | assumption | exact Below.refl _ _ | apply Below.drew | apply below_drewN | apply balloc | (refine Below.setCell ?_ (by first | omega | (simp <;> omega)) _)))⟩
  case round =>
    obtain ⟨k, hk, rfl, ⟨u, y, lo', hi', hy, hbx, hp, hu⟩, hB⟩ := hrel
    have hBw := bcall hb1 hB
    have hlb := ltB hbx.out
    have hne1 : w.heap.size ≠ w1.heap.size := by omega
    have hne2 : w1.heap.size ≠ w.heap.size := by omega
    by_cases hlt : k < n
    · have hltI : (k : Int) < (n : Int) := by omega
      obtain ⟨key, hkey⟩ : ∃ key, bs[k]? = some key := ⟨bs[k]'(by rw [← hn.out]; exact hlt), List.getElem?_eq_getElem _⟩
      have hksz := hkl key (List.mem_of_getElem? hkey)
      obtain ⟨gb, off, rfl, hread⟩ : ∃ b' off, ga = some ⟨b', off, none⟩ ∧ Hid (∀ W, Below w.heap.size w W → W.cell? ⟨b', off + k, none⟩ = some (.string key)) := by
        rcases hg.out with ⟨h, _⟩ | ⟨b', off, cap, h1, _, _, h4, h5, h6⟩
        · rw [h] at hkey; simp at hkey
        · injection h1 with e1 e2 e3
          exact ⟨b', off, e1, Lib.hid (fun W hW => (hW.cell (p := ⟨b', off + k, none⟩) h4).trans (h5 _ key hkey))⟩
      have hrd := hread.out wr hBw
      have hdrop : Hid (bs.drop k = key :: bs.drop (k + 1)) := Lib.hid (by
        obtain ⟨h1, h2⟩ := List.getElem?_eq_some_iff.1 hkey
        rw [List.drop_eq_getElem_cons h1, h2])
      replace hkey := Lib.hid hkey
      obtain ⟨hyo, hyl, hyh⟩ := hy.out
      clear hy
      cases hyo with
      | null _ _ p =>
        have hp1 : Hid (pathN x bs = .err 5 0) := Lib.hid (by rw [hp.out, hdrop.out, pathN]; rfl)
        have q0 := cellB (show wr.heap[w1.heap.size]? = some (.cells #[.int .i64 0, .int .i64 (p : Int), .bool false, .string noS, .slice none 0 0, .slice none 0 0, .slice none 0 0] 33 (0, 0)) from hbx.out) 0 rfl
        have hzz := box_next hz0.out hB
        have yc0 := cellB hzz 0 rfl
        have yc1 := cellB hzz 1 rfl
        have yc2 := cellB hzz 2 rfl
        have yc3 := cellB hzz 3 rfl
        have yc4 := cellB hzz 4 rfl
        have yc5 := cellB hzz 5 rfl
        have yc6 := cellB hzz 6 rfl
        have yf0 := freeB hzz 0
        have yf1 := freeB hzz 1
        have yf2 := freeB hzz 2
        have yf3 := freeB hzz 3
        have yf4 := freeB hzz 4
        have yf5 := freeB hzz 5
        have yf6 := freeB hzz 6
        have hzl := ltB hzz
        go_wp2_with fail
        have e1 := set7 hzz (.int .i64 0) (.int .i64 0) (.bool false) (.string ⟨#[]⟩) (.slice none 0 0) (.slice none 0 0) (.slice none 0 0)
        clear yc0 yc1 yc2 yc3 yc4 yc5 yc6 yf0 yf1 yf2 yf3 yf4 yf5 yf6
        have zd0 := cellB e1 0 rfl
        have zd1 := cellB e1 1 rfl
        have zd2 := cellB e1 2 rfl
        have zd3 := cellB e1 3 rfl
        have zd4 := cellB e1 4 rfl
        have zd5 := cellB e1 5 rfl
        have zd6 := cellB e1 6 rfl
        refine bodyPost_ret (v := .tuple #[.agg #[.int .i64 0, .int .i64 0, .bool false, .string ⟨#[]⟩, .slice none 0 0, .slice none 0 0, .slice none 0 0], .bool false, .int .i64 0, .int .i64 5]) (by simp [results, Tryz.results29, go_sem, zd0, zd1, zd2, zd3, zd4, zd5, zd6]) rfl ?_
        refine ⟨?_, below7 (bcall hb1 hB) (Nat.le_refl _) _ _ _ _ _ _ _⟩
        rw [hR.out, hp1.out]
        exact rfl
      | flag _ _ p b =>
        have hp1 : Hid (pathN x bs = .err 5 0) := Lib.hid (by rw [hp.out, hdrop.out, pathN]; rfl)
        have q0 := cellB (show wr.heap[w1.heap.size]? = some (.cells #[.int .i64 1, .int .i64 (p : Int), .bool b, .string noS, .slice none 0 0, .slice none 0 0, .slice none 0 0] 33 (0, 0)) from hbx.out) 0 rfl
        have hzz := box_next hz0.out hB
        have yc0 := cellB hzz 0 rfl
        have yc1 := cellB hzz 1 rfl
        have yc2 := cellB hzz 2 rfl
        have yc3 := cellB hzz 3 rfl
        have yc4 := cellB hzz 4 rfl
        have yc5 := cellB hzz 5 rfl
        have yc6 := cellB hzz 6 rfl
        have yf0 := freeB hzz 0
        have yf1 := freeB hzz 1
        have yf2 := freeB hzz 2
        have yf3 := freeB hzz 3
        have yf4 := freeB hzz 4
        have yf5 := freeB hzz 5
        have yf6 := freeB hzz 6
        have hzl := ltB hzz
        go_wp2_with fail
        have e1 := set7 hzz (.int .i64 0) (.int .i64 0) (.bool false) (.string ⟨#[]⟩) (.slice none 0 0) (.slice none 0 0) (.slice none 0 0)
        clear yc0 yc1 yc2 yc3 yc4 yc5 yc6 yf0 yf1 yf2 yf3 yf4 yf5 yf6
        have zd0 := cellB e1 0 rfl
        have zd1 := cellB e1 1 rfl
        have zd2 := cellB e1 2 rfl
        have zd3 := cellB e1 3 rfl
        have zd4 := cellB e1 4 rfl
        have zd5 := cellB e1 5 rfl
        have zd6 := cellB e1 6 rfl
        refine bodyPost_ret (v := .tuple #[.agg #[.int .i64 0, .int .i64 0, .bool false, .string ⟨#[]⟩, .slice none 0 0, .slice none 0 0, .slice none 0 0], .bool false, .int .i64 0, .int .i64 5]) (by simp [results, Tryz.results29, go_sem, zd0, zd1, zd2, zd3, zd4, zd5, zd6]) rfl ?_
        refine ⟨?_, below7 (bcall hb1 hB) (Nat.le_refl _) _ _ _ _ _ _ _⟩
        rw [hR.out, hp1.out]
        exact rfl
      | num _ _ p t =>
        have hp1 : Hid (pathN x bs = .err 5 0) := Lib.hid (by rw [hp.out, hdrop.out, pathN]; rfl)
        have q0 := cellB (show wr.heap[w1.heap.size]? = some (.cells #[.int .i64 2, .int .i64 (p : Int), .bool false, .string t, .slice none 0 0, .slice none 0 0, .slice none 0 0] 33 (0, 0)) from hbx.out) 0 rfl
        have hzz := box_next hz0.out hB
        have yc0 := cellB hzz 0 rfl
        have yc1 := cellB hzz 1 rfl
        have yc2 := cellB hzz 2 rfl
        have yc3 := cellB hzz 3 rfl
        have yc4 := cellB hzz 4 rfl
        have yc5 := cellB hzz 5 rfl
        have yc6 := cellB hzz 6 rfl
        have yf0 := freeB hzz 0
        have yf1 := freeB hzz 1
        have yf2 := freeB hzz 2
        have yf3 := freeB hzz 3
        have yf4 := freeB hzz 4
        have yf5 := freeB hzz 5
        have yf6 := freeB hzz 6
        have hzl := ltB hzz
        go_wp2_with fail
        have e1 := set7 hzz (.int .i64 0) (.int .i64 0) (.bool false) (.string ⟨#[]⟩) (.slice none 0 0) (.slice none 0 0) (.slice none 0 0)
        clear yc0 yc1 yc2 yc3 yc4 yc5 yc6 yf0 yf1 yf2 yf3 yf4 yf5 yf6
        have zd0 := cellB e1 0 rfl
        have zd1 := cellB e1 1 rfl
        have zd2 := cellB e1 2 rfl
        have zd3 := cellB e1 3 rfl
        have zd4 := cellB e1 4 rfl
        have zd5 := cellB e1 5 rfl
        have zd6 := cellB e1 6 rfl
        refine bodyPost_ret (v := .tuple #[.agg #[.int .i64 0, .int .i64 0, .bool false, .string ⟨#[]⟩, .slice none 0 0, .slice none 0 0, .slice none 0 0], .bool false, .int .i64 0, .int .i64 5]) (by simp [results, Tryz.results29, go_sem, zd0, zd1, zd2, zd3, zd4, zd5, zd6]) rfl ?_
        refine ⟨?_, below7 (bcall hb1 hB) (Nat.le_refl _) _ _ _ _ _ _ _⟩
        rw [hR.out, hp1.out]
        exact rfl
      | text _ _ p t =>
        have hp1 : Hid (pathN x bs = .err 5 0) := Lib.hid (by rw [hp.out, hdrop.out, pathN]; rfl)
        have q0 := cellB (show wr.heap[w1.heap.size]? = some (.cells #[.int .i64 3, .int .i64 (p : Int), .bool false, .string t, .slice none 0 0, .slice none 0 0, .slice none 0 0] 33 (0, 0)) from hbx.out) 0 rfl
        have hzz := box_next hz0.out hB
        have yc0 := cellB hzz 0 rfl
        have yc1 := cellB hzz 1 rfl
        have yc2 := cellB hzz 2 rfl
        have yc3 := cellB hzz 3 rfl
        have yc4 := cellB hzz 4 rfl
        have yc5 := cellB hzz 5 rfl
        have yc6 := cellB hzz 6 rfl
        have yf0 := freeB hzz 0
        have yf1 := freeB hzz 1
        have yf2 := freeB hzz 2
        have yf3 := freeB hzz 3
        have yf4 := freeB hzz 4
        have yf5 := freeB hzz 5
        have yf6 := freeB hzz 6
        have hzl := ltB hzz
        go_wp2_with fail
        have e1 := set7 hzz (.int .i64 0) (.int .i64 0) (.bool false) (.string ⟨#[]⟩) (.slice none 0 0) (.slice none 0 0) (.slice none 0 0)
        clear yc0 yc1 yc2 yc3 yc4 yc5 yc6 yf0 yf1 yf2 yf3 yf4 yf5 yf6
        have zd0 := cellB e1 0 rfl
        have zd1 := cellB e1 1 rfl
        have zd2 := cellB e1 2 rfl
        have zd3 := cellB e1 3 rfl
        have zd4 := cellB e1 4 rfl
        have zd5 := cellB e1 5 rfl
        have zd6 := cellB e1 6 rfl
        refine bodyPost_ret (v := .tuple #[.agg #[.int .i64 0, .int .i64 0, .bool false, .string ⟨#[]⟩, .slice none 0 0, .slice none 0 0, .slice none 0 0], .bool false, .int .i64 0, .int .i64 5]) (by simp [results, Tryz.results29, go_sem, zd0, zd1, zd2, zd3, zd4, zd5, zd6]) rfl ?_
        refine ⟨?_, below7 (bcall hb1 hB) (Nat.le_refl _) _ _ _ _ _ _ _⟩
        rw [hR.out, hp1.out]
        exact rfl
      | lst _ _ p v cs ho hbo hkc hc =>
        obtain ⟨m, hm⟩ : ∃ m, m = cs.length := ⟨_, rfl⟩
        rw [← hm] at ho
        obtain ⟨va, vc, rfl⟩ := rowForm ho
        obtain ⟨hu1, hu2⟩ := hu.out
        have hml : m ≤ 1048576 := by
          have h1 := toksL_len true (cs.map RKid.x)
          rw [toksN, List.length_cons, List.length_append] at hu2
          rw [List.length_map] at h1
          omega
        have hu3 : ∀ c ∈ cs, uqN c.x ∧ (toksN c.x).length ≤ 1048576 := fun c hcm => by
          have h1 := List.mem_map_of_mem (f := RKid.x) hcm
          have h2 := toksL_mem true (cs.map RKid.x) c.x h1
          rw [toksN, List.length_cons, List.length_append] at hu2
          exact ⟨uqL_mem hu1 _ h1, by omega⟩
        have hmI : (m : Int) ≤ 1048576 := by omega
        have hl7 : ∀ c ∈ cs, c.u.length = 7 := fun c hcm => by
          obtain ⟨_, _, _, _, _, _, _, h, _⟩ := (hc c hcm).form
          rw [h]; rfl
        have hbx' : BoxR w1.heap.size #[.int .i64 4, .int .i64 (p : Int), .bool false, .string noS, .slice va m vc, .slice none 0 0, .slice none 0 0] wr := hbx.out
        have q0 := cellB hbx' 0 rfl
        replace hm := Lib.hid hm
        replace hu3 := Lib.hid hu3
        have ho' := Lib.hid ho
        clear hu hu1 hu2 ho
        go_wp2_with fail
        refine (idx_calls key _ hksz).mono ?_
        rintro e w3 ⟨rfl, hb⟩
        have hB3 := bcall hB hb
        have hbx3 := BoxR.next hbx' hb
        have hlb3 := ltB hbx3
        clear hb q0 hbx' hbx hlb
        have q4 := cellB hbx3 4 rfl
        by_cases hok : numOk key = true
        · have hiv : idxV key = (satK key key.size : Int) := by unfold idxV; rw [if_pos hok]
          rw [hiv]
          obtain ⟨k1, k2⟩ := num_same hok m (by omega)
          obtain ⟨J, hJ⟩ : ∃ J, J = satK key key.size := ⟨_, rfl⟩
          rw [← hJ] at k1 k2 ⊢
          have hJ0 : ¬ (J : Int) < 0 := by omega
          replace hiv := Lib.hid hiv
          replace hJ := Lib.hid hJ
          by_cases hjm : J < m
          · obtain ⟨c, hcj⟩ : ∃ c, cs[J]? = some c := ⟨cs[J]'(by rw [← hm.out]; exact hjm), List.getElem?_eq_getElem _⟩
            have hcm := List.mem_of_getElem? hcj
            have hnv := k2 hjm
            have hno : ¬ (numV key < 0 ∨ ((cs.map RKid.x).length : Int) ≤ numV key) := by
              rw [List.length_map, ← hm.out]
              intro h
              have := k1.1 h
              omega
            have hp1 : Hid (pathN x bs = pathN c.x (bs.drop (k + 1))) := Lib.hid (by
              rw [hp.out, hdrop.out, pathN, stepN, if_pos hok, if_neg hno, hnv, Int.toNat_natCast, List.getElem?_map, hcj]
              rfl)
            have hjI : (J : Int) < (m : Int) := by omega
            have hjI2 : ¬ (m : Int) ≤ (J : Int) := by omega
            have hcx := hc c hcm
            obtain ⟨m2, p2, f2, t2, vi2, vk2, vp2, hu2, ⟨b1, k3, d1, rfl⟩, ⟨b2, k4, d2, rfl⟩, ⟨b3, k5, d3, rfl⟩⟩ := hcx.form
            obtain ⟨g, rfl⟩ : ∃ g, va = some ⟨g, 0, none⟩ := by
              rcases rowForm2 ho'.out with ⟨h, _⟩ | ⟨g, cap, h, _⟩
              · omega
              · cases h; exact ⟨g, rfl⟩
            have hq : ∀ i u, i < 7 → c.u[i]? = some u → w3.cell? ⟨g, J * 7 + i, none⟩ = some u := fun i u hi h => rowCells (ownsRow_heap ho'.out fun j e => hB3.block j (Nat.lt_of_lt_of_le (hbo j e) hyh)) ((flat7 cs J c i hl7 hcj hi).trans h)
            rw [hu2] at hq
            have s0 : w3.cell? ⟨g, J * 7, none⟩ = _ := hq 0 _ (by decide) rfl
            have s1 := hq 1 _ (by decide) rfl
            have s2 := hq 2 _ (by decide) rfl
            have s3 := hq 3 _ (by decide) rfl
            have s4 := hq 4 _ (by decide) rfl
            have s5 := hq 5 _ (by decide) rfl
            have s6 := hq 6 _ (by decide) rfl
            have hcf := hkc c hcm
            have hyn := Lib.hid (⟨by rw [← hu2]; exact hcx, Nat.le_trans hyl hcf.1, Nat.le_trans hcf.2.2 hyh⟩ : OwnR w1 c.l c.h (rdC m2 p2 f2 t2 (.slice b1 k3 d1) (.slice b2 k4 d2) (.slice b3 k5 d3)) c.x ∧ w.heap.size + 1 ≤ c.l ∧ c.h ≤ w1.heap.size)
            have hun := Lib.hid (hu3.out c hcm)
            have zc0 := cellB hbx3 0 rfl
            have zc1 := cellB hbx3 1 rfl
            have zc2 := cellB hbx3 2 rfl
            have zc3 := cellB hbx3 3 rfl
            have zc4 := cellB hbx3 4 rfl
            have zc5 := cellB hbx3 5 rfl
            have zc6 := cellB hbx3 6 rfl
            have zf0 := freeB hbx3 0
            have zf1 := freeB hbx3 1
            have zf2 := freeB hbx3 2
            have zf3 := freeB hbx3 3
            have zf4 := freeB hbx3 4
            have zf5 := freeB hbx3 5
            have zf6 := freeB hbx3 6
            clear hq hcx
            replace hu2 := Lib.hid hu2
            replace hcj := Lib.hid hcj
            replace hbx3 := Lib.hid hbx3
            (replace hno := Lib.hid hno; replace k1 := Lib.hid k1; replace k2 := Lib.hid k2; replace hok := Lib.hid hok; replace hnv := Lib.hid hnv)
            go_wp2_with fail
            have hbn := Lib.hid (set7 hbx3.out (.int .i64 (m2 : Int)) (.int .i64 (p2 : Int)) (.bool f2) (.string t2) (.slice b1 k3 d1) (.slice b2 k4 d2) (.slice b3 k5 d3))
            have hBn := below7 hB3 (Nat.le_refl _) (.int .i64 (m2 : Int)) (.int .i64 (p2 : Int)) (.bool f2) (.string t2) (.slice b1 k3 d1) (.slice b2 k4 d2) (.slice b3 k5 d3)
            go_roundw
            case measure => simp [intOf]; omega
            case rel => exact ⟨k + 1, by omega, by go_num, ⟨_, c.x, c.l, c.h, hyn, hbn, hp1, hun⟩, hBn⟩
          · have hge : numV key < 0 ∨ ((cs.map RKid.x).length : Int) ≤ numV key := by
              rw [List.length_map, ← hm.out]
              exact k1.2 (by omega)
            have hp1 : Hid (pathN x bs = .err 12 0) := Lib.hid (by rw [hp.out, hdrop.out, pathN, stepN, if_pos hok, if_pos hge])
            have hjI : (m : Int) ≤ (J : Int) := by omega
            replace hge := Lib.hid hge
            replace k1 := Lib.hid k1
            replace k2 := Lib.hid k2
            replace hok := Lib.hid hok
            have hzz := box_next hz0.out hB3
            have yc0 := cellB hzz 0 rfl
            have yc1 := cellB hzz 1 rfl
            have yc2 := cellB hzz 2 rfl
            have yc3 := cellB hzz 3 rfl
            have yc4 := cellB hzz 4 rfl
            have yc5 := cellB hzz 5 rfl
            have yc6 := cellB hzz 6 rfl
            have yf0 := freeB hzz 0
            have yf1 := freeB hzz 1
            have yf2 := freeB hzz 2
            have yf3 := freeB hzz 3
            have yf4 := freeB hzz 4
            have yf5 := freeB hzz 5
            have yf6 := freeB hzz 6
            have hzl := ltB hzz
            go_wp2_with fail
            have e1 := set7 hzz (.int .i64 0) (.int .i64 0) (.bool false) (.string ⟨#[]⟩) (.slice none 0 0) (.slice none 0 0) (.slice none 0 0)
            clear yc0 yc1 yc2 yc3 yc4 yc5 yc6 yf0 yf1 yf2 yf3 yf4 yf5 yf6
            have zd0 := cellB e1 0 rfl
            have zd1 := cellB e1 1 rfl
            have zd2 := cellB e1 2 rfl
            have zd3 := cellB e1 3 rfl
            have zd4 := cellB e1 4 rfl
            have zd5 := cellB e1 5 rfl
            have zd6 := cellB e1 6 rfl
            refine bodyPost_ret (v := .tuple #[.agg #[.int .i64 0, .int .i64 0, .bool false, .string ⟨#[]⟩, .slice none 0 0, .slice none 0 0, .slice none 0 0], .bool false, .int .i64 0, .int .i64 12]) (by simp [results, Tryz.results29, go_sem, zd0, zd1, zd2, zd3, zd4, zd5, zd6]) rfl ?_
            refine ⟨?_, below7 (bcall hb1 hB3) (Nat.le_refl _) _ _ _ _ _ _ _⟩
            rw [hR.out, hp1.out]
            exact rfl
        · have hiv : idxV key = -1 := by unfold idxV; rw [if_neg hok]
          rw [hiv]
          have hp1 : Hid (pathN x bs = .err 5 0) := Lib.hid (by rw [hp.out, hdrop.out, pathN, stepN, if_neg hok])
          replace hok := Lib.hid hok
          replace hiv := Lib.hid hiv
          have hzz := box_next hz0.out hB3
          have yc0 := cellB hzz 0 rfl
          have yc1 := cellB hzz 1 rfl
          have yc2 := cellB hzz 2 rfl
          have yc3 := cellB hzz 3 rfl
          have yc4 := cellB hzz 4 rfl
          have yc5 := cellB hzz 5 rfl
          have yc6 := cellB hzz 6 rfl
          have yf0 := freeB hzz 0
          have yf1 := freeB hzz 1
          have yf2 := freeB hzz 2
          have yf3 := freeB hzz 3
          have yf4 := freeB hzz 4
          have yf5 := freeB hzz 5
          have yf6 := freeB hzz 6
          have hzl := ltB hzz
          go_wp2_with fail
          have e1 := set7 hzz (.int .i64 0) (.int .i64 0) (.bool false) (.string ⟨#[]⟩) (.slice none 0 0) (.slice none 0 0) (.slice none 0 0)
          clear yc0 yc1 yc2 yc3 yc4 yc5 yc6 yf0 yf1 yf2 yf3 yf4 yf5 yf6
          have zd0 := cellB e1 0 rfl
          have zd1 := cellB e1 1 rfl
          have zd2 := cellB e1 2 rfl
          have zd3 := cellB e1 3 rfl
          have zd4 := cellB e1 4 rfl
          have zd5 := cellB e1 5 rfl
          have zd6 := cellB e1 6 rfl
          refine bodyPost_ret (v := .tuple #[.agg #[.int .i64 0, .int .i64 0, .bool false, .string ⟨#[]⟩, .slice none 0 0, .slice none 0 0, .slice none 0 0], .bool false, .int .i64 0, .int .i64 5]) (by simp [results, Tryz.results29, go_sem, zd0, zd1, zd2, zd3, zd4, zd5, zd6]) rfl ?_
          refine ⟨?_, below7 (bcall hb1 hB3) (Nat.le_refl _) _ _ _ _ _ _ _⟩
          rw [hR.out, hp1.out]
          exact rfl
      | obj _ _ p v vk vp cs ho hbo ho2 hb2 ho3 hb3 hkc hc =>
        obtain ⟨m, hm⟩ : ∃ m, m = cs.length := ⟨_, rfl⟩
        rw [← hm] at ho ho2
        obtain ⟨va, vc, rfl⟩ := rowForm ho
        obtain ⟨ka, kc, rfl⟩ := rowForm ho2
        obtain ⟨pa, pn, pc, rfl⟩ := ownsRow_sl ho3
        obtain ⟨⟨hu1, hnd⟩, hu2⟩ := hu.out
        have hnm : m ≤ maxLen := by
          rcases rowForm2 ho with ⟨h, _⟩ | ⟨g, cap, h, _, _, h1, h2⟩
          · omega
          · omega
        unfold maxLen at hnm
        have hnI : (m : Int) ≤ 9223372036854775807 := by omega
        have hu3 : ∀ c ∈ cs, uqN c.x ∧ (toksN c.x).length ≤ 1048576 := fun c hcm => by
          have h1 := List.mem_map_of_mem (f := RKid.mem) hcm
          have h2 := toksM_mem true (cs.map RKid.mem) c.mem h1
          rw [toksN, List.length_cons, List.length_append] at hu2
          have h3 : (toksN c.mem.2.2).length = (toksN c.x).length := rfl
          exact ⟨uqM_mem hu1 _ h1, by omega⟩
        have hl7 : ∀ c ∈ cs, c.u.length = 7 := fun c hcm => by
          obtain ⟨_, _, _, _, _, _, _, h, _⟩ := (hc c hcm).form
          rw [h]; rfl
        have hbx' : BoxR w1.heap.size #[.int .i64 5, .int .i64 (p : Int), .bool false, .string noS, .slice va m vc, .slice ka m kc, .slice pa pn pc] wr := hbx.out
        have q0 := cellB hbx' 0 rfl
        have q5 := cellB hbx' 5 rfl
        replace hm := Lib.hid hm
        replace hu3 := Lib.hid hu3
        replace hnd := Lib.hid hnd
        have ho' := Lib.hid ho
        have hok' := Lib.hid (ownsRow_heap (w' := wr) ho2 fun j e => hB.block j (Nat.lt_of_lt_of_le (hb2 j e) hyh))
        have hokl : Hid (∀ h : m ≠ 0, ∃ g, ka = some ⟨g, 0, none⟩) := Lib.hid (fun h => by
          rcases rowForm2 ho2 with ⟨h2, _⟩ | ⟨g, cap, h2, _⟩
          · exact absurd h2 h
          · cases h2; exact ⟨g, rfl⟩)
        clear hu hu1 hu2 ho ho2 ho3 hbx
        obtain ⟨wo, rfl⟩ : ∃ wo : World, wo = wr := ⟨_, rfl⟩
        go_wp2_with fail
        go_loopw [41, 13] (fun v41 v13 wq => ∃ (j : Nat) (nx : Int), j ≤ m ∧ v41 = .int .i64 (j : Int) ∧ v13 = .int .i64 nx ∧ Hid ((nx = -1 ∧ ∀ i c, i < j → cs[i]? = some c → c.key ≠ key) ∨ (∃ i c, i < j ∧ cs[i]? = some c ∧ c.key = key ∧ nx = ((i : Nat) : Int))) ∧ wo = wq) (fun v _ _ => m - (intOf v).toNat)
        case atStart => exact ⟨0, -1, Nat.zero_le _, rfl, rfl, Lib.hid (Or.inl ⟨rfl, fun i c h => absurd h (Nat.not_lt_zero _)⟩), rfl⟩
        case round =>
          obtain ⟨j, nx, hj, rfl, rfl, hnx, rfl⟩ := hrel
          by_cases hjm2 : j < m
          · have hjI : (j : Int) < (m : Int) := by omega
            obtain ⟨c, hcj⟩ : ∃ c, cs[j]? = some c := ⟨cs[j]'(by rw [← hm.out]; exact hjm2), List.getElem?_eq_getElem _⟩
            obtain ⟨kg, rfl⟩ := hokl.out (by omega)
            have c0 := rowCells hok'.out (j := j) (u := .string c.key) (by rw [List.getElem?_map, hcj]; rfl)
            by_cases he : c.key = key
            · have hnx2 : Hid (((j : Int) = -1 ∧ ∀ i c, i < j + 1 → cs[i]? = some c → c.key ≠ key) ∨ (∃ i c, i < j + 1 ∧ cs[i]? = some c ∧ c.key = key ∧ (j : Int) = ((i : Nat) : Int))) := Lib.hid (Or.inr ⟨j, c, Nat.lt_succ_self _, hcj, he, rfl⟩)
              rw [he] at c0
              replace he := Lib.hid he
              replace hcj := Lib.hid hcj
              clear hnx
              go_wp2_with fail
              go_roundw
              case measure => simp [intOf]; omega
              case rel => exact ⟨j + 1, (j : Int), by omega, by go_num, rfl, hnx2, trivial⟩
            · have hne := text_ne he
              have hnx2 : Hid ((nx = -1 ∧ ∀ i c, i < j + 1 → cs[i]? = some c → c.key ≠ key) ∨ (∃ i c, i < j + 1 ∧ cs[i]? = some c ∧ c.key = key ∧ nx = ((i : Nat) : Int))) := Lib.hid (by
                rcases hnx.out with ⟨h1, h2⟩ | ⟨i, c2, h1, h2, h3, h4⟩
                · refine Or.inl ⟨h1, fun i c2 hi hc2 => ?_⟩
                  rcases Nat.lt_or_ge i j with h | h
                  · exact h2 i c2 h hc2
                  · have : i = j := by omega
                    subst this
                    rw [hcj] at hc2
                    cases hc2
                    exact he
                · exact Or.inr ⟨i, c2, by omega, h2, h3, h4⟩)
              replace he := Lib.hid he
              replace hcj := Lib.hid hcj
              clear hnx
              generalize c.key = ck at *
              go_wp2_with fail
              go_roundw
              case measure => simp [intOf]; omega
              case rel => exact ⟨j + 1, nx, by omega, by go_num, rfl, hnx2, trivial⟩
          · obtain rfl : m = j := by omega
            have hjI : ¬ (m : Int) < (m : Int) := by omega
            rcases hnx.out with ⟨rfl, hno⟩ | ⟨J, c, hjm, hcj, hck, rfl⟩
            · have hp1 : Hid (pathN x bs = .err 6 0) := Lib.hid (by
                rw [hp.out, hdrop.out, pathN, stepN, findM_none]
                intro y hy
                obtain ⟨c, hc', rfl⟩ := List.mem_map.1 hy
                obtain ⟨i, hi, hic⟩ := List.getElem_of_mem hc'
                exact hno i c (by rw [hm.out]; exact hi) (by rw [List.getElem?_eq_getElem hi, hic]))
              clear hno hnx
              have hzz := box_next hz0.out hB
              have yc0 := cellB hzz 0 rfl
              have yc1 := cellB hzz 1 rfl
              have yc2 := cellB hzz 2 rfl
              have yc3 := cellB hzz 3 rfl
              have yc4 := cellB hzz 4 rfl
              have yc5 := cellB hzz 5 rfl
              have yc6 := cellB hzz 6 rfl
              have yf0 := freeB hzz 0
              have yf1 := freeB hzz 1
              have yf2 := freeB hzz 2
              have yf3 := freeB hzz 3
              have yf4 := freeB hzz 4
              have yf5 := freeB hzz 5
              have yf6 := freeB hzz 6
              have hzl := ltB hzz
              go_wp2_with fail
              have e1 := set7 hzz (.int .i64 0) (.int .i64 0) (.bool false) (.string ⟨#[]⟩) (.slice none 0 0) (.slice none 0 0) (.slice none 0 0)
              clear yc0 yc1 yc2 yc3 yc4 yc5 yc6 yf0 yf1 yf2 yf3 yf4 yf5 yf6
              have zd0 := cellB e1 0 rfl
              have zd1 := cellB e1 1 rfl
              have zd2 := cellB e1 2 rfl
              have zd3 := cellB e1 3 rfl
              have zd4 := cellB e1 4 rfl
              have zd5 := cellB e1 5 rfl
              have zd6 := cellB e1 6 rfl
              refine bodyPost_ret (v := .tuple #[.agg #[.int .i64 0, .int .i64 0, .bool false, .string ⟨#[]⟩, .slice none 0 0, .slice none 0 0, .slice none 0 0], .bool false, .int .i64 0, .int .i64 6]) (by simp [results, Tryz.results29, go_sem, zd0, zd1, zd2, zd3, zd4, zd5, zd6]) rfl ?_
              refine ⟨?_, below7 (bcall hb1 hB) (Nat.le_refl _) _ _ _ _ _ _ _⟩
              rw [hR.out, hp1.out]
              exact rfl
            · have hcm := List.mem_of_getElem? hcj
              have hJ0 : ¬ (J : Int) < 0 := by omega
              have hjI2 : (J : Int) < (m : Int) := by omega
              have hp1 : Hid (pathN x bs = pathN c.x (bs.drop (k + 1))) := Lib.hid (by
                rw [hp.out, hdrop.out, pathN, stepN, findM_at (cs.map RKid.mem) J c.mem (by rw [List.getElem?_map, hcj]; rfl) hck (fun i m' hi hm' he => by
                  have := nodup_at hnd.out hm' (show (cs.map RKid.mem)[J]? = some c.mem by rw [List.getElem?_map, hcj]; rfl) (he.trans hck.symm)
                  omega)]
                rfl)
              have hB3 := hB
              have hbx3 := hbx'
              obtain ⟨w3, rfl⟩ : ∃ w3 : World, w3 = wo := ⟨_, rfl⟩
              replace hck := Lib.hid hck
              clear hnx q0 q5 hbx'
              have q4 := cellB hbx3 4 rfl
              have hcx := hc c hcm
              obtain ⟨m2, p2, f2, t2, vi2, vk2, vp2, hu2, ⟨b1, k3, d1, rfl⟩, ⟨b2, k4, d2, rfl⟩, ⟨b3, k5, d3, rfl⟩⟩ := hcx.form
              obtain ⟨g, rfl⟩ : ∃ g, va = some ⟨g, 0, none⟩ := by
                rcases rowForm2 ho'.out with ⟨h, _⟩ | ⟨g, cap, h, _⟩
                · omega
                · cases h; exact ⟨g, rfl⟩
              have hq : ∀ i u, i < 7 → c.u[i]? = some u → w3.cell? ⟨g, J * 7 + i, none⟩ = some u := fun i u hi h => rowCells (ownsRow_heap ho'.out fun j e => hB3.block j (Nat.lt_of_lt_of_le (hbo j e) hyh)) ((flat7 cs J c i hl7 hcj hi).trans h)
              rw [hu2] at hq
              have s0 : w3.cell? ⟨g, J * 7, none⟩ = _ := hq 0 _ (by decide) rfl
              have s1 := hq 1 _ (by decide) rfl
              have s2 := hq 2 _ (by decide) rfl
              have s3 := hq 3 _ (by decide) rfl
              have s4 := hq 4 _ (by decide) rfl
              have s5 := hq 5 _ (by decide) rfl
              have s6 := hq 6 _ (by decide) rfl
              have hcf := hkc c hcm
              have hyn := Lib.hid (⟨by rw [← hu2]; exact hcx, Nat.le_trans hyl hcf.1, Nat.le_trans hcf.2.2 hyh⟩ : OwnR w1 c.l c.h (rdC m2 p2 f2 t2 (.slice b1 k3 d1) (.slice b2 k4 d2) (.slice b3 k5 d3)) c.x ∧ w.heap.size + 1 ≤ c.l ∧ c.h ≤ w1.heap.size)
              have hun := Lib.hid (hu3.out c hcm)
              have zc0 := cellB hbx3 0 rfl
              have zc1 := cellB hbx3 1 rfl
              have zc2 := cellB hbx3 2 rfl
              have zc3 := cellB hbx3 3 rfl
              have zc4 := cellB hbx3 4 rfl
              have zc5 := cellB hbx3 5 rfl
              have zc6 := cellB hbx3 6 rfl
              have zf0 := freeB hbx3 0
              have zf1 := freeB hbx3 1
              have zf2 := freeB hbx3 2
              have zf3 := freeB hbx3 3
              have zf4 := freeB hbx3 4
              have zf5 := freeB hbx3 5
              have zf6 := freeB hbx3 6
              clear hq hcx
              replace hu2 := Lib.hid hu2
              replace hcj := Lib.hid hcj
              replace hbx3 := Lib.hid hbx3
              skip
              go_wp2_with fail
              have hbn := Lib.hid (set7 hbx3.out (.int .i64 (m2 : Int)) (.int .i64 (p2 : Int)) (.bool f2) (.string t2) (.slice b1 k3 d1) (.slice b2 k4 d2) (.slice b3 k5 d3))
              have hBn := below7 hB3 (Nat.le_refl _) (.int .i64 (m2 : Int)) (.int .i64 (p2 : Int)) (.bool f2) (.string t2) (.slice b1 k3 d1) (.slice b2 k4 d2) (.slice b3 k5 d3)
              go_roundw
              case measure => simp [intOf]; omega
              case rel => exact ⟨k + 1, by omega, by go_num, ⟨_, c.x, c.l, c.h, hyn, hbn, hp1, hun⟩, hBn⟩
    · obtain rfl : n = k := by omega
      have hlt' : ¬ (n : Int) < (n : Int) := by omega
      have hR1 : R = .ok y 0 := by
        rw [hR.out, hp.out, List.drop_eq_nil_of_le (by rw [← hn.out]; exact Nat.le_refl _), pathN]
      replace hR1 := Lib.hid hR1
      obtain ⟨hyo, hyl, hyh⟩ := hy.out
      obtain ⟨m, p, f, t, vi, vk, vp, rfl, ⟨b1, k1, d1, rfl⟩, ⟨b2, k2, d2, rfl⟩, ⟨b3, k3, d3, rfl⟩⟩ := hyo.form
      have hzz := box_next hz0.out hB
      have hbx' := hbx.out
      rw [rdC_arr] at hbx'
      have yc0 := cellB hzz 0 rfl
      have yc1 := cellB hzz 1 rfl
      have yc2 := cellB hzz 2 rfl
      have yc3 := cellB hzz 3 rfl
      have yc4 := cellB hzz 4 rfl
      have yc5 := cellB hzz 5 rfl
      have yc6 := cellB hzz 6 rfl
      have yf0 := freeB hzz 0
      have yf1 := freeB hzz 1
      have yf2 := freeB hzz 2
      have yf3 := freeB hzz 3
      have yf4 := freeB hzz 4
      have yf5 := freeB hzz 5
      have yf6 := freeB hzz 6
      have hzl := ltB hzz
      have q1 := hbx'.two.1
      obtain ⟨q0, q2, q3, q4, q5, q6⟩ := hbx'.all
      replace hyo := Lib.hid hyo
      go_wp2_with fail
      have e1 := set7 hzz (.int .i64 (m : Int)) (.int .i64 (p : Int)) (.bool f) (.string t) (.slice b1 k1 d1) (.slice b2 k2 d2) (.slice b3 k3 d3)
      clear yc0 yc1 yc2 yc3 yc4 yc5 yc6 yf0 yf1 yf2 yf3 yf4 yf5 yf6
      have zd0 := cellB e1 0 rfl
      have zd1 := cellB e1 1 rfl
      have zd2 := cellB e1 2 rfl
      have zd3 := cellB e1 3 rfl
      have zd4 := cellB e1 4 rfl
      have zd5 := cellB e1 5 rfl
      have zd6 := cellB e1 6 rfl
      refine bodyPost_ret (v := .tuple #[.agg #[.int .i64 (m : Int), .int .i64 (p : Int), .bool f, .string t, .slice b1 k1 d1, .slice b2 k2 d2, .slice b3 k3 d3], .bool false, .int .i64 0, .int .i64 0]) (by simp [results, Tryz.results29, go_sem, zd0, zd1, zd2, zd3, zd4, zd5, zd6]) rfl ?_
      refine ⟨?_, below7 hBw (Nat.le_refl _) _ _ _ _ _ _ _⟩
      rw [hR1.out]
      have hG := set7_grown wr w.heap.size (.int .i64 (m : Int)) (.int .i64 (p : Int)) (.bool f) (.string t) (.slice b1 k1 d1) (.slice b2 k2 d2) (.slice b3 k3 d3)
      exact ⟨_, rfl, (((hyo.out.keep fun j _ hj => hB.block j (Nat.lt_of_lt_of_le hj hyh)).grown hG (Nat.le_trans hyh hB.size) (Nat.lt_of_lt_of_le (Nat.lt_succ_self _) hyl)).wide (Nat.le_of_lt (Nat.lt_of_lt_of_le (Nat.lt_succ_self _) hyl)) (Nat.le_trans (Nat.le_trans hyh hB.size) hG.size))⟩

end Go.Proofs.YtibopkodoidjoaaGreatDoor

/- Find at a text that does not parse, of both. -/
namespace Go.Proofs.YtibopkodoidjoaaGreatDoor
open Go Go.RowKit

set_option maxHeartbeats 2000000 in
set_option maxRecDepth 100000 in
theorem Find_err {A : Nat → Addr} {B : Nat} (s : ByteArray) (ga : Option Addr) (n gc : Nat) (w : World) (hE : Env A B SVN w) (hs : s.size ≤ 3518437208882) {k pl : Nat} (hx : parseS s = .err k pl) :
    Calls Tryz.prog 27 #[.string s, .slice ga n gc] w fun e w' => (∃ g, w.heap.size ≤ g ∧ e = .returned (.tuple #[.nilIface, .iface 69 (.pointer (some ⟨g, 0, none⟩))]) ∧ AtB (pl : Int) (.iface 237 (.pointer (some (A k)))) g w') ∧ Below w.heap.size w w' := by
  have P := Lib.hid (fun w hE => Parse_calls (A := A) (B := B) s w hE hs)
  rw [hx] at P
  replace hx := Lib.hid hx
  replace hE := Lib.hid hE
  go_enter Tryz.func27, Tryz.ntmps27
  (go_wp2_with fail; repeat (any_goals (go_quiet (fail); go_wp2_with fail)))
  refine (P.out _ (hE.out.next (by repeat (first | assumption | exact Below.refl _ _ | apply Below.drew | apply below_drewN | apply balloc | (refine Below.setCell ?_ (by first | omega | (simp <;> omega)) _))))).mono ?_
  rintro e w1 ⟨⟨g, hg, rfl, hat⟩, hb⟩
  have hb1 : Below w.heap.size w w1 := bcall (by repeat (first | assumption | exact Below.refl _ _ | apply Below.drew | apply below_drewN | apply balloc | (refine Below.setCell ?_ (by first | omega | (simp <;> omega)) _))) hb
  replace hat := Lib.hid hat
  clear hb
  (go_wp2_with fail; repeat (any_goals (go_quiet (fail); go_wp2_with fail)))
  go_ret2
  exact ⟨⟨g, hg, rfl, hat.out⟩, hb1⟩
set_option maxHeartbeats 2000000 in
set_option maxRecDepth 100000 in
theorem rFind_err (s : ByteArray) (ga : Option Addr) (n gc : Nat) (w : World) (hs : s.size ≤ 1048576) {k pl : Nat} (hx : parseS s = .err k pl) :
    Calls Tryz.prog 29 #[.string s, .slice ga n gc] w fun e w' => e = .returned (.tuple #[.agg #[.int .i64 0, .int .i64 0, .bool false, .string ⟨#[]⟩, .slice none 0 0, .slice none 0 0, .slice none 0 0], .bool true, .int .i64 (pl : Int), .int .i64 (k : Int)]) ∧ Below w.heap.size w w' := by
  have P := Lib.hid (fun w => rParse_calls s w hs)
  rw [hx] at P
  have hk := parse_k hx
  have hk1 : ((k : Int) == 0) = false := by simp; omega
  have hk2 : ¬ (k : Int) = 0 := by omega
  replace hx := Lib.hid hx
  go_enter Tryz.func29, Tryz.ntmps29
  (go_wp2_with fail; repeat (any_goals (go_quiet (fail); go_wp2_with fail)))
  refine (P.out _).mono ?_
  rintro e w1 ⟨rfl, hb⟩
  have hb1 : Below w.heap.size w w1 := bcall (by repeat (first | assumption | exact Below.refl _ _ | apply Below.drew | apply below_drewN | apply balloc | (refine Below.setCell ?_ (by first | omega | (simp <;> omega)) _))) hb
  have hx := boxed hb
  have hx0 := ltB hx
  clear hb
  have yc0 := cellB hx 0 rfl
  have yc1 := cellB hx 1 rfl
  have yc2 := cellB hx 2 rfl
  have yc3 := cellB hx 3 rfl
  have yc4 := cellB hx 4 rfl
  have yc5 := cellB hx 5 rfl
  have yc6 := cellB hx 6 rfl
  have yf0 := freeB hx 0
  have yf1 := freeB hx 1
  have yf2 := freeB hx 2
  have yf3 := freeB hx 3
  have yf4 := freeB hx 4
  have yf5 := freeB hx 5
  have yf6 := freeB hx 6
  go_wp2_with fail
  have e0 := set7 hx (.int .i64 0) (.int .i64 0) (.bool false) (.string ⟨#[]⟩) (.slice none 0 0) (.slice none 0 0) (.slice none 0 0)
  clear yc0 yc1 yc2 yc3 yc4 yc5 yc6 yf0 yf1 yf2 yf3 yf4 yf5 yf6 hx
  have e1 := al_keep (o' := .cells #[.int .i64 0, .int .i64 0, .bool false, .string ⟨#[]⟩, .slice none 0 0, .slice none 0 0, .slice none 0 0] 33 (0, 0)) e0
  have zd0 := cellB e1 0 rfl
  have zd1 := cellB e1 1 rfl
  have zd2 := cellB e1 2 rfl
  have zd3 := cellB e1 3 rfl
  have zd4 := cellB e1 4 rfl
  have zd5 := cellB e1 5 rfl
  have zd6 := cellB e1 6 rfl
  refine bodyPost_ret (v := .tuple #[.agg #[.int .i64 0, .int .i64 0, .bool false, .string ⟨#[]⟩, .slice none 0 0, .slice none 0 0, .slice none 0 0], .bool true, .int .i64 (pl : Int), .int .i64 (k : Int)]) (by simp [results, Tryz.results29, go_sem, zd0, zd1, zd2, zd3, zd4, zd5, zd6]) rfl ?_
  exact ⟨rfl, balloc (below7 hb1 (Nat.le_refl _) _ _ _ _ _ _ _)⟩

end Go.Proofs.YtibopkodoidjoaaGreatDoor

/- TreeFinds: the path that is handed in. -/
namespace Go.Proofs.YtibopkodoidjoaaGreatDoor
open Go Go.RowKit


section
variable {ops : Array Oper} {rest : List Oper} {o : Oper} {a : Act} {Q : Exit → Act → World → Prop} {w : World}
/-- append(row, texts...). -/
theorem app_strs (hgd : o.guard = none) (sl x : Operand) (ho : o.op = .call { callee := .builtin .append, args := #[sl, x], argTypes := #[30, 30] }) (n0 : Nat) (v : Value) (n : Nat) (xs : List Value) (hs : a.eval sl = v) (hK : w.ownsRow n0 9 1 v n xs)
    (ad : Addr) (m cp : Nat) (ys : List Value) (hx : a.eval x = .slice (some ad) m cp) (hys : ys.length = m) (hcells : ∀ j u, ys[j]? = some u → w.cell? (ad.add j) = some u)
    (hlen : n + m ≤ 2097152) (hn : n0 ≤ w.heap.size) (h1 : ∀ u ∈ ys, u.oneCell' = true)
    (h : ∀ v' w', w'.ownsRow n0 9 1 v' (n + m) (xs ++ ys) → w.grownBy w' v.ownBlock → wpList Tryz.prog ops Q rest (a.put o.dst v') w') : wpList Tryz.prog ops Q (o :: rest) a w := by
  obtain ⟨i0, hi, hi2⟩ := Option.map_eq_some_iff.1 infoS18
  simp only [Prod.mk.injEq] at hi2
  refine wpList_append_own_at _ hgd sl x 30 ho n0 9 i0 (.string ⟨#[]⟩) 1 16 Tryz.underlying30 hi hi2.1 hi2.2.1 hi2.2.2 rfl (by decide) v n xs hs hK ad m cp ys hx (by rw [hys]; omega) hcells h1 (by unfold maxLen; omega) (by omega) hn ?_
  intro v' w' ho2 hg2 _ _
  exact h v' w' ho2 hg2
end
theorem row_empty (w : World) (n0 : Nat) (hn : n0 ≤ w.heap.size) : (w.alloc (.cells #[] 9 (0, 0))).ownsRow n0 9 1 (.slice (some ⟨w.heap.size, 0, none⟩) 0 0) 0 [] := by
  refine ⟨rfl, Or.inr ⟨w.heap.size, 0, #[], rfl, hn, heap_alloc_new w _, ?_⟩⟩
  simp
theorem step_k (x : Nd) (key : ByteArray) {k p : Nat} (h : stepN x key = .err k p) : 1 ≤ k ∧ k ≤ 19 := by
  cases x <;> simp only [stepN] at h
  · cases h; omega
  · cases h; omega
  · cases h; omega
  · cases h; omega
  · split at h
    · split at h
      · cases h; omega
      · split at h
        · cases h
        · cases h; omega
    · cases h; omega
  · split at h
    · cases h
    · cases h; omega
theorem path_in : ∀ (bs : List ByteArray) (x : Nd), pathN x bs ≠ .out
  | [], x => by rw [pathN]; exact fun h => by cases h
  | b :: bs, x => by
    rw [pathN]
    cases hs : stepN x b with
    | ok y q => exact path_in bs y
    | err k' q => exact fun h => by cases h
    | out => exact absurd hs (stepN_in x b)
theorem path_k : ∀ (bs : List ByteArray) (x : Nd) {k p : Nat}, pathN x bs = .err k p → 1 ≤ k ∧ k ≤ 19
  | [], x, k, p, h => by rw [pathN] at h; cases h
  | b :: bs, x, k, p, h => by
    rw [pathN] at h
    cases hs : stepN x b with
    | ok y q => rw [hs] at h; exact path_k bs y h
    | err k' q => rw [hs] at h; cases h; exact step_k x b hs
    | out => rw [hs] at h; cases h
set_option maxHeartbeats 4000000 in
set_option maxRecDepth 100000 in
theorem TreeFinds_calls {A : Nat → Addr} {B : Nat} (s : ByteArray) (bv : Value) (bs : List ByteArray) (w : World) (hs : s.size ≤ 1048576) (hg : StrsAt w bv bs) (hkl : ∀ b ∈ bs, b.size ≤ 281474976710656) (hE : EnvA A B w) (hEX : Env A B SVX w) :
    Calls Tryz.prog 7 #[.string s, bv] w fun e w' => e = .returned (.bool true) ∧ Below w.heap.size w w' := by
  have L := Lib.hid (fun w hE => lives_calls (A := A) (B := B) w hE)
  obtain ⟨n, hn⟩ : ∃ n, n = bs.length := ⟨_, rfl⟩
  have hnle := hg.le
  have hgo := Lib.hid hg
  obtain ⟨ga, gc, rfl⟩ := hg.form
  rw [← hn] at hg hnle hgo ⊢
  have hnle' : (n : Int) ≤ 9223372036854775807 := by omega
  replace hE := Lib.hid hE
  replace hEX := Lib.hid hEX
  replace hn := Lib.hid hn
  replace hg := Lib.hid hg
  by_cases hbig : 2000 < n
  · have hbig' : (2000 : Int) < (n : Int) := by omega
    go_enter Tryz.func7, Tryz.ntmps7
    (go_wp2_with fail; repeat (any_goals (go_quiet (fail); go_wp2_with fail)))
    refine (L.out _ (hE.out.next (by repeat (first | assumption | exact Below.refl _ _ | apply Below.drew | apply below_drewN | apply balloc | (refine Below.setCell ?_ (by first | omega | (simp <;> omega)) _)))).env).mono ?_
    rintro e w1 ⟨rfl, hb⟩
    have hb1 : Below w.heap.size w w1 := bcall (by repeat (first | assumption | exact Below.refl _ _ | apply Below.drew | apply below_drewN | apply balloc | (refine Below.setCell ?_ (by first | omega | (simp <;> omega)) _))) hb
    clear hb
    (go_wp2_with fail; repeat (any_goals (go_quiet (fail); go_wp2_with fail)))
    go_ret
    exact ⟨rfl, hb1⟩
  have hbig' : ¬ (2000 : Int) < (n : Int) := by omega
  go_enter Tryz.func7, Tryz.ntmps7
  (go_wp2_with fail; repeat (any_goals (go_quiet (fail); go_wp2_with fail)))
  refine (L.out _ (hE.out.next (by repeat (first | assumption | exact Below.refl _ _ | apply Below.drew | apply below_drewN | apply balloc | (refine Below.setCell ?_ (by first | omega | (simp <;> omega)) _)))).env).mono ?_
  rintro e w1 ⟨rfl, hb⟩
  have hb1 : Below w.heap.size w w1 := bcall (by repeat (first | assumption | exact Below.refl _ _ | apply Below.drew | apply below_drewN | apply balloc | (refine Below.setCell ?_ (by first | omega | (simp <;> omega)) _))) hb
  clear hb
  go_upto_region 4 with fail
  go_cut [6] (fun v wx => ∃ g cap, v = .slice (some ⟨g, 0, none⟩) n cap ∧ n + 1 ≤ cap ∧ Hid (wx.ownsRow w.heap.size 9 1 (.slice (some ⟨g, 0, none⟩) (n + 1) cap) (n + 1) (bs.map (fun b => .string b) ++ [.string ⟨#[115, 112, 97, 114, 101]⟩])) ∧ Below w.heap.size w wx)
  case first =>
    have hsz1 := hb1.size
    have hbs : bs.length = n := hn.out.symm
    have honeS : ∀ u ∈ bs.map (fun b => Value.string b), u.oneCell' = true := fun u hu => by
      obtain ⟨b, _, rfl⟩ := List.mem_map.1 hu
      rfl
    have hone1 : ∀ u ∈ [Value.string ⟨#[115, 112, 97, 114, 101]⟩], u.oneCell' = true := by simp [Value.oneCell']
    cases ga with
    | none =>
      have hn0 : n = 0 := by
        rcases hg.out with ⟨h, _⟩ | ⟨b, off, c2, h, _⟩
        · rw [← hbs, h]; rfl
        · cases h
      subst hn0
      have hbn : bs = [] := List.eq_nil_of_length_eq_zero hbs
      have hlen1 : 0 + 1 ≤ 2097152 := by decide
      have hnX : w.heap.size ≤ ((w1.alloc (.cells #[] 9 (0, 0))).alloc (.cells #[.string ⟨#[115, 112, 97, 114, 101]⟩] 9 (0, 0))).heap.size := by simp; omega
      have hrX := (row_empty w1 _ hsz1).alloc (.cells #[.string ⟨#[115, 112, 97, 114, 101]⟩] 9 (0, 0))
      have hXX := new2 w1 (.cells #[] 9 (0, 0)) (.cells #[.string ⟨#[115, 112, 97, 114, 101]⟩] 9 (0, 0))
      go_wp2_with (at_builtin; refine app_row rfl _ _ 30 9 1 16 (.string ⟨#[]⟩) infoS18 rfl (by decide) (by decide) Tryz.underlying30 rfl w.heap.size (.slice (some ⟨w1.heap.size, 0, none⟩) 0 0) 0 [] rfl hrX (w1.heap.size + 1) 1 [.string ⟨#[115, 112, 97, 114, 101]⟩] _ _ rfl hXX rfl rfl hlen1 hnX hone1 ?_)
      intro v2 w3 hr3 hg3 ho3
      have hB3 : Below w.heap.size w w3 := Below.grown (balloc (balloc hb1)) hg3 hnX (fun k e => (hrX.lt k e).1)
      subst hbn
      replace hr3 : w3.ownsRow w.heap.size 9 1 v2 (0 + 1) (([] : List ByteArray).map (fun b => Value.string b) ++ [.string ⟨#[115, 112, 97, 114, 101]⟩]) := hr3
      clear hg3 ho3
      obtain ⟨g, cap, rfl, hge, hlt, hcp, hcm⟩ : ∃ g cap, v2 = .slice (some ⟨g, 0, none⟩) (0 + 1) cap ∧ w.heap.size ≤ g ∧ g < w3.heap.size ∧ 0 + 1 ≤ cap ∧ cap ≤ maxLen := by
        rcases rowForm2 hr3 with ⟨h, _⟩ | ⟨g, cap, h⟩
        · omega
        · exact ⟨g, cap, h⟩
      unfold maxLen at hcm
      have hcI : (0 : Int) ≤ (cap : Int) := by omega
      replace hr3 := Lib.hid hr3
      go_wp2_with fail
      go_meet
      exact ⟨g, cap, rfl, hcp, hr3, hB3⟩
    | some ad =>
      have hsrc : ∀ W, Below w.heap.size w W → ∀ j u, (bs.map (fun b => Value.string b))[j]? = some u → W.cell? (ad.add j) = some u := fun W hW j u hj => by
        rw [List.getElem?_map] at hj
        obtain ⟨b, hb, rfl⟩ := Option.map_eq_some_iff.1 hj
        rcases hg.out with ⟨h, _⟩ | ⟨b', off, c2, h1, _, _, h4, h5, _⟩
        · rw [h] at hb; simp at hb
        · cases h1
          have h6 : (⟨b', off, none⟩ : Addr).add j = ⟨b', off + j, none⟩ := by
            simp only [Addr.add]
            split
            · rename_i h
              subst h
              rfl
            · rfl
          rw [h6]
          exact (hW.cell (p := ⟨b', off + j, none⟩) h4).trans (h5 j b hb)
      go_wp2_with (at_builtin; refine app_strs rfl _ _ rfl w.heap.size _ 0 [] rfl (row_empty w1 _ hsz1) ad n gc (bs.map (fun b => Value.string b)) rfl (by rw [List.length_map]; exact hbs) (hsrc _ (balloc hb1)) (by omega) (by simp; omega) honeS ?_)
      intro v1 w2 hr1 hg1
      have hr2 := Lib.hid (show w2.ownsRow w.heap.size 9 1 v1 n (bs.map (fun b => Value.string b)) by simpa using hr1)
      have hB2 : Below w.heap.size w w2 := Below.grown (balloc hb1) hg1 (by simp; omega) (fun k e => ((row_empty w1 _ hsz1).lt k e).1)
      have hsz2 := hB2.size
      clear hr1 hg1 hsrc
      go_wp2_with (at_builtin; refine app_row rfl _ _ 30 9 1 16 (.string ⟨#[]⟩) infoS18 rfl (by decide) (by decide) Tryz.underlying30 rfl w.heap.size v1 n _ rfl (hr2.out.alloc _) w2.heap.size 1 [.string ⟨#[115, 112, 97, 114, 101]⟩] _ _ rfl (heap_alloc_new w2 _) rfl rfl (by omega) (by simp; omega) hone1 ?_)
      intro v2 w3 hr3 hg3 ho3
      have hB3 : Below w.heap.size w w3 := Below.grown (balloc hB2) hg3 (by simp; omega) (fun k e => (hr2.out.lt k e).1)
      clear hg3 ho3
      obtain ⟨g, cap, rfl, hge, hlt, hcp, hcm⟩ : ∃ g cap, v2 = .slice (some ⟨g, 0, none⟩) (n + 1) cap ∧ w.heap.size ≤ g ∧ g < w3.heap.size ∧ n + 1 ≤ cap ∧ cap ≤ maxLen := by
        rcases rowForm2 hr3 with ⟨h, _⟩ | ⟨g, cap, h⟩
        · omega
        · exact ⟨g, cap, h⟩
      unfold maxLen at hcm
      have hcI : (n : Int) ≤ (cap : Int) := by omega
      have hcI2 : (0 : Int) ≤ (n : Int) := by omega
      replace hr3 := Lib.hid hr3
      go_wp2_with fail
      go_meet
      exact ⟨g, cap, rfl, hcp, hr3, hB3⟩
  case rest =>
    obtain ⟨g, cap, rfl, hcap, hrow, hb2⟩ := hcut
    have hbs : bs.length = n := hn.out.symm
    have hcm : cap ≤ 9223372036854775807 := by
      rcases rowForm2 hrow.out with ⟨h, _⟩ | ⟨g', cap', h, _, _, _, h2⟩
      · omega
      · cases h; exact h2
    have hMC : Hid (∀ W, Below wc.heap.size wc W → ∀ j b, bs[j]? = some b → W.cell? ⟨g, j, none⟩ = some (.string b)) := Lib.hid (fun W hW j b hj => cell_b (rowCells hrow.out (by
      rw [List.getElem?_append_left (by rw [List.length_map]; exact (List.getElem?_eq_some_iff.1 hj).1), List.getElem?_map, hj]
      rfl)) hW)
    have hSP : Hid (∀ W, Below wc.heap.size wc W → W.cell? ⟨g, n, none⟩ = some (.string ⟨#[115, 112, 97, 114, 101]⟩)) := Lib.hid (fun W hW => cell_b (rowCells hrow.out (by
      rw [List.getElem?_append_right (by rw [List.length_map]; omega), List.length_map, hbs, Nat.sub_self]
      rfl)) hW)
    have hmine : Hid (StrsAt wc (.slice (some ⟨g, 0, none⟩) n cap) bs) := Lib.hid (Or.inr ⟨g, 0, cap, by rw [hbs], by omega, hcm, (hrow.out.lt g rfl).2, fun i z hz => by rw [Nat.zero_add]; exact hMC.out wc (Below.refl _ _) i z hz, fun z hz => by have := hkl z hz; unfold maxLen; omega⟩)
    have hpath : Hid (∀ W, Below w.heap.size w W → StrsAt W (.slice ga n gc) bs) := Lib.hid (fun W hW => hgo.out.next hW)
    cases hP : parseS s with
    | out =>
      exfalso
      unfold parseS at hP
      split at hP
      · have := pP_fits s (someS s).1
        rw [hP] at this
        exact this
      · cases hP
    | err k pl =>
      have hk := parse_k hP
      have FE := Lib.hid (fun w hE => Find_err (A := A) (B := B) s (some ⟨g, 0, none⟩) n cap w hE (by omega) hP)
      have RE := Lib.hid (fun w => rFind_err s ga n gc w hs hP)
      have hk1 : ((k : Int) == 0) = false := by simp; omega
      have hk2 : ¬ (k : Int) = 0 := by omega
      replace hP := Lib.hid hP
      replace hk := Lib.hid hk
      go_wp2_with fail
      refine (FE.out _ (hE.out.next hb2).env).mono ?_
      rintro e w3 ⟨⟨g1, hg1, rfl, hat⟩, hb⟩
      have hb3 : Below w.heap.size w w3 := bcall hb2 hb
      have hc3 : Below wc.heap.size wc w3 := hb
      replace hat := Lib.hid hat
      clear hb
      go_wp2_with fail
      refine (RE.out _).mono ?_
      rintro e w4 ⟨rfl, hb⟩
      have hb4 : Below w.heap.size w w4 := bcall hb3 hb
      have hc4 : Below wc.heap.size wc w4 := bcall hc3 hb
      replace hat := Lib.hid (show AtB _ _ g1 w4 from box_next hat.out hb)
      clear hb
      go_wp2_with fail
      have hcW : Below wc.heap.size wc (w4.alloc (.cells #[.int .i64 0, .int .i64 0, .bool false, .string ⟨#[]⟩, .slice none 0 0, .slice none 0 0, .slice none 0 0] 33 (0, 0))) := balloc hc4
      have hbW : Below w.heap.size w (w4.alloc (.cells #[.int .i64 0, .int .i64 0, .bool false, .string ⟨#[]⟩, .slice none 0 0, .slice none 0 0, .slice none 0 0] 33 (0, 0))) := balloc hb4
      replace hat := Lib.hid (show AtB _ _ g1 (w4.alloc (.cells #[.int .i64 0, .int .i64 0, .bool false, .string ⟨#[]⟩, .slice none 0 0, .slice none 0 0, .slice none 0 0] 33 (0, 0))) from al_keepA hat.out)
      generalize w4.alloc (.cells #[.int .i64 0, .int .i64 0, .bool false, .string ⟨#[]⟩, .slice none 0 0, .slice none 0 0, .slice none 0 0] 33 (0, 0)) = W0 at hcW hbW hat ⊢
      go_loopw [47, 5] (fun v47 v5 wr => ∃ j : Nat, j ≤ n ∧ v47 = .int .i64 (j : Int) ∧ v5 = .bool true ∧ Below W0.heap.size W0 wr) (fun v _ _ => n - (intOf v).toNat)
      case atStart => exact ⟨0, Nat.zero_le _, rfl, rfl, Below.refl _ _⟩
      case round =>
        obtain ⟨j, hj, rfl, rfl, hBj⟩ := hrel
        have hcj : Below wc.heap.size wc wr := bcall hcW hBj
        have hbj : Below w.heap.size w wr := bcall hbW hBj
        by_cases hjn : j < n
        · have hjI : (j : Int) < (n : Int) := by omega
          obtain ⟨b, hbk⟩ : ∃ b, bs[j]? = some b := ⟨bs[j]'(by rw [hbs]; exact hjn), List.getElem?_eq_getElem _⟩
          have mc := hMC.out wr hcj j b hbk
          obtain ⟨gb, off, rfl, pc⟩ : ∃ b' off, ga = some ⟨b', off, none⟩ ∧ wr.cell? ⟨b', off + j, none⟩ = some (.string b) := by
            rcases hg.out with ⟨h, _⟩ | ⟨b', off, c2, h1, _, _, h4, h5, h6⟩
            · rw [h] at hbk; simp at hbk
            · injection h1 with e1 e2 e3
              exact ⟨b', off, e1, (hbj.cell (p := ⟨b', off + j, none⟩) h4).trans (h5 _ b hbk)⟩
          replace hbk := Lib.hid hbk
          go_wp2_with fail
          go_region
          go_wp2_with fail
          go_roundw
          case measure => simp [intOf]; omega
          case rel => exact ⟨j + 1, by omega, by go_num, rfl, (by repeat (first | assumption | exact Below.refl _ _ | apply Below.drew | apply below_drewN | apply balloc | (refine Below.setCell ?_ (by first | omega | (simp <;> omega)) _)))⟩
        · obtain rfl : n = j := by omega
          have hjI : ¬ (n : Int) < (n : Int) := by omega
          have sc := hSP.out wr hcj
          have hcI : (n : Int) + 1 ≤ (cap : Int) := by omega
          have hcI2 : (cap : Int) ≤ 9223372036854775807 := by omega
          replace hat := Lib.hid (show AtB _ _ g1 wr from box_next hat.out hBj)
          go_wp2_with fail
          refine (at_err k pl g1 _ (hE.out.next hbj) hk.out.1 hk.out.2 hat.out).mono ?_
          rintro e w5 ⟨rfl, hb⟩
          have hb5 : Below w.heap.size w w5 := bcall hbj hb
          clear hb
          go_wp2_with fail
          go_ret
          exact ⟨rfl, hb5⟩
    | ok x q =>
      have FE := Lib.hid (Find_calls (A := A) (B := B) s (.slice (some ⟨g, 0, none⟩) n cap) bs wc (hEX.out.next hb2) (by omega) hmine.out hkl hP)
      have RE := Lib.hid (fun w hg => rFind_calls s (.slice ga n gc) bs w hs hg hkl hP)
      have PK := Lib.hid (fun k p h => path_k bs x (k := k) (p := p) h)
      have PO := Lib.hid (path_in bs x)
      generalize pathN x bs = R at FE RE PK PO
      replace hP := Lib.hid hP
      cases R with
      | out =>
        exact absurd rfl PO.out
      | err k pl =>
        have hk := Lib.hid (PK.out k pl rfl)
        have hk0 := hk.out.1
        have hk1 : ((k : Int) == 0) = false := by simp; omega
        have hk2 : ¬ (k : Int) = 0 := by omega
        have hk3 : ((k : Int) == (k : Int)) = true := by simp
        go_wp2_with fail
        refine FE.out.mono ?_
        rintro e w3 ⟨he, hb⟩
        obtain rfl : e = _ := he
        have hb3 : Below w.heap.size w w3 := bcall hb2 hb
        have hc3 : Below wc.heap.size wc w3 := hb
        clear hb
        go_wp2_with fail
        refine (RE.out _ (hpath.out _ hb3)).mono ?_
        rintro e w4 ⟨he, hb⟩
        obtain rfl : e = _ := he
        have hb4 : Below w.heap.size w w4 := bcall hb3 hb
        have hc4 : Below wc.heap.size wc w4 := bcall hc3 hb
        clear hb
        go_wp2_with fail
        have hcW : Below wc.heap.size wc (w4.alloc (.cells #[.int .i64 0, .int .i64 0, .bool false, .string ⟨#[]⟩, .slice none 0 0, .slice none 0 0, .slice none 0 0] 33 (0, 0))) := balloc hc4
        have hbW : Below w.heap.size w (w4.alloc (.cells #[.int .i64 0, .int .i64 0, .bool false, .string ⟨#[]⟩, .slice none 0 0, .slice none 0 0, .slice none 0 0] 33 (0, 0))) := balloc hb4
        generalize w4.alloc (.cells #[.int .i64 0, .int .i64 0, .bool false, .string ⟨#[]⟩, .slice none 0 0, .slice none 0 0, .slice none 0 0] 33 (0, 0)) = W0 at hcW hbW ⊢
        go_loopw [47, 5] (fun v47 v5 wr => ∃ j : Nat, j ≤ n ∧ v47 = .int .i64 (j : Int) ∧ v5 = .bool true ∧ Below W0.heap.size W0 wr) (fun v _ _ => n - (intOf v).toNat)
        case atStart => exact ⟨0, Nat.zero_le _, rfl, rfl, Below.refl _ _⟩
        case round =>
          obtain ⟨j, hj, rfl, rfl, hBj⟩ := hrel
          have hcj : Below wc.heap.size wc wr := bcall hcW hBj
          have hbj : Below w.heap.size w wr := bcall hbW hBj
          by_cases hjn : j < n
          · have hjI : (j : Int) < (n : Int) := by omega
            obtain ⟨b, hbk⟩ : ∃ b, bs[j]? = some b := ⟨bs[j]'(by rw [hbs]; exact hjn), List.getElem?_eq_getElem _⟩
            have mc := hMC.out wr hcj j b hbk
            obtain ⟨gb, off, rfl, pc⟩ : ∃ b' off, ga = some ⟨b', off, none⟩ ∧ wr.cell? ⟨b', off + j, none⟩ = some (.string b) := by
              rcases hg.out with ⟨h, _⟩ | ⟨b', off, c2, h1, _, _, h4, h5, h6⟩
              · rw [h] at hbk; simp at hbk
              · injection h1 with e1 e2 e3
                exact ⟨b', off, e1, (hbj.cell (p := ⟨b', off + j, none⟩) h4).trans (h5 _ b hbk)⟩
            replace hbk := Lib.hid hbk
            go_wp2_with fail
            go_region
            go_wp2_with fail
            go_roundw
            case measure => simp [intOf]; omega
            case rel => exact ⟨j + 1, by omega, by go_num, rfl, (by repeat (first | assumption | exact Below.refl _ _ | apply Below.drew | apply below_drewN | apply balloc | (refine Below.setCell ?_ (by first | omega | (simp <;> omega)) _)))⟩
          · obtain rfl : n = j := by omega
            have hjI : ¬ (n : Int) < (n : Int) := by omega
            have sc := hSP.out wr hcj
            have hcI : (n : Int) + 1 ≤ (cap : Int) := by omega
            have hcI2 : (cap : Int) ≤ 9223372036854775807 := by omega
            go_wp2_with fail
            refine (Num_err k _ hk.out.1 hk.out.2 (hE.out.next hbj).env).mono ?_
            rintro e w5 ⟨rfl, hb⟩
            have hb5 : Below w.heap.size w w5 := bcall hbj hb
            clear hb
            go_wp2_with fail
            go_ret
            exact ⟨rfl, hb5⟩
      | ok y q' =>
        go_wp2_with fail
        refine FE.out.mono ?_
        rintro e w3 ⟨he, hb⟩
        obtain ⟨u1, rfl, hN1⟩ := he
        have hb3 : Below w.heap.size w w3 := bcall hb2 hb
        have hc3 : Below wc.heap.size wc w3 := hb
        have hz3 : wc.heap.size ≤ w3.heap.size := hb.size
        clear hb
        obtain ⟨ut1, ua1, rfl⟩ := hN1.form
        replace hN1 := Lib.hid hN1
        go_wp2_with fail
        refine (RE.out _ (hpath.out _ hb3)).mono ?_
        rintro e w4 ⟨he, hb⟩
        obtain ⟨c, rfl, hN3⟩ := he
        have hb4 : Below w.heap.size w w4 := bcall hb3 hb
        have hc4 : Below wc.heap.size wc w4 := bcall hc3 hb
        have hz4 : w3.heap.size ≤ w4.heap.size := hb.size
        replace hN1 := Lib.hid (hN1.out.keep fun k _ h => hb.block k h)
        clear hb
        have I1 := Lib.hid (is_calls hN1.out hN3)
        obtain ⟨m, p, f, t, vi, vk, vp, rfl, ⟨a1, n1, c1, rfl⟩, ⟨a2, n2, c2, rfl⟩, ⟨a3, n3, c3, rfl⟩⟩ := hN3.form
        unfold IsC at I1
        rw [rdC_arr] at I1
        rw [rdC_arr]
        clear hN1 hN3 PK
        go_wp2_with fail
        have hcW : Below wc.heap.size wc (w4.alloc (.cells #[.int .i64 (m : Int), .int .i64 (p : Int), .bool f, .string t, .slice a1 n1 c1, .slice a2 n2 c2, .slice a3 n3 c3] 33 (0, 0))) := balloc hc4
        have hbW : Below w.heap.size w (w4.alloc (.cells #[.int .i64 (m : Int), .int .i64 (p : Int), .bool f, .string t, .slice a1 n1 c1, .slice a2 n2 c2, .slice a3 n3 c3] 33 (0, 0))) := balloc hb4
        have hxW : Below w4.heap.size w4 (w4.alloc (.cells #[.int .i64 (m : Int), .int .i64 (p : Int), .bool f, .string t, .slice a1 n1 c1, .slice a2 n2 c2, .slice a3 n3 c3] 33 (0, 0))) := balloc (Below.refl _ _)
        have hX := Lib.hid (heap_alloc_new w4 (.cells #[.int .i64 (m : Int), .int .i64 (p : Int), .bool f, .string t, .slice a1 n1 c1, .slice a2 n2 c2, .slice a3 n3 c3] 33 (0, 0)))
        generalize w4.alloc (.cells #[.int .i64 (m : Int), .int .i64 (p : Int), .bool f, .string t, .slice a1 n1 c1, .slice a2 n2 c2, .slice a3 n3 c3] 33 (0, 0)) = W0 at hcW hbW hxW hX ⊢
        go_loopw [47, 5] (fun v47 v5 wr => ∃ j : Nat, j ≤ n ∧ v47 = .int .i64 (j : Int) ∧ v5 = .bool true ∧ Below W0.heap.size W0 wr) (fun v _ _ => n - (intOf v).toNat)
        case atStart => exact ⟨0, Nat.zero_le _, rfl, rfl, Below.refl _ _⟩
        case round =>
          obtain ⟨j, hj, rfl, rfl, hBj⟩ := hrel
          have hcj : Below wc.heap.size wc wr := bcall hcW hBj
          have hbj : Below w.heap.size w wr := bcall hbW hBj
          by_cases hjn : j < n
          · have hjI : (j : Int) < (n : Int) := by omega
            obtain ⟨b, hbk⟩ : ∃ b, bs[j]? = some b := ⟨bs[j]'(by rw [hbs]; exact hjn), List.getElem?_eq_getElem _⟩
            have mc := hMC.out wr hcj j b hbk
            obtain ⟨gb, off, rfl, pc⟩ : ∃ b' off, ga = some ⟨b', off, none⟩ ∧ wr.cell? ⟨b', off + j, none⟩ = some (.string b) := by
              rcases hg.out with ⟨h, _⟩ | ⟨b', off, c2, h1, _, _, h4, h5, h6⟩
              · rw [h] at hbk; simp at hbk
              · injection h1 with e1 e2 e3
                exact ⟨b', off, e1, (hbj.cell (p := ⟨b', off + j, none⟩) h4).trans (h5 _ b hbk)⟩
            replace hbk := Lib.hid hbk
            go_wp2_with fail
            go_region
            go_wp2_with fail
            go_roundw
            case measure => simp [intOf]; omega
            case rel => exact ⟨j + 1, by omega, by go_num, rfl, (by repeat (first | assumption | exact Below.refl _ _ | apply Below.drew | apply below_drewN | apply balloc | (refine Below.setCell ?_ (by first | omega | (simp <;> omega)) _)))⟩
          · obtain rfl : n = j := by omega
            have hjI : ¬ (n : Int) < (n : Int) := by omega
            have sc := hSP.out wr hcj
            have hcI : (n : Int) + 1 ≤ (cap : Int) := by omega
            have hcI2 : (cap : Int) ≤ 9223372036854775807 := by omega
            have hxj : Hid (Below w4.heap.size w4 wr) := Lib.hid (bcall hxW hBj)
            have hXj := box_next hX.out hBj
            have yc0 := cellB hXj 0 rfl
            have yc1 := cellB hXj 1 rfl
            have yc2 := cellB hXj 2 rfl
            have yc3 := cellB hXj 3 rfl
            have yc4 := cellB hXj 4 rfl
            have yc5 := cellB hXj 5 rfl
            have yc6 := cellB hXj 6 rfl
            have yf0 := freeB hXj 0
            have yf1 := freeB hXj 1
            have yf2 := freeB hXj 2
            have yf3 := freeB hXj 3
            have yf4 := freeB hXj 4
            have yf5 := freeB hXj 5
            have yf6 := freeB hXj 6
            clear yf0 yf1 yf2 yf3 yf4 yf5 yf6
            go_wp2_with fail
            have hzj := hxj.out.size
            refine (I1.out _ (fun k _ h => hxj.out.block k (by omega)) (fun k _ h => hxj.out.block k h) (by omega) (by omega)).mono ?_
            rintro e w5 ⟨rfl, hb⟩
            have hb5 : Below w.heap.size w w5 := bcall hbj hb
            clear hb
            go_wp2_with fail
            go_ret
            exact ⟨rfl, hb5⟩

end Go.Proofs.YtibopkodoidjoaaGreatDoor

/- A list of texts that came in, with the bound on its bulk. -/
namespace Go.Proofs.YtibopkodoidjoaaGreatDoor
open Go Go.RowKit Go.WideShapes Go.ChangeShapes Go.ChangeAt

theorem bulk_strs {H : Type} : ∀ (ss : List ByteArray), ∀ s ∈ ss, s.size ≤ Rows.uptoBulkAll (strs (H := H) ss)
  | [], s, h => by cases h
  | b :: r, s, h => by
    have e : Rows.uptoBulkAll (strs (H := H) (b :: r)) = b.data.toList.length + 1 + Rows.uptoBulkAll (strs (H := H) r) := by
      show Rows.uptoBulkAll (DataW.lit (.string b.data.toList) :: strs (H := H) r) = _
      rw [Rows.uptoBulkAll, Rows.uptoBulk]
    have e2 : b.data.toList.length = b.size := by rw [Array.length_toList]; rfl
    rcases List.mem_cons.1 h with rfl | h
    · omega
    · have := bulk_strs (H := H) r s h
      omega
set_option maxRecDepth 100000 in
theorem strs_up {H : Type} {enc : TypeId × Value → H} {W : World} {base : Nat} {v : Value} {d : DataW H} {ps : List MemPlace} (hval : Value.okWide Tryz.prog W .any base 30 v) (h : DataW.Trod enc Tryz.prog W 0 (fun _ => true) true 30 v d ps) : ∃ bs, StrsAt W v bs ∧ ∀ b ∈ bs, b.size ≤ Rows.uptoBulk d := by
  obtain ⟨fuel, hf⟩ := h
  obtain ⟨a0, len, cap, rfl⟩ := okWide_slice Tryz.underlying30 hval
  rcases open_strings Tryz.underlying30 Tryz.underlying9 cells_str hf with ⟨hcs, hx⟩ | ⟨a, len', cap', ss, hcs, _, hl, hm, hz, hx, hcell, hwz⟩
  · simp [Value.cells] at hcs
    obtain ⟨rfl, rfl, rfl⟩ := hcs
    exact ⟨[], Or.inl ⟨rfl, _, _, rfl⟩, fun b h => by cases h⟩
  · simp [Value.cells] at hcs
    obtain ⟨rfl, rfl, rfl⟩ := hcs
    simp only [if_true] at hz
    by_cases h0 : len = 0
    · subst h0
      exact ⟨[], Or.inl ⟨rfl, _, _, rfl⟩, fun b h => by cases h⟩
    · obtain ⟨b, off, spot⟩ := a
      have hspot : spot = none := by simpa [Addr.add] using World.cell?_spot (hcell 0 (by omega))
      subst hspot
      have hlt := World.block_lt_of_cell? W _ (hcell 0 (by omega))
      have hlen : (ss.take len).length = len := by rw [List.length_take]; omega
      refine ⟨ss.take len, Or.inr ⟨b, off, cap, by rw [hlen], by rw [hlen]; exact hl, hm, by simpa [Addr.add] using hlt, fun i z hi => ?_, fun s hs => hwz s (List.mem_of_mem_take hs)⟩, fun s hs => ?_⟩
      rotate_left
      · obtain rfl : d = .slice (strs (ss.take len)) (strs (ss.drop len)) := congrArg Prod.fst hx
        have := bulk_strs (H := H) (ss.take len) s hs
        rw [Rows.uptoBulk]
        omega
      have hil : i < len := by
        rcases Nat.lt_or_ge i (ss.take len).length with h | h
        · omega
        · rw [List.getElem?_eq_none h] at hi; cases hi
      rw [List.getElem?_take_of_lt hil] at hi
      have := hcell i (by omega)
      have e : (⟨b, off, none⟩ : Addr).add i = ⟨b, off + i, none⟩ := by simp only [Addr.add]; split <;> simp_all
      rw [e] at this
      rw [this]
      simp [List.getD, hi]

end Go.Proofs.YtibopkodoidjoaaGreatDoor
