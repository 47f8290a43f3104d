/- Lemmas of the proof, put together: Tree2, Rd1, Tree3, Tree4, Rd2, Rd3, Rd4, Rd5, Tree5, Rd6, Rd7, Rd8. -/
import Derived.Test.YtibopkodoidjoaaGreatDoorM4
import Derived.RegionDies
import Derived.Great.Walk
import Derived.Laws.Rows
import Derived.BigRegion

/- Package tree: the parser takes a token. -/
namespace Go.Proofs.YtibopkodoidjoaaGreatDoor
open Go Go.RowKit

theorem PsB.set {s : ByteArray} {v : Value} {p q b : Nat} {w : World} (h : PsB s v p b w) : PsB s v q b (w.setCell ⟨b, 2, none⟩ (.int .i64 (q : Int))) := by
  unfold PsB at h ⊢
  rw [Lib.heap_setCell_same (i := 2) h]
  rfl
theorem PsB.setOther {s : ByteArray} {v : Value} {p b c : Nat} {w : World} (h : PsB s v p b w) (hc : b ≠ c) (i : Nat) (u : Value) : PsB s v p b (w.setCell ⟨c, i, none⟩ u) := by
  unfold PsB at h ⊢
  rw [Below.heap_setCell _ _ _ _ (fun e => hc (by first | exact e | exact e.symm)), h]
theorem _root_.Go.World.grownBy.setNew {a w : World} {b : Nat} (h : a.grownBy w (some b)) {c : Nat} (hc : a.heap.size ≤ c) (i : Nat) (u : Value) : a.grownBy (w.setCell ⟨c, i, none⟩ u) (some b) := by
  have hs := grown_set w c i u
  refine ⟨hs.os.trans h.os, hs.tape.trans h.tape, hs.output.trans h.output, Nat.le_trans h.size hs.size, fun k hk hr => ?_⟩
  rw [hs.block k (Nat.lt_of_lt_of_le hk h.size) (fun e => by cases e; omega), h.block k hk hr]
theorem OwnT.grown {w w' : World} {base b : Nat} {v : Value} {ts : List Tk} (h : OwnT w base v ts) (hg : w.grownBy w' (some b)) (hb : b ∉ v.ownBlock) : OwnT w' base v ts :=
  World.ownsRow.kept h hg (by
    rcases h.form with ⟨rfl, rfl⟩ | ⟨g, cap, rfl, _⟩
    · exact Or.inl rfl
    · exact Or.inr (fun e => hb (by cases e; rfl)))
set_option maxHeartbeats 1000000 in
set_option maxRecDepth 100000 in
theorem take_bad {A : Nat → Addr} {B base : Nat} {v : Value} {ts : List Tk} (s : ByteArray) (k p b : Nat) (w : World) (hE : Env A B SVN w) (hp : p ≤ ts.length) (hsc : PsB s v p b w) (ho : OwnT w base v ts) (hk : kindT ts p ≠ k) :
    Calls Tryz.prog 58 #[.pointer (some ⟨b, 0, none⟩), .int .i64 (k : Int)] w fun e w' => GaveUp A w.heap.size 2 (placeT s ts p) e w' ∧ Below w.heap.size w w' := by
  have N := Lib.hid (fun w hsc ho => tnext_calls (base := base) (v := v) (ts := ts) s p b w hp hsc ho)
  have Pl := Lib.hid (fun w hsc ho => tplace_calls (base := base) (v := v) (ts := ts) s p b w hp hsc ho)
  have F := Lib.hid (fun n w => fail_calls A 2 n w)
  replace hsc := Lib.hid hsc
  replace ho := Lib.hid ho
  replace hE := Lib.hid hE
  have hne : ((kindT ts p : Int) == (k : Int)) = false := by simp; omega
  have hne' : ¬ (kindT ts p : Int) = (k : Int) := by omega
  replace hk := Lib.hid hk
  generalize kindT ts p = K at *
  go_enter Tryz.func58, Tryz.ntmps58
  (go_wp2_with fail; repeat (any_goals (go_quiet (fail); go_wp2_with fail)))
  refine (N.out _ (hsc.out.next (by repeat (first | assumption | exact Below.refl _ _ | apply Below.drew | apply below_drewN | apply balloc | (refine Below.setCell ?_ (by first | omega | (simp <;> omega)) _)))) (ho.out.next (by repeat (first | assumption | exact Below.refl _ _ | apply Below.drew | apply below_drewN | apply balloc | (refine Below.setCell ?_ (by first | omega | (simp <;> omega)) _))))).mono ?_
  rintro e w1 ⟨rfl, hb⟩
  have hb1 : Below w.heap.size w w1 := bcall (by repeat (first | assumption | exact Below.refl _ _ | apply Below.drew | apply below_drewN | apply balloc | (refine Below.setCell ?_ (by first | omega | (simp <;> omega)) _))) hb
  clear hb
  (go_wp2_with fail; repeat (any_goals (go_quiet (fail); go_wp2_with fail)))
  have x0 := (hE.out.next hb1).e2
  go_region_dies
  all_goals
    refine (Pl.out _ (hsc.out.next (by repeat (first | assumption | exact Below.refl _ _ | apply Below.drew | apply below_drewN | apply balloc | (refine Below.setCell ?_ (by first | omega | (simp <;> omega)) _)))) (ho.out.next (by repeat (first | assumption | exact Below.refl _ _ | apply Below.drew | apply below_drewN | apply balloc | (refine Below.setCell ?_ (by first | omega | (simp <;> omega)) _))))).mono ?_
    rintro e w2 ⟨rfl, hb⟩
    have hb2 : Below w.heap.size w w2 := bcall (by repeat (first | assumption | exact Below.refl _ _ | apply Below.drew | apply below_drewN | apply balloc | (refine Below.setCell ?_ (by first | omega | (simp <;> omega)) _))) hb
    clear hb
    have x1 := (hE.out.next hb2).e2
    rename_i K9 hK9
    refine hK9 _ _ ?_
    clear hK9 K9
  · (refine wpAny_ready (rs := [2]) (by kernel_rfl) (by simp) ?_; refine AllReady.cons rfl (fun K hK => ?_) AllReady.nil; go_simp)
    refine hK _ _ ?_
    clear hK K
    (refine wpAny_ready (rs := [3]) (by kernel_rfl) (by simp) ?_; refine AllReady.cons rfl (fun K hK => ?_) AllReady.nil; go_simp)
    refine (F.out _ _).mono ?_
    rintro e w8 ⟨⟨g, hg, rfl, hat⟩, hb⟩
    have hz := hb2.size
    exact ⟨rfl, ⟨g, by omega, rfl, hat⟩, bcall hb2 hb⟩
  · (refine wpAny_ready (rs := [3]) (by kernel_rfl) (by simp) ?_; refine AllReady.cons rfl (fun K hK => ?_) AllReady.nil; go_simp)
    refine (F.out _ _).mono ?_
    rintro e w8 ⟨⟨g, hg, rfl, hat⟩, hb⟩
    have hz := hb2.size
    exact ⟨rfl, ⟨g, by omega, rfl, hat⟩, bcall hb2 hb⟩
set_option maxHeartbeats 1000000 in
set_option maxRecDepth 100000 in
theorem take_ok {base : Nat} {v : Value} {ts : List Tk} {T : Tk} (s : ByteArray) (k p b : Nat) (w : World) (hT : ts[p]? = some T) (hsc : PsB s v p b w) (ho : OwnT w base v ts) (hbn : b ∉ v.ownBlock) (hk : T.kind = k) :
    Calls Tryz.prog 58 #[.pointer (some ⟨b, 0, none⟩), .int .i64 (k : Int)] w fun e w' => e = .returned (tkV T) ∧ PsB s v (p + 1) b w' ∧ w.grownBy w' (some b) := by
  have hpl : p < ts.length := (List.getElem?_eq_some_iff.1 hT).1
  have N := Lib.hid (fun w hsc ho => tnext_calls (base := base) (v := v) (ts := ts) s p b w (Nat.le_of_lt hpl) hsc ho)
  have hkT : kindT ts p = k := by unfold kindT; rw [hT]; exact hk
  rw [hkT] at N
  rcases ho.form with ⟨rfl, rfl⟩ | ⟨g, cap, rfl, hbg, hgl, hnl, hcm⟩
  · simp at hpl
  unfold tkV
  rw [hk]
  have hgb : g ≠ b := fun e => hbn (by rw [e]; rfl)
  have hbl := ltB hsc
  have hpl' : (p : Int) < (ts.length : Int) := by omega
  unfold maxLen at hcm
  obtain ⟨n, hn⟩ : ∃ n, n = ts.length := ⟨_, rfl⟩
  rw [← hn] at ho hsc hnl hpl hpl' N
  have hcells := Lib.hid (fun w (ho : OwnT w base (.slice (some ⟨g, 0, none⟩) n cap) ts) => OwnT.at ho hT)
  have hke : (k : Int) = (T.kind : Int) := by rw [hk]
  replace hsc := Lib.hid hsc
  replace ho := Lib.hid ho
  replace hT := Lib.hid hT
  replace hk := Lib.hid hk
  replace hkT := Lib.hid hkT
  replace hn := Lib.hid hn
  have hke := Lib.hid hke
  have hbn := Lib.hid hbn
  go_enter Tryz.func58, Tryz.ntmps58
  (go_wp2_with fail; repeat (any_goals (go_quiet (fail); go_wp2_with fail)))
  refine (N.out _ (hsc.out.next (by repeat (first | assumption | exact Below.refl _ _ | apply Below.drew | apply below_drewN | apply balloc | (refine Below.setCell ?_ (by first | omega | (simp <;> omega)) _)))) (ho.out.next (by repeat (first | assumption | exact Below.refl _ _ | apply Below.drew | apply below_drewN | apply balloc | (refine Below.setCell ?_ (by first | omega | (simp <;> omega)) _))))).mono ?_
  rintro e w1 ⟨rfl, hb⟩
  have hb1 : Below w.heap.size w w1 := bcall (by repeat (first | assumption | exact Below.refl _ _ | apply Below.drew | apply below_drewN | apply balloc | (refine Below.setCell ?_ (by first | omega | (simp <;> omega)) _))) hb
  have t0 : w1.heap[w.heap.size]? = some (.cells #[.int .i64 0, .int .i64 0, .int .i64 0, .string ⟨#[]⟩] 59 (0, 0)) := boxed hb
  clear hb
  have hsc1 := hsc.out.next hb1
  obtain ⟨y0, y1, y2, y3⟩ := hcells.out _ (ho.out.next hb1)
  have x1 := hsc1.c1
  have x2 := hsc1.c2
  have f2 := freeB hsc1 2
  have t1 := freeB t0 0
  have t2 := freeB t0 1
  have t3 := freeB t0 2
  have t4 := freeB t0 3
  have u1 : w1.cell? ⟨w.heap.size, 0, none⟩ = some (.int .i64 0) := cellB t0 0 rfl
  have u2 : w1.cell? ⟨w.heap.size, 1, none⟩ = some (.int .i64 0) := cellB t0 1 rfl
  have u3 : w1.cell? ⟨w.heap.size, 2, none⟩ = some (.int .i64 0) := cellB t0 2 rfl
  have u4 : w1.cell? ⟨w.heap.size, 3, none⟩ = some (.string ⟨#[]⟩) := cellB t0 3 rfl
  have hbs : b ≠ w.heap.size := by omega
  have hsz := hb1.size
  replace hsc1 := Lib.hid hsc1
  replace t0 := Lib.hid t0
  (go_wp2_with fail; repeat (any_goals (go_quiet (fail); go_wp2_with fail)))
  go_region
  (go_wp2_with fail; repeat (any_goals (go_quiet (fail); go_wp2_with fail)))
  refine bodyPost_ret (v := .agg #[.int .i64 (T.kind : Int), .int .i64 (T.fr : Int), .int .i64 (T.to : Int), .string T.text]) (by simp [results, Tryz.results58, go_sem, *]) rfl ?_
  refine ⟨by rw [hke.out], ?_, ?_⟩
  · have h1 := (((((hsc1.out.set (q := p + 1)).setOther (c := w.heap.size) hbs 0 (.int .i64 (T.kind : Int))).setOther (c := w.heap.size) hbs 1 (.int .i64 (T.fr : Int))).setOther (c := w.heap.size) hbs 2 (.int .i64 (T.to : Int))).setOther (c := w.heap.size) hbs 3 (.string T.text))
    rw [hn.out] at h1
    exact h1
  · have h1 := grown_trans (grown_of_below (r := some b) hb1) (grown_set w1 b 2 (.int .i64 ((p : Int) + 1)))
    exact grown_drew ((((h1.setNew (Nat.le_refl _) 0 (.int .i64 (T.kind : Int))).setNew (Nat.le_refl _) 1 (.int .i64 (T.fr : Int))).setNew (Nat.le_refl _) 2 (.int .i64 (T.to : Int))).setNew (Nat.le_refl _) 3 (.string T.text))

end Go.Proofs.YtibopkodoidjoaaGreatDoor

/- The reference's tree: the reader's small functions. -/
namespace Go.Proofs.YtibopkodoidjoaaGreatDoor
open Go Go.RowKit

/-- The reader's block. -/
def RdB (s : ByteArray) (v : Value) (p pl k b : Nat) (w : World) : Prop := w.heap[b]? = some (.cells #[.string s, v, .int .i64 (p : Int), .int .i64 (pl : Int), .int .i64 (k : Int)] 80 (0, 0))
theorem RdB.next {s : ByteArray} {v : Value} {p pl k b : Nat} {w w' : World} (h : RdB s v p pl k b w) (hb : Below w.heap.size w w') : RdB s v p pl k b w' := box_next h hb
theorem RdB.c0 {s : ByteArray} {v : Value} {p pl k b : Nat} {w : World} (h : RdB s v p pl k b w) : w.cell? ⟨b, 0, none⟩ = some (.string s) := cellB h 0 rfl
theorem RdB.c1 {s : ByteArray} {v : Value} {p pl k b : Nat} {w : World} (h : RdB s v p pl k b w) : w.cell? ⟨b, 1, none⟩ = some v := cellB h 1 rfl
theorem RdB.c2 {s : ByteArray} {v : Value} {p pl k b : Nat} {w : World} (h : RdB s v p pl k b w) : w.cell? ⟨b, 2, none⟩ = some (.int .i64 (p : Int)) := cellB h 2 rfl
theorem RdB.c3 {s : ByteArray} {v : Value} {p pl k b : Nat} {w : World} (h : RdB s v p pl k b w) : w.cell? ⟨b, 3, none⟩ = some (.int .i64 (pl : Int)) := cellB h 3 rfl
theorem RdB.c4 {s : ByteArray} {v : Value} {p pl k b : Nat} {w : World} (h : RdB s v p pl k b w) : w.cell? ⟨b, 4, none⟩ = some (.int .i64 (k : Int)) := cellB h 4 rfl
theorem RdB.set2 {s : ByteArray} {v : Value} {p pl k b q : Nat} {w : World} (h : RdB s v p pl k b w) : RdB s v q pl k b (w.setCell ⟨b, 2, none⟩ (.int .i64 (q : Int))) := by
  unfold RdB at h ⊢
  rw [Lib.heap_setCell_same (i := 2) h]
  rfl
theorem RdB.set3 {s : ByteArray} {v : Value} {p pl k b q : Nat} {w : World} (h : RdB s v p pl k b w) : RdB s v p q k b (w.setCell ⟨b, 3, none⟩ (.int .i64 (q : Int))) := by
  unfold RdB at h ⊢
  rw [Lib.heap_setCell_same (i := 3) h]
  rfl
theorem RdB.set4 {s : ByteArray} {v : Value} {p pl k b q : Nat} {w : World} (h : RdB s v p pl k b w) : RdB s v p pl q b (w.setCell ⟨b, 4, none⟩ (.int .i64 (q : Int))) := by
  unfold RdB at h ⊢
  rw [Lib.heap_setCell_same (i := 4) h]
  rfl
/-- The reader's world: its block, the tokens. -/
structure RdW (base : Nat) (s : ByteArray) (v : Value) (ts : List Tk) (p pl k b : Nat) (w : World) : Prop where
  rd : RdB s v p pl k b w
  own : OwnT w base v ts
  nb : b ∉ v.ownBlock
  hp : p ≤ ts.length
  hl : ts.length ≤ 3518437208883
theorem RdW.next {base : Nat} {s : ByteArray} {v : Value} {ts : List Tk} {p pl k b : Nat} {w w' : World} (h : RdW base s v ts p pl k b w) (hb : Below w.heap.size w w') : RdW base s v ts p pl k b w' := ⟨h.rd.next hb, h.own.next hb, h.nb, h.hp, h.hl⟩
theorem RdW.lt {base : Nat} {s : ByteArray} {v : Value} {ts : List Tk} {p pl k b : Nat} {w : World} (h : RdW base s v ts p pl k b w) : b < w.heap.size := ltB h.rd
theorem RdW.step {base : Nat} {s : ByteArray} {v : Value} {ts : List Tk} {p pl k q pl' k' b : Nat} {w w' : World} (h : RdW base s v ts p pl k b w) (hg : w.grownBy w' (some b)) (hq : RdB s v q pl' k' b w') (hl : q ≤ ts.length) : RdW base s v ts q pl' k' b w' :=
  ⟨hq, h.own.grown hg h.nb, h.nb, hl, h.hl⟩
set_option maxHeartbeats 1000000 in
theorem rfail_new (s : ByteArray) (v : Value) (p pl b q k : Nat) (w : World) (hr : RdB s v p pl 0 b w) :
    Calls Tryz.prog 35 #[.pointer (some ⟨b, 0, none⟩), .int .i64 (q : Int), .int .i64 (k : Int)] w fun e w' => e = .returned (.tuple #[]) ∧ RdB s v p q k b w' ∧ w.grownBy w' (some b) := by
  have x4 := hr.c4
  have x3 := hr.c3
  have f3 := freeB hr 3
  have f4 := freeB hr 4
  have hbl := ltB hr
  have hr0 := hr.set3 (q := q)
  have g4 := freeB hr0 4
  have z4 := hr0.c4
  have hr1 := Lib.hid (hr0.set4 (q := k))
  replace hr0 := Lib.hid hr0
  replace hr := Lib.hid hr
  go_enter Tryz.func35, Tryz.ntmps35
  (go_wp2_with fail; repeat (any_goals (go_quiet (fail); go_wp2_with fail)))
  refine ⟨rfl, .tuple #[], by kernel_rfl, rfl, ?_⟩
  exact ⟨hr1.out, grown_trans (grown_set _ _ _ _) (grown_set _ _ _ _)⟩
set_option maxHeartbeats 1000000 in
theorem rfail_old (s : ByteArray) (v : Value) (p pl b q k k0 : Nat) (w : World) (hr : RdB s v p pl k0 b w) (h0 : k0 ≠ 0) :
    Calls Tryz.prog 35 #[.pointer (some ⟨b, 0, none⟩), .int .i64 (q : Int), .int .i64 (k : Int)] w fun e w' => e = .returned (.tuple #[]) ∧ Below w.heap.size w w' := by
  have x4 := hr.c4
  have hbl := ltB hr
  have h1 : ((k0 : Int) == 0) = false := by simp; omega
  have h1' : ¬ (k0 : Int) = 0 := by omega
  replace hr := Lib.hid hr
  go_enter Tryz.func35, Tryz.ntmps35
  (go_wp2_with fail; repeat (any_goals (go_quiet (fail); go_wp2_with fail)))
  refine ⟨rfl, .tuple #[], by kernel_rfl, rfl, ?_⟩
  exact (by repeat (first | assumption | exact Below.refl _ _ | apply Below.drew | apply below_drewN | apply balloc | (refine Below.setCell ?_ (by first | omega | (simp <;> omega)) _)))
set_option maxHeartbeats 1000000 in
set_option maxRecDepth 100000 in
theorem peek_calls {base : Nat} {v : Value} {ts : List Tk} (s : ByteArray) (p pl k b : Nat) (w : World) (hW : RdW base s v ts p pl k b w) :
    Calls Tryz.prog 61 #[.pointer (some ⟨b, 0, none⟩)] w fun e w' => e = .returned (.int .i64 (kindT ts p : Int)) ∧ Below w.heap.size w w' := by
  obtain ⟨hr, ho, hnb, hp, hl⟩ := hW
  have x0 := hr.c0
  have x1 := hr.c1
  have x2 := hr.c2
  have hbl := ltB hr
  replace hr := Lib.hid hr
  by_cases h : p = ts.length
  · have hk : kindT ts p = 0 := by unfold kindT; rw [List.getElem?_eq_none (by omega)]
    rw [hk]
    obtain ⟨a, c, rfl⟩ := ho.form2
    replace ho := Lib.hid ho
    have he : ((p : Int) == (ts.length : Int)) = true := by simp; omega
    have he' : (p : Int) = (ts.length : Int) := by omega
    replace h := Lib.hid h
    replace hk := Lib.hid hk
    generalize ts.length = n at *
    go_enter Tryz.func61, Tryz.ntmps61
    (go_wp2_with fail; repeat (any_goals (go_quiet (fail); go_wp2_with fail)))
    go_ret
    exact ⟨rfl, (by repeat (first | assumption | exact Below.refl _ _ | apply Below.drew | apply below_drewN | apply balloc | (refine Below.setCell ?_ (by first | omega | (simp <;> omega)) _)))⟩
  · rcases ho.form with ⟨rfl, rfl⟩ | ⟨g, cap, rfl, hbg, hgl, hnl, hcm⟩
    · simp at hp h; omega
    have hT : ts[p]? = some (ts[p]'(by omega)) := List.getElem?_eq_getElem _
    have hk : kindT ts p = (ts[p]'(by omega)).kind := by unfold kindT; rw [hT]
    rw [hk]
    obtain ⟨y0, y1, _, _⟩ := ho.at hT
    generalize ts[p]'(by omega) = T at *
    have he : ((p : Int) == (ts.length : Int)) = false := by simp; omega
    have he' : ¬ (p : Int) = (ts.length : Int) := by omega
    have hlt : (p : Int) < (ts.length : Int) := by omega
    unfold maxLen at hcm
    replace h := Lib.hid h
    replace hk := Lib.hid hk
    replace hT := Lib.hid hT
    replace ho := Lib.hid ho
    generalize ts.length = n at *
    go_enter Tryz.func61, Tryz.ntmps61
    (go_wp2_with fail; repeat (any_goals (go_quiet (fail); go_wp2_with fail)))
    go_ret
    exact ⟨rfl, (by repeat (first | assumption | exact Below.refl _ _ | apply Below.drew | apply below_drewN | apply balloc | (refine Below.setCell ?_ (by first | omega | (simp <;> omega)) _)))⟩
set_option maxHeartbeats 1000000 in
set_option maxRecDepth 100000 in
theorem here_calls {base : Nat} {v : Value} {ts : List Tk} (s : ByteArray) (p pl k b : Nat) (w : World) (hW : RdW base s v ts p pl k b w) :
    Calls Tryz.prog 36 #[.pointer (some ⟨b, 0, none⟩)] w fun e w' => e = .returned (.int .i64 (placeT s ts p : Int)) ∧ Below w.heap.size w w' := by
  obtain ⟨hr, ho, hnb, hp, hl⟩ := hW
  have x0 := hr.c0
  have x1 := hr.c1
  have x2 := hr.c2
  have hbl := ltB hr
  replace hr := Lib.hid hr
  by_cases h : p = ts.length
  · have hk : placeT s ts p = s.size := by unfold placeT; rw [List.getElem?_eq_none (by omega)]
    rw [hk]
    obtain ⟨a, c, rfl⟩ := ho.form2
    replace ho := Lib.hid ho
    have he : ((p : Int) == (ts.length : Int)) = true := by simp; omega
    have he' : (p : Int) = (ts.length : Int) := by omega
    replace h := Lib.hid h
    replace hk := Lib.hid hk
    generalize ts.length = n at *
    go_enter Tryz.func36, Tryz.ntmps36
    (go_wp2_with fail; repeat (any_goals (go_quiet (fail); go_wp2_with fail)))
    go_ret
    exact ⟨rfl, (by repeat (first | assumption | exact Below.refl _ _ | apply Below.drew | apply below_drewN | apply balloc | (refine Below.setCell ?_ (by first | omega | (simp <;> omega)) _)))⟩
  · rcases ho.form with ⟨rfl, rfl⟩ | ⟨g, cap, rfl, hbg, hgl, hnl, hcm⟩
    · simp at hp h; omega
    have hT : ts[p]? = some (ts[p]'(by omega)) := List.getElem?_eq_getElem _
    have hk : placeT s ts p = (ts[p]'(by omega)).fr := by unfold placeT; rw [hT]
    rw [hk]
    obtain ⟨y0, y1, _, _⟩ := ho.at hT
    generalize ts[p]'(by omega) = T at *
    have he : ((p : Int) == (ts.length : Int)) = false := by simp; omega
    have he' : ¬ (p : Int) = (ts.length : Int) := by omega
    have hlt : (p : Int) < (ts.length : Int) := by omega
    unfold maxLen at hcm
    replace h := Lib.hid h
    replace hk := Lib.hid hk
    replace hT := Lib.hid hT
    replace ho := Lib.hid ho
    generalize ts.length = n at *
    go_enter Tryz.func36, Tryz.ntmps36
    (go_wp2_with fail; repeat (any_goals (go_quiet (fail); go_wp2_with fail)))
    go_ret
    exact ⟨rfl, (by repeat (first | assumption | exact Below.refl _ _ | apply Below.drew | apply below_drewN | apply balloc | (refine Below.setCell ?_ (by first | omega | (simp <;> omega)) _)))⟩
set_option maxHeartbeats 1000000 in
set_option maxRecDepth 100000 in
theorem want_old {base : Nat} {v : Value} {ts : List Tk} (s : ByteArray) (p pl k b K : Nat) (w : World) (hW : RdW base s v ts p pl k b w) (h0 : k ≠ 0) :
    Calls Tryz.prog 84 #[.pointer (some ⟨b, 0, none⟩), .int .i64 (K : Int)] w fun e w' => e = .returned (.tuple #[]) ∧ Below w.heap.size w w' := by
  have x4 := hW.rd.c4
  have hbl := hW.lt
  have h1 : ((k : Int) == 0) = false := by simp; omega
  have h1' : ¬ (k : Int) = 0 := by omega
  replace hW := Lib.hid hW
  go_enter Tryz.func84, Tryz.ntmps84
  (go_wp2_with fail; repeat (any_goals (go_quiet (fail); go_wp2_with fail)))
  refine ⟨rfl, .tuple #[], by kernel_rfl, rfl, ?_⟩
  exact (by repeat (first | assumption | exact Below.refl _ _ | apply Below.drew | apply below_drewN | apply balloc | (refine Below.setCell ?_ (by first | omega | (simp <;> omega)) _)))
set_option maxHeartbeats 1000000 in
set_option maxRecDepth 100000 in
theorem want_ok {base : Nat} {v : Value} {ts : List Tk} (s : ByteArray) (p pl b K : Nat) (w : World) (hW : RdW base s v ts p pl 0 b w) (hk : kindT ts p = K) (hK : K ≠ 0) :
    Calls Tryz.prog 84 #[.pointer (some ⟨b, 0, none⟩), .int .i64 (K : Int)] w fun e w' => e = .returned (.tuple #[]) ∧ RdW base s v ts (p + 1) pl 0 b w' ∧ w.grownBy w' (some b) := by
  have hpl : p < ts.length := kindT_lt (by omega)
  have N := Lib.hid (fun w hW => peek_calls (base := base) (v := v) (ts := ts) s p pl 0 b w hW)
  rw [hk] at N
  have x4 := hW.rd.c4
  have hbl := hW.lt
  have hpb : (p : Int) + 1 ≤ 3518437208883 := by have := hW.hl; omega
  replace hW := Lib.hid hW
  replace hk := Lib.hid hk
  replace hK := Lib.hid hK
  go_enter Tryz.func84, Tryz.ntmps84
  (go_wp2_with fail; repeat (any_goals (go_quiet (fail); go_wp2_with fail)))
  refine (N.out _ (hW.out.next (by repeat (first | assumption | exact Below.refl _ _ | apply Below.drew | apply below_drewN | apply balloc | (refine Below.setCell ?_ (by first | omega | (simp <;> omega)) _))))).mono ?_
  rintro e w1 ⟨rfl, hb⟩
  have hb1 : Below w.heap.size w w1 := bcall (by repeat (first | assumption | exact Below.refl _ _ | apply Below.drew | apply below_drewN | apply balloc | (refine Below.setCell ?_ (by first | omega | (simp <;> omega)) _))) hb
  clear hb
  have hW1 := hW.out.next hb1
  have x2 := hW1.rd.c2
  have f2 := freeB hW1.rd 2
  have hbl1 := hW1.lt
  replace hW1 := Lib.hid hW1
  (go_wp2_with fail; repeat (any_goals (go_quiet (fail); go_wp2_with fail)))
  refine ⟨rfl, .tuple #[], by kernel_rfl, rfl, ?_⟩
  exact ⟨hW1.out.step (grown_set _ _ _ _) hW1.out.rd.set2 (by omega), grown_trans (grown_of_below hb1) (grown_set _ _ _ _)⟩
set_option maxHeartbeats 1000000 in
set_option maxRecDepth 100000 in
theorem want_bad {base : Nat} {v : Value} {ts : List Tk} (s : ByteArray) (p pl b K : Nat) (w : World) (hW : RdW base s v ts p pl 0 b w) (hk : kindT ts p ≠ K) :
    Calls Tryz.prog 84 #[.pointer (some ⟨b, 0, none⟩), .int .i64 (K : Int)] w fun e w' => e = .returned (.tuple #[]) ∧ RdW base s v ts p (placeT s ts p) 2 b w' ∧ w.grownBy w' (some b) := by
  have N := Lib.hid (fun w hW => peek_calls (base := base) (v := v) (ts := ts) s p pl 0 b w hW)
  have H := Lib.hid (fun w hW => here_calls (base := base) (v := v) (ts := ts) s p pl 0 b w hW)
  have F := Lib.hid (fun q w hW => rfail_new s v p pl b q 2 w hW)
  have x4 := hW.rd.c4
  have hbl := hW.lt
  have hne : ((kindT ts p : Int) == (K : Int)) = false := by simp; omega
  have hne' : ¬ (kindT ts p : Int) = (K : Int) := by omega
  obtain ⟨K1, hK1⟩ : ∃ K1, K1 = kindT ts p := ⟨_, rfl⟩
  obtain ⟨P1, hP1⟩ : ∃ P1, P1 = placeT s ts p := ⟨_, rfl⟩
  rw [← hK1] at hne hne' N
  rw [← hP1] at H ⊢
  replace hW := Lib.hid hW
  replace hk := Lib.hid hk
  replace hK1 := Lib.hid hK1
  replace hP1 := Lib.hid hP1
  go_enter Tryz.func84, Tryz.ntmps84
  (go_wp2_with fail; repeat (any_goals (go_quiet (fail); go_wp2_with fail)))
  refine (N.out _ (hW.out.next (by repeat (first | assumption | exact Below.refl _ _ | apply Below.drew | apply below_drewN | apply balloc | (refine Below.setCell ?_ (by first | omega | (simp <;> omega)) _))))).mono ?_
  rintro e w1 ⟨rfl, hb⟩
  have hb1 : Below w.heap.size w w1 := bcall (by repeat (first | assumption | exact Below.refl _ _ | apply Below.drew | apply below_drewN | apply balloc | (refine Below.setCell ?_ (by first | omega | (simp <;> omega)) _))) hb
  clear hb
  (go_wp2_with fail; repeat (any_goals (go_quiet (fail); go_wp2_with fail)))
  refine (H.out _ (hW.out.next hb1)).mono ?_
  rintro e w2 ⟨rfl, hb⟩
  have hb2 : Below w.heap.size w w2 := bcall hb1 hb
  clear hb
  (go_wp2_with fail; repeat (any_goals (go_quiet (fail); go_wp2_with fail)))
  refine (F.out _ _ (hW.out.next hb2).rd).mono ?_
  rintro e w3 ⟨rfl, hr, hg⟩
  have hW3 := Lib.hid ((hW.out.next hb2).step hg hr hW.out.hp)
  have hg3 := Lib.hid (grown_trans (grown_of_below hb2) hg)
  clear hr hg
  (go_wp2_with fail; repeat (any_goals (go_quiet (fail); go_wp2_with fail)))
  refine ⟨rfl, .tuple #[], by kernel_rfl, rfl, ?_⟩
  exact ⟨hW3.out, hg3.out⟩

end Go.Proofs.YtibopkodoidjoaaGreatDoor

/- Package tree: nodes in memory. -/
namespace Go.Proofs.YtibopkodoidjoaaGreatDoor
open Go Go.RowKit

/-- A member of a list or an object: its key and the key's place, the blocks it lies in, its value, the node. -/
structure Kid where
  key : ByteArray
  pl : Nat
  l : Nat
  h : Nat
  u : Value
  x : Nd
/-- A member's blocks lie within lo .. hi, and the row o is none of them. -/
def Kid.fits (lo hi : Nat) (o : Option Nat) (c : Kid) : Prop := lo ≤ c.l ∧ c.l ≤ c.h ∧ c.h ≤ hi ∧ ∀ k, o = some k → k < c.l ∨ c.h ≤ k
def Kid.mem (c : Kid) : ByteArray × Nat × Nd := (c.key, c.pl, c.x)
def memC (c : Kid) : List Value := [.string c.key, .int .i64 (c.pl : Int), c.u]
/-- A node as a value, its rows in blocks lo .. hi. -/
inductive OwnN (w : World) : Nat → Nat → Value → Nd → Prop
  | null (lo hi p : Nat) : OwnN w lo hi (.iface 90 (.agg #[.int .i64 (p : Int)])) (.null p)
  | flag (lo hi p : Nat) (b : Bool) : OwnN w lo hi (.iface 92 (.agg #[.int .i64 (p : Int), .bool b])) (.flag p b)
  | num (lo hi p : Nat) (t : ByteArray) : OwnN w lo hi (.iface 94 (.agg #[.int .i64 (p : Int), .string t])) (.num p t)
  | text (lo hi p : Nat) (t : ByteArray) : OwnN w lo hi (.iface 95 (.agg #[.int .i64 (p : Int), .string t])) (.text p t)
  | lst (lo hi p : Nat) (v : Value) (cs : List Kid) (ho : w.ownsRow lo 24 1 v cs.length (cs.map Kid.u)) (hb : ∀ k, v.ownBlock = some k → k < hi)
      (hk : ∀ c ∈ cs, c.fits lo hi v.ownBlock) (hp : cs.Pairwise fun a b => a.h ≤ b.l) (hc : ∀ c ∈ cs, OwnN w c.l c.h c.u c.x) :
      OwnN w lo hi (.iface 98 (.agg #[.int .i64 (p : Int), v])) (.lst p (cs.map Kid.x))
  | obj (lo hi p : Nat) (v : Value) (cs : List Kid) (ho : w.ownsRow lo 103 3 v cs.length (cs.flatMap memC)) (hb : ∀ k, v.ownBlock = some k → k < hi)
      (hk : ∀ c ∈ cs, c.fits lo hi v.ownBlock) (hp : cs.Pairwise fun a b => a.h ≤ b.l) (hc : ∀ c ∈ cs, OwnN w c.l c.h c.u c.x) :
      OwnN w lo hi (.iface 101 (.agg #[.int .i64 (p : Int), v])) (.obj p (cs.map Kid.mem))
theorem ownsRow_heap {w w' : World} {base : Nat} {e : TypeId} {size : Nat} {v : Value} {n : Nat} {xs : List Value} (h : w.ownsRow base e size v n xs) (hk : ∀ k, v.ownBlock = some k → w'.heap[k]? = w.heap[k]?) : w'.ownsRow base e size v n xs := by
  obtain ⟨h1, h2 | ⟨g, cap, cur, rfl, hbg, hg, h3⟩⟩ := h
  · exact ⟨h1, Or.inl h2⟩
  · exact ⟨h1, Or.inr ⟨g, cap, cur, rfl, hbg, (hk g rfl).trans hg, h3⟩⟩
theorem ownsRow_base {w : World} {base base' : Nat} {e : TypeId} {size : Nat} {v : Value} {n : Nat} {xs : List Value} (h : w.ownsRow base e size v n xs) (hb : base' ≤ base) : w.ownsRow base' e size v n xs := by
  obtain ⟨h1, h2 | ⟨g, cap, cur, rfl, hbg, h3⟩⟩ := h
  · exact ⟨h1, Or.inl h2⟩
  · exact ⟨h1, Or.inr ⟨g, cap, cur, rfl, Nat.le_trans hb hbg, h3⟩⟩
theorem OwnN.keep {w w' : World} {lo hi : Nat} {u : Value} {x : Nd} (h : OwnN w lo hi u x) : (∀ k, lo ≤ k → k < hi → w'.heap[k]? = w.heap[k]?) → OwnN w' lo hi u x := by
  induction h with
  | null lo hi p => exact fun _ => .null lo hi p
  | flag lo hi p b => exact fun _ => .flag lo hi p b
  | num lo hi p t => exact fun _ => .num lo hi p t
  | text lo hi p t => exact fun _ => .text lo hi p t
  | lst lo hi p v cs ho hb hk hp hc ih =>
    intro H
    exact .lst lo hi p v cs (ownsRow_heap ho fun k e => H k (ho.lt k e).1 (hb k e)) hb hk hp (fun c hm => ih c hm fun k h1 h2 => H k (Nat.le_trans (hk c hm).1 h1) (Nat.lt_of_lt_of_le h2 (hk c hm).2.2.1))
  | obj lo hi p v cs ho hb hk hp hc ih =>
    intro H
    exact .obj lo hi p v cs (ownsRow_heap ho fun k e => H k (ho.lt k e).1 (hb k e)) hb hk hp (fun c hm => ih c hm fun k h1 h2 => H k (Nat.le_trans (hk c hm).1 h1) (Nat.lt_of_lt_of_le h2 (hk c hm).2.2.1))
theorem Kid.fits.wide {lo hi lo' hi' : Nat} {o : Option Nat} {c : Kid} (h : c.fits lo hi o) (h1 : lo' ≤ lo) (h2 : hi ≤ hi') : c.fits lo' hi' o := ⟨Nat.le_trans h1 h.1, h.2.1, Nat.le_trans h.2.2.1 h2, h.2.2.2⟩
theorem OwnN.wide {w : World} {lo hi lo' hi' : Nat} {u : Value} {x : Nd} (h : OwnN w lo hi u x) (h1 : lo' ≤ lo) (h2 : hi ≤ hi') : OwnN w lo' hi' u x := by
  cases h with
  | null _ _ p => exact .null lo' hi' _
  | flag _ _ p b => exact .flag lo' hi' _ _
  | num _ _ p t => exact .num lo' hi' _ _
  | text _ _ p t => exact .text lo' hi' _ _
  | lst _ _ p v cs ho hb hk hp hc => exact .lst lo' hi' _ v cs (ownsRow_base ho h1) (fun k e => Nat.lt_of_lt_of_le (hb k e) h2) (fun c hm => (hk c hm).wide h1 h2) hp hc
  | obj _ _ p v cs ho hb hk hp hc => exact .obj lo' hi' _ v cs (ownsRow_base ho h1) (fun k e => Nat.lt_of_lt_of_le (hb k e) h2) (fun c hm => (hk c hm).wide h1 h2) hp hc
theorem OwnN.grown {w w' : World} {lo hi b : Nat} {u : Value} {x : Nd} (h : OwnN w lo hi u x) (hg : w.grownBy w' (some b)) (hh : hi ≤ w.heap.size) (hb : b < lo) : OwnN w' lo hi u x :=
  h.keep fun k h1 h2 => hg.block k (Nat.lt_of_lt_of_le h2 hh) (fun e => by cases e; omega)
/-- The members that a loop has gathered: the row v of size n0 .., in world w. -/
structure Kids (e : TypeId) (size : Nat) (cell : Kid → List Value) (n0 : Nat) (w : World) (v : Value) (cs : List Kid) : Prop where
  own : w.ownsRow n0 e size v cs.length (cs.flatMap cell)
  fit : ∀ c ∈ cs, c.fits n0 w.heap.size v.ownBlock
  pair : cs.Pairwise fun a b => a.h ≤ b.l
  kid : ∀ c ∈ cs, OwnN w c.l c.h c.u c.x
theorem Kids.nil (e : TypeId) (size : Nat) (cell : Kid → List Value) (n0 : Nat) (w : World) : Kids e size cell n0 w (.slice none 0 0) [] :=
  ⟨World.ownsRow_nil _ _ _ _, fun c h => (by cases h), List.Pairwise.nil, fun c h => (by cases h)⟩
theorem Kids.grown {e : TypeId} {size : Nat} {cell : Kid → List Value} {n0 b : Nat} {w w' : World} {v : Value} {cs : List Kid} (h : Kids e size cell n0 w v cs) (hg : w.grownBy w' (some b)) (hb : b < n0) : Kids e size cell n0 w' v cs := by
  refine ⟨h.own.kept hg ?_, fun c hm => (h.fit c hm).wide (Nat.le_refl _) hg.size, h.pair, fun c hm => (h.kid c hm).grown hg (h.fit c hm).2.2.1 (Nat.lt_of_lt_of_le hb (h.fit c hm).1)⟩
  by_cases hn : v.ownBlock = none
  · exact Or.inl hn
  · refine Or.inr fun e => ?_
    have := (h.own.lt b e).1
    omega
/-- One more: it was read between w and w1 (its blocks those that are new), then put behind the row (to w2). -/
theorem Kids.app {e : TypeId} {size : Nat} {cell : Kid → List Value} {n0 n1 : Nat} {w1 w2 : World} {v v' : Value} {cs : List Kid} {c : Kid} (h : Kids e size cell n0 w1 v cs) (hn : n0 ≤ n1) (hle : ∀ c ∈ cs, c.h ≤ n1) (hlv : ∀ k, v.ownBlock = some k → k < n1)
    (hl : c.l = n1) (hh : c.h = w1.heap.size) (h1 : n1 ≤ w1.heap.size) (hx : OwnN w1 c.l c.h c.u c.x) (ho : w2.ownsRow n0 e size v' (cs.length + 1) (cs.flatMap cell ++ cell c)) (hg : w1.grownBy w2 v.ownBlock)
    (hv : v'.ownBlock = v.ownBlock ∨ ∃ g, v'.ownBlock = some g ∧ w1.heap.size ≤ g) : Kids e size cell n0 w2 v' (cs ++ [c]) := by
  have hcf : c.fits n0 w2.heap.size v'.ownBlock := by
    refine ⟨by omega, by omega, by have := hg.size; omega, fun k hk => ?_⟩
    rcases hv with hv | ⟨g, hv, hge⟩
    · rw [hv] at hk; have := hlv k hk; omega
    · rw [hv] at hk; cases hk; omega
  have hck : ∀ a ∈ cs, a.fits n0 w2.heap.size v'.ownBlock := by
    intro a hm
    have hf := h.fit a hm
    refine ⟨hf.1, hf.2.1, Nat.le_trans hf.2.2.1 hg.size, fun k hk => ?_⟩
    rcases hv with hv | ⟨g, hv, hge⟩
    · rw [hv] at hk; exact hf.2.2.2 k hk
    · rw [hv] at hk; cases hk; have := hf.2.2.1; omega
  refine ⟨?_, ?_, ?_, ?_⟩
  · rw [List.length_append, List.length_singleton, List.flatMap_append]
    rw [show [c].flatMap cell = cell c by rw [List.flatMap_cons, List.flatMap_nil, List.append_nil]]
    exact ho
  · intro a hm
    rcases List.mem_append.1 hm with hm | hm
    · exact hck a hm
    · rw [List.mem_singleton.1 hm]; exact hcf
  · rw [List.pairwise_append]
    refine ⟨h.pair, List.pairwise_singleton _ _, fun a ha b hb => ?_⟩
    rw [List.mem_singleton.1 hb, hl]
    exact hle a ha
  · intro a hm
    rcases List.mem_append.1 hm with hm | hm
    · have hf := h.fit a hm
      exact (h.kid a hm).keep fun k h1 h2 => hg.block k (by have := hf.2.2.1; omega) (fun e => by have := hf.2.2.2 k e.symm; omega)
    · rw [List.mem_singleton.1 hm]
      refine hx.keep fun k h1 h2 => hg.block k (by omega) (fun e => by have := hlv k e.symm; omega)
theorem flat_u : ∀ cs : List Kid, cs.flatMap (fun c => [c.u]) = cs.map Kid.u
  | [] => rfl
  | c :: cs => by rw [List.flatMap_cons, List.map_cons, flat_u cs]; rfl
theorem Kids.lst {n0 p : Nat} {w : World} {v : Value} {cs : List Kid} (h : Kids 24 1 (fun c => [c.u]) n0 w v cs) : OwnN w n0 w.heap.size (.iface 98 (.agg #[.int .i64 (p : Int), v])) (.lst p (cs.map Kid.x)) := by
  refine .lst _ _ p v cs ?_ (fun k e => (h.own.lt k e).2) h.fit h.pair h.kid
  rw [← flat_u cs]
  exact h.own
theorem Kids.obj {n0 p : Nat} {w : World} {v : Value} {cs : List Kid} (h : Kids 103 3 memC n0 w v cs) : OwnN w n0 w.heap.size (.iface 101 (.agg #[.int .i64 (p : Int), v])) (.obj p (cs.map Kid.mem)) :=
  .obj _ _ p v cs h.own (fun k e => (h.own.lt k e).2) h.fit h.pair h.kid

end Go.Proofs.YtibopkodoidjoaaGreatDoor

/- Package tree: the parser's lists. -/
namespace Go.Proofs.YtibopkodoidjoaaGreatDoor
open Go Go.RowKit

theorem infoNd : (Tryz.prog.info? 24).map (fun i => (i.zero, i.size, i.bytes)) = some (some .nilIface, 1, 16) := by kernel_rfl
theorem infoMem : (Tryz.prog.info? 103).map (fun i => (i.zero, i.size, i.bytes)) = some (some (.agg #[.string ⟨#[]⟩, .int .i64 0, .nilIface]), 3, 40) := by kernel_rfl
theorem OwnN.one {w : World} {lo hi : Nat} {u : Value} {x : Nd} (h : OwnN w lo hi u x) : u.oneCell' = true := by cases h <;> rfl
section
variable {ops : Array Oper} {rest : List Oper} {o : Oper} {a : Act} {Q : Exit → Act → World → Prop} {w : World}
/-- append(list, c) of a member. -/
theorem app_kid (hgd : o.guard = none) (sl x : Operand) (t e : TypeId) (size bytes : Nat) (cell : Kid → List Value) (z : Value) (hi : (Tryz.prog.info? e).map (fun i => (i.zero, i.size, i.bytes)) = some (some z, size, bytes)) (hz : z.cells.size = size) (hsz : 0 < size) (hby : bytes ≤ 40) (hcl : ∀ c, (cell c).length = size)
    (ht : Tryz.prog.underlying t = some (.slice e)) (ho : o.op = .call { callee := .builtin .append, args := #[sl, x], argTypes := #[t, t] }) (n0 n1 : Nat) (v : Value) (cs : List Kid) (hs : a.eval sl = v) (hK : Kids e size cell n0 w v cs)
    (g cp : Nat) (c : Kid) (cur : Array Value) (t' : TypeId) (hx : a.eval x = .slice (some ⟨g, 0, none⟩) 1 cp) (hg : w.heap[g]? = some (.cells cur t' (0, 0))) (hcur : cur = (cell c).toArray)
    (hlen : cs.length + 1 ≤ 3518437208883) (hn : n0 ≤ n1) (hn1 : n1 ≤ w.heap.size) (hle : ∀ c ∈ cs, c.h ≤ n1) (hlv : ∀ k, v.ownBlock = some k → k < n1) (hl : c.l = n1) (hh : c.h = w.heap.size) (hN : OwnN w c.l c.h c.u c.x) (h1 : ∀ u ∈ cell c, u.oneCell' = true)
    (h : ∀ v' w', Kids e size cell n0 w' v' (cs ++ [c]) → w.grownBy w' v.ownBlock → (∀ k, v'.ownBlock = some k → k < w'.heap.size) → wpList Tryz.prog ops Q rest (a.put o.dst v') w') : wpList Tryz.prog ops Q (o :: rest) a w := by
  obtain ⟨i0, hi, hi2⟩ := Option.map_eq_some_iff.1 hi
  simp only [Prod.mk.injEq] at hi2
  refine wpList_append_own_at _ hgd sl x t ho n0 e i0 z size bytes ht hi hi2.1 hi2.2.1 hi2.2.2 hz hsz v cs.length (cs.flatMap cell) hs hK.own ⟨g, 0, none⟩ 1 cp (cell c) hx (by rw [hcl]; omega) ?_ h1 (by unfold maxLen; omega) ?_ (Nat.le_trans hn hn1) ?_
  · intro j u hj
    have : (⟨g, 0, none⟩ : Addr).add j = ⟨g, j, none⟩ := by simp only [Addr.add, Nat.zero_add]; split <;> simp_all
    rw [this]
    refine cellB hg j ?_
    rw [hcur, List.getElem?_toArray]
    exact hj
  · have := Nat.mul_le_mul hlen hby
    omega
  · intro v' w' ho2 hg2 _ hv
    refine h v' w' (hK.app hn hle hlv hl hh hn1 hN ho2 hg2 ?_) hg2 (fun k hk => (ho2.lt k hk).2)
    rcases hv with hv | hv
    · exact Or.inl hv
    · exact Or.inr ⟨_, hv, Nat.le_refl _⟩
end
theorem Kids.alloc {e : TypeId} {size : Nat} {cell : Kid → List Value} {n0 : Nat} {w : World} {v : Value} {cs : List Kid} (h : Kids e size cell n0 w v cs) (o : Obj) : Kids e size cell n0 (w.alloc o) v cs :=
  ⟨h.own.alloc o, fun c hm => (h.fit c hm).wide (Nat.le_refl _) (by simp), h.pair, fun c hm => (h.kid c hm).keep fun k _ h2 => Below.heap_alloc _ _ _ (Nat.lt_of_lt_of_le h2 (h.fit c hm).2.2.1)⟩
theorem Kids.below {e : TypeId} {size : Nat} {cell : Kid → List Value} {n0 : Nat} {w w' : World} {v : Value} {cs : List Kid} (h : Kids e size cell n0 w v cs) (hb : Below w.heap.size w w') : Kids e size cell n0 w' v cs :=
  ⟨ownsRow_heap h.own (fun k e => hb.block k (h.own.lt k e).2), fun c hm => (h.fit c hm).wide (Nat.le_refl _) hb.size, h.pair, fun c hm => (h.kid c hm).keep fun k _ h2 => hb.block k (Nat.lt_of_lt_of_le h2 (h.fit c hm).2.2.1)⟩
/-- What value answers. -/
def PostV (A : Nat → Addr) (s : ByteArray) (v : Value) (b : Nat) (w : World) (r : PR Nd) (e : Ending) (w' : World) : Prop :=
  w.grownBy w' (some b) ∧ match r with
    | .ok x q => ∃ u, e = .returned u ∧ OwnN w' w.heap.size w'.heap.size u x ∧ PsB s v q b w'
    | .err k pl => GaveUp A w.heap.size k pl e w'
    | .out => True
/-- What items answers. -/
def PostI (A : Nat → Addr) (s : ByteArray) (v : Value) (b : Nat) (w : World) (r : PR (List Nd)) (e : Ending) (w' : World) : Prop :=
  w.grownBy w' (some b) ∧ match r with
    | .ok xs q => ∃ u cs, e = .returned u ∧ Kids 24 1 (fun c => [c.u]) w.heap.size w' u cs ∧ cs.map Kid.x = xs ∧ PsB s v q b w'
    | .err k pl => GaveUp A w.heap.size k pl e w'
    | .out => True
/-- What members answers. -/
def PostM (A : Nat → Addr) (s : ByteArray) (v : Value) (b : Nat) (w : World) (r : PR (List (ByteArray × Nat × Nd))) (e : Ending) (w' : World) : Prop :=
  w.grownBy w' (some b) ∧ match r with
    | .ok xs q => ∃ u cs, e = .returned u ∧ Kids 103 3 memC w.heap.size w' u cs ∧ cs.map Kid.mem = xs ∧ PsB s v q b w'
    | .err k pl => GaveUp A w.heap.size k pl e w'
    | .out => True
/-- The parser's world: the errors, its block, the tokens. -/
structure PsW (A : Nat → Addr) (B base : Nat) (s : ByteArray) (v : Value) (ts : List Tk) (p b : Nat) (w : World) : Prop where
  env : Env A B SVN w
  ps : PsB s v p b w
  own : OwnT w base v ts
  nb : b ∉ v.ownBlock
  hB : B ≤ b
  hp : p ≤ ts.length
theorem PsW.next {A : Nat → Addr} {B base : Nat} {s : ByteArray} {v : Value} {ts : List Tk} {p b : Nat} {w w' : World} (h : PsW A B base s v ts p b w) (hb : Below w.heap.size w w') : PsW A B base s v ts p b w' :=
  ⟨h.env.next hb, h.ps.next hb, h.own.next hb, h.nb, h.hB, h.hp⟩
theorem PsW.step {A : Nat → Addr} {B base : Nat} {s : ByteArray} {v : Value} {ts : List Tk} {p q b : Nat} {w w' : World} (h : PsW A B base s v ts p b w) (hg : w.grownBy w' (some b)) (hq : PsB s v q b w') (hl : q ≤ ts.length) : PsW A B base s v ts q b w' :=
  ⟨h.env.below (grown_below hg h.env.hB h.hB), hq, h.own.grown hg h.nb, h.nb, h.hB, hl⟩
theorem PsW.lt {A : Nat → Addr} {B base : Nat} {s : ByteArray} {v : Value} {ts : List Tk} {p b : Nat} {w : World} (h : PsW A B base s v ts p b w) : b < w.heap.size := ltB h.ps
theorem PsW.next_calls {A : Nat → Addr} {B base : Nat} {s : ByteArray} {v : Value} {ts : List Tk} {p b : Nat} {w : World} (h : PsW A B base s v ts p b w) {k : Nat} (hk : kindT ts p = k) :
    Calls Tryz.prog 57 #[.pointer (some ⟨b, 0, none⟩)] w fun e w' => e = .returned (.int .i64 (k : Int)) ∧ Below w.heap.size w w' := hk ▸ tnext_calls s p b w h.hp h.ps h.own
theorem PsW.place_calls {A : Nat → Addr} {B base : Nat} {s : ByteArray} {v : Value} {ts : List Tk} {p b : Nat} {w : World} (h : PsW A B base s v ts p b w) :
    Calls Tryz.prog 33 #[.pointer (some ⟨b, 0, none⟩)] w fun e w' => e = .returned (.int .i64 (placeT s ts p : Int)) ∧ Below w.heap.size w w' := tplace_calls s p b w h.hp h.ps h.own
theorem PsW.take_bad {A : Nat → Addr} {B base : Nat} {s : ByteArray} {v : Value} {ts : List Tk} {p b : Nat} {w : World} (h : PsW A B base s v ts p b w) {k : Nat} (hk : kindT ts p ≠ k) :
    Calls Tryz.prog 58 #[.pointer (some ⟨b, 0, none⟩), .int .i64 (k : Int)] w fun e w' => GaveUp A w.heap.size 2 (placeT s ts p) e w' ∧ Below w.heap.size w w' := Go.Proofs.YtibopkodoidjoaaGreatDoor.take_bad s k p b w h.env h.hp h.ps h.own hk
theorem PsW.take_ok {A : Nat → Addr} {B base : Nat} {s : ByteArray} {v : Value} {ts : List Tk} {p b : Nat} {w : World} (h : PsW A B base s v ts p b w) {k : Nat} (hk : kindT ts p = k) (h0 : k ≠ 0) :
    Calls Tryz.prog 58 #[.pointer (some ⟨b, 0, none⟩), .int .i64 (k : Int)] w fun e w' => (∃ T, ts[p]? = some T ∧ e = .returned (tkV T)) ∧ PsW A B base s v ts (p + 1) b w' ∧ w.grownBy w' (some b) := by
  have hlt := kindT_lt (ts := ts) (p := p) (by omega)
  have hT : ts[p]? = some ts[p] := List.getElem?_eq_getElem _
  refine (Go.Proofs.YtibopkodoidjoaaGreatDoor.take_ok s k p b w hT h.ps h.own h.nb ?_).mono ?_
  · unfold kindT at hk; rw [hT] at hk; exact hk
  · rintro e w' ⟨rfl, h1, h2⟩
    exact ⟨⟨_, hT, rfl⟩, h.step h2 h1 hlt, h2⟩
/-- What is asked of value at a depth and a fuel. -/
def VC (A : Nat → Addr) (B base : Nat) (s : ByteArray) (v : Value) (ts : List Tk) (f : Nat) : Prop := ∀ deep p b w, pV s ts f deep p ≠ .out → deep ≤ 64 → PsW A B base s v ts p b w →
  Calls Tryz.prog 31 #[.pointer (some ⟨b, 0, none⟩), .int .i64 (deep : Int)] w (PostV A s v b w (pV s ts f deep p))

end Go.Proofs.YtibopkodoidjoaaGreatDoor

/- The reference's tree: nodes in memory. -/
namespace Go.Proofs.YtibopkodoidjoaaGreatDoor
open Go Go.RowKit

def nilV : Value := .slice none 0 0
/-- A node's seven cells. -/
def rdC (n p : Nat) (f : Bool) (t : ByteArray) (vi vk vp : Value) : List Value := [.int .i64 (n : Int), .int .i64 (p : Int), .bool f, .string t, vi, vk, vp]
/-- A member of a list or an object: its key and the key's place, the blocks it lies in, its cells, the node. -/
structure RKid where
  key : ByteArray
  pl : Nat
  l : Nat
  h : Nat
  u : List Value
  x : Nd
def RKid.mem (c : RKid) : ByteArray × Nat × Nd := (c.key, c.pl, c.x)
def RKid.fits (lo hi : Nat) (c : RKid) : Prop := lo ≤ c.l ∧ c.l ≤ c.h ∧ c.h ≤ hi
/-- A node as cells, its rows in blocks lo .. hi. -/
inductive OwnR (w : World) : Nat → Nat → List Value → Nd → Prop
  | null (lo hi p : Nat) : OwnR w lo hi (rdC 0 p false noS (.slice none 0 0) (.slice none 0 0) (.slice none 0 0)) (.null p)
  | flag (lo hi p : Nat) (b : Bool) : OwnR w lo hi (rdC 1 p b noS (.slice none 0 0) (.slice none 0 0) (.slice none 0 0)) (.flag p b)
  | num (lo hi p : Nat) (t : ByteArray) : OwnR w lo hi (rdC 2 p false t (.slice none 0 0) (.slice none 0 0) (.slice none 0 0)) (.num p t)
  | text (lo hi p : Nat) (t : ByteArray) : OwnR w lo hi (rdC 3 p false t (.slice none 0 0) (.slice none 0 0) (.slice none 0 0)) (.text p t)
  | lst (lo hi p : Nat) (v : Value) (cs : List RKid) (ho : w.ownsRow lo 33 7 v cs.length (cs.flatMap RKid.u)) (hb : ∀ k, v.ownBlock = some k → k < hi)
      (hk : ∀ c ∈ cs, c.fits lo hi) (hc : ∀ c ∈ cs, OwnR w c.l c.h c.u c.x) :
      OwnR w lo hi (rdC 4 p false noS v (.slice none 0 0) (.slice none 0 0)) (.lst p (cs.map RKid.x))
  | obj (lo hi p : Nat) (v vk vp : Value) (cs : List RKid) (ho : w.ownsRow lo 33 7 v cs.length (cs.flatMap RKid.u)) (hb : ∀ k, v.ownBlock = some k → k < hi)
      (ho2 : w.ownsRow lo 9 1 vk cs.length (cs.map fun c => .string c.key)) (hb2 : ∀ k, vk.ownBlock = some k → k < hi)
      (ho3 : w.ownsRow lo 3 1 vp cs.length (cs.map fun c => .int .i64 (c.pl : Int))) (hb3 : ∀ k, vp.ownBlock = some k → k < hi)
      (hk : ∀ c ∈ cs, c.fits lo hi) (hc : ∀ c ∈ cs, OwnR w c.l c.h c.u c.x) :
      OwnR w lo hi (rdC 5 p false noS v vk vp) (.obj p (cs.map RKid.mem))
theorem OwnR.keep {w w' : World} {lo hi : Nat} {u : List Value} {x : Nd} (h : OwnR w lo hi u x) : (∀ k, lo ≤ k → k < hi → w'.heap[k]? = w.heap[k]?) → OwnR w' lo hi u x := by
  induction h with
  | null lo hi p => exact fun _ => .null lo hi p
  | flag lo hi p b => exact fun _ => .flag lo hi p b
  | num lo hi p t => exact fun _ => .num lo hi p t
  | text lo hi p t => exact fun _ => .text lo hi p t
  | lst lo hi p v cs ho hb hk hc ih =>
    intro H
    exact .lst lo hi p v cs (ownsRow_heap ho fun k e => H k (ho.lt k e).1 (hb k e)) hb hk (fun c hm => ih c hm fun k h1 h2 => H k (Nat.le_trans (hk c hm).1 h1) (Nat.lt_of_lt_of_le h2 (hk c hm).2.2))
  | obj lo hi p v vk vp cs ho hb ho2 hb2 ho3 hb3 hk hc ih =>
    intro H
    exact .obj lo hi p v vk vp cs (ownsRow_heap ho fun k e => H k (ho.lt k e).1 (hb k e)) hb (ownsRow_heap ho2 fun k e => H k (ho2.lt k e).1 (hb2 k e)) hb2 (ownsRow_heap ho3 fun k e => H k (ho3.lt k e).1 (hb3 k e)) hb3 hk (fun c hm => ih c hm fun k h1 h2 => H k (Nat.le_trans (hk c hm).1 h1) (Nat.lt_of_lt_of_le h2 (hk c hm).2.2))
theorem RKid.fits.wide {lo hi lo' hi' : Nat} {c : RKid} (h : c.fits lo hi) (h1 : lo' ≤ lo) (h2 : hi ≤ hi') : c.fits lo' hi' := ⟨Nat.le_trans h1 h.1, h.2.1, Nat.le_trans h.2.2 h2⟩
theorem OwnR.wide {w : World} {lo hi lo' hi' : Nat} {u : List Value} {x : Nd} (h : OwnR w lo hi u x) (h1 : lo' ≤ lo) (h2 : hi ≤ hi') : OwnR w lo' hi' u x := by
  cases h with
  | null _ _ p => exact .null lo' hi' _
  | flag _ _ p b => exact .flag lo' hi' _ _
  | num _ _ p t => exact .num lo' hi' _ _
  | text _ _ p t => exact .text lo' hi' _ _
  | lst _ _ p v cs ho hb hk hc => exact .lst lo' hi' _ v cs (ownsRow_base ho h1) (fun k e => Nat.lt_of_lt_of_le (hb k e) h2) (fun c hm => (hk c hm).wide h1 h2) hc
  | obj _ _ p v vk vp cs ho hb ho2 hb2 ho3 hb3 hk hc => exact .obj lo' hi' _ v vk vp cs (ownsRow_base ho h1) (fun k e => Nat.lt_of_lt_of_le (hb k e) h2) (ownsRow_base ho2 h1) (fun k e => Nat.lt_of_lt_of_le (hb2 k e) h2) (ownsRow_base ho3 h1) (fun k e => Nat.lt_of_lt_of_le (hb3 k e) h2) (fun c hm => (hk c hm).wide h1 h2) hc
theorem OwnR.grown {w w' : World} {lo hi b : Nat} {u : List Value} {x : Nd} (h : OwnR w lo hi u x) (hg : w.grownBy w' (some b)) (hh : hi ≤ w.heap.size) (hb : b < lo) : OwnR w' lo hi u x :=
  h.keep fun k h1 h2 => hg.block k (Nat.lt_of_lt_of_le h2 hh) (fun e => by cases e; omega)
theorem OwnR.under {w w' : World} {lo hi : Nat} {u : List Value} {x : Nd} (h : OwnR w lo hi u x) (hb : Below w.heap.size w w') (hh : hi ≤ w.heap.size) : OwnR w' lo hi u x :=
  h.keep fun k _ h2 => hb.block k (Nat.lt_of_lt_of_le h2 hh)
def isSl (v : Value) : Prop := ∃ a n c, v = .slice a n c
theorem ownsRow_sl {w : World} {base : Nat} {e : TypeId} {size : Nat} {v : Value} {n : Nat} {xs : List Value} (h : w.ownsRow base e size v n xs) : isSl v := by
  obtain ⟨_, ⟨rfl, _⟩ | ⟨g, cap, cur, rfl, _⟩⟩ := h
  · exact ⟨_, _, _, rfl⟩
  · exact ⟨_, _, _, rfl⟩
theorem OwnR.form {w : World} {lo hi : Nat} {u : List Value} {x : Nd} (h : OwnR w lo hi u x) : ∃ n p f t vi vk vp, u = rdC n p f t vi vk vp ∧ isSl vi ∧ isSl vk ∧ isSl vp := by
  have hn : isSl (.slice none 0 0) := ⟨_, _, _, rfl⟩
  cases h with
  | null => exact ⟨_, _, _, _, _, _, _, rfl, hn, hn, hn⟩
  | flag => exact ⟨_, _, _, _, _, _, _, rfl, hn, hn, hn⟩
  | num => exact ⟨_, _, _, _, _, _, _, rfl, hn, hn, hn⟩
  | text => exact ⟨_, _, _, _, _, _, _, rfl, hn, hn, hn⟩
  | lst _ _ p v cs ho => exact ⟨_, _, _, _, _, _, _, rfl, ownsRow_sl ho, hn, hn⟩
  | obj _ _ p v vk vp cs ho hb ho2 hb2 ho3 => exact ⟨_, _, _, _, _, _, _, rfl, ownsRow_sl ho, ownsRow_sl ho2, ownsRow_sl ho3⟩
theorem rdC_one {n p : Nat} {f : Bool} {t : ByteArray} {vi vk vp : Value} (h1 : isSl vi) (h2 : isSl vk) (h3 : isSl vp) : ∀ u ∈ rdC n p f t vi vk vp, u.oneCell' = true := by
  obtain ⟨_, _, _, rfl⟩ := h1
  obtain ⟨_, _, _, rfl⟩ := h2
  obtain ⟨_, _, _, rfl⟩ := h3
  intro u hu
  simp only [rdC, List.mem_cons, List.mem_nil_iff, or_false] at hu
  rcases hu with rfl | rfl | rfl | rfl | rfl | rfl | rfl <;> rfl
/-- The members that a loop has gathered: their blocks, none of them a row's own. -/
structure RKids (n0 : Nat) (w : World) (os : List (Option Nat)) (cs : List RKid) : Prop where
  fit : ∀ c ∈ cs, c.fits n0 w.heap.size
  off : ∀ c ∈ cs, ∀ o ∈ os, ∀ k, o = some k → k < c.l ∨ c.h ≤ k
  kid : ∀ c ∈ cs, OwnR w c.l c.h c.u c.x
theorem RKids.nil (n0 : Nat) (w : World) (os : List (Option Nat)) : RKids n0 w os [] := ⟨fun c h => (by cases h), fun c h => (by cases h), fun c h => (by cases h)⟩
/-- A row grows, or other memory. -/
theorem RKids.grow {n0 : Nat} {w w' : World} {os os' : List (Option Nat)} {cs : List RKid} {o : Option Nat} (h : RKids n0 w os cs) (hg : w.grownBy w' o) (ho : (∀ k, o = some k → k < n0) ∨ o ∈ os)
    (hos : ∀ o' ∈ os', o' ∈ os ∨ ∃ g, o' = some g ∧ w.heap.size ≤ g) : RKids n0 w' os' cs := by
  refine ⟨fun c hm => (h.fit c hm).wide (Nat.le_refl _) hg.size, fun c hm o' ho' k hk => ?_, fun c hm => (h.kid c hm).keep fun k h1 h2 => hg.block k (Nat.lt_of_lt_of_le h2 (h.fit c hm).2.2) fun e => ?_⟩
  · rcases hos o' ho' with h1 | ⟨g, h1, h2⟩
    · exact h.off c hm o' h1 k hk
    · rw [h1] at hk
      cases hk
      exact Or.inr (Nat.le_trans (h.fit c hm).2.2 h2)
  · rcases ho with h3 | h3
    · have := h3 k e.symm
      have := (h.fit c hm).1
      omega
    · have := h.off c hm o h3 k e.symm
      omega
theorem RKids.below {n0 : Nat} {w w' : World} {os : List (Option Nat)} {cs : List RKid} (h : RKids n0 w os cs) (hb : Below w.heap.size w w') : RKids n0 w' os cs :=
  h.grow (o := none) (grown_of_below hb) (Or.inl fun k e => by cases e) fun o ho => Or.inl ho
/-- One more, just read. -/
theorem RKids.add {n0 n1 : Nat} {w : World} {os : List (Option Nat)} {cs : List RKid} {c : RKid} (h : RKids n0 w os cs) (hl : c.l = n1) (hh : c.h = w.heap.size) (hx : OwnR w c.l c.h c.u c.x) (hn : n0 ≤ n1) (h1 : n1 ≤ w.heap.size) (ho : ∀ o ∈ os, ∀ k, o = some k → k < n1) : RKids n0 w os (cs ++ [c]) := by
  refine ⟨fun a hm => ?_, fun a hm => ?_, fun a hm => ?_⟩
  all_goals rcases List.mem_append.1 hm with hm | hm
  · exact h.fit a hm
  · rw [List.mem_singleton.1 hm]; exact ⟨by omega, by omega, by omega⟩
  · exact h.off a hm
  · rw [List.mem_singleton.1 hm, hl]; exact fun o hm k e => Or.inl (ho o hm k e)
  · exact h.kid a hm
  · rw [List.mem_singleton.1 hm]; exact hx
/-- What value answers (a reader without a fault; pl0 is its place's cell). -/
def PostRV (s : ByteArray) (v : Value) (n pl0 b : Nat) (w : World) (r : PR Nd) (e : Ending) (w' : World) : Prop :=
  w.grownBy w' (some b) ∧ match r with
    | .ok x q => ∃ u : List Value, e = .returned (.agg u.toArray) ∧ OwnR w' w.heap.size w'.heap.size u x ∧ RdB s v q pl0 0 b w'
    | .err k pl => ∃ m p f t vi vk vp q, e = .returned (.agg (rdC m p f t vi vk vp).toArray) ∧ (isSl vi ∧ isSl vk ∧ isSl vp) ∧ q ≤ n ∧ RdB s v q pl k b w'
    | .out => True
/-- What is asked of value at a fuel. -/
def RVC (base : Nat) (s : ByteArray) (v : Value) (ts : List Tk) (f : Nat) : Prop := ∀ deep p pl b w, pV s ts f deep p ≠ .out → deep ≤ 64 → RdW base s v ts p pl 0 b w →
  Calls Tryz.prog 34 #[.pointer (some ⟨b, 0, none⟩), .int .i64 (deep : Int)] w (PostRV s v ts.length pl b w (pV s ts f deep p))
theorem set1 {w : World} {g i : Nat} {cs ds : Array Value} {t : TypeId} {fr : Nat × Nat} (h : w.heap[g]? = some (.cells cs t fr)) (u : Value) (hd : cs.setIfInBounds i u = ds) : (w.setCell ⟨g, i, none⟩ u).heap[g]? = some (.cells ds t fr) := by
  rw [Lib.heap_setCell_same (i := i) h, hd]
theorem set7 {w : World} {g : Nat} {a0 a1 a2 a3 a4 a5 a6 : Value} {t : TypeId} {fr : Nat × Nat} (h : w.heap[g]? = some (.cells #[a0, a1, a2, a3, a4, a5, a6] t fr)) (b0 b1 b2 b3 b4 b5 b6 : Value) :
    (((((((w.setCell ⟨g, 0, none⟩ b0).setCell ⟨g, 1, none⟩ b1).setCell ⟨g, 2, none⟩ b2).setCell ⟨g, 3, none⟩ b3).setCell ⟨g, 4, none⟩ b4).setCell ⟨g, 5, none⟩ b5).setCell ⟨g, 6, none⟩ b6).heap[g]? = some (.cells #[b0, b1, b2, b3, b4, b5, b6] t fr) := by
  have h := set1 (i := 0) (ds := #[b0, a1, a2, a3, a4, a5, a6]) h b0 rfl
  have h := set1 (i := 1) (ds := #[b0, b1, a2, a3, a4, a5, a6]) h b1 rfl
  have h := set1 (i := 2) (ds := #[b0, b1, b2, a3, a4, a5, a6]) h b2 rfl
  have h := set1 (i := 3) (ds := #[b0, b1, b2, b3, a4, a5, a6]) h b3 rfl
  have h := set1 (i := 4) (ds := #[b0, b1, b2, b3, b4, a5, a6]) h b4 rfl
  have h := set1 (i := 5) (ds := #[b0, b1, b2, b3, b4, b5, a6]) h b5 rfl
  have h := set1 (i := 6) (ds := #[b0, b1, b2, b3, b4, b5, b6]) h b6 rfl
  exact h
theorem below7 {B : Nat} {w w1 : World} {g : Nat} (h : Below B w w1) (hg : B ≤ g) (b0 b1 b2 b3 b4 b5 b6 : Value) :
    Below B w (((((((w1.setCell ⟨g, 0, none⟩ b0).setCell ⟨g, 1, none⟩ b1).setCell ⟨g, 2, none⟩ b2).setCell ⟨g, 3, none⟩ b3).setCell ⟨g, 4, none⟩ b4).setCell ⟨g, 5, none⟩ b5).setCell ⟨g, 6, none⟩ b6) := by
  have h := Below.setCell h (p := ⟨g, 0, none⟩) hg b0
  have h := Below.setCell h (p := ⟨g, 1, none⟩) hg b1
  have h := Below.setCell h (p := ⟨g, 2, none⟩) hg b2
  have h := Below.setCell h (p := ⟨g, 3, none⟩) hg b3
  have h := Below.setCell h (p := ⟨g, 4, none⟩) hg b4
  have h := Below.setCell h (p := ⟨g, 5, none⟩) hg b5
  exact Below.setCell h (p := ⟨g, 6, none⟩) hg b6
theorem info7 : (Tryz.prog.info? 33).map (·.size) = some 7 := by kernel_rfl
set_option maxHeartbeats 1000000 in
set_option maxRecDepth 100000 in
/-- value, where there is a fault. -/
theorem rvalue_old {base : Nat} {v : Value} {ts : List Tk} (s : ByteArray) (p pl k b : Nat) (deep : Int) (w : World) (hW : RdW base s v ts p pl k b w) (h0 : k ≠ 0) :
    Calls Tryz.prog 34 #[.pointer (some ⟨b, 0, none⟩), .int .i64 deep] w fun e w' => e = .returned (.agg (rdC 0 (placeT s ts p) false noS (.slice none 0 0) (.slice none 0 0) (.slice none 0 0)).toArray) ∧ Below w.heap.size w w' := by
  have H := Lib.hid (fun w hW => here_calls (base := base) (v := v) (ts := ts) s p pl k b w hW)
  obtain ⟨P1, hP1⟩ : ∃ P1, P1 = placeT s ts p := ⟨_, rfl⟩
  rw [← hP1] at H ⊢
  have hbl := hW.lt
  have h1 : ((k : Int) == 0) = false := by simp; omega
  have h1' : ¬ (k : Int) = 0 := by omega
  replace hW := Lib.hid hW
  replace hP1 := Lib.hid hP1
  go_enter Tryz.func34, Tryz.ntmps34
  (go_wp2_with fail; repeat (any_goals (go_quiet (fail); go_wp2_with fail)))
  refine (H.out _ (hW.out.next (by repeat (first | assumption | exact Below.refl _ _ | apply Below.drew | apply below_drewN | apply balloc | (refine Below.setCell ?_ (by first | omega | (simp <;> omega)) _))))).mono ?_
  rintro e w1 ⟨rfl, hb⟩
  have hb1 : Below w.heap.size w w1 := bcall (by repeat (first | assumption | exact Below.refl _ _ | apply Below.drew | apply below_drewN | apply balloc | (refine Below.setCell ?_ (by first | omega | (simp <;> omega)) _))) hb
  have hx := boxed hb
  have x4 := (hW.out.next hb1).rd.c4
  have hbl1 := (hW.out.next hb1).lt
  clear hb
  have yc0 := cellB hx 0 rfl
  have yc1 := cellB hx 1 rfl
  have yc2 := cellB hx 2 rfl
  have yc3 := cellB hx 3 rfl
  have yc4 := cellB hx 4 rfl
  have yc5 := cellB hx 5 rfl
  have yc6 := cellB hx 6 rfl
  have yf0 := freeB hx 0
  have yf1 := freeB hx 1
  have yf2 := freeB hx 2
  have yf3 := freeB hx 3
  have yf4 := freeB hx 4
  have yf5 := freeB hx 5
  have yf6 := freeB hx 6
  have hx0 := ltB hx
  go_wp2_with fail
  have hh := box_next (set7 hx (.int .i64 0) (.int .i64 (P1 : Int)) (.bool false) (.string ⟨#[]⟩) (.slice none 0 0) (.slice none 0 0) (.slice none 0 0)) (balloc (o := .cells #[.int .i64 0, .int .i64 (P1 : Int), .bool false, .string ⟨#[]⟩, .slice none 0 0, .slice none 0 0, .slice none 0 0] 33 (0, 0)) (Below.refl _ _))
  refine bodyPost_ret (results_cell_row rfl _ _ w.heap.size 33 _ (0, 0) _ rfl hh Tryz.underlying33 rfl info7) rfl ?_
  exact ⟨rfl, balloc (below7 hb1 (Nat.le_refl _) _ _ _ _ _ _ _)⟩

end Go.Proofs.YtibopkodoidjoaaGreatDoor

/- The reference's tree: value, the plain kinds. -/
namespace Go.Proofs.YtibopkodoidjoaaGreatDoor
open Go Go.RowKit

theorem other {w : World} {g c i : Nat} {u : Value} {o : Obj} (h : w.heap[g]? = some o) (hc : g ≠ c) : (w.setCell ⟨c, i, none⟩ u).heap[g]? = some o := by
  rw [Below.heap_setCell _ _ _ _ (fun e => hc (by first | exact e | exact e.symm)), h]
theorem other7 {W : World} {g c : Nat} {o : Obj} (h : W.heap[c]? = some o) (hc : c ≠ g) (b0 b1 b2 b3 b4 b5 b6 : Value) : (((((((W.setCell ⟨g, 0, none⟩ b0).setCell ⟨g, 1, none⟩ b1).setCell ⟨g, 2, none⟩ b2).setCell ⟨g, 3, none⟩ b3).setCell ⟨g, 4, none⟩ b4).setCell ⟨g, 5, none⟩ b5).setCell ⟨g, 6, none⟩ b6).heap[c]? = some o :=
  other (other (other (other (other (other (other h hc) hc) hc) hc) hc) hc) hc
theorem grown7 {w W : World} {g b : Nat} (h : w.grownBy W (some b)) (hc : w.heap.size ≤ g) (b0 b1 b2 b3 b4 b5 b6 : Value) : w.grownBy (((((((W.setCell ⟨g, 0, none⟩ b0).setCell ⟨g, 1, none⟩ b1).setCell ⟨g, 2, none⟩ b2).setCell ⟨g, 3, none⟩ b3).setCell ⟨g, 4, none⟩ b4).setCell ⟨g, 5, none⟩ b5).setCell ⟨g, 6, none⟩ b6) (some b) :=
  ((((((h.setNew hc 0 b0).setNew hc 1 b1).setNew hc 2 b2).setNew hc 3 b3).setNew hc 4 b4).setNew hc 5 b5).setNew hc 6 b6
/-- The end of value: the result's cells are set. -/
theorem rd_end {s : ByteArray} {v : Value} {q pl k b g : Nat} {w W : World} {a0 a1 a2 a3 a4 a5 a6 : Value} (hx : W.heap[g]? = some (.cells #[a0, a1, a2, a3, a4, a5, a6] 33 (0, 0))) (hg : w.grownBy W (some b)) (hr : RdB s v q pl k b W) (hb : b ≠ g) (hge : w.heap.size ≤ g) (b0 b1 b2 b3 b4 b5 b6 : Value) :
    (((((((W.setCell ⟨g, 0, none⟩ b0).setCell ⟨g, 1, none⟩ b1).setCell ⟨g, 2, none⟩ b2).setCell ⟨g, 3, none⟩ b3).setCell ⟨g, 4, none⟩ b4).setCell ⟨g, 5, none⟩ b5).setCell ⟨g, 6, none⟩ b6).heap[g]? = some (.cells #[b0, b1, b2, b3, b4, b5, b6] 33 (0, 0)) ∧ w.grownBy (((((((W.setCell ⟨g, 0, none⟩ b0).setCell ⟨g, 1, none⟩ b1).setCell ⟨g, 2, none⟩ b2).setCell ⟨g, 3, none⟩ b3).setCell ⟨g, 4, none⟩ b4).setCell ⟨g, 5, none⟩ b5).setCell ⟨g, 6, none⟩ b6) (some b) ∧ RdB s v q pl k b (((((((W.setCell ⟨g, 0, none⟩ b0).setCell ⟨g, 1, none⟩ b1).setCell ⟨g, 2, none⟩ b2).setCell ⟨g, 3, none⟩ b3).setCell ⟨g, 4, none⟩ b4).setCell ⟨g, 5, none⟩ b5).setCell ⟨g, 6, none⟩ b6) :=
  ⟨set7 hx _ _ _ _ _ _ _, grown7 hg hge _ _ _ _ _ _ _, other7 hr hb _ _ _ _ _ _ _⟩
set_option maxHeartbeats 2000000 in
set_option maxRecDepth 100000 in
theorem rvalue_null {base : Nat} {v : Value} {ts : List Tk} (s : ByteArray) (p pl b : Nat) (deep : Int) (w : World) (hW : RdW base s v ts p pl 0 b w) (hK : kindT ts p = 1) :
    Calls Tryz.prog 34 #[.pointer (some ⟨b, 0, none⟩), .int .i64 deep] w (PostRV s v ts.length pl b w (.ok (.null (placeT s ts p)) (p + 1))) := by
  have H := Lib.hid (fun w hW => here_calls (base := base) (v := v) (ts := ts) s p pl 0 b w hW)
  have N := Lib.hid (fun w hW => peek_calls (base := base) (v := v) (ts := ts) s p pl 0 b w hW)
  obtain ⟨P1, hP1⟩ : ∃ P1, P1 = placeT s ts p := ⟨_, rfl⟩
  rw [← hP1] at H ⊢
  rw [hK] at N
  have hbl := hW.lt
  have hpb : (p : Int) + 1 ≤ 3518437208884 := by have := hW.hl; have := hW.hp; omega
  replace hW := Lib.hid hW
  replace hP1 := Lib.hid hP1
  replace hK := Lib.hid hK
  go_enter Tryz.func34, Tryz.ntmps34
  (go_wp2_with fail; repeat (any_goals (go_quiet (fail); go_wp2_with fail)))
  refine (H.out _ (hW.out.next (by repeat (first | assumption | exact Below.refl _ _ | apply Below.drew | apply below_drewN | apply balloc | (refine Below.setCell ?_ (by first | omega | (simp <;> omega)) _))))).mono ?_
  rintro e w1 ⟨rfl, hb⟩
  have hb1 : Below w.heap.size w w1 := bcall (by repeat (first | assumption | exact Below.refl _ _ | apply Below.drew | apply below_drewN | apply balloc | (refine Below.setCell ?_ (by first | omega | (simp <;> omega)) _))) hb
  have hx := boxed hb
  have hz1 := ltB hx
  have hz2 : b ≠ w.heap.size := by omega
  have hz3 : b ≠ w1.heap.size := by omega
  have hz4 : w.heap.size ≠ w1.heap.size := by omega
  clear hb
  have hW1 := hW.out.next hb1
  have x4 := hW1.rd.c4
  have hbl1 := hW1.lt
  replace hW1 := Lib.hid hW1
  go_wp2_with fail
  refine (N.out _ (hW1.out.next (by repeat (first | assumption | exact Below.refl _ _ | apply Below.drew | apply below_drewN | apply balloc | (refine Below.setCell ?_ (by first | omega | (simp <;> omega)) _))))).mono ?_
  rintro e w2 ⟨rfl, hb⟩
  have hb2 : Below w.heap.size w w2 := bcall (balloc hb1) hb
  have hn := boxed hb
  replace hx := box_next hx (bcall (w := w1) (balloc (Below.refl _ _)) hb)
  clear hb x4
  have hW2 := hW.out.next hb2
  have x2 := hW2.rd.c2
  have f2 := freeB hW2.rd 2
  have hbl2 := hW2.lt
  have hx0 := ltB hx
  have hn0 := ltB hn
  replace hW2 := Lib.hid hW2
  have yc0 := cellB hx 0 rfl
  have yc1 := cellB hx 1 rfl
  have yc2 := cellB hx 2 rfl
  have yc3 := cellB hx 3 rfl
  have yc4 := cellB hx 4 rfl
  have yc5 := cellB hx 5 rfl
  have yc6 := cellB hx 6 rfl
  have yf0 := freeB hx 0
  have yf1 := freeB hx 1
  have yf2 := freeB hx 2
  have yf3 := freeB hx 3
  have yf4 := freeB hx 4
  have yf5 := freeB hx 5
  have yf6 := freeB hx 6
  have zc0 := cellB hn 0 rfl
  have zc1 := cellB hn 1 rfl
  have zc2 := cellB hn 2 rfl
  have zc3 := cellB hn 3 rfl
  have zc4 := cellB hn 4 rfl
  have zc5 := cellB hn 5 rfl
  have zc6 := cellB hn 6 rfl
  have zf0 := freeB hn 0
  have zf1 := freeB hn 1
  have zf2 := freeB hn 2
  have zf3 := freeB hn 3
  have zf4 := freeB hn 4
  have zf5 := freeB hn 5
  have zf6 := freeB hn 6
  go_wp2_with fail
  have h1 := other (i := 2) (u := .int .i64 ((p : Int) + 1)) (other (i := 0) (u := .int .i64 0) hx hz4) hz2.symm
  have h2 := (other (i := 0) (u := .int .i64 0) hW2.out.rd hz3)
  have h3 := RdB.set2 (q := p + 1) h2
  have h4 := grown_trans ((grown_of_below (r := some b) hb2).setNew (Nat.le_of_lt hz1) 0 (.int .i64 0)) (grown_set _ b 2 (.int .i64 ((p : Int) + 1)))
  obtain ⟨e1, e2, e3⟩ := rd_end h1 h4 h3 hz2 (Nat.le_refl _) (.int .i64 0) (.int .i64 (P1 : Int)) (.bool false) (.string ⟨#[]⟩) (.slice none 0 0) (.slice none 0 0) (.slice none 0 0)
  exact bodyPost_ret (results_cell_row rfl _ _ w.heap.size 33 _ (0, 0) _ rfl e1 Tryz.underlying33 rfl info7) rfl ⟨e2, _, rfl, .null _ _ _, e3⟩

set_option maxHeartbeats 2000000 in
set_option maxRecDepth 100000 in
theorem rvalue_flag2 {base : Nat} {v : Value} {ts : List Tk} (s : ByteArray) (p pl b : Nat) (deep : Int) (w : World) (hW : RdW base s v ts p pl 0 b w) (hK : kindT ts p = 2) :
    Calls Tryz.prog 34 #[.pointer (some ⟨b, 0, none⟩), .int .i64 deep] w (PostRV s v ts.length pl b w (.ok (.flag (placeT s ts p) true) (p + 1))) := by
  have H := Lib.hid (fun w hW => here_calls (base := base) (v := v) (ts := ts) s p pl 0 b w hW)
  have N := Lib.hid (fun w hW => peek_calls (base := base) (v := v) (ts := ts) s p pl 0 b w hW)
  obtain ⟨P1, hP1⟩ : ∃ P1, P1 = placeT s ts p := ⟨_, rfl⟩
  rw [← hP1] at H ⊢
  rw [hK] at N
  have hbl := hW.lt
  have hpb : (p : Int) + 1 ≤ 3518437208884 := by have := hW.hl; have := hW.hp; omega
  replace hW := Lib.hid hW
  replace hP1 := Lib.hid hP1
  replace hK := Lib.hid hK
  go_enter Tryz.func34, Tryz.ntmps34
  (go_wp2_with fail; repeat (any_goals (go_quiet (fail); go_wp2_with fail)))
  refine (H.out _ (hW.out.next (by repeat (first | assumption | exact Below.refl _ _ | apply Below.drew | apply below_drewN | apply balloc | (refine Below.setCell ?_ (by first | omega | (simp <;> omega)) _))))).mono ?_
  rintro e w1 ⟨rfl, hb⟩
  have hb1 : Below w.heap.size w w1 := bcall (by repeat (first | assumption | exact Below.refl _ _ | apply Below.drew | apply below_drewN | apply balloc | (refine Below.setCell ?_ (by first | omega | (simp <;> omega)) _))) hb
  have hx := boxed hb
  have hz1 := ltB hx
  have hz2 : b ≠ w.heap.size := by omega
  have hz3 : b ≠ w1.heap.size := by omega
  have hz4 : w.heap.size ≠ w1.heap.size := by omega
  clear hb
  have hW1 := hW.out.next hb1
  have x4 := hW1.rd.c4
  have hbl1 := hW1.lt
  replace hW1 := Lib.hid hW1
  go_wp2_with fail
  refine (N.out _ (hW1.out.next (by repeat (first | assumption | exact Below.refl _ _ | apply Below.drew | apply below_drewN | apply balloc | (refine Below.setCell ?_ (by first | omega | (simp <;> omega)) _))))).mono ?_
  rintro e w2 ⟨rfl, hb⟩
  have hb2 : Below w.heap.size w w2 := bcall (balloc hb1) hb
  have hn := boxed hb
  replace hx := box_next hx (bcall (w := w1) (balloc (Below.refl _ _)) hb)
  clear hb x4
  have hW2 := hW.out.next hb2
  have x2 := hW2.rd.c2
  have f2 := freeB hW2.rd 2
  have hbl2 := hW2.lt
  have hx0 := ltB hx
  have hn0 := ltB hn
  replace hW2 := Lib.hid hW2
  have yc0 := cellB hx 0 rfl
  have yc1 := cellB hx 1 rfl
  have yc2 := cellB hx 2 rfl
  have yc3 := cellB hx 3 rfl
  have yc4 := cellB hx 4 rfl
  have yc5 := cellB hx 5 rfl
  have yc6 := cellB hx 6 rfl
  have yf0 := freeB hx 0
  have yf1 := freeB hx 1
  have yf2 := freeB hx 2
  have yf3 := freeB hx 3
  have yf4 := freeB hx 4
  have yf5 := freeB hx 5
  have yf6 := freeB hx 6
  have zc0 := cellB hn 0 rfl
  have zc1 := cellB hn 1 rfl
  have zc2 := cellB hn 2 rfl
  have zc3 := cellB hn 3 rfl
  have zc4 := cellB hn 4 rfl
  have zc5 := cellB hn 5 rfl
  have zc6 := cellB hn 6 rfl
  have zf0 := freeB hn 0
  have zf1 := freeB hn 1
  have zf2 := freeB hn 2
  have zf3 := freeB hn 3
  have zf4 := freeB hn 4
  have zf5 := freeB hn 5
  have zf6 := freeB hn 6
  go_wp2_with fail
  have h1 := other (i := 2) (u := .int .i64 ((p : Int) + 1)) (other (i := 2) (u := .bool true) (other (i := 0) (u := .int .i64 1) hx hz4) hz4) hz2.symm
  have h2 := (other (i := 2) (u := .bool true) (other (i := 0) (u := .int .i64 1) hW2.out.rd hz3) hz3)
  have h3 := RdB.set2 (q := p + 1) h2
  have h4 := grown_trans (((grown_of_below (r := some b) hb2).setNew (Nat.le_of_lt hz1) 0 (.int .i64 1)).setNew (Nat.le_of_lt hz1) 2 (.bool true)) (grown_set _ b 2 (.int .i64 ((p : Int) + 1)))
  obtain ⟨e1, e2, e3⟩ := rd_end h1 h4 h3 hz2 (Nat.le_refl _) (.int .i64 1) (.int .i64 (P1 : Int)) (.bool true) (.string ⟨#[]⟩) (.slice none 0 0) (.slice none 0 0) (.slice none 0 0)
  exact bodyPost_ret (results_cell_row rfl _ _ w.heap.size 33 _ (0, 0) _ rfl e1 Tryz.underlying33 rfl info7) rfl ⟨e2, _, rfl, .flag _ _ _ _, e3⟩
set_option maxHeartbeats 2000000 in
set_option maxRecDepth 100000 in
theorem rvalue_flag3 {base : Nat} {v : Value} {ts : List Tk} (s : ByteArray) (p pl b : Nat) (deep : Int) (w : World) (hW : RdW base s v ts p pl 0 b w) (hK : kindT ts p = 3) :
    Calls Tryz.prog 34 #[.pointer (some ⟨b, 0, none⟩), .int .i64 deep] w (PostRV s v ts.length pl b w (.ok (.flag (placeT s ts p) false) (p + 1))) := by
  have H := Lib.hid (fun w hW => here_calls (base := base) (v := v) (ts := ts) s p pl 0 b w hW)
  have N := Lib.hid (fun w hW => peek_calls (base := base) (v := v) (ts := ts) s p pl 0 b w hW)
  obtain ⟨P1, hP1⟩ : ∃ P1, P1 = placeT s ts p := ⟨_, rfl⟩
  rw [← hP1] at H ⊢
  rw [hK] at N
  have hbl := hW.lt
  have hpb : (p : Int) + 1 ≤ 3518437208884 := by have := hW.hl; have := hW.hp; omega
  replace hW := Lib.hid hW
  replace hP1 := Lib.hid hP1
  replace hK := Lib.hid hK
  go_enter Tryz.func34, Tryz.ntmps34
  (go_wp2_with fail; repeat (any_goals (go_quiet (fail); go_wp2_with fail)))
  refine (H.out _ (hW.out.next (by repeat (first | assumption | exact Below.refl _ _ | apply Below.drew | apply below_drewN | apply balloc | (refine Below.setCell ?_ (by first | omega | (simp <;> omega)) _))))).mono ?_
  rintro e w1 ⟨rfl, hb⟩
  have hb1 : Below w.heap.size w w1 := bcall (by repeat (first | assumption | exact Below.refl _ _ | apply Below.drew | apply below_drewN | apply balloc | (refine Below.setCell ?_ (by first | omega | (simp <;> omega)) _))) hb
  have hx := boxed hb
  have hz1 := ltB hx
  have hz2 : b ≠ w.heap.size := by omega
  have hz3 : b ≠ w1.heap.size := by omega
  have hz4 : w.heap.size ≠ w1.heap.size := by omega
  clear hb
  have hW1 := hW.out.next hb1
  have x4 := hW1.rd.c4
  have hbl1 := hW1.lt
  replace hW1 := Lib.hid hW1
  go_wp2_with fail
  refine (N.out _ (hW1.out.next (by repeat (first | assumption | exact Below.refl _ _ | apply Below.drew | apply below_drewN | apply balloc | (refine Below.setCell ?_ (by first | omega | (simp <;> omega)) _))))).mono ?_
  rintro e w2 ⟨rfl, hb⟩
  have hb2 : Below w.heap.size w w2 := bcall (balloc hb1) hb
  have hn := boxed hb
  replace hx := box_next hx (bcall (w := w1) (balloc (Below.refl _ _)) hb)
  clear hb x4
  have hW2 := hW.out.next hb2
  have x2 := hW2.rd.c2
  have f2 := freeB hW2.rd 2
  have hbl2 := hW2.lt
  have hx0 := ltB hx
  have hn0 := ltB hn
  replace hW2 := Lib.hid hW2
  have yc0 := cellB hx 0 rfl
  have yc1 := cellB hx 1 rfl
  have yc2 := cellB hx 2 rfl
  have yc3 := cellB hx 3 rfl
  have yc4 := cellB hx 4 rfl
  have yc5 := cellB hx 5 rfl
  have yc6 := cellB hx 6 rfl
  have yf0 := freeB hx 0
  have yf1 := freeB hx 1
  have yf2 := freeB hx 2
  have yf3 := freeB hx 3
  have yf4 := freeB hx 4
  have yf5 := freeB hx 5
  have yf6 := freeB hx 6
  have zc0 := cellB hn 0 rfl
  have zc1 := cellB hn 1 rfl
  have zc2 := cellB hn 2 rfl
  have zc3 := cellB hn 3 rfl
  have zc4 := cellB hn 4 rfl
  have zc5 := cellB hn 5 rfl
  have zc6 := cellB hn 6 rfl
  have zf0 := freeB hn 0
  have zf1 := freeB hn 1
  have zf2 := freeB hn 2
  have zf3 := freeB hn 3
  have zf4 := freeB hn 4
  have zf5 := freeB hn 5
  have zf6 := freeB hn 6
  go_wp2_with fail
  have h1 := other (i := 2) (u := .int .i64 ((p : Int) + 1)) (other (i := 2) (u := .bool false) (other (i := 0) (u := .int .i64 1) hx hz4) hz4) hz2.symm
  have h2 := (other (i := 2) (u := .bool false) (other (i := 0) (u := .int .i64 1) hW2.out.rd hz3) hz3)
  have h3 := RdB.set2 (q := p + 1) h2
  have h4 := grown_trans (((grown_of_below (r := some b) hb2).setNew (Nat.le_of_lt hz1) 0 (.int .i64 1)).setNew (Nat.le_of_lt hz1) 2 (.bool false)) (grown_set _ b 2 (.int .i64 ((p : Int) + 1)))
  obtain ⟨e1, e2, e3⟩ := rd_end h1 h4 h3 hz2 (Nat.le_refl _) (.int .i64 1) (.int .i64 (P1 : Int)) (.bool false) (.string ⟨#[]⟩) (.slice none 0 0) (.slice none 0 0) (.slice none 0 0)
  exact bodyPost_ret (results_cell_row rfl _ _ w.heap.size 33 _ (0, 0) _ rfl e1 Tryz.underlying33 rfl info7) rfl ⟨e2, _, rfl, .flag _ _ _ _, e3⟩
set_option maxHeartbeats 2000000 in
set_option maxRecDepth 100000 in
theorem rvalue_bad {base : Nat} {v : Value} {ts : List Tk} (s : ByteArray) (p pl b K : Nat) (deep : Int) (w : World) (hW : RdW base s v ts p pl 0 b w) (hK : kindT ts p = K) (k1 : K ≠ 1) (k2 : K ≠ 2) (k3 : K ≠ 3) (k4 : K ≠ 4) (k5 : K ≠ 5) (k6 : K ≠ 6) (k8 : K ≠ 8) :
    Calls Tryz.prog 34 #[.pointer (some ⟨b, 0, none⟩), .int .i64 deep] w (PostRV s v ts.length pl b w (.err 2 (placeT s ts p))) := by
  have F := Lib.hid (fun q w hW => rfail_new s v p pl b q 2 w hW)
  have k1 : ((K : Int) == 1) = false := by simp; omega
  have k2 : ((K : Int) == 2) = false := by simp; omega
  have k3 : ((K : Int) == 3) = false := by simp; omega
  have k4 : ((K : Int) == 4) = false := by simp; omega
  have k5 : ((K : Int) == 5) = false := by simp; omega
  have k6 : ((K : Int) == 6) = false := by simp; omega
  have k8 : ((K : Int) == 8) = false := by simp; omega
  have k1' : ¬ (K : Int) = 1 := by simpa using k1
  have k2' : ¬ (K : Int) = 2 := by simpa using k2
  have k3' : ¬ (K : Int) = 3 := by simpa using k3
  have k4' : ¬ (K : Int) = 4 := by simpa using k4
  have k5' : ¬ (K : Int) = 5 := by simpa using k5
  have k6' : ¬ (K : Int) = 6 := by simpa using k6
  have k8' : ¬ (K : Int) = 8 := by simpa using k8
  have H := Lib.hid (fun w hW => here_calls (base := base) (v := v) (ts := ts) s p pl 0 b w hW)
  have N := Lib.hid (fun w hW => peek_calls (base := base) (v := v) (ts := ts) s p pl 0 b w hW)
  obtain ⟨P1, hP1⟩ : ∃ P1, P1 = placeT s ts p := ⟨_, rfl⟩
  rw [← hP1] at H ⊢
  rw [hK] at N
  have hbl := hW.lt
  have hpb : (p : Int) + 1 ≤ 3518437208884 := by have := hW.hl; have := hW.hp; omega
  replace hW := Lib.hid hW
  replace hP1 := Lib.hid hP1
  replace hK := Lib.hid hK
  go_enter Tryz.func34, Tryz.ntmps34
  (go_wp2_with fail; repeat (any_goals (go_quiet (fail); go_wp2_with fail)))
  refine (H.out _ (hW.out.next (by repeat (first | assumption | exact Below.refl _ _ | apply Below.drew | apply below_drewN | apply balloc | (refine Below.setCell ?_ (by first | omega | (simp <;> omega)) _))))).mono ?_
  rintro e w1 ⟨rfl, hb⟩
  have hb1 : Below w.heap.size w w1 := bcall (by repeat (first | assumption | exact Below.refl _ _ | apply Below.drew | apply below_drewN | apply balloc | (refine Below.setCell ?_ (by first | omega | (simp <;> omega)) _))) hb
  have hx := boxed hb
  have hz1 := ltB hx
  have hz2 : b ≠ w.heap.size := by omega
  have hz3 : b ≠ w1.heap.size := by omega
  have hz4 : w.heap.size ≠ w1.heap.size := by omega
  clear hb
  have hW1 := hW.out.next hb1
  have x4 := hW1.rd.c4
  have hbl1 := hW1.lt
  replace hW1 := Lib.hid hW1
  go_wp2_with fail
  refine (N.out _ (hW1.out.next (by repeat (first | assumption | exact Below.refl _ _ | apply Below.drew | apply below_drewN | apply balloc | (refine Below.setCell ?_ (by first | omega | (simp <;> omega)) _))))).mono ?_
  rintro e w2 ⟨rfl, hb⟩
  have hb2 : Below w.heap.size w w2 := bcall (balloc hb1) hb
  have hn := boxed hb
  replace hx := box_next hx (bcall (w := w1) (balloc (Below.refl _ _)) hb)
  clear hb x4
  have hW2 := hW.out.next hb2
  have x2 := hW2.rd.c2
  have f2 := freeB hW2.rd 2
  have hbl2 := hW2.lt
  have hx0 := ltB hx
  have hn0 := ltB hn
  replace hW2 := Lib.hid hW2
  have yc0 := cellB hx 0 rfl
  have yc1 := cellB hx 1 rfl
  have yc2 := cellB hx 2 rfl
  have yc3 := cellB hx 3 rfl
  have yc4 := cellB hx 4 rfl
  have yc5 := cellB hx 5 rfl
  have yc6 := cellB hx 6 rfl
  have yf0 := freeB hx 0
  have yf1 := freeB hx 1
  have yf2 := freeB hx 2
  have yf3 := freeB hx 3
  have yf4 := freeB hx 4
  have yf5 := freeB hx 5
  have yf6 := freeB hx 6
  have zc0 := cellB hn 0 rfl
  have zc1 := cellB hn 1 rfl
  have zc2 := cellB hn 2 rfl
  have zc3 := cellB hn 3 rfl
  have zc4 := cellB hn 4 rfl
  have zc5 := cellB hn 5 rfl
  have zc6 := cellB hn 6 rfl
  have zf0 := freeB hn 0
  have zf1 := freeB hn 1
  have zf2 := freeB hn 2
  have zf3 := freeB hn 3
  have zf4 := freeB hn 4
  have zf5 := freeB hn 5
  have zf6 := freeB hn 6
  go_wp2_with fail
  refine (H.out _ (hW2.out.next (by repeat (first | assumption | exact Below.refl _ _ | apply Below.drew | apply below_drewN | apply balloc | (refine Below.setCell ?_ (by first | omega | (simp <;> omega)) _))))).mono ?_
  rintro e w3 ⟨rfl, hb⟩
  have hb3 : Below w.heap.size w w3 := bcall hb2 hb
  replace hx := box_next hx hb
  replace hn := box_next hn hb
  clear hb yc0 yc1 yc2 yc3 yc4 yc5 yc6 yf0 yf1 yf2 yf3 yf4 yf5 yf6 zc0 zc1 zc2 zc3 zc4 zc5 zc6 zf0 zf1 zf2 zf3 zf4 zf5 zf6 x2 f2 hx0 hn0 hbl2
  go_wp2_with fail
  refine (F.out _ _ (hW.out.next hb3).rd).mono ?_
  rintro e w4 ⟨rfl, hr, hg⟩
  have hx := (hg.block _ (ltB hx) (by intro e; cases e; exact hz2 rfl)).trans hx
  have hn := (hg.block _ (ltB hn) (by intro e; cases e; exact hz3 rfl)).trans hn
  have hg4 := grown_trans (grown_of_below (r := some b) hb3) hg
  clear hg
  have yc0 := cellB hx 0 rfl
  have yc1 := cellB hx 1 rfl
  have yc2 := cellB hx 2 rfl
  have yc3 := cellB hx 3 rfl
  have yc4 := cellB hx 4 rfl
  have yc5 := cellB hx 5 rfl
  have yc6 := cellB hx 6 rfl
  have yf0 := freeB hx 0
  have yf1 := freeB hx 1
  have yf2 := freeB hx 2
  have yf3 := freeB hx 3
  have yf4 := freeB hx 4
  have yf5 := freeB hx 5
  have yf6 := freeB hx 6
  have zc0 := cellB hn 0 rfl
  have zc1 := cellB hn 1 rfl
  have zc2 := cellB hn 2 rfl
  have zc3 := cellB hn 3 rfl
  have zc4 := cellB hn 4 rfl
  have zc5 := cellB hn 5 rfl
  have zc6 := cellB hn 6 rfl
  have zf0 := freeB hn 0
  have zf1 := freeB hn 1
  have zf2 := freeB hn 2
  have zf3 := freeB hn 3
  have zf4 := freeB hn 4
  have zf5 := freeB hn 5
  have zf6 := freeB hn 6
  have hx0 := ltB hx
  have hn0 := ltB hn
  have hp := hW.out.hp
  replace hr := Lib.hid hr
  replace hp := Lib.hid hp
  go_wp2_with fail
  obtain ⟨e1, e2, e3⟩ := rd_end hx hg4 hr.out hz2 (Nat.le_refl _) (.int .i64 0) (.int .i64 (P1 : Int)) (.bool false) (.string ⟨#[]⟩) (.slice none 0 0) (.slice none 0 0) (.slice none 0 0)
  exact bodyPost_ret (results_cell_row rfl _ _ w.heap.size 33 _ (0, 0) _ rfl e1 Tryz.underlying33 rfl info7) rfl ⟨e2, 0, P1, false, noS, _, _, _, p, rfl, ⟨⟨_, _, _, rfl⟩, ⟨_, _, _, rfl⟩, ⟨_, _, _, rfl⟩⟩, hp.out, e3⟩

end Go.Proofs.YtibopkodoidjoaaGreatDoor

/- The reference's tree: value, numbers and texts. -/
namespace Go.Proofs.YtibopkodoidjoaaGreatDoor
open Go Go.RowKit

theorem drewH {w : World} {g : Nat} {o : Obj} (h : w.heap[g]? = some o) : w.drew.heap[g]? = some o := h
set_option maxHeartbeats 4000000 in
set_option maxRecDepth 100000 in
theorem rvalue_num {base : Nat} {v : Value} {ts : List Tk} (s : ByteArray) (p pl b : Nat) (deep : Int) (w : World) (hbd : ∀ T ∈ ts, T.fr ≤ T.to ∧ T.to ≤ s.size) (hW : RdW base s v ts p pl 0 b w) (hK : kindT ts p = 4) :
    Calls Tryz.prog 34 #[.pointer (some ⟨b, 0, none⟩), .int .i64 deep] w (PostRV s v ts.length pl b w (.ok (.num (placeT s ts p) (wordT s ts p)) (p + 1))) := by
  have hpl : p < ts.length := kindT_lt (by omega)
  have hT : ts[p]? = some ts[p] := List.getElem?_eq_getElem _
  generalize ts[p] = T at hT
  have hbT := hbd T (List.mem_of_getElem? hT)
  have hft : (T.fr : Int) ≤ (T.to : Int) := by omega
  have hts : (T.to : Int) ≤ (s.size : Int) := by omega
  have hw : wordT s ts p = s.extract T.fr T.to := by unfold wordT; rw [hT]
  rw [hw]
  rcases hW.own.form with ⟨hnil, rfl⟩ | ⟨g, cap, rfl, hbg, hgl, hnl, hcm⟩
  · rw [hnil] at hpl; exact absurd hpl (Nat.not_lt_zero _)
  obtain ⟨n, hn⟩ : ∃ n, n = ts.length := ⟨_, rfl⟩
  have hln := hW.hl
  rw [← hn] at hW hnl hpl hln ⊢
  have hpl' : (p : Int) < (n : Int) := by omega
  unfold maxLen at hcm
  have hcells := Lib.hid (fun w (ho : OwnT w base (.slice (some ⟨g, 0, none⟩) n cap) ts) => OwnT.at ho hT)
  replace hT := Lib.hid hT
  replace hn := Lib.hid hn
  replace hw := Lib.hid hw
  have H := Lib.hid (fun w hW => here_calls (base := base) (v := (.slice (some ⟨g, 0, none⟩) n cap)) (ts := ts) s p pl 0 b w hW)
  have N := Lib.hid (fun w hW => peek_calls (base := base) (v := (.slice (some ⟨g, 0, none⟩) n cap)) (ts := ts) s p pl 0 b w hW)
  obtain ⟨P1, hP1⟩ : ∃ P1, P1 = placeT s ts p := ⟨_, rfl⟩
  rw [← hP1] at H ⊢
  rw [hK] at N
  have hbl := hW.lt
  have hpb : (p : Int) + 1 ≤ 3518437208884 := by have := hW.hl; have := hW.hp; omega
  replace hW := Lib.hid hW
  replace hP1 := Lib.hid hP1
  replace hK := Lib.hid hK
  go_enter Tryz.func34, Tryz.ntmps34
  (go_wp2_with fail; repeat (any_goals (go_quiet (fail); go_wp2_with fail)))
  refine (H.out _ (hW.out.next (by repeat (first | assumption | exact Below.refl _ _ | apply Below.drew | apply below_drewN | apply balloc | (refine Below.setCell ?_ (by first | omega | (simp <;> omega)) _))))).mono ?_
  rintro e w1 ⟨rfl, hb⟩
  have hb1 : Below w.heap.size w w1 := bcall (by repeat (first | assumption | exact Below.refl _ _ | apply Below.drew | apply below_drewN | apply balloc | (refine Below.setCell ?_ (by first | omega | (simp <;> omega)) _))) hb
  have hx := boxed hb
  have hz1 := ltB hx
  have hz2 : b ≠ w.heap.size := by omega
  have hz3 : b ≠ w1.heap.size := by omega
  have hz4 : w.heap.size ≠ w1.heap.size := by omega
  clear hb
  have hW1 := hW.out.next hb1
  have x4 := hW1.rd.c4
  have hbl1 := hW1.lt
  replace hW1 := Lib.hid hW1
  go_wp2_with fail
  refine (N.out _ (hW1.out.next (by repeat (first | assumption | exact Below.refl _ _ | apply Below.drew | apply below_drewN | apply balloc | (refine Below.setCell ?_ (by first | omega | (simp <;> omega)) _))))).mono ?_
  rintro e w2 ⟨rfl, hb⟩
  have hb2 : Below w.heap.size w w2 := bcall (balloc hb1) hb
  have hn := boxed hb
  replace hx := box_next hx (bcall (w := w1) (balloc (Below.refl _ _)) hb)
  clear hb x4
  have hW2 := hW.out.next hb2
  have x2 := hW2.rd.c2
  have f2 := freeB hW2.rd 2
  have hbl2 := hW2.lt
  have hx0 := ltB hx
  have hn0 := ltB hn
  replace hW2 := Lib.hid hW2
  have yc0 := cellB hx 0 rfl
  have yc1 := cellB hx 1 rfl
  have yc2 := cellB hx 2 rfl
  have yc3 := cellB hx 3 rfl
  have yc4 := cellB hx 4 rfl
  have yc5 := cellB hx 5 rfl
  have yc6 := cellB hx 6 rfl
  have yf0 := freeB hx 0
  have yf1 := freeB hx 1
  have yf2 := freeB hx 2
  have yf3 := freeB hx 3
  have yf4 := freeB hx 4
  have yf5 := freeB hx 5
  have yf6 := freeB hx 6
  have zc0 := cellB hn 0 rfl
  have zc1 := cellB hn 1 rfl
  have zc2 := cellB hn 2 rfl
  have zc3 := cellB hn 3 rfl
  have zc4 := cellB hn 4 rfl
  have zc5 := cellB hn 5 rfl
  have zc6 := cellB hn 6 rfl
  have zf0 := freeB hn 0
  have zf1 := freeB hn 1
  have zf2 := freeB hn 2
  have zf3 := freeB hn 3
  have zf4 := freeB hn 4
  have zf5 := freeB hn 5
  have zf6 := freeB hn 6
  have x0 := hW2.out.rd.c0
  have x1 := hW2.out.rd.c1
  obtain ⟨t0, t1, t2, t3⟩ := hcells.out _ hW2.out.own
  go_wp2_with fail
  go_region
  go_wp2_with fail
  have h1 := other (i := 2) (u := .int .i64 ((p : Int) + 1)) (other (i := 3) (u := .string (s.extract T.fr T.to)) (other (i := 0) (u := .int .i64 2) hx hz4) hz4) hz2.symm
  have h2 := (other (i := 3) (u := .string (s.extract T.fr T.to)) (other (i := 0) (u := .int .i64 2) hW2.out.rd hz3) hz3)
  have h3 := RdB.set2 (q := p + 1) h2
  have h4 := grown_trans (((grown_of_below (r := some b) hb2).setNew (Nat.le_of_lt hz1) 0 (.int .i64 2)).setNew (Nat.le_of_lt hz1) 3 (.string (s.extract T.fr T.to))) (grown_set _ b 2 (.int .i64 ((p : Int) + 1)))
  obtain ⟨e1, e2, e3⟩ := rd_end h1 h4 h3 hz2 (Nat.le_refl _) (.int .i64 2) (.int .i64 (P1 : Int)) (.bool false) (.string (s.extract T.fr T.to)) (.slice none 0 0) (.slice none 0 0) (.slice none 0 0)
  exact bodyPost_ret (results_cell_row rfl _ _ w.heap.size 33 _ (0, 0) _ rfl (drewH e1) Tryz.underlying33 rfl info7) rfl ⟨grown_drew e2, _, rfl, .num _ _ _ _, drewH e3⟩

end Go.Proofs.YtibopkodoidjoaaGreatDoor

/- The reference's tree: value, texts. -/
namespace Go.Proofs.YtibopkodoidjoaaGreatDoor
open Go Go.RowKit

set_option maxHeartbeats 4000000 in
set_option maxRecDepth 100000 in
theorem rvalue_text {base : Nat} {v : Value} {ts : List Tk} (s : ByteArray) (p pl b : Nat) (deep : Int) (w : World) (hbd : ∀ T ∈ ts, T.fr ≤ T.to ∧ T.to ≤ s.size) (hW : RdW base s v ts p pl 0 b w) (hK : kindT ts p = 5) :
    Calls Tryz.prog 34 #[.pointer (some ⟨b, 0, none⟩), .int .i64 deep] w (PostRV s v ts.length pl b w (.ok (.text (placeT s ts p) (textT ts p)) (p + 1))) := by
  have hpl : p < ts.length := kindT_lt (by omega)
  have hT : ts[p]? = some ts[p] := List.getElem?_eq_getElem _
  generalize ts[p] = T at hT
  have hbT := hbd T (List.mem_of_getElem? hT)
  have hft : (T.fr : Int) ≤ (T.to : Int) := by omega
  have hts : (T.to : Int) ≤ (s.size : Int) := by omega
  have hw : textT ts p = T.text := by unfold textT; rw [hT]
  rw [hw]
  rcases hW.own.form with ⟨hnil, rfl⟩ | ⟨g, cap, rfl, hbg, hgl, hnl, hcm⟩
  · rw [hnil] at hpl; exact absurd hpl (Nat.not_lt_zero _)
  obtain ⟨n, hn⟩ : ∃ n, n = ts.length := ⟨_, rfl⟩
  have hln := hW.hl
  rw [← hn] at hW hnl hpl hln ⊢
  have hpl' : (p : Int) < (n : Int) := by omega
  unfold maxLen at hcm
  have hcells := Lib.hid (fun w (ho : OwnT w base (.slice (some ⟨g, 0, none⟩) n cap) ts) => OwnT.at ho hT)
  replace hT := Lib.hid hT
  replace hn := Lib.hid hn
  replace hw := Lib.hid hw
  have H := Lib.hid (fun w hW => here_calls (base := base) (v := (.slice (some ⟨g, 0, none⟩) n cap)) (ts := ts) s p pl 0 b w hW)
  have N := Lib.hid (fun w hW => peek_calls (base := base) (v := (.slice (some ⟨g, 0, none⟩) n cap)) (ts := ts) s p pl 0 b w hW)
  obtain ⟨P1, hP1⟩ : ∃ P1, P1 = placeT s ts p := ⟨_, rfl⟩
  rw [← hP1] at H ⊢
  rw [hK] at N
  have hbl := hW.lt
  have hpb : (p : Int) + 1 ≤ 3518437208884 := by have := hW.hl; have := hW.hp; omega
  replace hW := Lib.hid hW
  replace hP1 := Lib.hid hP1
  replace hK := Lib.hid hK
  go_enter Tryz.func34, Tryz.ntmps34
  (go_wp2_with fail; repeat (any_goals (go_quiet (fail); go_wp2_with fail)))
  refine (H.out _ (hW.out.next (by repeat (first | assumption | exact Below.refl _ _ | apply Below.drew | apply below_drewN | apply balloc | (refine Below.setCell ?_ (by first | omega | (simp <;> omega)) _))))).mono ?_
  rintro e w1 ⟨rfl, hb⟩
  have hb1 : Below w.heap.size w w1 := bcall (by repeat (first | assumption | exact Below.refl _ _ | apply Below.drew | apply below_drewN | apply balloc | (refine Below.setCell ?_ (by first | omega | (simp <;> omega)) _))) hb
  have hx := boxed hb
  have hz1 := ltB hx
  have hz2 : b ≠ w.heap.size := by omega
  have hz3 : b ≠ w1.heap.size := by omega
  have hz4 : w.heap.size ≠ w1.heap.size := by omega
  clear hb
  have hW1 := hW.out.next hb1
  have x4 := hW1.rd.c4
  have hbl1 := hW1.lt
  replace hW1 := Lib.hid hW1
  go_wp2_with fail
  refine (N.out _ (hW1.out.next (by repeat (first | assumption | exact Below.refl _ _ | apply Below.drew | apply below_drewN | apply balloc | (refine Below.setCell ?_ (by first | omega | (simp <;> omega)) _))))).mono ?_
  rintro e w2 ⟨rfl, hb⟩
  have hb2 : Below w.heap.size w w2 := bcall (balloc hb1) hb
  have hn := boxed hb
  replace hx := box_next hx (bcall (w := w1) (balloc (Below.refl _ _)) hb)
  clear hb x4
  have hW2 := hW.out.next hb2
  have x2 := hW2.rd.c2
  have f2 := freeB hW2.rd 2
  have hbl2 := hW2.lt
  have hx0 := ltB hx
  have hn0 := ltB hn
  replace hW2 := Lib.hid hW2
  have yc0 := cellB hx 0 rfl
  have yc1 := cellB hx 1 rfl
  have yc2 := cellB hx 2 rfl
  have yc3 := cellB hx 3 rfl
  have yc4 := cellB hx 4 rfl
  have yc5 := cellB hx 5 rfl
  have yc6 := cellB hx 6 rfl
  have yf0 := freeB hx 0
  have yf1 := freeB hx 1
  have yf2 := freeB hx 2
  have yf3 := freeB hx 3
  have yf4 := freeB hx 4
  have yf5 := freeB hx 5
  have yf6 := freeB hx 6
  have zc0 := cellB hn 0 rfl
  have zc1 := cellB hn 1 rfl
  have zc2 := cellB hn 2 rfl
  have zc3 := cellB hn 3 rfl
  have zc4 := cellB hn 4 rfl
  have zc5 := cellB hn 5 rfl
  have zc6 := cellB hn 6 rfl
  have zf0 := freeB hn 0
  have zf1 := freeB hn 1
  have zf2 := freeB hn 2
  have zf3 := freeB hn 3
  have zf4 := freeB hn 4
  have zf5 := freeB hn 5
  have zf6 := freeB hn 6
  have x0 := hW2.out.rd.c0
  have x1 := hW2.out.rd.c1
  obtain ⟨t0, t1, t2, t3⟩ := hcells.out _ hW2.out.own
  go_wp2_with fail
  go_region
  go_wp2_with fail
  have h1 := other (i := 2) (u := .int .i64 ((p : Int) + 1)) (other (i := 3) (u := .string T.text) (other (i := 0) (u := .int .i64 3) hx hz4) hz4) hz2.symm
  have h2 := (other (i := 3) (u := .string T.text) (other (i := 0) (u := .int .i64 3) hW2.out.rd hz3) hz3)
  have h3 := RdB.set2 (q := p + 1) h2
  have h4 := grown_trans (((grown_of_below (r := some b) hb2).setNew (Nat.le_of_lt hz1) 0 (.int .i64 3)).setNew (Nat.le_of_lt hz1) 3 (.string T.text)) (grown_set _ b 2 (.int .i64 ((p : Int) + 1)))
  obtain ⟨e1, e2, e3⟩ := rd_end h1 h4 h3 hz2 (Nat.le_refl _) (.int .i64 3) (.int .i64 (P1 : Int)) (.bool false) (.string T.text) (.slice none 0 0) (.slice none 0 0) (.slice none 0 0)
  exact bodyPost_ret (results_cell_row rfl _ _ w.heap.size 33 _ (0, 0) _ rfl (drewH e1) Tryz.underlying33 rfl info7) rfl ⟨grown_drew e2, _, rfl, .text _ _ _ _, drewH e3⟩

end Go.Proofs.YtibopkodoidjoaaGreatDoor

/- Package tree: the parser reads a list. -/
namespace Go.Proofs.YtibopkodoidjoaaGreatDoor
open Go Go.RowKit

def comb {α : Type} (xs : List α) : PR (List α) → PR (List α)
  | .ok ys q => .ok (xs ++ ys) q
  | .err k pl => .err k pl
  | .out => .out
theorem comb_nil {α : Type} (r : PR (List α)) : comb [] r = r := by cases r <;> rfl
theorem grown_own {a w w' : World} {b : Nat} {o : Option Nat} (h : a.grownBy w (some b)) (k : w.grownBy w' o) (ho : ∀ g, o = some g → a.heap.size ≤ g) : a.grownBy w' (some b) :=
  ⟨k.os.trans h.os, k.tape.trans h.tape, k.output.trans h.output, Nat.le_trans h.size k.size, fun i hi hr => (k.block i (Nat.lt_of_lt_of_le hi h.size) (fun e => by have := ho i e.symm; omega)).trans (h.block i hi hr)⟩
theorem PsB.inc {s : ByteArray} {v : Value} {p b : Nat} {w : World} (h : PsB s v p b w) : PsB s v (p + 1) b (w.setCell ⟨b, 2, none⟩ (.int .i64 ((p : Int) + 1))) := h.set
theorem PsB.row {s : ByteArray} {v : Value} {p b : Nat} {w w' : World} {o : Option Nat} (h : PsB s v p b w) (k : w.grownBy w' o) (ho : o ≠ some b) : PsB s v p b w' := (k.block b (ltB h) (fun e => ho e.symm)).trans h
theorem grown_belowR {a w w' : World} {b : Nat} (h : a.grownBy w (some b)) (k : Below w.heap.size w w') : a.grownBy w' (some b) := grown_trans h (grown_of_below k)
theorem OwnN.form {w : World} {lo hi : Nat} {u : Value} {x : Nd} (h : OwnN w lo hi u x) : ∃ t a, u = .iface t a := by cases h <;> exact ⟨_, _, rfl⟩
set_option maxHeartbeats 4000000 in
set_option maxRecDepth 100000 in
theorem items_calls {A : Nat → Addr} {B base : Nat} {s : ByteArray} {v : Value} {ts : List Tk} (f : Nat) (hV : ∀ f', f' < f → VC A B base s v ts f') (deep p b : Nat) (w : World) (hW : PsW A B base s v ts p b w) (h8 : kindT ts p = 8) (hd : deep < 64) (hl : ts.length ≤ 3518437208882)
    (r : PR (List Nd)) (hr : r = if kindT ts (p + 1) = 9 then .ok [] (p + 2) else pI s ts f deep (p + 1)) (hout : r ≠ .out) :
    Calls Tryz.prog 59 #[.pointer (some ⟨b, 0, none⟩), .int .i64 (deep : Int)] w (PostI A s v b w r) := by
  have hbl := hW.lt
  replace hW := Lib.hid hW
  replace hV := Lib.hid hV
  replace hr := Lib.hid hr
  replace hout := Lib.hid hout
  replace hl := Lib.hid hl
  go_enter Tryz.func59, Tryz.ntmps59
  (go_wp2_with fail; repeat (any_goals (go_quiet (fail); go_wp2_with fail)))
  refine (PsW.take_ok hW.out h8 (by decide)).mono ?_
  rintro e w1 ⟨⟨T, hT, rfl⟩, hW1, hg1⟩
  replace hT := Lib.hid hT
  unfold tkV
  by_cases h9 : kindT ts (p + 1) = 9
  · have hr1 := hr.out
    rw [if_pos h9] at hr1
    replace hr1 := Lib.hid hr1
    have N := Lib.hid (fun w (h : PsW A B base s v ts (p + 1) b w) => h.next_calls h9)
    have hpb : ((p + 1 : Nat) : Int) ≤ 3518437208882 := by have := hW1.hp; have := hl.out; omega
    generalize hp1 : p + 1 = p1 at *
    replace hp1 := Lib.hid hp1
    replace hW1 := Lib.hid hW1
    replace hg1 := Lib.hid hg1
    (go_wp2_with fail; repeat (any_goals (go_quiet (fail); go_wp2_with fail)))
    refine (N.out _ hW1.out).mono ?_
    rintro e w2 ⟨rfl, hb⟩
    have hW2 := hW1.out.next hb
    have hg2 := grown_belowR hg1.out hb
    clear hb
    have x2 := hW2.ps.c2
    have f2 := freeB hW2.ps 2
    replace hW2 := Lib.hid hW2
    replace hg2 := Lib.hid hg2
    (go_wp2_with fail; repeat (any_goals (go_quiet (fail); go_wp2_with fail)))
    go_ret
    refine ⟨grown_trans hg2.out (grown_set _ _ _ _), ?_⟩
    rw [hr1.out]
    refine ⟨_, [], rfl, Kids.nil _ _ _ _ _, rfl, ?_⟩
    have h1 := hW2.out.ps.inc
    rw [show p1 + 1 = p + 2 by have := hp1.out; omega] at h1
    exact h1
  · have hr1 := hr.out
    rw [if_neg h9] at hr1
    replace hr1 := Lib.hid hr1
    have N := Lib.hid (fun w (h : PsW A B base s v ts (p + 1) b w) => h.next_calls (k := kindT ts (p + 1)) rfl)
    have hne : ((kindT ts (p + 1) : Int) == 9) = false := by simp; omega
    have hne' : ¬ (kindT ts (p + 1) : Int) = 9 := by omega
    have hp1le := hW1.hp
    generalize hp1 : p + 1 = p1 at *
    generalize hK : kindT ts p1 = K1 at *
    replace hp1 := Lib.hid hp1
    replace hK := Lib.hid hK
    replace hW1 := Lib.hid hW1
    replace hg1 := Lib.hid hg1
    (go_wp2_with fail; repeat (any_goals (go_quiet (fail); go_wp2_with fail)))
    refine (N.out _ hW1.out).mono ?_
    rintro e w2 ⟨rfl, hb⟩
    have hW2 := hW1.out.next hb
    have hg2 := grown_belowR hg1.out hb
    clear hb
    replace hW2 := Lib.hid hW2
    replace hg2 := Lib.hid hg2
    (go_wp2_with fail; repeat (any_goals (go_quiet (fail); go_wp2_with fail)))
    go_loopg [5] f (fun kq lv wr => ∃ (q : Nat) (cs : List Kid), PsB s v q b wr ∧ Hid (w.grownBy wr (some b)) ∧ Hid (Kids 24 1 (fun c => [c.u]) w.heap.size wr lv cs) ∧ Hid (cs.length ≤ q ∧ q ≤ ts.length ∧ kq ≤ f ∧ comb (cs.map Kid.x) (pI s ts kq deep q) = r))
    case atStart => exact ⟨p1, [], hW2.out.ps, hg2, Lib.hid (Kids.nil _ _ _ _ _), Lib.hid ⟨Nat.zero_le _, hp1le, Nat.le_refl _, by rw [hr1.out]; exact comb_nil _⟩⟩
    case round =>
      obtain ⟨q, cs, hps, hg, hKs, H⟩ := hrel
      clear N hne hne' 
      have hpo := Lib.hid (hW.out.step hg.out hps H.out.2.1)
      have hg1 := hg.out.size
      have hgo := H.out.2.2.2
      cases gk with
      | zero => exact absurd (hgo.symm.trans (by rw [pI]; rfl)) hout.out
      | succ f1 =>
        rw [pI] at hgo
        have hVf := hV.out f1 (by have := H.out.2.2.1; omega)
        have hnv : pV s ts f1 (deep + 1) q ≠ .out := by
          intro h
          rw [h] at hgo
          exact hout.out hgo.symm
        have V := Lib.hid (hVf (deep + 1) q b wr hnv (by omega) hpo.out)
        have hd1 : ((deep + 1 : Nat) : Int) = (deep : Int) + 1 := by omega
        rw [hd1] at V
        have fit := (p_goes s ts f1).1 (deep + 1) q
        generalize hR : pV s ts f1 (deep + 1) q = R at *
        replace hR := Lib.hid hR
        cases R with
        | out => exact absurd rfl hnv
        | err k pl =>
          replace hgo := Lib.hid hgo
          (go_wp2_with fail; repeat (any_goals (go_quiet (fail); go_wp2_with fail)))
          refine V.out.mono ?_
          rintro e w3 ⟨hg3, g, hgg, rfl, hat⟩
          have hg4 := grown_trans hg.out hg3
          have hz := hg.out.size
          refine ⟨rfl, ?_⟩
          show PostI A s v b w r _ w3
          rw [← hgo.out]
          exact ⟨hg4, g, Nat.le_trans hz hgg, rfl, hat⟩
        | ok x q1 =>
          replace hgo := Lib.hid hgo
          (go_wp2_with fail; repeat (any_goals (go_quiet (fail); go_wp2_with fail)))
          refine V.out.mono ?_
          rintro e w3 ⟨hg3, u, rfl, hN, hps3⟩
          have hg4 := grown_trans hg.out hg3
          have hK3 := hKs.out.grown hg3 hbl
          obtain ⟨ut, ua, rfl⟩ := hN.form
          have hfit : q < q1 ∧ q1 ≤ ts.length := fit
          have hle : ∀ c ∈ cs, c.h ≤ wr.heap.size := fun c hm => (hKs.out.fit c hm).2.2.1
          have hlv : ∀ k, u5.ownBlock = some k → k < wr.heap.size := fun k e => (hKs.out.own.lt k e).2
          have hzr := hg3.size
          clear hKs hps
          replace hN := Lib.hid hN
          replace hK3 := Lib.hid hK3
          replace hg4 := Lib.hid hg4
          replace hg3 := Lib.hid hg3
          replace hps3 := Lib.hid hps3
          replace hle := Lib.hid hle
          replace hlv := Lib.hid hlv
          go_wp2_with (at_builtin; refine app_kid rfl _ _ 96 24 1 16 (fun c => [c.u]) .nilIface infoNd rfl (by decide) (by decide) (fun _ => rfl) Tryz.underlying96 rfl w.heap.size wr.heap.size u5 cs rfl (hK3.out.alloc _) w3.heap.size 1 ⟨noS, 0, wr.heap.size, w3.heap.size + 1, .iface ut ua, x⟩ #[.iface ut ua] 24 rfl (heap_alloc_new w3 _) rfl ?c1 hg1 ?c2 hle.out hlv.out rfl ?c3 ?c4 ?c5 ?_)
          case c1 => have := H.out.1; have := H.out.2.1; have := hl.out; omega
          case c2 => simp; omega
          case c4 => exact (hN.out.keep fun k _ h2 => Below.heap_alloc _ _ _ h2).wide (Nat.le_refl _) (by simp)
          case c5 => rfl
          intro v' w4 hK4 hg5 hv'
          have hne5 : u5.ownBlock ≠ some b := fun e => by have := (hK3.out.own.lt b e).1; omega
          have hps4 : PsB s v q1 b w4 := PsB.row (hps3.out.next ((Below.refl w3.heap.size w3).alloc (Nat.le_refl _) _)) hg5 hne5
          have hg6 : w.grownBy w4 (some b) := grown_own (grown_trans hg4.out (World.grownBy_alloc _ _ _)) hg5 (fun k e => (hK3.out.own.lt k e).1)
          have hP4 := hW.out.step hg6 hps4 hfit.2
          clear hg5 hne5 hps3 hg4 hK3 hle hlv hN
          replace hK4 := Lib.hid hK4
          replace hg6 := Lib.hid hg6
          have fitr := rest_fits s ts 9 q1 (by decide)
          have hrs := Lib.hid hgo.out
          unfold rest at fitr hgo
          have N := Lib.hid (fun w (h : PsW A B base s v ts q1 b w) => h.next_calls (k := kindT ts q1) rfl)
          by_cases k9 : kindT ts q1 = 9
          · rw [if_pos k9] at hgo
            rw [k9] at N
            have hqb : (q1 : Int) ≤ 3518437208882 := by have := hl.out; omega
            replace hP4 := Lib.hid hP4
            (go_wp2_with fail; repeat (any_goals (go_quiet (fail); go_wp2_with fail)))
            refine (N.out _ hP4.out).mono ?_
            rintro e w5 ⟨rfl, hb⟩
            have hP5 := hP4.out.next hb
            have hg7 := grown_belowR hg6.out hb
            have hK5 := hK4.out.below hb
            clear hb
            have x2 := hP5.ps.c2
            have f2 := freeB hP5.ps 2
            replace hP5 := Lib.hid hP5
            replace hg7 := Lib.hid hg7
            replace hK5 := Lib.hid hK5
            (go_wp2_with fail; repeat (any_goals (go_quiet (fail); go_wp2_with fail)))
            go_ret
            refine ⟨grown_trans hg7.out (grown_set _ _ _ _), ?_⟩
            rw [← hgo]
            exact ⟨v', _, rfl, hK5.out.grown (grown_set _ _ _ _) hbl, by rw [List.map_append]; rfl, hP5.out.ps.inc⟩
          · rw [if_neg k9] at hgo
            have hne5 : ((kindT ts q1 : Int) == 9) = false := by simp; omega
            have hne6 : ¬ (kindT ts q1 : Int) = 9 := by omega
            by_cases k11 : kindT ts q1 = 11
            · rw [if_pos k11] at hgo
              have TK := Lib.hid (fun w (h : PsW A B base s v ts q1 b w) => h.take_ok k11 (by decide))
              have hql := kindT_lt (ts := ts) (p := q1) (by omega)
              replace k11 := Lib.hid k11
              generalize kindT ts q1 = K2 at *
              replace hP4 := Lib.hid hP4
              replace hgo := Lib.hid hgo
              (go_wp2_with fail; repeat (any_goals (go_quiet (fail); go_wp2_with fail)))
              refine (N.out _ hP4.out).mono ?_
              rintro e w5 ⟨rfl, hb⟩
              have hP5 := hP4.out.next hb
              have hg7 := grown_belowR hg6.out hb
              have hK5 := hK4.out.below hb
              clear hb
              replace hP5 := Lib.hid hP5
              replace hg7 := Lib.hid hg7
              replace hK5 := Lib.hid hK5
              (go_wp2_with fail; repeat (any_goals (go_quiet (fail); go_wp2_with fail)))
              refine (TK.out _ hP5.out).mono ?_
              rintro e w6 ⟨⟨T2, _, rfl⟩, hP6, hg8⟩
              unfold tkV
              have hK6 := hK5.out.grown hg8 hbl
              have hg9 := grown_trans hg7.out hg8
              replace hP6 := Lib.hid hP6
              (go_wp2_with fail; repeat (any_goals (go_quiet (fail); go_wp2_with fail)))
              go_roundg f1
              case measure => omega
              case rel =>
                refine ⟨q1 + 1, cs ++ [_], hP6.out.ps, Lib.hid hg9, Lib.hid hK6, Lib.hid ⟨?_, hql, by have := H.out.2.2.1; omega, ?_⟩⟩
                · rw [List.length_append, List.length_singleton]; have := H.out.1; omega
                · rw [← hgo.out, List.map_append]
                  show comb (cs.map Kid.x ++ [x]) _ = comb (cs.map Kid.x) _
                  cases pI s ts f1 deep (q1 + 1) with
                  | ok ys q => show PR.ok _ _ = PR.ok _ _; rw [List.append_assoc]; rfl
                  | err k pl => rfl
                  | out => rfl
            · rw [if_neg k11] at hgo
              have TK := Lib.hid (fun w (h : PsW A B base s v ts q1 b w) => h.take_bad k11)
              replace k11 := Lib.hid k11
              generalize kindT ts q1 = K2 at *
              replace hP4 := Lib.hid hP4
              replace hgo := Lib.hid hgo
              (go_wp2_with fail; repeat (any_goals (go_quiet (fail); go_wp2_with fail)))
              refine (N.out _ hP4.out).mono ?_
              rintro e w5 ⟨rfl, hb⟩
              have hP5 := hP4.out.next hb
              have hg7 := grown_belowR hg6.out hb
              clear hb
              replace hP5 := Lib.hid hP5
              replace hg7 := Lib.hid hg7
              (go_wp2_with fail; repeat (any_goals (go_quiet (fail); go_wp2_with fail)))
              refine (TK.out _ hP5.out).mono ?_
              rintro e w6 ⟨⟨g, hgg, rfl, hat⟩, hb⟩
              have hz := hg7.out.size
              refine ⟨rfl, ?_⟩
              show PostI A s v b w r _ w6
              rw [← hgo.out]
              exact ⟨grown_belowR hg7.out hb, g, Nat.le_trans hz hgg, rfl, hat⟩

end Go.Proofs.YtibopkodoidjoaaGreatDoor

/- The reference's tree: the reader's lists. -/
namespace Go.Proofs.YtibopkodoidjoaaGreatDoor
open Go Go.RowKit

theorem infoRd : (Tryz.prog.info? 33).map (fun i => (i.zero, i.size, i.bytes)) = some (some (.agg #[.int .i64 0, .int .i64 0, .bool false, .string ⟨#[]⟩, .slice none 0 0, .slice none 0 0, .slice none 0 0]), 7, 112) := by kernel_rfl
section
variable {ops : Array Oper} {rest : List Oper} {o : Oper} {a : Act} {Q : Exit → Act → World → Prop} {w : World}
/-- append(row, one). -/
theorem app_row (hgd : o.guard = none) (sl x : Operand) (t e : TypeId) (size bytes : Nat) (z : Value) (hi : (Tryz.prog.info? e).map (fun i => (i.zero, i.size, i.bytes)) = some (some z, size, bytes)) (hz : z.cells.size = size) (hsz : 0 < size) (hby : bytes ≤ 112)
    (ht : Tryz.prog.underlying t = some (.slice e)) (ho : o.op = .call { callee := .builtin .append, args := #[sl, x], argTypes := #[t, t] }) (n0 : Nat) (v : Value) (n : Nat) (xs : List Value) (hs : a.eval sl = v) (hK : w.ownsRow n0 e size v n xs)
    (g cp : Nat) (ys : List Value) (cur : Array Value) (t' : TypeId) (hx : a.eval x = .slice (some ⟨g, 0, none⟩) 1 cp) (hg : w.heap[g]? = some (.cells cur t' (0, 0))) (hcur : cur = ys.toArray) (hys : ys.length = size)
    (hlen : n + 1 ≤ 2097152) (hn : n0 ≤ w.heap.size) (h1 : ∀ u ∈ ys, u.oneCell' = true)
    (h : ∀ v' w', w'.ownsRow n0 e size v' (n + 1) (xs ++ ys) → w.grownBy w' v.ownBlock → (v'.ownBlock = v.ownBlock ∨ ∃ g, v'.ownBlock = some g ∧ w.heap.size ≤ g) → wpList Tryz.prog ops Q rest (a.put o.dst v') w') : wpList Tryz.prog ops Q (o :: rest) a w := by
  obtain ⟨i0, hi, hi2⟩ := Option.map_eq_some_iff.1 hi
  simp only [Prod.mk.injEq] at hi2
  refine wpList_append_own_at _ hgd sl x t ho n0 e i0 z size bytes ht hi hi2.1 hi2.2.1 hi2.2.2 hz hsz v n xs hs hK ⟨g, 0, none⟩ 1 cp ys hx (by rw [hys]; omega) ?_ h1 (by unfold maxLen; omega) ?_ hn ?_
  · intro j u hj
    have : (⟨g, 0, none⟩ : Addr).add j = ⟨g, j, none⟩ := by simp only [Addr.add, Nat.zero_add]; split <;> simp_all
    rw [this]
    refine cellB hg j ?_
    rw [hcur, List.getElem?_toArray]
    exact hj
  · have := Nat.mul_le_mul hlen hby
    omega
  · intro v' w' ho2 hg2 _ hv
    refine h v' w' ho2 hg2 ?_
    rcases hv with hv | hv
    · exact Or.inl hv
    · exact Or.inr ⟨_, hv, Nat.le_refl _⟩
end
/-- What items answers. -/
def PostRI (s : ByteArray) (v : Value) (n pl0 P b : Nat) (w : World) (r : PR (List Nd)) (e : Ending) (w' : World) : Prop :=
  w.grownBy w' (some b) ∧ ∃ vi, e = .returned (.agg #[.int .i64 4, .int .i64 (P : Int), .bool false, .string ⟨#[]⟩, vi, .slice none 0 0, .slice none 0 0]) ∧ match r with
    | .ok xs q => ∃ cs : List RKid, w'.ownsRow w.heap.size 33 7 vi cs.length (cs.flatMap RKid.u) ∧ RKids w.heap.size w' [vi.ownBlock] cs ∧ cs.map RKid.x = xs ∧ RdB s v q pl0 0 b w'
    | .err k pl => isSl vi ∧ ∃ q, q ≤ n ∧ RdB s v q pl k b w'
    | .out => True

end Go.Proofs.YtibopkodoidjoaaGreatDoor

/- The reference's tree: the reader's lists, walked. -/
namespace Go.Proofs.YtibopkodoidjoaaGreatDoor
open Go Go.RowKit

theorem rdC_arr (n p : Nat) (f : Bool) (t : ByteArray) (vi vk vp : Value) : (rdC n p f t vi vk vp).toArray = #[.int .i64 (n : Int), .int .i64 (p : Int), .bool f, .string t, vi, vk, vp] := rfl
theorem set7_grown (W : World) (g : Nat) (b0 b1 b2 b3 b4 b5 b6 : Value) : W.grownBy (((((((W.setCell ⟨g, 0, none⟩ b0).setCell ⟨g, 1, none⟩ b1).setCell ⟨g, 2, none⟩ b2).setCell ⟨g, 3, none⟩ b3).setCell ⟨g, 4, none⟩ b4).setCell ⟨g, 5, none⟩ b5).setCell ⟨g, 6, none⟩ b6) (some g) :=
  grown_trans (grown_trans (grown_trans (grown_trans (grown_trans (grown_trans (grown_set _ _ _ _) (grown_set _ _ _ _)) (grown_set _ _ _ _)) (grown_set _ _ _ _)) (grown_set _ _ _ _)) (grown_set _ _ _ _)) (grown_set _ _ _ _)
theorem row_grown {w w' : World} {n0 n c size : Nat} {e : TypeId} {v : Value} {xs : List Value} (h : w.ownsRow n0 e size v n xs) (hg : w.grownBy w' (some c)) (hc : c < n0) : w'.ownsRow n0 e size v n xs :=
  ownsRow_heap h fun k e => hg.block k (h.lt k e).2 (by intro e2; cases e2; have := (h.lt _ e).1; omega)
theorem row_below {w w' : World} {n0 n size : Nat} {e : TypeId} {v : Value} {xs : List Value} (h : w.ownsRow n0 e size v n xs) (hb : Below w.heap.size w w') : w'.ownsRow n0 e size v n xs :=
  ownsRow_heap h fun k e => hb.block k (h.lt k e).2
theorem RKids.base {n0 n1 : Nat} {w : World} {os : List (Option Nat)} {cs : List RKid} (h : RKids n0 w os cs) (hn : n1 ≤ n0) : RKids n1 w os cs :=
  ⟨fun c hm => (h.fit c hm).wide hn (Nat.le_refl _), h.off, h.kid⟩
theorem RKids.other {n0 c : Nat} {w w' : World} {os : List (Option Nat)} {cs : List RKid} (h : RKids n0 w os cs) (hg : w.grownBy w' (some c)) (hc : c < n0) : RKids n0 w' os cs :=
  h.grow hg (Or.inl fun k e => by cases e; exact hc) fun o ho => Or.inl ho
set_option maxHeartbeats 4000000 in
set_option maxRecDepth 100000 in
theorem ritems_calls {base : Nat} {s : ByteArray} {v : Value} {ts : List Tk} (f : Nat) (hV : ∀ f', f' < f → RVC base s v ts f') (deep p pl P b : Nat) (w : World) (hW : RdW base s v ts p pl 0 b w) (hd : deep < 64) (hl : ts.length ≤ 1048577)
    (r : PR (List Nd)) (hr : r = if kindT ts p = 9 then .ok [] (p + 1) else pI s ts f deep p) (hout : r ≠ .out) :
    Calls Tryz.prog 62 #[.pointer (some ⟨b, 0, none⟩), .agg #[.int .i64 0, .int .i64 (P : Int), .bool false, .string ⟨#[]⟩, .slice none 0 0, .slice none 0 0, .slice none 0 0], .int .i64 (deep : Int)] w (PostRI s v ts.length pl P b w r) := by
  have hbl := hW.lt
  replace hV := Lib.hid hV
  replace hr := Lib.hid hr
  replace hout := Lib.hid hout
  by_cases h9 : kindT ts p = 9
  · have N := Lib.hid (fun w hW => peek_calls (base := base) (v := v) (ts := ts) s p pl 0 b w hW)
    rw [h9] at N
    have hpb : (p : Int) + 1 ≤ 3518437208884 := by have := hW.hl; have := hW.hp; omega
    replace hW := Lib.hid hW
    replace hl := Lib.hid hl
    replace h9 := Lib.hid h9
    go_enter Tryz.func62, Tryz.ntmps62
    (go_wp2_with fail; repeat (any_goals (go_quiet (fail); go_wp2_with fail)))
    refine (N.out _ (hW.out.next (by repeat (first | assumption | exact Below.refl _ _ | apply Below.drew | apply below_drewN | apply balloc | (refine Below.setCell ?_ (by first | omega | (simp <;> omega)) _))))).mono ?_
    rintro e w1 ⟨rfl, hb⟩
    have hb1 : Below w.heap.size w w1 := bcall (by repeat (first | assumption | exact Below.refl _ _ | apply Below.drew | apply below_drewN | apply balloc | (refine Below.setCell ?_ (by first | omega | (simp <;> omega)) _))) hb
    have hn := box_next (box_next (heap_alloc_new w (.cells #[.int .i64 4, .int .i64 (P : Int), .bool false, .string ⟨#[]⟩, .slice none 0 0, .slice none 0 0, .slice none 0 0] 33 (0, 0))) (balloc (Below.refl _ _))) hb
    have hx := boxed hb
    rw [show ∀ o, (w.alloc o).heap.size = w.heap.size + 1 from fun o => by simp] at hx
    clear hb
    have hW1 := hW.out.next hb1
    have x2 := hW1.rd.c2
    have f2 := freeB hW1.rd 2
    have hbl1 := hW1.lt
    have hn0 := ltB hn
    have hx0 := ltB hx
    have hz1 : b ≠ w.heap.size := by omega
    have hz2 : b ≠ w.heap.size + 1 := by omega
    have hz3 : w.heap.size ≠ w.heap.size + 1 := by omega
    have hz4 : w.heap.size + 1 ≠ w.heap.size := by omega
    replace hW1 := Lib.hid hW1
    have zc0 := cellB hn 0 rfl
    have zc1 := cellB hn 1 rfl
    have zc2 := cellB hn 2 rfl
    have zc3 := cellB hn 3 rfl
    have zc4 := cellB hn 4 rfl
    have zc5 := cellB hn 5 rfl
    have zc6 := cellB hn 6 rfl
    have zf0 := freeB hn 0
    have zf1 := freeB hn 1
    have zf2 := freeB hn 2
    have zf3 := freeB hn 3
    have zf4 := freeB hn 4
    have zf5 := freeB hn 5
    have zf6 := freeB hn 6
    have yc0 := cellB hx 0 rfl
    have yc1 := cellB hx 1 rfl
    have yc2 := cellB hx 2 rfl
    have yc3 := cellB hx 3 rfl
    have yc4 := cellB hx 4 rfl
    have yc5 := cellB hx 5 rfl
    have yc6 := cellB hx 6 rfl
    have yf0 := freeB hx 0
    have yf1 := freeB hx 1
    have yf2 := freeB hx 2
    have yf3 := freeB hx 3
    have yf4 := freeB hx 4
    have yf5 := freeB hx 5
    have yf6 := freeB hx 6
    go_wp2_with fail
    have hr1 : r = .ok [] (p + 1) := by rw [hr.out, if_pos h9.out]
    have h1 := other (i := 2) (u := .int .i64 ((p : Int) + 1)) hx hz2.symm
    have h3 := RdB.set2 (q := p + 1) hW1.out.rd
    have h4 := grown_trans (grown_of_below (r := some b) hb1) (grown_set _ b 2 (.int .i64 ((p : Int) + 1)))
    obtain ⟨e1, e2, e3⟩ := rd_end h1 h4 h3 hz2 (Nat.le_succ _) (.int .i64 4) (.int .i64 (P : Int)) (.bool false) (.string ⟨#[]⟩) (.slice none 0 0) (.slice none 0 0) (.slice none 0 0)
    refine bodyPost_ret (results_cell_row rfl _ _ (w.heap.size + 1) 33 _ (0, 0) _ rfl e1 Tryz.underlying33 rfl info7) rfl ⟨e2, _, rfl, ?_⟩
    rw [hr1]
    exact ⟨[], World.ownsRow_nil _ _ _ _, RKids.nil _ _ _, rfl, e3⟩
  · have hr1 : r = pI s ts f deep p := by rw [hr.out, if_neg h9]
    have N := Lib.hid (fun w hW => peek_calls (base := base) (v := v) (ts := ts) s p pl 0 b w hW)
    have hK1 : ((kindT ts p : Int) == 9) = false := by simp; omega
    have hK2 : ¬ (kindT ts p : Int) = 9 := by omega
    have hple := hW.hp
    generalize kindT ts p = K at *
    replace hr1 := Lib.hid hr1
    replace hW := Lib.hid hW
    go_enter Tryz.func62, Tryz.ntmps62
    (go_wp2_with fail; repeat (any_goals (go_quiet (fail); go_wp2_with fail)))
    refine (N.out _ (hW.out.next (by repeat (first | assumption | exact Below.refl _ _ | apply Below.drew | apply below_drewN | apply balloc | (refine Below.setCell ?_ (by first | omega | (simp <;> omega)) _))))).mono ?_
    rintro e w1 ⟨rfl, hb⟩
    have hb1 : Below w.heap.size w w1 := bcall (by repeat (first | assumption | exact Below.refl _ _ | apply Below.drew | apply below_drewN | apply balloc | (refine Below.setCell ?_ (by first | omega | (simp <;> omega)) _))) hb
    have hn := box_next (box_next (heap_alloc_new w (.cells #[.int .i64 4, .int .i64 (P : Int), .bool false, .string ⟨#[]⟩, .slice none 0 0, .slice none 0 0, .slice none 0 0] 33 (0, 0))) (balloc (Below.refl _ _))) hb
    have hx := boxed hb
    rw [show ∀ o, (w.alloc o).heap.size = w.heap.size + 1 from fun o => by simp] at hx
    clear hb
    have hW1 := Lib.hid (hW.out.next hb1)
    replace hn := Lib.hid hn
    replace hx := Lib.hid hx
    go_wp2_with fail
    go_loopg [] f (fun kq wr => ∃ (q plx k : Nat) (vi : Value), Hid (wr.heap[w.heap.size]? = some (.cells #[.int .i64 4, .int .i64 (P : Int), .bool false, .string ⟨#[]⟩, vi, .slice none 0 0, .slice none 0 0] 33 (0, 0))) ∧ Hid (wr.heap[w.heap.size + 1]? = some (.cells #[.int .i64 0, .int .i64 0, .bool false, .string ⟨#[]⟩, .slice none 0 0, .slice none 0 0, .slice none 0 0] 33 (0, 0))) ∧ Hid (RdB s v q plx k b wr) ∧ Hid (w.grownBy wr (some b)) ∧ Hid (q ≤ ts.length ∧ kq ≤ f) ∧ ((k = 0 ∧ Hid (plx = pl ∧ ∃ cs : List RKid, wr.ownsRow (w.heap.size + 2) 33 7 vi cs.length (cs.flatMap RKid.u) ∧ RKids (w.heap.size + 2) wr [vi.ownBlock] cs ∧ cs.length ≤ q ∧ comb (cs.map RKid.x) (pI s ts kq deep q) = r)) ∨ (k ≠ 0 ∧ Hid (isSl vi ∧ r = .err k plx))))
    case atStart => exact ⟨p, pl, 0, _, hn, hx, Lib.hid hW1.out.rd, Lib.hid (grown_of_below hb1), Lib.hid ⟨hple, Nat.le_refl _⟩, Or.inl ⟨rfl, Lib.hid ⟨rfl, [], World.ownsRow_nil _ _ _ _, RKids.nil _ _ _, Nat.zero_le _, by rw [hr1.out]; exact comb_nil _⟩⟩⟩
    case round =>
      obtain ⟨q, plx, k, vi, hn, hx, hrd, hg, hq, hm⟩ := hrel
      clear N hW1 hK1 hK2 hb1
      have x4 := hrd.out.c4
      have hbr : b < wr.heap.size := ltB hrd.out
      have hn0 := ltB hn.out
      have hx0 := ltB hx.out
      have hz1 : b ≠ w.heap.size := by omega
      have hz2 : b ≠ w.heap.size + 1 := by omega
      have hz3 : w.heap.size ≠ w.heap.size + 1 := by omega
      have hz4 : w.heap.size + 1 ≠ w.heap.size := by omega
      rcases hm with ⟨rfl, hm⟩ | ⟨hk0, hm⟩
      · have hpo := Lib.hid (hW.out.step hg.out hrd.out hq.out.1)
        obtain ⟨rfl, cs, hrow, hkids, hcl, hgo⟩ := hm.out
        cases gk with
        | zero => exact absurd (hgo.symm.trans (by rw [pI]; rfl)) hout.out
        | succ f1 =>
          rw [pI] at hgo
          have hVf := hV.out f1 (by have := hq.out.2; omega)
          have hnv : pV s ts f1 (deep + 1) q ≠ .out := by
            intro h
            rw [h] at hgo
            exact hout.out hgo.symm
          have V := Lib.hid (hVf (deep + 1) q plx b wr hnv (by omega) hpo.out)
          have hd1 : ((deep + 1 : Nat) : Int) = (deep : Int) + 1 := by omega
          rw [hd1] at V
          have fit := (p_goes s ts f1).1 (deep + 1) q
          generalize hR : pV s ts f1 (deep + 1) q = R at *
          replace hR := Lib.hid hR
          replace hrow := Lib.hid hrow
          replace hkids := Lib.hid hkids
          replace hm := Lib.hid hm
          cases R with
          | out => exact absurd rfl hnv
          | err k pl2 =>
            replace hgo := Lib.hid hgo
            go_wp2_with fail
            refine V.out.mono ?_
            rintro e w3 ⟨hg3, m3, p3, f3, t3, vi3, vk3, vp3, q3, rfl, ⟨⟨a1, n1, c1, rfl⟩, ⟨a2, n2, c2, rfl⟩, ⟨a3, n3, c3, rfl⟩⟩, hq3, hrd3⟩
            have hn3 := (hg3.block _ hn0 (by intro e; cases e; exact hz1 rfl)).trans hn.out
            have hx3 := (hg3.block _ hx0 (by intro e; cases e; exact hz2 rfl)).trans hx.out
            have hrow3 := Lib.hid (ownsRow_heap hrow.out fun k e => hg3.block k (hrow.out.lt k e).2 (by intro e2; cases e2; have := (hrow.out.lt b e).1; omega))
            obtain ⟨av, nv, cv, rfl⟩ := ownsRow_sl hrow.out
            have hz5 := hg3.size
            have hg4 := Lib.hid (grown_trans hg.out hg3)
            clear hg3 x4
            have zc0 := cellB hn3 0 rfl
            have zc1 := cellB hn3 1 rfl
            have zc2 := cellB hn3 2 rfl
            have zc3 := cellB hn3 3 rfl
            have zc4 := cellB hn3 4 rfl
            have zc5 := cellB hn3 5 rfl
            have zc6 := cellB hn3 6 rfl
            have zf0 := freeB hn3 0
            have zf1 := freeB hn3 1
            have zf2 := freeB hn3 2
            have zf3 := freeB hn3 3
            have zf4 := freeB hn3 4
            have zf5 := freeB hn3 5
            have zf6 := freeB hn3 6
            have hbr3 : b < w3.heap.size := ltB hrd3
            have hn03 := ltB hn3
            replace hn3 := Lib.hid hn3
            replace hx3 := Lib.hid hx3
            replace hrd3 := Lib.hid hrd3
            rw [rdC_arr]
            have hcl' : cs.length + 1 ≤ 2097152 := by have := hq.out.1; omega
            have hone := rdC_one (n := m3) (p := p3) (f := f3) (t := t3) ⟨a1, n1, c1, rfl⟩ ⟨a2, n2, c2, rfl⟩ ⟨a3, n3, c3, rfl⟩
            replace hone := Lib.hid hone
            go_wp2_with (at_builtin; refine app_row rfl _ _ 29 33 7 112 _ infoRd rfl (by decide) (by decide) Tryz.underlying29 rfl (w.heap.size + 2) (.slice av nv cv) cs.length (cs.flatMap RKid.u) rfl ?c1 (w3.heap.size + 1) 1 (rdC m3 p3 f3 t3 (.slice a1 n1 c1) (.slice a2 n2 c2) (.slice a3 n3 c3)) _ 33 rfl ?c2 rfl rfl hcl' ?c4 hone.out ?_)
            case c1 => exact (hrow3.out.alloc _).alloc _
            case c2 =>
              have h := heap_alloc_new (w3.alloc (.cells #[.int .i64 (m3 : Int), .int .i64 (p3 : Int), .bool f3, .string t3, .slice a1 n1 c1, .slice a2 n2 c2, .slice a3 n3 c3] 33 (0, 0))) (.cells #[.int .i64 (m3 : Int), .int .i64 (p3 : Int), .bool f3, .string t3, .slice a1 n1 c1, .slice a2 n2 c2, .slice a3 n3 c3] 33 (0, 0))
              rw [show ∀ o, (w3.alloc o).heap.size = w3.heap.size + 1 from fun o => by simp] at h
              exact h
            case c4 => simp; omega
            intro v' w4 hrow4 hg5 hown5
            have hk3 : ¬ (k : Int) = 0 := by have : k = 2 ∨ k = 3 ∨ k = 6 := fit; omega
            have hk4 : ((k : Int) == 0) = false := by simpa using hk3
            have hlo : ∀ j, (Value.slice av nv cv).ownBlock = some j → w.heap.size + 2 ≤ j := fun j e => (hrow3.out.lt j e).1
            have hn4 := (hg5.block w.heap.size (by simp; omega) (fun e => by have := hlo _ e.symm; omega)).trans (box_next (box_next hn3.out (balloc (Below.refl _ _))) (balloc (Below.refl _ _)))
            have hx4 := Lib.hid ((hg5.block (w.heap.size + 1) (by simp; omega) (fun e => by have := hlo _ e.symm; omega)).trans (box_next (box_next hx3.out (balloc (Below.refl _ _))) (balloc (Below.refl _ _))))
            have hrd4 := (hg5.block b (by simp; omega) (fun e => by have := hlo _ e.symm; omega)).trans (box_next (box_next hrd3.out (balloc (Below.refl _ _))) (balloc (Below.refl _ _)))
            have hrd4 : RdB s v q3 pl2 k b w4 := hrd4
            obtain ⟨av', nv', cv', rfl⟩ := ownsRow_sl hrow4
            have x4 := hrd4.c4
            clear zc0 zc1 zc2 zc3 zc4 zc5 zc6 zf0 zf1 zf2 zf3 zf4 zf5 zf6
            have z4 := cellB hn4 4 rfl
            have zf4 := freeB hn4 4
            have hn04 := ltB hn4
            have hbr4 := ltB hrd4
            replace hn4 := Lib.hid hn4
            replace hrd4 := Lib.hid hrd4
            replace hg5 := Lib.hid hg5
            go_wp2_with fail
            have hg6 := (grown_own (grown_trans hg4.out (grown_of_below (r := some b) (balloc (balloc (Below.refl _ _))))) hg5.out (fun j e => by have := hlo j e; omega)).setNew (Nat.le_refl _) 4 (.slice av' nv' cv')
            have hrd5 : RdB s v q3 pl2 k b _ := other (i := 4) (u := .slice av' nv' cv') hrd4.out hz1
            have hn5 := set1 (i := 4) hn4.out (.slice av' nv' cv') rfl
            have hx5 := other (i := 4) (u := .slice av' nv' cv') hx4.out hz4
            have hW5 := hW.out.step hg6 hrd5 hq3
            refine (want_old s q3 pl2 k b 11 _ hW5 (by omega)).mono ?_
            rintro e w6 ⟨rfl, hb⟩
            have hn6 := Lib.hid (box_next hn5 hb)
            have hx6 := Lib.hid (box_next hx5 hb)
            have hrd6 := Lib.hid (hrd5.next hb)
            have hg7 := Lib.hid (grown_belowR hg6 hb)
            clear hb hn5 hx5 hrd5 hg6 hW5 x4 z4 zf4
            go_wp2_with fail
            go_roundg f1
            case measure => omega
            case rel => exact ⟨q3, pl2, k, _, hn6, hx6, hrd6, hg7, Lib.hid ⟨hq3, by have := hq.out.2; omega⟩, Or.inr ⟨by omega, Lib.hid ⟨⟨_, _, _, rfl⟩, by rw [← hgo.out]; rfl⟩⟩⟩
          | ok x q1 =>
            replace hgo := Lib.hid hgo
            go_wp2_with fail
            refine V.out.mono ?_
            rintro e w3 ⟨hg3, u, rfl, hN, hrd3⟩
            obtain ⟨m3, p3, f3, t3, vi3, vk3, vp3, rfl, ⟨a1, n1, c1, rfl⟩, ⟨a2, n2, c2, rfl⟩, ⟨a3, n3, c3, rfl⟩⟩ := hN.form
            have hfit : q < q1 ∧ q1 ≤ ts.length := fit
            have hq3 := hfit.2
            have hNo := Lib.hid hN
            have hg3o := Lib.hid hg3
            have hx00 : w.heap.size + 2 ≤ wr.heap.size := hx0
            have hlv : ∀ j, vi.ownBlock = some j → j < wr.heap.size := fun j e => (hrow.out.lt j e).2
            have hn3 := (hg3.block _ hn0 (by intro e; cases e; exact hz1 rfl)).trans hn.out
            have hx3 := (hg3.block _ hx0 (by intro e; cases e; exact hz2 rfl)).trans hx.out
            have hrow3 := Lib.hid (ownsRow_heap hrow.out fun k e => hg3.block k (hrow.out.lt k e).2 (by intro e2; cases e2; have := (hrow.out.lt b e).1; omega))
            obtain ⟨av, nv, cv, rfl⟩ := ownsRow_sl hrow.out
            have hz5 := hg3.size
            have hg4 := Lib.hid (grown_trans hg.out hg3)
            clear hg3 x4
            have zc0 := cellB hn3 0 rfl
            have zc1 := cellB hn3 1 rfl
            have zc2 := cellB hn3 2 rfl
            have zc3 := cellB hn3 3 rfl
            have zc4 := cellB hn3 4 rfl
            have zc5 := cellB hn3 5 rfl
            have zc6 := cellB hn3 6 rfl
            have zf0 := freeB hn3 0
            have zf1 := freeB hn3 1
            have zf2 := freeB hn3 2
            have zf3 := freeB hn3 3
            have zf4 := freeB hn3 4
            have zf5 := freeB hn3 5
            have zf6 := freeB hn3 6
            have hbr3 : b < w3.heap.size := ltB hrd3
            have hn03 := ltB hn3
            replace hn3 := Lib.hid hn3
            replace hx3 := Lib.hid hx3
            replace hrd3 := Lib.hid hrd3
            rw [rdC_arr]
            have hcl' : cs.length + 1 ≤ 2097152 := by have := hq.out.1; omega
            have hone := rdC_one (n := m3) (p := p3) (f := f3) (t := t3) ⟨a1, n1, c1, rfl⟩ ⟨a2, n2, c2, rfl⟩ ⟨a3, n3, c3, rfl⟩
            replace hone := Lib.hid hone
            go_wp2_with (at_builtin; refine app_row rfl _ _ 29 33 7 112 _ infoRd rfl (by decide) (by decide) Tryz.underlying29 rfl (w.heap.size + 2) (.slice av nv cv) cs.length (cs.flatMap RKid.u) rfl ?c1 (w3.heap.size + 1) 1 (rdC m3 p3 f3 t3 (.slice a1 n1 c1) (.slice a2 n2 c2) (.slice a3 n3 c3)) _ 33 rfl ?c2 rfl rfl hcl' ?c4 hone.out ?_)
            case c1 => exact (hrow3.out.alloc _).alloc _
            case c2 =>
              have h := heap_alloc_new (w3.alloc (.cells #[.int .i64 (m3 : Int), .int .i64 (p3 : Int), .bool f3, .string t3, .slice a1 n1 c1, .slice a2 n2 c2, .slice a3 n3 c3] 33 (0, 0))) (.cells #[.int .i64 (m3 : Int), .int .i64 (p3 : Int), .bool f3, .string t3, .slice a1 n1 c1, .slice a2 n2 c2, .slice a3 n3 c3] 33 (0, 0))
              rw [show ∀ o, (w3.alloc o).heap.size = w3.heap.size + 1 from fun o => by simp] at h
              exact h
            case c4 => simp; omega
            intro v' w4 hrow4 hg5 hown5
            have hlo : ∀ j, (Value.slice av nv cv).ownBlock = some j → w.heap.size + 2 ≤ j := fun j e => (hrow3.out.lt j e).1
            have hn4 := (hg5.block w.heap.size (by simp; omega) (fun e => by have := hlo _ e.symm; omega)).trans (box_next (box_next hn3.out (balloc (Below.refl _ _))) (balloc (Below.refl _ _)))
            have hx4 := Lib.hid ((hg5.block (w.heap.size + 1) (by simp; omega) (fun e => by have := hlo _ e.symm; omega)).trans (box_next (box_next hx3.out (balloc (Below.refl _ _))) (balloc (Below.refl _ _))))
            have hrd4 := (hg5.block b (by simp; omega) (fun e => by have := hlo _ e.symm; omega)).trans (box_next (box_next hrd3.out (balloc (Below.refl _ _))) (balloc (Below.refl _ _)))
            have hrd4 : RdB s v q1 plx 0 b w4 := hrd4
            obtain ⟨av', nv', cv', rfl⟩ := ownsRow_sl hrow4
            have x4 := hrd4.c4
            clear zc0 zc1 zc2 zc3 zc4 zc5 zc6 zf0 zf1 zf2 zf3 zf4 zf5 zf6
            have z4 := cellB hn4 4 rfl
            have zf4 := freeB hn4 4
            have hn04 := ltB hn4
            have hbr4 := ltB hrd4
            replace hn4 := Lib.hid hn4
            replace hrd4 := Lib.hid hrd4
            replace hg5 := Lib.hid hg5
            go_wp2_with fail
            have hg6 := (grown_own (grown_trans hg4.out (grown_of_below (r := some b) (balloc (balloc (Below.refl _ _))))) hg5.out (fun j e => by have := hlo j e; omega)).setNew (Nat.le_refl _) 4 (.slice av' nv' cv')
            have hrd5 : RdB s v q1 plx 0 b _ := other (i := 4) (u := .slice av' nv' cv') hrd4.out hz1
            have hn5 := set1 (i := 4) hn4.out (.slice av' nv' cv') rfl
            have hx5 := other (i := 4) (u := .slice av' nv' cv') hx4.out hz4
            have hW5 := hW.out.step hg6 hrd5 hq3
            have hk3 := (hkids.out.grow (os' := [(Value.slice av nv cv).ownBlock]) hg3o.out (Or.inl fun j e => by cases e; omega) (fun o ho => Or.inl ho)).add (c := ⟨noS, 0, wr.heap.size, w3.heap.size, _, x⟩) rfl rfl hNo.out hx00 hz5 (fun o ho j e => by rw [List.mem_singleton.1 ho] at e; exact hlv j e)
            have hk5 := (((hk3.below (balloc (balloc (Below.refl _ _)))).grow (os' := [(Value.slice av' nv' cv').ownBlock]) hg5.out (Or.inr (List.mem_singleton.2 rfl)) (fun o ho => by
              rw [List.mem_singleton.1 ho]
              rcases hown5 with h | h
              · exact Or.inl (by rw [h]; exact List.mem_singleton.2 rfl)
              · obtain ⟨g, h1, h2⟩ := h
                exact Or.inr ⟨g, h1, by simp; omega⟩)).grow (os' := [(Value.slice av' nv' cv').ownBlock]) (grown_set w4 w.heap.size 4 (.slice av' nv' cv')) (Or.inl fun j e => by cases e; omega) (fun o ho => Or.inl ho))
            have hrow5 := ownsRow_heap (w' := w4.setCell ⟨w.heap.size, 4, none⟩ (.slice av' nv' cv')) hrow4 fun j e => (grown_set w4 w.heap.size 4 (.slice av' nv' cv')).block j (hrow4.lt j e).2 (fun e2 => by cases e2; have := (hrow4.lt _ e).1; omega)
            have hfl : (cs.flatMap RKid.u ++ rdC m3 p3 f3 t3 (.slice a1 n1 c1) (.slice a2 n2 c2) (.slice a3 n3 c3)) = (cs ++ [(⟨noS, 0, wr.heap.size, w3.heap.size, rdC m3 p3 f3 t3 (.slice a1 n1 c1) (.slice a2 n2 c2) (.slice a3 n3 c3), x⟩ : RKid)]).flatMap RKid.u := by rw [List.flatMap_append, List.flatMap_cons, List.flatMap_nil, List.append_nil]
            have hcs : ∃ cs' : List RKid, cs'.map RKid.x = cs.map RKid.x ++ [x] ∧ cs'.length = cs.length + 1 ∧ (w4.setCell ⟨w.heap.size, 4, none⟩ (.slice av' nv' cv')).ownsRow (w.heap.size + 2) 33 7 (.slice av' nv' cv') cs'.length (cs'.flatMap RKid.u) ∧ RKids (w.heap.size + 2) (w4.setCell ⟨w.heap.size, 4, none⟩ (.slice av' nv' cv')) [(Value.slice av' nv' cv').ownBlock] cs' :=
              ⟨_, by rw [List.map_append]; rfl, by rw [List.length_append]; rfl, by rw [hfl] at hrow5; rw [List.length_append]; exact hrow5, hk5⟩
            clear hk3 hk5 hrow5 hfl hrow4 hown5
            obtain ⟨cs', hc1, hc2, hc3, hc4⟩ := hcs
            have hgo1 : comb (cs'.map RKid.x) (match rest s ts 9 q1 with | .ok true q' => .ok [] q' | .ok false q' => pI s ts f1 deep q' | .err k pl => .err k pl | .out => .out) = r := by
              rw [← hgo.out, hc1]
              show _ = comb (cs.map RKid.x) (match rest s ts 9 q1 with | .ok true q' => .ok [x] q' | .ok false q' => _ | .err k pl => .err k pl | .out => .out)
              cases rest s ts 9 q1 with
              | out => rfl
              | err k pl => rfl
              | ok t q' =>
                cases t with
                | true => show PR.ok (_ ++ [] : List Nd) q' = _; rw [List.append_nil]; rfl
                | false =>
                  show comb _ (pI s ts f1 deep q') = comb _ (match pI s ts f1 deep q' with | .ok xs q'' => .ok (x :: xs) q'' | .err k pl => .err k pl | .out => .out)
                  cases pI s ts f1 deep q' with
                  | out => rfl
                  | err k pl => rfl
                  | ok xs q'' => show PR.ok _ _ = PR.ok _ _; rw [List.append_assoc]; rfl
            unfold rest at hgo1
            have N := Lib.hid (fun w hW => peek_calls (base := base) (v := v) (ts := ts) s q1 plx 0 b w hW)
            generalize hw5 : w4.setCell ⟨w.heap.size, 4, none⟩ (.slice av' nv' cv') = w5 at hW5 hrd5 hn5 hx5 hg6 hc3 hc4 ⊢
            clear hw5 hrow3 hNo hg3o hkids hone hg4 hg5 hrd4 hx4 hn4 hx3 hn3 hrd3 x4 z4 zf4 hrow hm hN hR V hlv hlo
            by_cases k9 : kindT ts q1 = 9
            · rw [if_pos k9] at hgo1
              rw [k9] at N
              have hqb : (q1 : Int) + 1 ≤ 3518437208884 := by have := hW.out.hl; omega
              replace hgo1 := Lib.hid hgo1
              replace k9 := Lib.hid k9
              replace hW5 := Lib.hid hW5
              refine (N.out _ hW5.out).mono ?_
              rintro e w6 ⟨rfl, hb⟩
              have hn6 := box_next hn5 hb
              have hx6 := box_next hx5 hb
              have hrd6 := hrd5.next hb
              have hg7 := grown_belowR hg6 hb
              have hc5 := Lib.hid (row_below hc3 hb)
              have hc6 := Lib.hid (hc4.below hb)
              clear hb hn5 hx5 hrd5 hg6 hc3 hc4
              have x2 := hrd6.c2
              have f2 := freeB hrd6 2
              have hn06 := ltB hn6
              have hx06 := ltB hx6
              have hbr6 := ltB hrd6
              have zc0 := cellB hn6 0 rfl
              have zc1 := cellB hn6 1 rfl
              have zc2 := cellB hn6 2 rfl
              have zc3 := cellB hn6 3 rfl
              have zc4 := cellB hn6 4 rfl
              have zc5 := cellB hn6 5 rfl
              have zc6 := cellB hn6 6 rfl
              have zf0 := freeB hn6 0
              have zf1 := freeB hn6 1
              have zf2 := freeB hn6 2
              have zf3 := freeB hn6 3
              have zf4 := freeB hn6 4
              have zf5 := freeB hn6 5
              have zf6 := freeB hn6 6
              have yc0 := cellB hx6 0 rfl
              have yc1 := cellB hx6 1 rfl
              have yc2 := cellB hx6 2 rfl
              have yc3 := cellB hx6 3 rfl
              have yc4 := cellB hx6 4 rfl
              have yc5 := cellB hx6 5 rfl
              have yc6 := cellB hx6 6 rfl
              have yf0 := freeB hx6 0
              have yf1 := freeB hx6 1
              have yf2 := freeB hx6 2
              have yf3 := freeB hx6 3
              have yf4 := freeB hx6 4
              have yf5 := freeB hx6 5
              have yf6 := freeB hx6 6
              replace hrd6 := Lib.hid hrd6
              replace hg7 := Lib.hid hg7
              go_wp2_with fail
              have h1 := other (i := 2) (u := .int .i64 ((q1 : Int) + 1)) hx6 hz2.symm
              have h3 := RdB.set2 (q := q1 + 1) hrd6.out
              have h4 := grown_trans hg7.out (grown_set _ b 2 (.int .i64 ((q1 : Int) + 1)))
              obtain ⟨e1, e2, e3⟩ := rd_end h1 h4 h3 hz2 (Nat.le_succ _) (.int .i64 4) (.int .i64 (P : Int)) (.bool false) (.string ⟨#[]⟩) (.slice av' nv' cv') (.slice none 0 0) (.slice none 0 0)
              refine bodyPost_ret (results_cell_row rfl _ _ (w.heap.size + 1) 33 _ (0, 0) _ rfl e1 Tryz.underlying33 rfl info7) rfl ⟨e2, _, rfl, ?_⟩
              rw [← hgo1.out]
              exact ⟨cs', ownsRow_base (row_grown (row_grown hc5.out (grown_set _ b 2 _) (by omega)) (set7_grown _ _ _ _ _ _ _ _ _) (by omega)) (by omega), (((hc6.out.other (grown_set _ b 2 _) (by omega)).other (set7_grown _ _ _ _ _ _ _ _ _) (by omega)).base (by omega)), by rw [List.append_nil], e3⟩
            · rw [if_neg k9] at hgo1
              have hne5 : ((kindT ts q1 : Int) == 9) = false := by simp; omega
              have hne6 : ¬ (kindT ts q1 : Int) = 9 := by omega
              obtain ⟨K2, hK2⟩ : ∃ K2, K2 = kindT ts q1 := ⟨_, rfl⟩
              rw [← hK2] at hne5 hne6 N
              replace hK2 := Lib.hid hK2
              refine (N.out _ hW5).mono ?_
              rintro e w6 ⟨rfl, hb⟩
              have hn6 := Lib.hid (box_next hn5 hb)
              have hx6 := Lib.hid (box_next hx5 hb)
              have hW6 := Lib.hid (hW5.next hb)
              have hg7 := Lib.hid (grown_belowR hg6 hb)
              have hc5 := Lib.hid (row_below hc3 hb)
              have hc6 := Lib.hid (hc4.below hb)
              clear hb hn5 hx5 hrd5 hg6 hc3 hc4 hW5
              by_cases k11 : kindT ts q1 = 11
              · rw [if_pos k11] at hgo1
                have hqt := kindT_lt (ts := ts) (p := q1) (by omega)
                replace hgo1 := Lib.hid hgo1
                replace k11 := Lib.hid k11
                go_wp2_with fail
                refine (want_ok s q1 plx b 11 _ hW6.out k11.out (by decide)).mono ?_
                rintro e w7 ⟨rfl, hW7, hg8⟩
                have hn7 := Lib.hid ((hg8.block _ (ltB hn6.out) (by intro e; cases e; exact hz1 rfl)).trans hn6.out)
                have hx7 := Lib.hid ((hg8.block _ (ltB hx6.out) (by intro e; cases e; exact hz2 rfl)).trans hx6.out)
                have hrd7 := Lib.hid hW7.rd
                have hg9 := Lib.hid (grown_trans hg7.out hg8)
                have hc7 := Lib.hid (row_grown hc5.out hg8 (by omega))
                have hc8 := Lib.hid (hc6.out.other hg8 (by omega))
                clear hW7 hg8 hn6 hx6 hW6 hg7 hc5 hc6
                go_wp2_with fail
                go_roundg f1
                case measure => omega
                case rel => exact ⟨q1 + 1, plx, 0, _, hn7, hx7, hrd7, hg9, Lib.hid ⟨by omega, by have := hq.out.2; omega⟩, Or.inl ⟨rfl, Lib.hid ⟨rfl, cs', hc7.out, hc8.out, by omega, hgo1.out⟩⟩⟩
              · rw [if_neg k11] at hgo1
                replace hgo1 := Lib.hid hgo1
                replace k11 := Lib.hid k11
                go_wp2_with fail
                refine (want_bad s q1 plx b 11 _ hW6.out k11.out).mono ?_
                rintro e w7 ⟨rfl, hW7, hg8⟩
                have hn7 := Lib.hid ((hg8.block _ (ltB hn6.out) (by intro e; cases e; exact hz1 rfl)).trans hn6.out)
                have hx7 := Lib.hid ((hg8.block _ (ltB hx6.out) (by intro e; cases e; exact hz2 rfl)).trans hx6.out)
                have hrd7 := Lib.hid hW7.rd
                have hg9 := Lib.hid (grown_trans hg7.out hg8)
                clear hW7 hg8 hn6 hx6 hW6 hg7 hc5 hc6
                go_wp2_with fail
                go_roundg f1
                case measure => omega
                case rel => exact ⟨q1, placeT s ts q1, 2, _, hn7, hx7, hrd7, hg9, Lib.hid ⟨hq3, by have := hq.out.2; omega⟩, Or.inr ⟨by decide, Lib.hid ⟨⟨_, _, _, rfl⟩, by rw [← hgo1.out]; rfl⟩⟩⟩
      · have hk1 : ((k : Int) == 0) = false := by simp; omega
        have hk2 : ¬ (k : Int) = 0 := by omega
        obtain ⟨⟨a1, n1, c1, rfl⟩, hre⟩ := hm.out
        replace hre := Lib.hid hre
        clear hm
        have zc0 := cellB hn.out 0 rfl
        have zc1 := cellB hn.out 1 rfl
        have zc2 := cellB hn.out 2 rfl
        have zc3 := cellB hn.out 3 rfl
        have zc4 := cellB hn.out 4 rfl
        have zc5 := cellB hn.out 5 rfl
        have zc6 := cellB hn.out 6 rfl
        have zf0 := freeB hn.out 0
        have zf1 := freeB hn.out 1
        have zf2 := freeB hn.out 2
        have zf3 := freeB hn.out 3
        have zf4 := freeB hn.out 4
        have zf5 := freeB hn.out 5
        have zf6 := freeB hn.out 6
        have yc0 := cellB hx.out 0 rfl
        have yc1 := cellB hx.out 1 rfl
        have yc2 := cellB hx.out 2 rfl
        have yc3 := cellB hx.out 3 rfl
        have yc4 := cellB hx.out 4 rfl
        have yc5 := cellB hx.out 5 rfl
        have yc6 := cellB hx.out 6 rfl
        have yf0 := freeB hx.out 0
        have yf1 := freeB hx.out 1
        have yf2 := freeB hx.out 2
        have yf3 := freeB hx.out 3
        have yf4 := freeB hx.out 4
        have yf5 := freeB hx.out 5
        have yf6 := freeB hx.out 6
        go_wp2_with fail
        obtain ⟨e1, e2, e3⟩ := rd_end hx.out hg.out hrd.out hz2 (Nat.le_succ _) (.int .i64 4) (.int .i64 (P : Int)) (.bool false) (.string ⟨#[]⟩) (.slice a1 n1 c1) (.slice none 0 0) (.slice none 0 0)
        refine bodyPost_ret (results_cell_row rfl _ _ (w.heap.size + 1) 33 _ (0, 0) _ rfl e1 Tryz.underlying33 rfl info7) rfl ⟨e2, _, rfl, ?_⟩
        rw [hre.out]
        exact ⟨⟨_, _, _, rfl⟩, q, hq.out.1, e3⟩

end Go.Proofs.YtibopkodoidjoaaGreatDoor

/- The reference's tree: want and value, whatever the fault. -/
namespace Go.Proofs.YtibopkodoidjoaaGreatDoor
open Go Go.RowKit

/-- want, whatever the fault. -/
theorem want_u {base : Nat} {v : Value} {ts : List Tk} (s : ByteArray) (p pl k b K : Nat) (w : World) (hW : RdW base s v ts p pl k b w) (hK : K ≠ 0) :
    Calls Tryz.prog 84 #[.pointer (some ⟨b, 0, none⟩), .int .i64 (K : Int)] w fun e w' => e = .returned (.tuple #[]) ∧ w.grownBy w' (some b) ∧
      ∃ q pl' k', RdW base s v ts q pl' k' b w' ∧ ((k ≠ 0 ∧ q = p ∧ pl' = pl ∧ k' = k) ∨ (k = 0 ∧ kindT ts p = K ∧ q = p + 1 ∧ pl' = pl ∧ k' = 0) ∨ (k = 0 ∧ kindT ts p ≠ K ∧ q = p ∧ pl' = placeT s ts p ∧ k' = 2)) := by
  by_cases h0 : k = 0
  · subst h0
    by_cases hk : kindT ts p = K
    · refine (want_ok s p pl b K w hW hk hK).mono ?_
      rintro e w' ⟨rfl, h1, h2⟩
      exact ⟨rfl, h2, _, _, _, h1, Or.inr (Or.inl ⟨rfl, hk, rfl, rfl, rfl⟩)⟩
    · refine (want_bad s p pl b K w hW hk).mono ?_
      rintro e w' ⟨rfl, h1, h2⟩
      exact ⟨rfl, h2, _, _, _, h1, Or.inr (Or.inr ⟨rfl, hk, rfl, rfl, rfl⟩)⟩
  · refine (want_old s p pl k b K w hW h0).mono ?_
    rintro e w' ⟨rfl, hb⟩
    exact ⟨rfl, grown_of_below hb, _, _, _, hW.next hb, Or.inl ⟨h0, rfl, rfl, rfl⟩⟩
/-- What value answers, whatever the fault. -/
def PostU (s : ByteArray) (v : Value) (n pl k b : Nat) (w : World) (r : PR Nd) (e : Ending) (w' : World) : Prop :=
  w.grownBy w' (some b) ∧ ∃ (m pn : Nat) (f : Bool) (t : ByteArray) (vi vk vp : Value) (q pl' k' : Nat), e = .returned (.agg (rdC m pn f t vi vk vp).toArray) ∧ (isSl vi ∧ isSl vk ∧ isSl vp) ∧ q ≤ n ∧ RdB s v q pl' k' b w' ∧
    ((k ≠ 0 ∧ pl' = pl ∧ k' = k) ∨ (k = 0 ∧ match r with
      | .ok x q0 => q = q0 ∧ pl' = pl ∧ k' = 0 ∧ OwnR w' w.heap.size w'.heap.size (rdC m pn f t vi vk vp) x
      | .err k2 pl2 => k' = k2 ∧ pl' = pl2
      | .out => True))
theorem value_u {base : Nat} {s : ByteArray} {v : Value} {ts : List Tk} {f : Nat} (hV : RVC base s v ts f) (deep p pl k b : Nat) (w : World) (hout : k = 0 → pV s ts f deep p ≠ .out) (hd : deep ≤ 64) (hW : RdW base s v ts p pl k b w) :
    Calls Tryz.prog 34 #[.pointer (some ⟨b, 0, none⟩), .int .i64 (deep : Int)] w (PostU s v ts.length pl k b w (pV s ts f deep p)) := by
  by_cases h0 : k = 0
  · subst h0
    have h1 := hout rfl
    have fit := (p_goes s ts f).1 deep p
    refine (hV deep p pl b w h1 hd hW).mono ?_
    generalize pV s ts f deep p = r at *
    rintro e w' ⟨hg, h2⟩
    cases r with
    | out => exact absurd rfl h1
    | ok x q =>
      obtain ⟨u, rfl, hN, hr⟩ := h2
      obtain ⟨m, pn, f1, t, vi, vk, vp, rfl, hs⟩ := hN.form
      exact ⟨hg, m, pn, f1, t, vi, vk, vp, q, pl, 0, rfl, hs, fit.2, hr, Or.inr ⟨rfl, rfl, rfl, rfl, hN⟩⟩
    | err k2 pl2 =>
      obtain ⟨m, pn, f1, t, vi, vk, vp, q, rfl, hs, hq, hr⟩ := h2
      exact ⟨hg, m, pn, f1, t, vi, vk, vp, q, pl2, k2, rfl, hs, hq, hr, Or.inr ⟨rfl, rfl, rfl⟩⟩
  · refine (rvalue_old s p pl k b _ w hW h0).mono ?_
    rintro e w' ⟨rfl, hb⟩
    exact ⟨grown_of_below hb, _, _, _, _, _, _, _, p, pl, k, rfl, ⟨⟨_, _, _, rfl⟩, ⟨_, _, _, rfl⟩, ⟨_, _, _, rfl⟩⟩, hW.hp, (hW.next hb).rd, Or.inl ⟨h0, rfl, rfl⟩⟩

end Go.Proofs.YtibopkodoidjoaaGreatDoor
