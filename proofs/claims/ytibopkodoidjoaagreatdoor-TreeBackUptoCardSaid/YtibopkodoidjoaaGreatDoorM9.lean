/- Lemmas of the proof, put together: TreeCount, TreeBlPlain, TreeTok, TreeCount2, TreeNum, Strs, TreeFind, TreeFind2. -/
import Derived.Test.YtibopkodoidjoaaGreatDoorM8
import Derived.Test.YtibopkodoidjoaaGreatDoorM7
import Derived.Test.YtibopkodoidjoaaGreatDoorShelfB
import Derived.Lib.AtoiErrMem
import Derived.Test.YtibopkodoidjoaaGreatDoorM1
import Derived.SliceStrings
import Derived.Test.YtibopkodoidjoaaGreatDoorM2

/- Package tree: count, Count. -/
namespace Go.Proofs.YtibopkodoidjoaaGreatDoor
open Go Go.RowKit

def one6 (n : Nat) (i : Nat) : Nat := if i = n then 1 else 0
mutual
/-- How many nodes of each name. -/
def cntN : Nd → Nat → Nat
  | .null _, i => one6 0 i
  | .flag _ _, i => one6 1 i
  | .num _ _, i => one6 2 i
  | .text _ _, i => one6 3 i
  | .lst _ xs, i => one6 4 i + cntL xs i
  | .obj _ xs, i => one6 5 i + cntM xs i
def cntL : List Nd → Nat → Nat
  | [], _ => 0
  | x :: xs, i => cntN x i + cntL xs i
def cntM : List (ByteArray × Nat × Nd) → Nat → Nat
  | [], _ => 0
  | (_, _, x) :: xs, i => cntN x i + cntM xs i
end
mutual
theorem cnt_strip : ∀ (x : Nd) (i : Nat), cntN x.strip i = cntN x i
  | .null _, _ => rfl
  | .flag _ _, _ => rfl
  | .num _ _, _ => rfl
  | .text _ _, _ => rfl
  | .lst _ xs, i => by rw [Nd.strip, cntN, cntN, cntL_strip]
  | .obj _ xs, i => by rw [Nd.strip, cntN, cntN, cntM_strip]
theorem cntL_strip : ∀ (xs : List Nd) (i : Nat), cntL (stripL xs) i = cntL xs i
  | [], _ => by rw [stripL]
  | x :: xs, i => by rw [stripL, cntL, cntL, cnt_strip x, cntL_strip xs]
theorem cntM_strip : ∀ (xs : List (ByteArray × Nat × Nd)) (i : Nat), cntM (stripM xs) i = cntM xs i
  | [], _ => by rw [stripM]
  | (k, p, x) :: xs, i => by rw [stripM, cntM, cntM, cnt_strip x, cntM_strip xs]
end
theorem cntL_app : ∀ (xs ys : List Nd) (i : Nat), cntL (xs ++ ys) i = cntL xs i + cntL ys i
  | [], ys, i => by rw [List.nil_append, cntL, Nat.zero_add]
  | x :: xs, ys, i => by rw [List.cons_append, cntL, cntL, cntL_app xs ys, Nat.add_assoc]
theorem cntM_app : ∀ (xs ys : List (ByteArray × Nat × Nd)) (i : Nat), cntM (xs ++ ys) i = cntM xs i + cntM ys i
  | [], ys, i => by rw [List.nil_append, cntM, Nat.zero_add]
  | (k, p, x) :: xs, ys, i => by rw [List.cons_append, cntM, cntM, cntM_app xs ys, Nat.add_assoc]
/-- The six counts as values. -/
def intsC (f : Nat → Nat) : Array Value := #[.int .i64 (f 0 : Int), .int .i64 (f 1 : Int), .int .i64 (f 2 : Int), .int .i64 (f 3 : Int), .int .i64 (f 4 : Int), .int .i64 (f 5 : Int)]
def CntB (b : Nat) (f : Nat → Nat) (w : World) : Prop := w.heap[b]? = some (.cells (intsC f) 44 (0, 0))
theorem CntB.at {b : Nat} {f : Nat → Nat} {w : World} (h : CntB b f w) {n : Nat} (hn : n < 6) : w.cell? ⟨b, n, none⟩ = some (.int .i64 (f n : Int)) := by
  refine cellB h n ?_
  rcases (show n = 0 ∨ n = 1 ∨ n = 2 ∨ n = 3 ∨ n = 4 ∨ n = 5 by omega) with rfl | rfl | rfl | rfl | rfl | rfl <;> rfl
theorem CntB.inc {b : Nat} {f : Nat → Nat} {w : World} (h : CntB b f w) {n : Nat} (hn : n < 6) : CntB b (fun i => f i + one6 n i) (w.setCell ⟨b, n, none⟩ (.int .i64 ((f n : Int) + 1))) := by
  unfold CntB at h ⊢
  rw [Lib.heap_setCell_same (i := n) h]
  rcases (show n = 0 ∨ n = 1 ∨ n = 2 ∨ n = 3 ∨ n = 4 ∨ n = 5 by omega) with rfl | rfl | rfl | rfl | rfl | rfl <;> simp [intsC, one6]
theorem CntB.grown {b : Nat} {f : Nat → Nat} {w w' : World} (h : CntB b f w) (hb : Below w.heap.size w w') : CntB b f w' := box_next h hb
theorem CntB.congr {b : Nat} {f g : Nat → Nat} {w : World} (h : CntB b f w) (e : ∀ i, g i = f i) : CntB b g w := by
  have : g = f := funext e
  rw [this]; exact h
set_option maxHeartbeats 1000000 in
set_option maxRecDepth 100000 in
theorem kind_same {w0 : World} {lo hi : Nat} {u : Value} {x : Nd} (h : OwnN w0 lo hi u x) (w : World) :
    Calls Tryz.prog 41 #[u] w fun e w' => e = .returned (.int .i64 (nameN x : Int)) ∧ w = w' := by
  cases h with
  | lst _ _ p v cs ho hb hk hp hc =>
    clear ho hb hk hp hc
    go_enter Tryz.func41, Tryz.ntmps41
    (go_wp2_with fail; repeat (any_goals (go_quiet (fail); go_wp2_with fail)))
    go_ret
    exact ⟨rfl, rfl⟩
  | obj _ _ p v cs ho hb hk hp hc =>
    clear ho hb hk hp hc
    go_enter Tryz.func41, Tryz.ntmps41
    (go_wp2_with fail; repeat (any_goals (go_quiet (fail); go_wp2_with fail)))
    go_ret
    exact ⟨rfl, rfl⟩
  | _ =>
    go_enter Tryz.func41, Tryz.ntmps41
    (go_wp2_with fail; repeat (any_goals (go_quiet (fail); go_wp2_with fail)))
    go_ret
    exact ⟨rfl, rfl⟩
/-- What is asked of count at a node that lay in world w0. -/
def CntC (w0 : World) (lo hi : Nat) (u : Value) (x : Nd) : Prop := ∀ w b f, (∀ k, lo ≤ k → k < hi → w.heap[k]? = w0.heap[k]?) → (b < lo ∨ hi ≤ b) → hi ≤ w.heap.size → CntB b f w → (∀ i, f i + cntN x i ≤ 4611686018427387904) →
  Calls Tryz.prog 42 #[.pointer (some ⟨b, 0, none⟩), u] w fun e w' => e = .returned (.tuple #[]) ∧ CntB b (fun i => f i + cntN x i) w' ∧ w.grownBy w' (some b)
theorem wrap_id {z : Int} (h1 : 0 ≤ z) (h2 : z ≤ 9223372036854775807) : IntKind.i64.wrap z = z := by
  simp [IntKind.wrap, IntKind.bits]
  omega
theorem cntL_pre (xs : List Nd) (k i : Nat) : cntL (xs.take k) i ≤ cntL xs i := by
  conv => rhs; rw [← List.take_append_drop k xs, cntL_app]
  omega
theorem cntM_pre (xs : List (ByteArray × Nat × Nd)) (k i : Nat) : cntM (xs.take k) i ≤ cntM xs i := by
  conv => rhs; rw [← List.take_append_drop k xs, cntM_app]
  omega
theorem cntL_take {xs : List Nd} {k : Nat} {x : Nd} (h : xs[k]? = some x) (i : Nat) : cntL (xs.take (k + 1)) i = cntL (xs.take k) i + cntN x i := by
  obtain ⟨hk, hx⟩ := List.getElem?_eq_some_iff.1 h
  rw [List.take_succ_eq_append_getElem hk, hx, cntL_app, cntL, cntL, Nat.add_zero]
theorem cntM_take {xs : List (ByteArray × Nat × Nd)} {k : Nat} {t : ByteArray} {p : Nat} {x : Nd} (h : xs[k]? = some (t, p, x)) (i : Nat) : cntM (xs.take (k + 1)) i = cntM (xs.take k) i + cntN x i := by
  obtain ⟨hk, hx⟩ := List.getElem?_eq_some_iff.1 h
  rw [List.take_succ_eq_append_getElem hk, hx, cntM_app, cntM, cntM, Nat.add_zero]
section
variable {w0 : World}
set_option maxHeartbeats 1000000 in
set_option maxRecDepth 100000 in
theorem cnt_null (lo hi p : Nat)  : CntC w0 lo hi (.iface 90 (.agg #[.int .i64 (p : Int)])) (.null p) := by
  intro w b f hw hbl hh hB hf
  have hn6 := nameN_lt (.null p)
  have hfn := hf (nameN (.null p))
  have hc1 : 1 ≤ cntN (.null p) (nameN (.null p)) := by simp [nameN, cntN, one6]
  have KS := Lib.hid (kind_same (w0 := w0) (.null lo hi p))
  have hcell := hB.at hn6
  have hfz := freeB hB (nameN (.null p))
  have hbz := ltB hB
  obtain ⟨n, hn⟩ : ∃ n, n = nameN (.null p) := ⟨_, rfl⟩
  rw [← hn] at hn6 hfn hc1 KS hcell hfz
  have hfi : (f n : Int) ≤ 4611686018427387903 := by omega
  have hni : (n : Int) < 6 := by omega
  replace hn := Lib.hid hn
  replace hB := Lib.hid hB
  replace hf := Lib.hid hf
  replace hw := Lib.hid hw
  obtain ⟨fn, hfn2⟩ : ∃ fn, fn = f n := ⟨_, rfl⟩
  rw [← hfn2] at hcell hfi
  replace hfn2 := Lib.hid hfn2
  replace hfn := Lib.hid hfn
  replace hc1 := Lib.hid hc1
  go_enter Tryz.func42, Tryz.ntmps42
  go_wp2_with fail
  go_region_with ((go_at_call 41; refine (KS.out _).mono ?_; rintro e w1 ⟨rfl, rfl⟩))
  rw [wrap_id (by omega) (by omega)]
  have hB1 : Hid (CntB b (fun i => f i + one6 n i) (w.setCell ⟨b, n, none⟩ (.int .i64 ((fn : Int) + 1))).drew) := Lib.hid (by rw [hfn2.out]; exact CntB.inc hB.out hn6)
  have hg1 : Hid (w.grownBy (w.setCell ⟨b, n, none⟩ (.int .i64 ((fn : Int) + 1))).drew (some b)) := Lib.hid (grown_drew (grown_set _ _ _ _))
  clear hcell hfz
  generalize (w.setCell ⟨b, n, none⟩ (.int .i64 ((fn : Int) + 1))).drew = w1 at *
  go_wp2_with fail
  go_end0
  exact ⟨rfl, hB1.out.congr (fun i => by rw [hn.out]; rfl), hg1.out⟩
set_option maxHeartbeats 1000000 in
set_option maxRecDepth 100000 in
theorem cnt_flag (lo hi p : Nat) (b' : Bool) : CntC w0 lo hi (.iface 92 (.agg #[.int .i64 (p : Int), .bool b'])) (.flag p b') := by
  intro w b f hw hbl hh hB hf
  have hn6 := nameN_lt (.flag p b')
  have hfn := hf (nameN (.flag p b'))
  have hc1 : 1 ≤ cntN (.flag p b') (nameN (.flag p b')) := by simp [nameN, cntN, one6]
  have KS := Lib.hid (kind_same (w0 := w0) (.flag lo hi p b'))
  have hcell := hB.at hn6
  have hfz := freeB hB (nameN (.flag p b'))
  have hbz := ltB hB
  obtain ⟨n, hn⟩ : ∃ n, n = nameN (.flag p b') := ⟨_, rfl⟩
  rw [← hn] at hn6 hfn hc1 KS hcell hfz
  have hfi : (f n : Int) ≤ 4611686018427387903 := by omega
  have hni : (n : Int) < 6 := by omega
  replace hn := Lib.hid hn
  replace hB := Lib.hid hB
  replace hf := Lib.hid hf
  replace hw := Lib.hid hw
  obtain ⟨fn, hfn2⟩ : ∃ fn, fn = f n := ⟨_, rfl⟩
  rw [← hfn2] at hcell hfi
  replace hfn2 := Lib.hid hfn2
  replace hfn := Lib.hid hfn
  replace hc1 := Lib.hid hc1
  go_enter Tryz.func42, Tryz.ntmps42
  go_wp2_with fail
  go_region_with ((go_at_call 41; refine (KS.out _).mono ?_; rintro e w1 ⟨rfl, rfl⟩))
  rw [wrap_id (by omega) (by omega)]
  have hB1 : Hid (CntB b (fun i => f i + one6 n i) (w.setCell ⟨b, n, none⟩ (.int .i64 ((fn : Int) + 1))).drew) := Lib.hid (by rw [hfn2.out]; exact CntB.inc hB.out hn6)
  have hg1 : Hid (w.grownBy (w.setCell ⟨b, n, none⟩ (.int .i64 ((fn : Int) + 1))).drew (some b)) := Lib.hid (grown_drew (grown_set _ _ _ _))
  clear hcell hfz
  generalize (w.setCell ⟨b, n, none⟩ (.int .i64 ((fn : Int) + 1))).drew = w1 at *
  go_wp2_with fail
  go_end0
  exact ⟨rfl, hB1.out.congr (fun i => by rw [hn.out]; rfl), hg1.out⟩
set_option maxHeartbeats 1000000 in
set_option maxRecDepth 100000 in
theorem cnt_num (lo hi p : Nat) (t : ByteArray) : CntC w0 lo hi (.iface 94 (.agg #[.int .i64 (p : Int), .string t])) (.num p t) := by
  intro w b f hw hbl hh hB hf
  have hn6 := nameN_lt (.num p t)
  have hfn := hf (nameN (.num p t))
  have hc1 : 1 ≤ cntN (.num p t) (nameN (.num p t)) := by simp [nameN, cntN, one6]
  have KS := Lib.hid (kind_same (w0 := w0) (.num lo hi p t))
  have hcell := hB.at hn6
  have hfz := freeB hB (nameN (.num p t))
  have hbz := ltB hB
  obtain ⟨n, hn⟩ : ∃ n, n = nameN (.num p t) := ⟨_, rfl⟩
  rw [← hn] at hn6 hfn hc1 KS hcell hfz
  have hfi : (f n : Int) ≤ 4611686018427387903 := by omega
  have hni : (n : Int) < 6 := by omega
  replace hn := Lib.hid hn
  replace hB := Lib.hid hB
  replace hf := Lib.hid hf
  replace hw := Lib.hid hw
  obtain ⟨fn, hfn2⟩ : ∃ fn, fn = f n := ⟨_, rfl⟩
  rw [← hfn2] at hcell hfi
  replace hfn2 := Lib.hid hfn2
  replace hfn := Lib.hid hfn
  replace hc1 := Lib.hid hc1
  go_enter Tryz.func42, Tryz.ntmps42
  go_wp2_with fail
  go_region_with ((go_at_call 41; refine (KS.out _).mono ?_; rintro e w1 ⟨rfl, rfl⟩))
  rw [wrap_id (by omega) (by omega)]
  have hB1 : Hid (CntB b (fun i => f i + one6 n i) (w.setCell ⟨b, n, none⟩ (.int .i64 ((fn : Int) + 1))).drew) := Lib.hid (by rw [hfn2.out]; exact CntB.inc hB.out hn6)
  have hg1 : Hid (w.grownBy (w.setCell ⟨b, n, none⟩ (.int .i64 ((fn : Int) + 1))).drew (some b)) := Lib.hid (grown_drew (grown_set _ _ _ _))
  clear hcell hfz
  generalize (w.setCell ⟨b, n, none⟩ (.int .i64 ((fn : Int) + 1))).drew = w1 at *
  go_wp2_with fail
  go_end0
  exact ⟨rfl, hB1.out.congr (fun i => by rw [hn.out]; rfl), hg1.out⟩
set_option maxHeartbeats 1000000 in
set_option maxRecDepth 100000 in
theorem cnt_text (lo hi p : Nat) (t : ByteArray) : CntC w0 lo hi (.iface 95 (.agg #[.int .i64 (p : Int), .string t])) (.text p t) := by
  intro w b f hw hbl hh hB hf
  have hn6 := nameN_lt (.text p t)
  have hfn := hf (nameN (.text p t))
  have hc1 : 1 ≤ cntN (.text p t) (nameN (.text p t)) := by simp [nameN, cntN, one6]
  have KS := Lib.hid (kind_same (w0 := w0) (.text lo hi p t))
  have hcell := hB.at hn6
  have hfz := freeB hB (nameN (.text p t))
  have hbz := ltB hB
  obtain ⟨n, hn⟩ : ∃ n, n = nameN (.text p t) := ⟨_, rfl⟩
  rw [← hn] at hn6 hfn hc1 KS hcell hfz
  have hfi : (f n : Int) ≤ 4611686018427387903 := by omega
  have hni : (n : Int) < 6 := by omega
  replace hn := Lib.hid hn
  replace hB := Lib.hid hB
  replace hf := Lib.hid hf
  replace hw := Lib.hid hw
  obtain ⟨fn, hfn2⟩ : ∃ fn, fn = f n := ⟨_, rfl⟩
  rw [← hfn2] at hcell hfi
  replace hfn2 := Lib.hid hfn2
  replace hfn := Lib.hid hfn
  replace hc1 := Lib.hid hc1
  go_enter Tryz.func42, Tryz.ntmps42
  go_wp2_with fail
  go_region_with ((go_at_call 41; refine (KS.out _).mono ?_; rintro e w1 ⟨rfl, rfl⟩))
  rw [wrap_id (by omega) (by omega)]
  have hB1 : Hid (CntB b (fun i => f i + one6 n i) (w.setCell ⟨b, n, none⟩ (.int .i64 ((fn : Int) + 1))).drew) := Lib.hid (by rw [hfn2.out]; exact CntB.inc hB.out hn6)
  have hg1 : Hid (w.grownBy (w.setCell ⟨b, n, none⟩ (.int .i64 ((fn : Int) + 1))).drew (some b)) := Lib.hid (grown_drew (grown_set _ _ _ _))
  clear hcell hfz
  generalize (w.setCell ⟨b, n, none⟩ (.int .i64 ((fn : Int) + 1))).drew = w1 at *
  go_wp2_with fail
  go_end0
  exact ⟨rfl, hB1.out.congr (fun i => by rw [hn.out]; rfl), hg1.out⟩
set_option maxHeartbeats 2000000 in
set_option maxRecDepth 100000 in
theorem cnt_lst (lo hi p : Nat) (vr : Value) (cs : List Kid) (hr : w0.ownsRow lo 24 1 vr cs.length (cs.map Kid.u)) (hb0 : ∀ k, vr.ownBlock = some k → k < hi)
    (hk : ∀ c ∈ cs, c.fits lo hi vr.ownBlock) (hN : OwnN w0 lo hi (.iface 98 (.agg #[.int .i64 (p : Int), vr])) (.lst p (cs.map Kid.x))) (ih : ∀ c ∈ cs, CntC w0 c.l c.h c.u c.x) : CntC w0 lo hi (.iface 98 (.agg #[.int .i64 (p : Int), vr])) (.lst p (cs.map Kid.x)) := by
  obtain ⟨m, hm⟩ : ∃ m, m = cs.length := ⟨_, rfl⟩
  obtain ⟨xs, hxs⟩ : ∃ xs, xs = cs.map Kid.x := ⟨_, rfl⟩
  rw [← hxs] at hN ⊢
  rw [← hm] at hr
  obtain ⟨va, vc, rfl⟩ : ∃ a c, vr = .slice a m c := by
    obtain ⟨a, c, h⟩ := rowForm hr
    exact ⟨a, c, h⟩
  have hnm : m ≤ maxLen := by
    rcases rowForm2 hr with ⟨h, _⟩ | ⟨g, cap, h, _, _, h1, h2⟩
    · omega
    · omega
  unfold maxLen at hnm
  have hnI : (m : Int) ≤ 9223372036854775807 := by omega
  have hall : Hid (xs.take m = xs) := Lib.hid (List.take_of_length_le (by rw [hxs, hm]; simp))
  replace hr := Lib.hid hr
  replace hm := Lib.hid hm
  replace hxs := Lib.hid hxs
  intro w b f hw hbl hh hB hf
  have hn6 := nameN_lt (.lst p xs)
  have hfn := hf (nameN (.lst p xs))
  have hc1 : 1 ≤ cntN (.lst p xs) (nameN (.lst p xs)) := by simp [nameN, cntN, one6]
  have KS := Lib.hid (kind_same (w0 := w0) hN)
  have hcell := hB.at hn6
  have hfz := freeB hB (nameN (.lst p xs))
  have hbz := ltB hB
  obtain ⟨n, hn⟩ : ∃ n, n = nameN (.lst p xs) := ⟨_, rfl⟩
  rw [← hn] at hn6 hfn hc1 KS hcell hfz
  have hfi : (f n : Int) ≤ 4611686018427387903 := by omega
  have hni : (n : Int) < 6 := by omega
  replace hn := Lib.hid hn
  replace hB := Lib.hid hB
  replace hf := Lib.hid hf
  replace hw := Lib.hid hw
  obtain ⟨fn, hfn2⟩ : ∃ fn, fn = f n := ⟨_, rfl⟩
  rw [← hfn2] at hcell hfi
  replace hfn2 := Lib.hid hfn2
  replace hfn := Lib.hid hfn
  replace hc1 := Lib.hid hc1
  go_enter Tryz.func42, Tryz.ntmps42
  go_wp2_with fail
  go_region_with ((go_at_call 41; refine (KS.out _).mono ?_; rintro e w1 ⟨rfl, rfl⟩))
  rw [wrap_id (by omega) (by omega)]
  have hB1 : Hid (CntB b (fun i => f i + one6 n i) (w.setCell ⟨b, n, none⟩ (.int .i64 ((fn : Int) + 1))).drew) := Lib.hid (by rw [hfn2.out]; exact CntB.inc hB.out hn6)
  have hg1 : Hid (w.grownBy (w.setCell ⟨b, n, none⟩ (.int .i64 ((fn : Int) + 1))).drew (some b)) := Lib.hid (grown_drew (grown_set _ _ _ _))
  clear hcell hfz
  generalize (w.setCell ⟨b, n, none⟩ (.int .i64 ((fn : Int) + 1))).drew = w1 at *
  go_wp2_with fail
  go_loopw [26] (fun v26 wr => ∃ k : Nat, k ≤ m ∧ v26 = .int .i64 (k : Int) ∧ Hid (CntB b (fun i => f i + one6 n i + cntL (xs.take k) i) wr) ∧ Hid (w.grownBy wr (some b))) (fun v _ => m - (intOf v).toNat)
  case atStart => exact ⟨0, Nat.zero_le _, rfl, Lib.hid ((hB1.out.grown ((Below.refl _ _).alloc (Nat.le_refl _) _)).congr (fun i => by rw [List.take_zero, cntL, Nat.add_zero])), Lib.hid (grown_trans hg1.out (World.grownBy_alloc _ _ _))⟩
  case round =>
    obtain ⟨k, hkn, rfl, hBr, hgr⟩ := hrel
    clear hB1 hg1
    have hzr := hgr.out.size
    by_cases hlt : k < m
    · have hltI : (k : Int) < (m : Int) := by omega
      obtain ⟨c, hc⟩ : ∃ c, cs[k]? = some c := ⟨cs[k]'(by rw [← hm.out]; exact hlt), List.getElem?_eq_getElem _⟩
      have hcm := List.mem_of_getElem? hc
      have hcx : xs[k]? = some c.x := by rw [hxs.out, List.getElem?_map, hc]; rfl
      have hcu : (cs.map Kid.u)[k]? = some c.u := by rw [List.getElem?_map, hc]; rfl
      have hcf := hk c hcm
      obtain ⟨g, rfl⟩ : ∃ g, va = some ⟨g, 0, none⟩ := by
        rcases rowForm2 hr.out with ⟨h, _⟩ | ⟨g, cap, h, _⟩
        · omega
        · cases h; exact ⟨g, rfl⟩
      have hag : Hid (∀ j, lo ≤ j → j < hi → wr.heap[j]? = w0.heap[j]?) := Lib.hid (fun j a c => (hgr.out.block j (by omega) (fun e => by have := Option.some.inj e; omega)).trans (hw.out j a c))
      have hrow : wr.cell? ⟨g, k, none⟩ = some c.u := by
        refine rowCells (ownsRow_heap hr.out fun j e => hag.out j (hr.out.lt j e).1 (hb0 j e)) hcu
      have hcnt := Lib.hid (cntL_take hcx)
      have hpre := Lib.hid (cntL_pre xs (k + 1))
      have hone : Hid (∀ i, one6 n i = one6 4 i) := Lib.hid (fun i => by rw [hn.out, nameN])
      have IC := Lib.hid (ih c hcm wr b _ (fun j a c => hag.out j (Nat.le_trans hcf.1 a) (Nat.lt_of_lt_of_le c hcf.2.2.1)) (by have h1 := hcf.1; have h2 := hcf.2.2.1; omega) (Nat.le_trans hcf.2.2.1 (by omega)) hBr.out (fun i => by have h1 := hf.out i; have h2 := hpre.out i; have h3 := hcnt.out i; rw [cntN] at h1; have h4 := hone.out i; omega))
      generalize c.u = cu at *
      generalize c.x = cx at *
      replace hcf := Lib.hid hcf
      replace hc := Lib.hid hc
      replace hcx := Lib.hid hcx
      replace hcu := Lib.hid hcu
      go_wp2_with fail
      refine IC.out.mono ?_
      rintro e w4 ⟨rfl, hB4, hg4⟩
      have hg5 := grown_trans hgr.out hg4
      replace hB4 := Lib.hid hB4
      replace hg5 := Lib.hid hg5
      clear hg4
      go_wp2_with fail
      go_roundw
      case measure => simp [intOf]; omega
      case rel => exact ⟨k + 1, by omega, by go_num, Lib.hid (hB4.out.congr (fun i => by rw [hcnt.out i]; omega)), hg5⟩
    · obtain rfl : k = m := by omega
      have hlt' : ¬ (k : Int) < (k : Int) := by omega
      go_wp2_with fail
      go_end0
      exact ⟨rfl, hBr.out.congr (fun i => by rw [hall.out, hn.out, cntN]; show _ = f i + one6 4 i + _; omega), hgr.out⟩
set_option maxHeartbeats 2000000 in
set_option maxRecDepth 100000 in
theorem cnt_obj (lo hi p : Nat) (vr : Value) (cs : List Kid) (hr : w0.ownsRow lo 103 3 vr cs.length (cs.flatMap memC)) (hb0 : ∀ k, vr.ownBlock = some k → k < hi)
    (hk : ∀ c ∈ cs, c.fits lo hi vr.ownBlock) (hN : OwnN w0 lo hi (.iface 101 (.agg #[.int .i64 (p : Int), vr])) (.obj p (cs.map Kid.mem))) (hform : ∀ c ∈ cs, ∃ t a, c.u = .iface t a) (ih : ∀ c ∈ cs, CntC w0 c.l c.h c.u c.x) : CntC w0 lo hi (.iface 101 (.agg #[.int .i64 (p : Int), vr])) (.obj p (cs.map Kid.mem)) := by
  obtain ⟨m, hm⟩ : ∃ m, m = cs.length := ⟨_, rfl⟩
  obtain ⟨xs, hxs⟩ : ∃ xs, xs = cs.map Kid.mem := ⟨_, rfl⟩
  rw [← hxs] at hN ⊢
  rw [← hm] at hr
  obtain ⟨va, vc, rfl⟩ : ∃ a c, vr = .slice a m c := by
    obtain ⟨a, c, h⟩ := rowForm hr
    exact ⟨a, c, h⟩
  have hnm : m ≤ maxLen := by
    rcases rowForm2 hr with ⟨h, _⟩ | ⟨g, cap, h, _, _, h1, h2⟩
    · omega
    · omega
  unfold maxLen at hnm
  have hnI : (m : Int) ≤ 9223372036854775807 := by omega
  have hall : Hid (xs.take m = xs) := Lib.hid (List.take_of_length_le (by rw [hxs, hm]; simp))
  replace hr := Lib.hid hr
  replace hm := Lib.hid hm
  replace hxs := Lib.hid hxs
  intro w b f hw hbl hh hB hf
  have hn6 := nameN_lt (.obj p xs)
  have hfn := hf (nameN (.obj p xs))
  have hc1 : 1 ≤ cntN (.obj p xs) (nameN (.obj p xs)) := by simp [nameN, cntN, one6]
  have KS := Lib.hid (kind_same (w0 := w0) hN)
  have hcell := hB.at hn6
  have hfz := freeB hB (nameN (.obj p xs))
  have hbz := ltB hB
  obtain ⟨n, hn⟩ : ∃ n, n = nameN (.obj p xs) := ⟨_, rfl⟩
  rw [← hn] at hn6 hfn hc1 KS hcell hfz
  have hfi : (f n : Int) ≤ 4611686018427387903 := by omega
  have hni : (n : Int) < 6 := by omega
  replace hn := Lib.hid hn
  replace hB := Lib.hid hB
  replace hf := Lib.hid hf
  replace hw := Lib.hid hw
  obtain ⟨fn, hfn2⟩ : ∃ fn, fn = f n := ⟨_, rfl⟩
  rw [← hfn2] at hcell hfi
  replace hfn2 := Lib.hid hfn2
  replace hfn := Lib.hid hfn
  replace hc1 := Lib.hid hc1
  go_enter Tryz.func42, Tryz.ntmps42
  go_wp2_with fail
  go_region_with ((go_at_call 41; refine (KS.out _).mono ?_; rintro e w1 ⟨rfl, rfl⟩))
  rw [wrap_id (by omega) (by omega)]
  have hB1 : Hid (CntB b (fun i => f i + one6 n i) (w.setCell ⟨b, n, none⟩ (.int .i64 ((fn : Int) + 1))).drew) := Lib.hid (by rw [hfn2.out]; exact CntB.inc hB.out hn6)
  have hg1 : Hid (w.grownBy (w.setCell ⟨b, n, none⟩ (.int .i64 ((fn : Int) + 1))).drew (some b)) := Lib.hid (grown_drew (grown_set _ _ _ _))
  clear hcell hfz
  generalize (w.setCell ⟨b, n, none⟩ (.int .i64 ((fn : Int) + 1))).drew = w1 at *
  go_wp2_with fail
  go_loopw [40] (fun v40 wr => ∃ k : Nat, k ≤ m ∧ v40 = .int .i64 (k : Int) ∧ Hid (CntB b (fun i => f i + one6 n i + cntM (xs.take k) i) wr) ∧ Hid (w.grownBy wr (some b))) (fun v _ => m - (intOf v).toNat)
  case atStart => exact ⟨0, Nat.zero_le _, rfl, Lib.hid ((hB1.out.grown ((Below.refl _ _).alloc (Nat.le_refl _) _)).congr (fun i => by rw [List.take_zero, cntM, Nat.add_zero])), Lib.hid (grown_trans hg1.out (World.grownBy_alloc _ _ _))⟩
  case round =>
    obtain ⟨k, hkn, rfl, hBr, hgr⟩ := hrel
    clear hB1 hg1
    have hzr := hgr.out.size
    by_cases hlt : k < m
    · have hltI : (k : Int) < (m : Int) := by omega
      obtain ⟨c, hc⟩ : ∃ c, cs[k]? = some c := ⟨cs[k]'(by rw [← hm.out]; exact hlt), List.getElem?_eq_getElem _⟩
      have hcm := List.mem_of_getElem? hc
      have hcx : xs[k]? = some (c.key, c.pl, c.x) := by rw [hxs.out, List.getElem?_map, hc]; rfl
      have hcf := hk c hcm
      obtain ⟨g, rfl⟩ : ∃ g, va = some ⟨g, 0, none⟩ := by
        rcases rowForm2 hr.out with ⟨h, _⟩ | ⟨g, cap, h, _⟩
        · omega
        · cases h; exact ⟨g, rfl⟩
      have hag : Hid (∀ j, lo ≤ j → j < hi → wr.heap[j]? = w0.heap[j]?) := Lib.hid (fun j a c => (hgr.out.block j (by omega) (fun e => by have := Option.some.inj e; omega)).trans (hw.out j a c))
      obtain ⟨q0, q1, q2⟩ := rowMem (ownsRow_heap hr.out fun j e => hag.out j (hr.out.lt j e).1 (hb0 j e)) hc
      obtain ⟨ut, ua, hu⟩ := hform c hcm
      have hcnt := Lib.hid (cntM_take hcx)
      have hpre := Lib.hid (cntM_pre xs (k + 1))
      have hone : Hid (∀ i, one6 n i = one6 5 i) := Lib.hid (fun i => by rw [hn.out, nameN])
      have IC := Lib.hid (ih c hcm (wr.alloc (.cells #[.string c.key, .int .i64 (c.pl : Int), c.u] 103 (0, 0))) b _ (fun j a d => (Below.heap_alloc _ _ _ (by have := hcf.2.2.1; omega)).trans (hag.out j (Nat.le_trans hcf.1 a) (Nat.lt_of_lt_of_le d hcf.2.2.1))) (by have h1 := hcf.1; have h2 := hcf.2.2.1; omega) (by have := hcf.2.2.1; simp; omega) (hBr.out.grown ((Below.refl _ _).alloc (Nat.le_refl _) _)) (fun i => by have h1 := hf.out i; have h2 := hpre.out i; have h3 := hcnt.out i; rw [cntN] at h1; have h4 := hone.out i; omega))
      rw [hu] at q2 IC
      generalize c.key = key at *
      generalize c.pl = pl at *
      generalize c.x = cx at *
      replace hu := Lib.hid hu
      replace hcf := Lib.hid hcf
      replace hc := Lib.hid hc
      replace hcx := Lib.hid hcx
      go_wp2_with fail
      refine IC.out.mono ?_
      rintro e w4 ⟨rfl, hB4, hg4⟩
      have hg5 := grown_trans (grown_trans hgr.out (World.grownBy_alloc _ _ _)) hg4
      replace hB4 := Lib.hid hB4
      replace hg5 := Lib.hid hg5
      clear hg4
      go_wp2_with fail
      go_roundw
      case measure => simp [intOf]; omega
      case rel => exact ⟨k + 1, by omega, by go_num, Lib.hid (hB4.out.congr (fun i => by rw [hcnt.out i]; omega)), hg5⟩
    · obtain rfl : k = m := by omega
      have hlt' : ¬ (k : Int) < (k : Int) := by omega
      go_wp2_with fail
      go_end0
      exact ⟨rfl, hBr.out.congr (fun i => by rw [hall.out, hn.out, cntN]; show _ = f i + one6 5 i + _; omega), hgr.out⟩
end
theorem count_calls {w0 : World} {lo hi : Nat} {u : Value} {x : Nd} (h : OwnN w0 lo hi u x) : CntC w0 lo hi u x := by
  induction h with
  | null lo hi p => exact cnt_null lo hi p
  | flag lo hi p b => exact cnt_flag lo hi p b
  | num lo hi p t => exact cnt_num lo hi p t
  | text lo hi p t => exact cnt_text lo hi p t
  | lst lo hi p v cs ho hb hk hp hc ih => exact cnt_lst lo hi p v cs ho hb hk (.lst lo hi p v cs ho hb hk hp hc) ih
  | obj lo hi p v cs ho hb hk hp hc ih => exact cnt_obj lo hi p v cs ho hb hk (.obj lo hi p v cs ho hb hk hp hc) (fun c hm => (hc c hm).form) ih

end Go.Proofs.YtibopkodoidjoaaGreatDoor

/- Package tree, a plain law: blanks put between the tokens of a text change neither its form nor the kind of its error. No program in sight. -/
namespace Go.Proofs.YtibopkodoidjoaaGreatDoor
open Go Go.RowKit

/-- The blank that a byte stands for. -/
def blkB (c : Nat) : UInt8 := if c % 4 = 0 then 32 else if c % 4 = 1 then 9 else if c % 4 = 2 then 10 else 13
/-- k blanks of a text. -/
def gapK (b : ByteArray) (k : Nat) : List UInt8 := (List.range k).map fun j => blkB (bAt b j)
/-- The blanks that a text stands for. -/
def gapB (b : ByteArray) : List UInt8 := if b.size = 0 then [32] else gapK b (min b.size 9)
theorem blkB_blank (c : Nat) : blankN (blkB c).toNat = true := by unfold blkB; repeat' split
                                                                  all_goals decide
theorem gapK_zero (b : ByteArray) : gapK b 0 = [] := rfl
theorem gapK_succ (b : ByteArray) (k : Nat) : gapK b (k + 1) = gapK b k ++ [blkB (bAt b k)] := by unfold gapK; rw [List.range_succ, List.map_append]; rfl
theorem gapK_len (b : ByteArray) (k : Nat) : (gapK b k).length = k := by unfold gapK; simp
theorem gapK_blank (b : ByteArray) (k : Nat) : blanksL (gapK b k) := by
  intro c hc
  obtain ⟨j, _, rfl⟩ := List.mem_map.1 hc
  exact blkB_blank _
theorem gapB_blank (b : ByteArray) : blanksL (gapB b) := by
  unfold gapB
  split
  · intro c hc; rw [List.mem_singleton.1 hc]; decide
  · exact gapK_blank _ _
theorem gapB_pos (b : ByteArray) : gapB b ≠ [] := by
  unfold gapB
  split
  · exact List.cons_ne_nil _ _
  · intro h
    have := congrArg List.length h
    rw [gapK_len, List.length_nil] at this
    omega
theorem gapB_len (b : ByteArray) : (gapB b).length ≤ 9 := by
  unfold gapB
  split
  · simp
  · rw [gapK_len]; omega
/-- The tokens with the blanks ahead of each. -/
def itemsS (bs : List ByteArray) : Nat → List Tk → List (List UInt8 × Tk)
  | _, [] => []
  | i, T :: r => (gapB (bs.getD (i % bs.length) noS), T) :: itemsS bs (i + 1) r
theorem itemsS_mem {bs : List ByteArray} : ∀ (ts : List Tk) (i : Nat), ∀ x ∈ itemsS bs i ts, blanksL x.1 ∧ x.2 ∈ ts
  | [], i, x, h => by cases h
  | _ :: r, i, x, h => by
    rcases List.mem_cons.1 h with rfl | h
    · exact ⟨gapB_blank _, List.mem_cons_self ..⟩
    · have := itemsS_mem r (i + 1) x h
      exact ⟨this.1, List.mem_cons_of_mem _ this.2⟩
theorem itemsS_glue (bs : List ByteArray) : ∀ (ts : List Tk) (i : Nat), glueOk (itemsS bs i ts)
  | [], _ => trivial
  | [_], _ => trivial
  | _ :: T' :: r, i => ⟨fun h => absurd h (gapB_pos _), itemsS_glue bs (T' :: r) (i + 1)⟩
theorem itemsS_snoc (bs : List ByteArray) (T : Tk) : ∀ (ts : List Tk) (i : Nat), itemsS bs i (ts ++ [T]) = itemsS bs i ts ++ [(gapB (bs.getD ((i + ts.length) % bs.length) noS), T)]
  | [], i => rfl
  | T' :: r, i => by
    rw [List.cons_append, itemsS, itemsS_snoc bs T r (i + 1), itemsS, List.cons_append, List.length_cons, show i + 1 + r.length = i + (r.length + 1) by omega]
theorem itemsS_snd (bs : List ByteArray) : ∀ (ts : List Tk) (i : Nat), (itemsS bs i ts).map Prod.snd = ts
  | [], _ => rfl
  | T :: r, i => by rw [itemsS, List.map_cons, itemsS_snd bs r]
/-- The text that the statement makes of the first k tokens. -/
def spacedK (s : ByteArray) (bs : List ByteArray) (ts : List Tk) : List UInt8 := layL s [] (itemsS bs 0 ts)
theorem layL_snoc' (s : ByteArray) (b : List UInt8) (T : Tk) : ∀ it : List (List UInt8 × Tk), layL s [] (it ++ [(b, T)]) = layL s [] it ++ (b ++ segL s T)
  | [] => by show b ++ (segL s T ++ []) = _; simp [layL]
  | (b', T') :: r => by
    rw [List.cons_append, layL, layL_snoc' s b T r, layL]
    simp
theorem layL_end' (s : ByteArray) (Z : List UInt8) : ∀ it : List (List UInt8 × Tk), layL s Z it = layL s [] it ++ Z
  | [] => rfl
  | (b, T) :: r => by rw [layL, layL_end' s Z r, layL]; simp
theorem spacedK_snoc (s : ByteArray) (bs : List ByteArray) (ts : List Tk) (T : Tk) : spacedK s bs (ts ++ [T]) = spacedK s bs ts ++ (gapB (bs.getD (ts.length % bs.length) noS) ++ segL s T) := by
  unfold spacedK
  rw [itemsS_snoc, layL_snoc', Nat.zero_add]
theorem spacedK_len (s : ByteArray) (bs : List ByteArray) (m : Nat) (hm : s.size ≤ m) : ∀ (ts : List Tk) (i : Nat), (layL s [] (itemsS bs i ts)).length ≤ ts.length * (m + 9)
  | [], _ => Nat.zero_le _
  | T :: r, i => by
    rw [itemsS, layL, List.length_append, List.length_append, List.length_cons, Nat.succ_mul]
    have h1 := spacedK_len s bs m hm r (i + 1)
    have h2 := gapB_len (bs.getD (i % bs.length) noS)
    have h3 : (segL s T).length ≤ s.size := by
      unfold segL
      rw [Array.length_toList]
      show (s.extract T.fr T.to).size ≤ _
      rw [ByteArray.size_extract]; omega
    omega
theorem want_get (s : ByteArray) : ∀ (it : List (List UInt8 × Tk)) (A Z : List UInt8) (j : Nat) (x : List UInt8 × Tk), it[j]? = some x → (∀ y ∈ it, y.2.fr ≤ y.2.to ∧ y.2.to ≤ s.size) →
    ∃ T' : Tk, (wantL A.length it)[j]? = some T' ∧ T'.kind = x.2.kind ∧ T'.text = x.2.text ∧ ∃ B C, A ++ layL s Z it = B ++ (segL s x.2 ++ C) ∧ T'.fr = B.length ∧ T'.to = B.length + (segL s x.2).length
  | [], A, Z, j, x, h, _ => by simp at h
  | (b, T) :: r, A, Z, 0, x, h, hit => by
    simp at h
    subst h
    have hT := hit (b, T) (List.mem_cons_self ..)
    refine ⟨⟨T.kind, A.length + b.length, A.length + b.length + (T.to - T.fr), T.text⟩, by rw [wantL, List.getElem?_cons_zero], rfl, rfl, A ++ b, layL s Z r, by rw [layL, List.append_assoc], by rw [List.length_append], ?_⟩
    rw [List.length_append, segL_len hT.2]
  | (b, T) :: r, A, Z, j + 1, x, h, hit => by
    simp at h
    have hT := hit (b, T) (List.mem_cons_self ..)
    obtain ⟨T', h1, h2, h3, B, C, h4, h5, h6⟩ := want_get s r (A ++ b ++ segL s T) Z j x h (fun y hy => hit y (List.mem_cons_of_mem _ hy))
    refine ⟨T', ?_, h2, h3, B, C, ?_, h5, h6⟩
    · rw [wantL, List.getElem?_cons_succ, ← h1, List.length_append, List.length_append, segL_len hT.2]
    · rw [layL, ← h4]; simp
theorem wantL_len' : ∀ (it : List (List UInt8 × Tk)) (p : Nat), (wantL p it).length = it.length
  | [], _ => rfl
  | (b, T) :: r, p => by rw [wantL, List.length_cons, List.length_cons, wantL_len' r]
theorem ext_mid (B S C : List UInt8) : (⟨(B ++ (S ++ C)).toArray⟩ : ByteArray).extract B.length (B.length + S.length) = ⟨S.toArray⟩ := by
  apply ByteArray.ext
  simp [ByteArray.data_extract]
theorem seg_ext (s : ByteArray) (T : Tk) : s.extract T.fr T.to = ⟨(segL s T).toArray⟩ := rfl
/-- Laid out anew, the tokens are alike. -/
theorem lay_alike {s : ByteArray} (h0 : (someS s).2.1 = 0) (Z : List UInt8) (it : List (List UInt8 × Tk)) (hit : it.map Prod.snd = (someS s).1) : Alike s (someS s).1 ⟨(layL s Z it).toArray⟩ (wantL 0 it) := by
  obtain ⟨hu, hch, _⟩ := some_chain h0
  have hbd := chain_bd _ 0 ((utfE_brk _).1 hu) (Nat.zero_le _) hch
  have hb : ∀ y ∈ it, y.2.fr ≤ y.2.to ∧ y.2.to ≤ s.size := fun y hy => by
    have := hbd y.2 (by rw [← hit]; exact List.mem_map_of_mem hy)
    exact ⟨by omega, this.2.2.1⟩
  have hlen : (wantL 0 it).length = (someS s).1.length := by rw [wantL_len', ← hit, List.length_map]
  have key : ∀ (p : Nat) (T : Tk), (someS s).1[p]? = some T → ∃ T' : Tk, (wantL 0 it)[p]? = some T' ∧ T'.kind = T.kind ∧ T'.text = T.text ∧ (⟨(layL s Z it).toArray⟩ : ByteArray).extract T'.fr T'.to = s.extract T.fr T.to := by
    intro p T hT
    rw [← hit, List.getElem?_map] at hT
    obtain ⟨x, hx, rfl⟩ := Option.map_eq_some_iff.1 hT
    obtain ⟨T', h1, h2, h3, B, C, h4, h5, h6⟩ := want_get s it [] Z p x hx hb
    refine ⟨T', h1, h2, h3, ?_⟩
    rw [h5, h6, seg_ext, ← ext_mid B (segL s x.2) C]
    rw [← h4]; rfl
  have none : ∀ p : Nat, (someS s).1[p]? = none → (wantL 0 it)[p]? = none := fun p hp => by
    rw [List.getElem?_eq_none_iff] at hp ⊢
    omega
  refine ⟨hlen, fun p => ?_, fun p => ?_, fun p _ => ?_⟩
  · unfold kindT
    cases hT : (someS s).1[p]? with
    | none => rw [none p hT]
    | some T => obtain ⟨T', h1, h2, _⟩ := key p T hT; rw [h1]; exact h2
  · unfold textT
    cases hT : (someS s).1[p]? with
    | none => rw [none p hT]
    | some T => obtain ⟨T', h1, h2, h3, _⟩ := key p T hT; rw [h1]; exact h3
  · unfold wordT
    cases hT : (someS s).1[p]? with
    | none => rw [none p hT]
    | some T => obtain ⟨T', h1, h2, h3, h4⟩ := key p T hT; rw [h1]; exact h4
/-- Two parses that are the same, places aside. -/
def SameR : PR Nd → PR Nd → Prop
  | .ok x q, .ok x' q' => x'.strip = x.strip ∧ q' = q
  | .err k _, .err k' _ => k' = k
  | .out, .out => True
  | _, _ => False
theorem same_of_strip {r r' : PR Nd} (h : r'.strip Nd.strip = r.strip Nd.strip) : SameR r r' := by
  cases r <;> cases r' <;> simp_all [PR.strip, SameR]
theorem parse_alike {s t : ByteArray} (h0 : (someS s).2.1 = 0) (h1 : (someS t).2.1 = 0) (h : Alike s (someS s).1 t (someS t).1) : SameR (parseS s) (parseS t) := by
  unfold parseS
  rw [if_pos h0, if_pos h1]
  exact same_of_strip (pP_alike h)
/-- The statement's text, whole. -/
def spacedS (s : ByteArray) (bs : List ByteArray) : ByteArray := ⟨(spacedK s bs (someS s).1 ++ [10]).toArray⟩
theorem spaced_same {s : ByteArray} (h0 : (someS s).2.1 = 0) (bs : List ByteArray) : SameR (parseS s) (parseS (spacedS s bs)) := by
  have hit := itemsS_mem (bs := bs) (someS s).1 0
  have h1 := lay_scan h0 (Z := [10]) (fun c hc => by rw [List.mem_singleton.1 hc]; decide) (itemsS bs 0 (someS s).1) hit (itemsS_glue bs _ 0)
  have h2 : spacedS s bs = ⟨(layL s [10] (itemsS bs 0 (someS s).1)).toArray⟩ := by unfold spacedS spacedK; rw [layL_end' s [10]]
  rw [← h2] at h1
  have h3 := lay_alike h0 [10] (itemsS bs 0 (someS s).1) (itemsS_snd bs _ 0)
  rw [← h2] at h3
  refine parse_alike h0 (by rw [h1]) ?_
  rw [h1]
  exact h3
theorem same_form {s t : ByteArray} (h : SameR (parseS s) (parseS t)) : formS t = formS s := by
  unfold formS
  revert h
  cases parseS s <;> cases parseS t <;> simp only [SameR] <;> intro h
  · rename_i x q x' q'
    rw [← fmt_strip x', h.1, fmt_strip]
  all_goals first | trivial | rfl | cases h

end Go.Proofs.YtibopkodoidjoaaGreatDoor

/- Package tree, plain laws: the tokens of a node's text; the text's scan is just these tokens. No program in sight. -/
namespace Go.Proofs.YtibopkodoidjoaaGreatDoor
open Go Go.RowKit

/-- A token as it stands in a text of one form: its kind, its text, its bytes. -/
structure CT where
  kind : Nat
  text : ByteArray
  bytes : List UInt8
def pun (k : Nat) (c : UInt8) : CT := ⟨k, noS, [c]⟩
mutual
def toksN : Nd → List CT
  | .null _ => [⟨1, noS, litNull⟩]
  | .flag _ b => [⟨if b then 2 else 3, noS, litFlag b⟩]
  | .num _ t => [⟨4, noS, t.data.toList⟩]
  | .text _ t => [⟨5, t, qN t⟩]
  | .lst _ xs => pun 8 91 :: (toksL true xs ++ [pun 9 93])
  | .obj _ xs => pun 6 123 :: (toksM true xs ++ [pun 7 125])
def toksL : Bool → List Nd → List CT
  | _, [] => []
  | b, x :: xs => (if b then [] else [pun 11 44]) ++ (toksN x ++ toksL false xs)
def toksM : Bool → List (ByteArray × Nat × Nd) → List CT
  | _, [] => []
  | b, (k, _, x) :: xs => (if b then [] else [pun 11 44]) ++ (⟨5, k, qN k⟩ :: pun 10 58 :: (toksN x ++ toksM false xs))
end
def flatC (cs : List CT) : List UInt8 := cs.flatMap CT.bytes
theorem flatC_app (a b : List CT) : flatC (a ++ b) = flatC a ++ flatC b := by unfold flatC; rw [List.flatMap_append]
theorem flatC_cons (a : CT) (b : List CT) : flatC (a :: b) = a.bytes ++ flatC b := by unfold flatC; rw [List.flatMap_cons]
theorem flatC_nil : flatC [] = [] := rfl
mutual
theorem flat_fmt : ∀ x : Nd, flatC (toksN x) = fmtN x
  | .null _ => by rw [toksN, fmtN, flatC_cons, flatC_nil, List.append_nil]
  | .flag _ b => by rw [toksN, fmtN, flatC_cons, flatC_nil, List.append_nil]
  | .num _ t => by rw [toksN, fmtN, flatC_cons, flatC_nil, List.append_nil]
  | .text _ t => by rw [toksN, fmtN, flatC_cons, flatC_nil, List.append_nil]
  | .lst _ xs => by
    rw [toksN, fmtN, flatC_cons, flatC_app, flat_fmtL true xs]
    rfl
  | .obj _ xs => by
    rw [toksN, fmtN, flatC_cons, flatC_app, flat_fmtM true xs]
    rfl
theorem flat_fmtL : ∀ (b : Bool) (xs : List Nd), flatC (toksL b xs) = fmtL b xs
  | _, [] => by rw [toksL, fmtL]; rfl
  | b, x :: xs => by
    rw [toksL, fmtL, flatC_app, flatC_app, flat_fmt x, flat_fmtL false xs]
    cases b <;> rfl
theorem flat_fmtM : ∀ (b : Bool) (xs : List (ByteArray × Nat × Nd)), flatC (toksM b xs) = fmtM b xs
  | _, [] => by rw [toksM, fmtM]; rfl
  | b, (k, p, x) :: xs => by
    rw [toksM, fmtM, flatC_app, flatC_cons, flatC_cons, flatC_app, flat_fmt x, flat_fmtM false xs]
    cases b <;> rfl
end
/-- What comes next stops a number. -/
def stopsC : List CT → Prop
  | [] => True
  | b :: _ => stopB (nthN b.bytes 0) ∧ b.bytes ≠ []
/-- Behind each number stands what stops it. -/
def adjC : List CT → Prop
  | [] => True
  | a :: r => (a.kind = 4 → stopsC r) ∧ adjC r
theorem stop44 : stopB 44 := ⟨by decide, by decide, by decide, by decide⟩
theorem stop93 : stopB 93 := ⟨by decide, by decide, by decide, by decide⟩
theorem stop125 : stopB 125 := ⟨by decide, by decide, by decide, by decide⟩
mutual
theorem adj_toks : ∀ (x : Nd) (r : List CT), stopsC r → adjC r → adjC (toksN x ++ r)
  | .null _, r, h, h2 => by rw [toksN]; exact ⟨(fun e => by cases e), h2⟩
  | .flag _ b, r, h, h2 => by rw [toksN]; exact ⟨(fun e => by cases b <;> cases e), h2⟩
  | .num _ t, r, h, h2 => by rw [toksN]; exact ⟨(fun _ => h), h2⟩
  | .text _ t, r, h, h2 => by rw [toksN]; exact ⟨(fun e => by cases e), h2⟩
  | .lst _ xs, r, h, h2 => by
    rw [toksN, List.cons_append, List.append_assoc]
    exact ⟨(fun e => by cases e), adj_toksL true xs _ ⟨stop93, List.cons_ne_nil _ _⟩ ⟨(fun e => by cases e), h2⟩⟩
  | .obj _ xs, r, h, h2 => by
    rw [toksN, List.cons_append, List.append_assoc]
    exact ⟨(fun e => by cases e), adj_toksM true xs _ ⟨stop125, List.cons_ne_nil _ _⟩ ⟨(fun e => by cases e), h2⟩⟩
theorem adj_toksL : ∀ (b : Bool) (xs : List Nd) (r : List CT), stopsC r → adjC r → adjC (toksL b xs ++ r)
  | _, [], r, h, h2 => by rw [toksL]; exact h2
  | b, x :: xs, r, h, h2 => by
    have h3 := adj_toksL false xs r h h2
    have h4 : stopsC (toksL false xs ++ r) := by
      cases xs with
      | nil => rw [toksL]; exact h
      | cons y ys => rw [toksL]; exact ⟨stop44, List.cons_ne_nil _ _⟩
    have h5 := adj_toks x _ h4 h3
    rw [toksL, List.append_assoc, List.append_assoc]
    cases b with
    | true => exact h5
    | false => exact ⟨(fun e => by cases e), h5⟩
theorem adj_toksM : ∀ (b : Bool) (xs : List (ByteArray × Nat × Nd)) (r : List CT), stopsC r → adjC r → adjC (toksM b xs ++ r)
  | _, [], r, h, h2 => by rw [toksM]; exact h2
  | b, (k, p, x) :: xs, r, h, h2 => by
    have h3 := adj_toksM false xs r h h2
    have h4 : stopsC (toksM false xs ++ r) := by
      cases xs with
      | nil => rw [toksM]; exact h
      | cons y ys => obtain ⟨k', p', y⟩ := y; rw [toksM]; exact ⟨stop44, List.cons_ne_nil _ _⟩
    have h5 := adj_toks x _ h4 h3
    rw [toksM, List.append_assoc, List.cons_append, List.cons_append, List.append_assoc]
    cases b with
    | true => exact ⟨(fun e => by cases e), (fun e => by cases e), h5⟩
    | false => exact ⟨(fun e => by cases e), (fun e => by cases e), (fun e => by cases e), h5⟩
end
/-- Wherever it stands, it is that one token. -/
structure okC (c : CT) : Prop where
  one : ∀ B Z : List UInt8, (c.kind = 4 → stopB (nthN Z 0)) → oneAt ⟨(B ++ (c.bytes ++ Z)).toArray⟩ B.length = (0, 0, ⟨c.kind, B.length, B.length + c.bytes.length, c.text⟩)
  pos : 0 < c.bytes.length
  vl : VL (c.bytes.map UInt8.toNat)
def wantC : Nat → List CT → List Tk
  | _, [] => []
  | p, c :: r => ⟨c.kind, p, p + c.bytes.length, c.text⟩ :: wantC (p + c.bytes.length) r
theorem chainC : ∀ (cs : List CT) (A : List UInt8), adjC cs → (∀ c ∈ cs, okC c) → Chain ⟨(A ++ flatC cs).toArray⟩ A.length (wantC A.length cs)
  | [], A, _, _ => by
    rw [flatC_nil, List.append_nil]
    exact ⟨by rw [size_mk]; omega, fun j h1 h2 => by rw [size_mk] at h2; omega⟩
  | c :: r, A, h, hok => by
    have hc := hok c (List.mem_cons_self ..)
    have hst : c.kind = 4 → stopB (nthN (flatC r) 0) := by
      intro e
      have := h.1 e
      cases r with
      | nil => exact stop0
      | cons b r =>
        rw [flatC_cons, nth_left (List.length_pos_iff.2 this.2)]
        exact this.1
    have h1 := hc.one A (flatC r) hst
    have ih := chainC r (A ++ c.bytes) h.2 (fun x hx => hok x (List.mem_cons_of_mem _ hx))
    rw [List.append_assoc, List.length_append] at ih
    rw [flatC_cons]
    refine ⟨Nat.le_refl _, ?_, fun j h1 h2 => ?_, h1, ih⟩
    · show A.length < _
      rw [size_mk, List.length_append, List.length_append]
      have := hc.pos
      omega
    · simp only at h2
      omega
theorem vlC : ∀ cs : List CT, (∀ c ∈ cs, okC c) → VL ((flatC cs).map UInt8.toNat)
  | [], _ => VL.nil
  | c :: r, h => by
    rw [flatC_cons, List.map_append]
    exact VL.append (h c (List.mem_cons_self ..)).vl (vlC r fun x hx => h x (List.mem_cons_of_mem _ hx))
theorem scanC {cs : List CT} (ha : adjC cs) (hok : ∀ c ∈ cs, okC c) : someS ⟨(flatC cs).toArray⟩ = (wantC 0 cs, 0, 0) := by
  have hu : utfE ⟨(flatC cs).toArray⟩ = 0 := by rw [utfE_mk]; exact vlC cs hok
  rw [someS_eq, if_pos hu]
  have := chainC cs [] ha hok
  exact (scan_chain _ 0 (Nat.zero_le _) ((utfE_brk _).1 hu)).2 this
theorem wantC_len : ∀ (cs : List CT) (p : Nat), (wantC p cs).length = cs.length
  | [], _ => rfl
  | c :: r, p => by rw [wantC, List.length_cons, List.length_cons, wantC_len r]
theorem wantC_get : ∀ (cs : List CT) (A : List UInt8) (j : Nat) (c : CT), cs[j]? = some c → ∃ T' : Tk, (wantC A.length cs)[j]? = some T' ∧ T'.kind = c.kind ∧ T'.text = c.text ∧ (⟨(A ++ flatC cs).toArray⟩ : ByteArray).extract T'.fr T'.to = ⟨c.bytes.toArray⟩
  | [], A, j, c, h => by simp at h
  | c' :: r, A, 0, c, h => by
    simp at h
    subst h
    refine ⟨_, by rw [wantC, List.getElem?_cons_zero], rfl, rfl, ?_⟩
    rw [flatC_cons]
    exact ext_mid A c'.bytes (flatC r)
  | c' :: r, A, j + 1, c, h => by
    simp at h
    obtain ⟨T', h1, h2, h3, h4⟩ := wantC_get r (A ++ c'.bytes) j c h
    refine ⟨T', ?_, h2, h3, ?_⟩
    · rw [wantC, List.getElem?_cons_succ, ← h1, List.length_append]
    · rw [flatC_cons, ← List.append_assoc]; exact h4
/-- How long the tokens are together. -/
def sumT : List Tk → Nat
  | [] => 0
  | T :: r => (T.to - T.fr) + sumT r
theorem sum_want : ∀ (cs : List CT) (p : Nat), sumT (wantC p cs) = (flatC cs).length
  | [], _ => rfl
  | c :: r, p => by
    rw [wantC, sumT, sum_want r, flatC_cons, List.length_append]
    show p + c.bytes.length - p + _ = _
    omega

/-! ### The tokens of a parsed text -/
def bytesI (s : ByteArray) (ts : List Tk) (p : Nat) : List UInt8 :=
  if kindT ts p = 1 then litNull else if kindT ts p = 2 then litFlag true else if kindT ts p = 3 then litFlag false else if kindT ts p = 4 then (wordT s ts p).data.toList
  else if kindT ts p = 5 then qN (textT ts p) else if kindT ts p = 6 then [123] else if kindT ts p = 7 then [125] else if kindT ts p = 8 then [91] else if kindT ts p = 9 then [93] else if kindT ts p = 10 then [58] else [44]
def canI (s : ByteArray) (ts : List Tk) (p : Nat) : CT := ⟨kindT ts p, textT ts p, bytesI s ts p⟩
def segI (s : ByteArray) (ts : List Tk) (p n : Nat) : List CT := (List.range' p n).map (canI s ts)
theorem segI_one (s : ByteArray) (ts : List Tk) (p : Nat) : segI s ts p 1 = [canI s ts p] := rfl
theorem segI_cons (s : ByteArray) (ts : List Tk) (p n : Nat) : segI s ts p (n + 1) = canI s ts p :: segI s ts (p + 1) n := by unfold segI; rw [List.range'_succ, List.map_cons]
theorem segI_app (s : ByteArray) (ts : List Tk) (p m n : Nat) : segI s ts p m ++ segI s ts (p + m) n = segI s ts p (m + n) := by
  unfold segI
  rw [← List.map_append, List.range'_append_1]
theorem p_toks {s : ByteArray} {ts : List Tk} (hno : ∀ p, kindT ts p ≠ 5 → textT ts p = noS) : ∀ f,
    (∀ deep p x q, pV s ts f deep p = .ok x q → p < q ∧ toksN x = segI s ts p (q - p)) ∧
    (∀ deep p xs q, pI s ts f deep p = .ok xs q → p < q ∧ xs ≠ [] ∧ toksL true xs ++ [pun 9 93] = segI s ts p (q - p)) ∧
    (∀ deep seen p xs q, pM s ts f deep seen p = .ok xs q → p < q ∧ xs ≠ [] ∧ toksM true xs ++ [pun 7 125] = segI s ts p (q - p))
  | 0 => ⟨(fun _ _ _ _ h => by rw [pV] at h; cases h), (fun _ _ _ _ h => by rw [pI] at h; cases h), (fun _ _ _ _ _ h => by rw [pM] at h; cases h)⟩
  | f + 1 => by
    obtain ⟨iV, iI, iM⟩ := p_toks hno f
    have c8 : ∀ p, kindT ts p = 8 → canI s ts p = pun 8 91 := fun p h => by unfold canI bytesI; rw [hno p (by omega), h]; rfl
    have c6 : ∀ p, kindT ts p = 6 → canI s ts p = pun 6 123 := fun p h => by unfold canI bytesI; rw [hno p (by omega), h]; rfl
    have c9 : ∀ p, kindT ts p = 9 → canI s ts p = pun 9 93 := fun p h => by unfold canI bytesI; rw [hno p (by omega), h]; rfl
    have c7 : ∀ p, kindT ts p = 7 → canI s ts p = pun 7 125 := fun p h => by unfold canI bytesI; rw [hno p (by omega), h]; rfl
    have c10 : ∀ p, kindT ts p = 10 → canI s ts p = pun 10 58 := fun p h => by unfold canI bytesI; rw [hno p (by omega), h]; rfl
    have c11 : ∀ p, kindT ts p = 11 → canI s ts p = pun 11 44 := fun p h => by unfold canI bytesI; rw [hno p (by omega), h]; rfl
    have c5 : ∀ p, kindT ts p = 5 → canI s ts p = ⟨5, textT ts p, qN (textT ts p)⟩ := fun p h => by unfold canI bytesI; rw [h]; rfl
    have one : ∀ p, p + 1 - p = 1 := fun p => by omega
    have rst : ∀ stop r b r', rest s ts stop r = .ok b r' → r' = r + 1 ∧ (b = true → kindT ts r = stop) ∧ (b = false → kindT ts r = 11) := fun stop r b r' h => by
      unfold rest at h
      split at h
      · cases h; exact ⟨rfl, (fun _ => by assumption), (fun e => by cases e)⟩
      · split at h
        · cases h; exact ⟨rfl, (fun e => by cases e), (fun _ => by assumption)⟩
        · cases h
    have commaL : ∀ ys, toksL false ys = if ys = [] then [] else pun 11 44 :: toksL true ys := fun ys => by
      cases ys with
      | nil => rw [toksL]; rfl
      | cons y ys => rw [if_neg (List.cons_ne_nil _ _), toksL, toksL]; rfl
    have commaM : ∀ ys, toksM false ys = if ys = [] then [] else pun 11 44 :: toksM true ys := fun ys => by
      cases ys with
      | nil => rw [toksM]; rfl
      | cons y ys => obtain ⟨k, p, y⟩ := y; rw [if_neg (List.cons_ne_nil _ _), toksM, toksM]; rfl
    refine ⟨?_, ?_, ?_⟩
    · intro deep p x q h
      rw [pV] at h
      split at h
      · rename_i k; cases h; exact ⟨Nat.lt_succ_self _, by rw [one, segI_one, toksN]; unfold canI bytesI; rw [hno p (by omega), k]; rfl⟩
      split at h
      · rename_i k; cases h; exact ⟨Nat.lt_succ_self _, by rw [one, segI_one, toksN]; unfold canI bytesI; rw [hno p (by omega), k]; rfl⟩
      split at h
      · rename_i k; cases h; exact ⟨Nat.lt_succ_self _, by rw [one, segI_one, toksN]; unfold canI bytesI; rw [hno p (by omega), k]; rfl⟩
      split at h
      · rename_i k; cases h; exact ⟨Nat.lt_succ_self _, by rw [one, segI_one, toksN]; unfold canI bytesI; rw [hno p (by omega), k]; rfl⟩
      split at h
      · rename_i k; cases h; exact ⟨Nat.lt_succ_self _, by rw [one, segI_one, toksN, c5 p k]⟩
      split at h
      · rename_i k8
        split at h
        · cases h
        · by_cases h9 : kindT ts (p + 1) = 9
          · rw [if_pos h9] at h; cases h
            refine ⟨by omega, ?_⟩
            rw [show p + 2 - p = 1 + 1 by omega, segI_cons, segI_one, c8 p k8, c9 _ h9, toksN, toksL]; rfl
          · rw [if_neg h9] at h
            cases hI : pI s ts f deep (p + 1) with
            | ok xs r =>
              rw [hI] at h; cases h
              obtain ⟨h1, _, h2⟩ := iI _ _ _ _ hI
              refine ⟨by omega, ?_⟩
              rw [show q - p = (q - (p + 1)) + 1 by omega, segI_cons, c8 p k8, toksN, h2]
            | err k pl => rw [hI] at h; cases h
            | out => rw [hI] at h; cases h
      split at h
      · rename_i k6
        split at h
        · cases h
        · by_cases h9 : kindT ts (p + 1) = 7
          · rw [if_pos h9] at h; cases h
            refine ⟨by omega, ?_⟩
            rw [show p + 2 - p = 1 + 1 by omega, segI_cons, segI_one, c6 p k6, c7 _ h9, toksN, toksM]; rfl
          · rw [if_neg h9] at h
            cases hI : pM s ts f deep [] (p + 1) with
            | ok xs r =>
              rw [hI] at h; cases h
              obtain ⟨h1, _, h2⟩ := iM _ _ _ _ _ hI
              refine ⟨by omega, ?_⟩
              rw [show q - p = (q - (p + 1)) + 1 by omega, segI_cons, c6 p k6, toksN, h2]
            | err k pl => rw [hI] at h; cases h
            | out => rw [hI] at h; cases h
      cases h
    · intro deep p xs q h
      rw [pI] at h
      cases hV : pV s ts f (deep + 1) p with
      | err k pl => rw [hV] at h; cases h
      | out => rw [hV] at h; cases h
      | ok x r =>
        rw [hV] at h
        dsimp only at h
        obtain ⟨h1, h2⟩ := iV _ _ _ _ hV
        cases hr : rest s ts 9 r with
        | err k pl => rw [hr] at h; cases h
        | out => rw [hr] at h; cases h
        | ok b r' =>
          obtain ⟨rfl, hb1, hb2⟩ := rst _ _ _ _ hr
          rw [hr] at h
          cases b with
          | true =>
            cases h
            refine ⟨by omega, List.cons_ne_nil _ _, ?_⟩
            rw [toksL, toksL, h2, show r + 1 - p = (r - p) + 1 by omega, ← segI_app, segI_one, show p + (r - p) = r by omega, c9 r (hb1 rfl)]
            simp
          | false =>
            dsimp only at h
            cases hI : pI s ts f deep (r + 1) with
            | ok ys r2 =>
              rw [hI] at h; cases h
              obtain ⟨h3, hne, h4⟩ := iI _ _ _ _ hI
              refine ⟨by omega, List.cons_ne_nil _ _, ?_⟩
              rw [toksL, commaL, if_neg hne, h2]
              rw [show q - p = (r - p) + ((q - (r + 1)) + 1) by omega, ← segI_app, show p + (r - p) = r by omega, segI_cons, c11 r (hb2 rfl), ← h4]
              simp
            | err k pl => rw [hI] at h; cases h
            | out => rw [hI] at h; cases h
    · intro deep seen p xs q h
      rw [pM] at h
      split at h
      · rename_i k5
        split at h
        · cases h
        · split at h
          · rename_i k10
            cases hV : pV s ts f (deep + 1) (p + 2) with
            | err k pl => rw [hV] at h; cases h
            | out => rw [hV] at h; cases h
            | ok x r =>
              rw [hV] at h
              dsimp only at h
              obtain ⟨h1, h2⟩ := iV _ _ _ _ hV
              cases hr : rest s ts 7 r with
              | err k pl => rw [hr] at h; cases h
              | out => rw [hr] at h; cases h
              | ok b r' =>
                obtain ⟨rfl, hb1, hb2⟩ := rst _ _ _ _ hr
                rw [hr] at h
                cases b with
                | true =>
                  cases h
                  refine ⟨by omega, List.cons_ne_nil _ _, ?_⟩
                  rw [toksM, toksM, h2, show r + 1 - p = ((r - (p + 2)) + 1 + 1) + 1 by omega, segI_cons, segI_cons, ← segI_app, segI_one, show p + 1 + 1 + (r - (p + 2)) = r by omega, c7 r (hb1 rfl), c5 p k5, c10 _ k10]
                  simp
                | false =>
                  dsimp only at h
                  cases hI : pM s ts f deep (seen ++ [textT ts p]) (r + 1) with
                  | ok ys r2 =>
                    rw [hI] at h; cases h
                    obtain ⟨h3, hne, h4⟩ := iM _ _ _ _ _ hI
                    refine ⟨by omega, List.cons_ne_nil _ _, ?_⟩
                    rw [toksM, commaM, if_neg hne, h2]
                    rw [show q - p = ((r - (p + 2)) + ((q - (r + 1)) + 1) + 1) + 1 by omega, segI_cons, segI_cons, ← segI_app, show p + 1 + 1 + (r - (p + 2)) = r by omega, segI_cons, c11 r (hb2 rfl), ← h4, c5 p k5, c10 _ k10]
                    simp
                  | err k pl => rw [hI] at h; cases h
                  | out => rw [hI] at h; cases h
          · cases h
      · cases h

end Go.Proofs.YtibopkodoidjoaaGreatDoor

/- Package tree: Count; a parse's node is small. -/
namespace Go.Proofs.YtibopkodoidjoaaGreatDoor
open Go Go.RowKit

theorem one6_le (n i : Nat) : one6 n i ≤ 1 := by unfold one6; split <;> omega
mutual
theorem cnt_le : ∀ (x : Nd) (i : Nat), cntN x i ≤ (toksN x).length
  | .null _, i => by rw [cntN, toksN]; exact one6_le _ _
  | .flag _ _, i => by rw [cntN, toksN]; exact one6_le _ _
  | .num _ _, i => by rw [cntN, toksN]; exact one6_le _ _
  | .text _ _, i => by rw [cntN, toksN]; exact one6_le _ _
  | .lst _ xs, i => by
    have h1 := one6_le 4 i
    have h2 := cntL_le true xs i
    rw [cntN, toksN, List.length_cons, List.length_append]
    omega
  | .obj _ xs, i => by
    have h1 := one6_le 5 i
    have h2 := cntM_le true xs i
    rw [cntN, toksN, List.length_cons, List.length_append]
    omega
theorem cntL_le : ∀ (b : Bool) (xs : List Nd) (i : Nat), cntL xs i ≤ (toksL b xs).length
  | _, [], i => by rw [cntL]; exact Nat.zero_le _
  | b, x :: xs, i => by
    have h1 := cnt_le x i
    have h2 := cntL_le false xs i
    rw [cntL, toksL, List.length_append, List.length_append]
    omega
theorem cntM_le : ∀ (b : Bool) (xs : List (ByteArray × Nat × Nd)) (i : Nat), cntM xs i ≤ (toksM b xs).length
  | _, [], i => by rw [cntM]; exact Nat.zero_le _
  | b, (k, p, x) :: xs, i => by
    have h1 := cnt_le x i
    have h2 := cntM_le false xs i
    rw [cntM, toksM, List.length_append, List.length_cons, List.length_cons, List.length_append]
    omega
end
/-- Only a text's token has a text. -/
theorem one_text_no {s : ByteArray} {i : Nat} {T : Tk} (h : oneAt s i = (0, 0, T)) (hk : T.kind ≠ 5) : T.text = noS := by
  unfold oneAt at h
  simp only at h
  split at h
  · cases h; rfl
  split at h
  · split at h
    · cases h; rfl
    · cases h
  split at h
  · split at h
    · cases h; rfl
    · cases h
  split at h
  · split at h
    · cases h; rfl
    · cases h
  split at h
  · split at h
    · cases h; rfl
    · cases h
  split at h
  · split at h
    · cases h; exact absurd rfl hk
    · rename_i h5
      simp only [Prod.mk.injEq] at h
      exact absurd h.1 h5
  · cases h
/-- Of a text that scans: its tokens, each by itself. -/
theorem some_tok {s : ByteArray} (h : (someS s).2.1 = 0) : ∀ T ∈ (someS s).1, T.fr < T.to ∧ T.to ≤ s.size ∧ brkAt s T.fr = s.size ∧ oneAt s T.fr = (0, 0, T) := by
  obtain ⟨hu, hch, _⟩ := some_chain h
  intro T hT
  obtain ⟨h1, h2, h3, h4, h5, h6⟩ := chain_bd _ 0 ((utfE_brk s).1 hu) (Nat.zero_le _) hch T hT
  exact ⟨h2, h3, h4, h6⟩
theorem some_no {s : ByteArray} (h : (someS s).2.1 = 0) (p : Nat) (hk : kindT (someS s).1 p ≠ 5) : textT (someS s).1 p = noS := by
  unfold textT
  unfold kindT at hk
  cases hT : (someS s).1[p]? with
  | none => rfl
  | some T =>
    rw [hT] at hk
    exact one_text_no (some_tok h T (List.mem_of_getElem? hT)).2.2.2 hk
theorem parse_toks {s : ByteArray} {x : Nd} {q : Nat} (h : parseS s = .ok x q) : (someS s).2.1 = 0 ∧ q = (someS s).1.length ∧ toksN x = segI s (someS s).1 0 (someS s).1.length := by
  unfold parseS at h
  by_cases h0 : (someS s).2.1 = 0
  · rw [if_pos h0] at h
    obtain ⟨h1, h2⟩ := parse_pV h
    have := (p_toks (s := s) (some_no h0) _).1 _ _ _ _ h1
    rw [h2, Nat.sub_zero] at this
    exact ⟨h0, h2, this.2⟩
  · rw [if_neg h0] at h; cases h
theorem parse_cnt {s : ByteArray} {x : Nd} {q : Nat} (hs : s.size ≤ 4611686018427387904) (h : parseS s = .ok x q) (i : Nat) : cntN x i ≤ 4611686018427387904 := by
  obtain ⟨h0, h1, h2⟩ := parse_toks h
  obtain ⟨hu, hch, _⟩ := some_chain h0
  have hlen := chain_len _ 0 ((utfE_brk s).1 hu) (Nat.zero_le _) hch
  have h3 := cnt_le x i
  rw [h2] at h3
  unfold segI at h3
  simp at h3
  omega
theorem fin_cells {w : World} {b : Nat} {f : Nat → Nat} (h : CntB b f w) : w.cell? ⟨b, 0, none⟩ = some (.int .i64 (f 0 : Int)) ∧ w.cell? ⟨b, 1, none⟩ = some (.int .i64 (f 1 : Int)) ∧ w.cell? ⟨b, 2, none⟩ = some (.int .i64 (f 2 : Int)) ∧
    w.cell? ⟨b, 3, none⟩ = some (.int .i64 (f 3 : Int)) ∧ w.cell? ⟨b, 4, none⟩ = some (.int .i64 (f 4 : Int)) ∧ w.cell? ⟨b, 5, none⟩ = some (.int .i64 (f 5 : Int)) :=
  ⟨h.at (by decide), h.at (by decide), h.at (by decide), h.at (by decide), h.at (by decide), h.at (by decide)⟩
theorem fin_free {w : World} {b : Nat} {f : Nat → Nat} (h : CntB b f w) : w.frozen? ⟨b, 0, none⟩ = false ∧ w.frozen? ⟨b, 1, none⟩ = false ∧ w.frozen? ⟨b, 2, none⟩ = false ∧ w.frozen? ⟨b, 3, none⟩ = false ∧ w.frozen? ⟨b, 4, none⟩ = false ∧ w.frozen? ⟨b, 5, none⟩ = false :=
  ⟨freeB h 0, freeB h 1, freeB h 2, freeB h 3, freeB h 4, freeB h 5⟩
def set6 (w : World) (r : Nat) (v0 v1 v2 v3 v4 v5 : Value) : World := (((((w.setCell ⟨r, 0, none⟩ v0).setCell ⟨r, 1, none⟩ v1).setCell ⟨r, 2, none⟩ v2).setCell ⟨r, 3, none⟩ v3).setCell ⟨r, 4, none⟩ v4).setCell ⟨r, 5, none⟩ v5
theorem below_set6 {n : Nat} {w w1 : World} {r : Nat} (h : Below n w w1) (hr : n ≤ r) (v0 v1 v2 v3 v4 v5 : Value) : Below n w (set6 w1 r v0 v1 v2 v3 v4 v5) :=
  (((((h.setCell hr v0).setCell hr v1).setCell hr v2).setCell hr v3).setCell hr v4).setCell hr v5
theorem far_set6 {w : World} {r g : Nat} (h : g ≠ r) (v0 v1 v2 v3 v4 v5 : Value) : (set6 w r v0 v1 v2 v3 v4 v5).heap[g]? = w.heap[g]? := by
  unfold set6
  rw [set_far _ _ _ h, set_far _ _ _ h, set_far _ _ _ h, set_far _ _ _ h, set_far _ _ _ h, set_far _ _ _ h]
set_option maxHeartbeats 1000000 in
set_option maxRecDepth 100000 in
theorem Count_calls {A : Nat → Addr} {B : Nat} (s : ByteArray) (w : World) (hE : Env A B SVN w) (hs : s.size ≤ 3518437208882) :
    Calls Tryz.prog 17 #[.string s] w fun e w' => ErrR A w.heap.size (parseS s) (.agg (intsC (match parseS s with | .ok x _ => cntN x | _ => fun _ => 0))) (.agg (intsC fun _ => 0)) e w' ∧ Below w.heap.size w w' := by
  have P := Lib.hid (fun w hE => Parse_calls (A := A) (B := B) s w hE hs)
  have hc := Lib.hid (fun x q h => parse_cnt (s := s) (x := x) (q := q) (by omega) h)
  have hz0 : (.agg (intsC fun _ => 0) : Value) = .agg #[.int .i64 0, .int .i64 0, .int .i64 0, .int .i64 0, .int .i64 0, .int .i64 0] := rfl
  replace hE := Lib.hid hE
  generalize parseS s = R at *
  cases R with
  | out =>
    go_enter Tryz.func17, Tryz.ntmps17
    (go_wp2_with fail; repeat (any_goals (go_quiet (fail); go_wp2_with fail)))
    refine (P.out _ (hE.out.next (by repeat (first | assumption | exact Below.refl _ _ | apply Below.drew | apply below_drewN | apply balloc | (refine Below.setCell ?_ (by first | omega | (simp <;> omega)) _))))).mono ?_
    rintro e w1 ⟨hr, hb⟩
    exact hr.elim
  | err k pl =>
    rw [hz0]
    clear hz0
    go_enter Tryz.func17, Tryz.ntmps17
    (go_wp2_with fail; repeat (any_goals (go_quiet (fail); go_wp2_with fail)))
    refine (P.out _ (hE.out.next (by repeat (first | assumption | exact Below.refl _ _ | apply Below.drew | apply below_drewN | apply balloc | (refine Below.setCell ?_ (by first | omega | (simp <;> omega)) _))))).mono ?_
    rintro e w1 ⟨⟨g, hg, rfl, hat⟩, hb⟩
    have hb1 : Below w.heap.size w w1 := bcall (by repeat (first | assumption | exact Below.refl _ _ | apply Below.drew | apply below_drewN | apply balloc | (refine Below.setCell ?_ (by first | omega | (simp <;> omega)) _))) hb
    have q1 : CntB w.heap.size (fun _ => 0) w1 := (hb.block _ (by simp; omega)).trans (old2 w _ _)
    have q2 : CntB (w.heap.size + 1) (fun _ => 0) w1 := (hb.block _ (by simp)).trans (new2 w _ _)
    replace hat := Lib.hid hat
    clear hb
    obtain ⟨c0, c1, c2, c3, c4, c5⟩ := fin_cells q2
    obtain ⟨d0, d1, d2, d3, d4, d5⟩ := fin_cells q1
    obtain ⟨f0, f1, f2, f3, f4, f5⟩ := fin_free q1
    have hlt := ltB q1
    replace q1 := Lib.hid q1
    replace q2 := Lib.hid q2
    simp only [Int.natCast_zero] at c0 c1 c2 c3 c4 c5 d0 d1 d2 d3 d4 d5
    go_wp2_with fail
    refine bodyPost_ret (v := .tuple #[.agg #[.int .i64 0, .int .i64 0, .int .i64 0, .int .i64 0, .int .i64 0, .int .i64 0], .iface 69 (.pointer (some ⟨g, 0, none⟩))]) (by simp [results, Tryz.results17, go_sem, *]) rfl ?_
    have hg' : w.heap.size < g := by simp at hg; omega
    exact ⟨⟨g, Nat.le_of_lt hg', rfl, (far_set6 (Nat.ne_of_gt hg') _ _ _ _ _ _).trans hat.out⟩, below_set6 hb1 (Nat.le_refl _) _ _ _ _ _ _⟩
  | ok x q =>
    have hcx := Lib.hid (hc.out x q rfl)
    have CC : Hid (∀ w0 lo hi u, OwnN w0 lo hi u x → CntC w0 lo hi u x) := Lib.hid (fun _ _ _ _ h => count_calls h)
    obtain ⟨F, hF⟩ : ∃ F : Nat → Nat, F = cntN x := ⟨_, rfl⟩
    have hpost : (.agg (intsC (match (PR.ok x q : PR Nd) with | .ok x _ => cntN x | _ => fun _ => 0)) : Value) = .agg #[.int .i64 (F 0 : Int), .int .i64 (F 1 : Int), .int .i64 (F 2 : Int), .int .i64 (F 3 : Int), .int .i64 (F 4 : Int), .int .i64 (F 5 : Int)] := by rw [hF]; rfl
    rw [hpost, hz0]
    clear hz0 hpost
    have hFx : Hid (∀ i, F i = 0 + cntN x i) := Lib.hid (fun i => by rw [hF, Nat.zero_add])
    replace hF := Lib.hid hF
    go_enter Tryz.func17, Tryz.ntmps17
    (go_wp2_with fail; repeat (any_goals (go_quiet (fail); go_wp2_with fail)))
    refine (P.out _ (hE.out.next (by repeat (first | assumption | exact Below.refl _ _ | apply Below.drew | apply below_drewN | apply balloc | (refine Below.setCell ?_ (by first | omega | (simp <;> omega)) _))))).mono ?_
    rintro e w1 ⟨⟨u, rfl, hN⟩, hb⟩
    have hb1 : Below w.heap.size w w1 := bcall (by repeat (first | assumption | exact Below.refl _ _ | apply Below.drew | apply below_drewN | apply balloc | (refine Below.setCell ?_ (by first | omega | (simp <;> omega)) _))) hb
    have p1 : CntB w.heap.size (fun _ => 0) w1 := (hb.block _ (by simp; omega)).trans (old2 w _ _)
    have p2 : CntB (w.heap.size + 1) (fun _ => 0) w1 := (hb.block _ (by simp)).trans (new2 w _ _)
    have hz1 := hb.size
    simp at hz1
    obtain ⟨ut, ua, rfl⟩ := hN.form
    have C := Lib.hid (CC.out _ _ _ _ hN w1 (w.heap.size + 1) (fun _ => 0) (fun _ _ _ => rfl) (Or.inl (by simp)) (Nat.le_refl _) p2 (fun i => by rw [Nat.zero_add]; exact hcx.out i))
    replace hN := Lib.hid hN
    replace p1 := Lib.hid p1
    clear hb p2
    go_wp2_with fail
    refine C.out.mono ?_
    rintro e w2 ⟨rfl, hB2, hg2⟩
    have q2 : CntB (w.heap.size + 1) F w2 := hB2.congr (fun i => hFx.out i)
    have q1 : CntB w.heap.size (fun _ => 0) w2 := (hg2.block _ (ltB p1.out) (fun e => by have := Option.some.inj e; omega)).trans p1.out
    have hb2 : Below w.heap.size w w2 := hb1.trans (grown_below hg2 (by omega) (by omega))
    clear hB2 hg2 hb1
    obtain ⟨c0, c1, c2, c3, c4, c5⟩ := fin_cells q2
    obtain ⟨d0, d1, d2, d3, d4, d5⟩ := fin_cells q1
    obtain ⟨f0, f1, f2, f3, f4, f5⟩ := fin_free q1
    have hlt := ltB q1
    replace q1 := Lib.hid q1
    replace q2 := Lib.hid q2
    simp only [Int.natCast_zero] at c0 c1 c2 c3 c4 c5 d0 d1 d2 d3 d4 d5
    go_wp2_with fail
    refine bodyPost_ret (v := .tuple #[.agg #[.int .i64 (F 0 : Int), .int .i64 (F 1 : Int), .int .i64 (F 2 : Int), .int .i64 (F 3 : Int), .int .i64 (F 4 : Int), .int .i64 (F 5 : Int)], .nilIface]) (by simp [results, Tryz.results17, go_sem, *]) rfl ?_
    exact ⟨rfl, below_set6 hb2 (Nat.le_refl _) _ _ _ _ _ _⟩

end Go.Proofs.YtibopkodoidjoaaGreatDoor

/- Package tree: number. -/
namespace Go.Proofs.YtibopkodoidjoaaGreatDoor
open Go Go.RowKit

def digB (c : Nat) : Bool := 48 ≤ c && c ≤ 57
/-- The first byte from i on that is no digit's; the text's size, if there is none. -/
def digE (s : ByteArray) : Nat → Nat → Nat
  | 0, i => i
  | f + 1, i => if i < s.size ∧ digB (bAt s i) = true then digE s f (i + 1) else i
/-- Does a text tell an item's number? -/
def numOk (t : ByteArray) : Bool := decide (t.size ≠ 0 ∧ ¬ (bAt t 0 = 48 ∧ t ≠ ⟨#[48]⟩) ∧ ∀ j, j < t.size → digB (bAt t j) = true)
/-- The number. -/
def numV (t : ByteArray) : Int := match Lib.atoiAll t.data.toList with | .ok v => v | _ => -1
def KeyR (t : ByteArray) : Value := if numOk t = true then .tuple #[.int .i64 (numV t), .bool true] else .tuple #[.int .i64 0, .bool false]
theorem numOk_iff (t : ByteArray) : numOk t = true ↔ (t.size ≠ 0 ∧ ¬ (bAt t 0 = 48 ∧ t ≠ ⟨#[48]⟩) ∧ ∀ j, j < t.size → digB (bAt t j) = true) := by unfold numOk; exact decide_eq_true_iff
theorem atoi_any {A : Nat → Addr} {B : Nat} (t : ByteArray) (w : World) (hE : Env A B [20, 21] w) (ht : t.size ≤ 281474976710656) :
    Calls Tryz.prog 103 #[.string t] w fun e w' => (∃ v, Lib.atoiAll t.data.toList = .ok v ∧ e = .returned (.tuple #[.int .i64 v, .nilIface]) ∨ ∃ v N, (∀ v, Lib.atoiAll t.data.toList ≠ .ok v) ∧ e = .returned (.tuple #[.int .i64 v, .iface 206 (.pointer (some ⟨N, 0, none⟩))])) ∧ Below w.heap.size w w' := by
  generalize h : Lib.atoiAll t.data.toList = r
  cases r
  case ok v =>
    refine (Tryz.strconv_Atoi_ok t (by omega) v h w).mono ?_
    rintro e w' ⟨rfl, hw⟩
    refine ⟨⟨v, Or.inl ⟨rfl, rfl⟩⟩, ?_⟩
    rcases hw with rfl | ⟨x, rfl⟩
    · exact Below.refl _ _
    · exact Lib.bytesWorld_below _ _ _
  all_goals
    first
    | (refine (Tryz.strconv_Atoi_syntax t ht h _ w hE.e21 (Or.inr ⟨_, _, rfl⟩)).mono ?_
       rintro e w' ⟨N, rfl, h1, h2, h3⟩
       exact ⟨⟨0, Or.inr ⟨_, N, (fun v h => by cases h), rfl⟩⟩, h3⟩)
    | (refine (Tryz.strconv_Atoi_range t ht h _ w hE.e20 (Or.inr ⟨_, _, rfl⟩)).mono ?_
       rintro e w' ⟨N, rfl, h1, h2, h3⟩
       exact ⟨⟨0, Or.inr ⟨_, N, (fun v h => by cases h), rfl⟩⟩, h3⟩)
theorem not_empty {b : ByteArray} (h : b.size ≠ 0) : b.toList.isEmpty = false := by
  rw [toL]
  have hl : b.data.toList.length = b.size := by rw [Array.length_toList]; rfl
  cases hd : b.data.toList with
  | nil => rw [hd] at hl; exact absurd hl.symm h
  | cons c l => rfl
theorem one_is {t : ByteArray} (h : t.toList = [48]) : t = ⟨#[48]⟩ := by
  rw [toL] at h
  apply ByteArray.ext
  apply Array.toList_inj.1
  exact h
theorem digB_iff {c : Nat} : digB c = true ↔ 48 ≤ c ∧ c ≤ 57 := by unfold digB; simp
set_option maxHeartbeats 2000000 in
set_option maxRecDepth 100000 in
theorem tnumber_calls {A : Nat → Addr} {B : Nat} (t : ByteArray) (w : World) (hE : Env A B [20, 21] w) (ht : t.size ≤ 281474976710656) :
    Calls Tryz.prog 83 #[.string t] w fun e w' => e = .returned (KeyR t) ∧ Below w.heap.size w w' := by
  have AT := Lib.hid (fun w hE => atoi_any (A := A) (B := B) t w hE ht)
  replace hE := Lib.hid hE
  have htI : (t.size : Int) ≤ 281474976710656 := by omega
  by_cases h0 : t.size = 0
  · have hR : KeyR t = .tuple #[.int .i64 0, .bool false] := by unfold KeyR; rw [if_neg]; rw [numOk_iff]; exact fun h => h.1 h0
    rw [hR]
    replace hR := Lib.hid hR
    have hem : t = ⟨#[]⟩ := ByteArray.ext (Array.eq_empty_of_size_eq_zero h0)
    subst hem
    go_enter Tryz.func83, Tryz.ntmps83
    go_wp2_with fail
    go_ret2
    exact ⟨rfl, (by repeat (first | assumption | exact Below.refl _ _ | apply Below.drew | apply below_drewN | apply balloc | (refine Below.setCell ?_ (by first | omega | (simp <;> omega)) _)))⟩
  have hpos : (0 : Int) < (t.size : Int) := by omega
  have hne0 : t.toList.isEmpty = false := not_empty h0
  have hb0 := byte_at t 0
  by_cases hz : bAt t 0 = 48 ∧ t ≠ ⟨#[48]⟩
  · have hR : KeyR t = .tuple #[.int .i64 0, .bool false] := by unfold KeyR; rw [if_neg]; rw [numOk_iff]; exact fun h => h.2.1 hz
    rw [hR]
    replace hR := Lib.hid hR
    obtain ⟨hz1, hz2⟩ := hz
    rw [hz1] at hb0
    replace hz1 := Lib.hid hz1
    replace h0 := Lib.hid h0
    have hq : (!t.toList == [48]) = true := by simp; intro h; exact hz2 (one_is h)
    go_enter Tryz.func83, Tryz.ntmps83
    go_wp2_with fail
    go_ret2
    exact ⟨rfl, (by repeat (first | assumption | exact Below.refl _ _ | apply Below.drew | apply below_drewN | apply balloc | (refine Below.setCell ?_ (by first | omega | (simp <;> omega)) _)))⟩
  · have hq : Hid ((bAt t 0 = 48 → t = ⟨#[48]⟩)) := Lib.hid (fun h => Classical.byContradiction fun h2 => hz ⟨h, h2⟩)
    by_cases h48 : bAt t 0 = 48
    · obtain rfl := hq.out h48
      replace hq := Lib.hid hq
      have hdig : numOk ⟨#[48]⟩ = true := by decide +kernel
      replace hz := Lib.hid hz
      clear hb0 h48
      have hq2 : (!(⟨#[48]⟩ : ByteArray).toList == [48]) = false := by rw [toL]; rfl
      go_enter Tryz.func83, Tryz.ntmps83
      go_wp2_with fail
      go_loop [20] (fun v => ∃ k : Nat, k ≤ 1 ∧ v = .int .i64 (k : Int) ∧ Hid (∀ j, j < k → digB (bAt (⟨#[48]⟩) j) = true)) (fun v => 1 - (intOf v).toNat)
      case atStart => exact ⟨0, Nat.zero_le _, rfl, Lib.hid (fun j h => absurd h (Nat.not_lt_zero _))⟩
      case round =>
        obtain ⟨k, hk, rfl, hd⟩ := hrel
        by_cases hlt : k < 1
        · have hltI : (k : Int) < (1 : Int) := by omega
          have hbk := byte_at (⟨#[48]⟩) k
          have hbl := bAt_lt (⟨#[48]⟩) k
          by_cases hdk : digB (bAt (⟨#[48]⟩) k) = true
          · have hd2 := digB_iff.1 hdk
            have e1 : ¬ (bAt (⟨#[48]⟩) k : Int) < 48 := by omega
            have e2 : ¬ (57 : Int) < (bAt (⟨#[48]⟩) k : Int) := by omega
            replace hd2 := Lib.hid hd2
            replace hdk := Lib.hid hdk
            go_wp2_with fail
            go_round
            case measure => simp [intOf]; omega
            case rel => exact ⟨k + 1, by omega, by go_num, Lib.hid (fun j h => by
              rcases Nat.lt_or_ge j k with h2 | h2
              · exact hd.out j h2
              · rw [show j = k by omega]; exact hdk.out)⟩
          · have hR : Hid (KeyR (⟨#[48]⟩) = .tuple #[.int .i64 0, .bool false]) := Lib.hid (by unfold KeyR; rw [if_neg]; rw [numOk_iff]; exact fun h => hdk (h.2.2 k hlt))
            have hd2 : bAt (⟨#[48]⟩) k < 48 ∨ 57 < bAt (⟨#[48]⟩) k := by
              rw [digB_iff] at hdk
              omega
            replace hdk := Lib.hid hdk
            rcases hd2 with e | e
            · have e1 : (bAt (⟨#[48]⟩) k : Int) < 48 := by omega
              go_wp2_with fail
              go_ret2
              rw [hR.out]
              exact ⟨rfl, Below.refl _ _⟩
            · have e1 : ¬ (bAt (⟨#[48]⟩) k : Int) < 48 := by omega
              have e2 : (57 : Int) < (bAt (⟨#[48]⟩) k : Int) := by omega
              go_wp2_with fail
              go_ret2
              rw [hR.out]
              exact ⟨rfl, Below.refl _ _⟩
        · have hkN : k = 1 := by omega
          have hlt' : ¬ (k : Int) < (1 : Int) := by omega
          have hR : Hid (KeyR (⟨#[48]⟩) = .tuple #[.int .i64 (numV (⟨#[48]⟩)), .bool true]) := Lib.hid (by
            unfold KeyR
            rw [if_pos ((numOk_iff _).2 ⟨h0, fun h => h.2 rfl, fun j hj => hd.out j (by rw [hkN]; exact hj)⟩)])
          replace hkN := Lib.hid hkN
          go_wp2_with fail
          refine (AT.out _ hE.out).mono ?_
          rintro e w1 ⟨⟨v, hv⟩, hb⟩
          rcases hv with ⟨hv, rfl⟩ | ⟨v2, N, hv, rfl⟩
          · have hnv : Hid (numV (⟨#[48]⟩) = v) := Lib.hid (by unfold numV; rw [hv])
            replace hv := Lib.hid hv
            go_wp2_with fail
            go_ret2
            rw [hR.out, hnv.out]
            exact ⟨rfl, hb⟩
          · have hnv : Hid (numV (⟨#[48]⟩) = -1) := Lib.hid (by
              unfold numV
              cases hx : Lib.atoiAll (⟨#[48]⟩ : ByteArray).data.toList
              case ok z => exact absurd hx (hv z)
              all_goals rfl)
            replace hv := Lib.hid hv
            go_wp2_with fail
            go_ret2
            rw [hR.out, hnv.out]
            exact ⟨rfl, hb⟩
    · have h48' : ¬ (bAt t 0 : Int) = 48 := by omega
      have h48b : ((bAt t 0 : Int) == 48) = false := by simp; omega
      replace hz := Lib.hid hz
      replace h48 := Lib.hid h48
      go_enter Tryz.func83, Tryz.ntmps83
      go_wp2_with fail
      go_loop [20] (fun v => ∃ k : Nat, k ≤ t.size ∧ v = .int .i64 (k : Int) ∧ Hid (∀ j, j < k → digB (bAt (t) j) = true)) (fun v => t.size - (intOf v).toNat)
      case atStart => exact ⟨0, Nat.zero_le _, rfl, Lib.hid (fun j h => absurd h (Nat.not_lt_zero _))⟩
      case round =>
        obtain ⟨k, hk, rfl, hd⟩ := hrel
        by_cases hlt : k < t.size
        · have hltI : (k : Int) < (t.size : Int) := by omega
          have hbk := byte_at (t) k
          have hbl := bAt_lt (t) k
          by_cases hdk : digB (bAt (t) k) = true
          · have hd2 := digB_iff.1 hdk
            have e1 : ¬ (bAt (t) k : Int) < 48 := by omega
            have e2 : ¬ (57 : Int) < (bAt (t) k : Int) := by omega
            replace hd2 := Lib.hid hd2
            replace hdk := Lib.hid hdk
            go_wp2_with fail
            go_round
            case measure => simp [intOf]; omega
            case rel => exact ⟨k + 1, by omega, by go_num, Lib.hid (fun j h => by
              rcases Nat.lt_or_ge j k with h2 | h2
              · exact hd.out j h2
              · rw [show j = k by omega]; exact hdk.out)⟩
          · have hR : Hid (KeyR (t) = .tuple #[.int .i64 0, .bool false]) := Lib.hid (by unfold KeyR; rw [if_neg]; rw [numOk_iff]; exact fun h => hdk (h.2.2 k hlt))
            have hd2 : bAt (t) k < 48 ∨ 57 < bAt (t) k := by
              rw [digB_iff] at hdk
              omega
            replace hdk := Lib.hid hdk
            rcases hd2 with e | e
            · have e1 : (bAt (t) k : Int) < 48 := by omega
              go_wp2_with fail
              go_ret2
              rw [hR.out]
              exact ⟨rfl, Below.refl _ _⟩
            · have e1 : ¬ (bAt (t) k : Int) < 48 := by omega
              have e2 : (57 : Int) < (bAt (t) k : Int) := by omega
              go_wp2_with fail
              go_ret2
              rw [hR.out]
              exact ⟨rfl, Below.refl _ _⟩
        · have hkN : k = t.size := by omega
          have hlt' : ¬ (k : Int) < (t.size : Int) := by omega
          have hR : Hid (KeyR (t) = .tuple #[.int .i64 (numV (t)), .bool true]) := Lib.hid (by
            unfold KeyR
            rw [if_pos ((numOk_iff _).2 ⟨h0, hz.out, fun j hj => hd.out j (by rw [hkN]; exact hj)⟩)])
          replace hkN := Lib.hid hkN
          go_wp2_with fail
          refine (AT.out _ hE.out).mono ?_
          rintro e w1 ⟨⟨v, hv⟩, hb⟩
          rcases hv with ⟨hv, rfl⟩ | ⟨v2, N, hv, rfl⟩
          · have hnv : Hid (numV (t) = v) := Lib.hid (by unfold numV; rw [hv])
            replace hv := Lib.hid hv
            go_wp2_with fail
            go_ret2
            rw [hR.out, hnv.out]
            exact ⟨rfl, hb⟩
          · have hnv : Hid (numV (t) = -1) := Lib.hid (by
              unfold numV
              cases hx : Lib.atoiAll (t : ByteArray).data.toList
              case ok z => exact absurd hx (hv z)
              all_goals rfl)
            replace hv := Lib.hid hv
            go_wp2_with fail
            go_ret2
            rw [hR.out, hnv.out]
            exact ⟨rfl, hb⟩

end Go.Proofs.YtibopkodoidjoaaGreatDoor

/- A list of texts that came in, as it lies in memory. -/
namespace Go.Proofs.YtibopkodoidjoaaGreatDoor
open Go Go.RowKit Go.WideShapes Go.ChangeShapes Go.ChangeAt

/-- v is a list of texts that lies in w. -/
def StrsAt (w : World) (v : Value) (bs : List ByteArray) : Prop :=
  (bs = [] ∧ ∃ a c, v = .slice a 0 c) ∨ ∃ b off cap, v = .slice (some ⟨b, off, none⟩) bs.length cap ∧ bs.length ≤ cap ∧ cap ≤ maxLen ∧ b < w.heap.size ∧ (∀ i s, bs[i]? = some s → w.cell? ⟨b, off + i, none⟩ = some (.string s)) ∧ ∀ s ∈ bs, s.size ≤ maxLen
theorem StrsAt.next {w w' : World} {v : Value} {bs : List ByteArray} (h : StrsAt w v bs) (hb : Below w.heap.size w w') : StrsAt w' v bs := by
  rcases h with h | ⟨b, off, cap, h1, h2, h3, h4, h5, h6⟩
  · exact Or.inl h
  · exact Or.inr ⟨b, off, cap, h1, h2, h3, Nat.lt_of_lt_of_le h4 hb.size, fun i z hz => (hb.cell (p := ⟨b, off + i, none⟩) h4).trans (h5 i z hz), h6⟩
theorem StrsAt.form {w : World} {v : Value} {bs : List ByteArray} (h : StrsAt w v bs) : ∃ a c, v = .slice a bs.length c := by
  rcases h with ⟨rfl, a, c, rfl⟩ | ⟨b, off, cap, rfl, _⟩
  · exact ⟨a, c, rfl⟩
  · exact ⟨_, _, rfl⟩
theorem StrsAt.le {w : World} {v : Value} {bs : List ByteArray} (h : StrsAt w v bs) : bs.length ≤ 9223372036854775807 := by
  rcases h with ⟨rfl, _⟩ | ⟨b, off, cap, rfl, h1, h2, _⟩
  · exact Nat.zero_le _
  · unfold maxLen at h2; omega
theorem cells_str : Tryz.prog.cellsOf 9 = 1 := by kernel_rfl
set_option maxRecDepth 100000 in
theorem strs_of {H : Type} {enc : TypeId × Value → H} {W : World} {base : Nat} {v : Value} {d : DataW H} {ps : List MemPlace} (hval : Value.okWide Tryz.prog W .any base 30 v) (h : DataW.Trod enc Tryz.prog W 0 (fun _ => true) true 30 v d ps) : ∃ bs, StrsAt W v bs := by
  obtain ⟨fuel, hf⟩ := h
  obtain ⟨a0, len, cap, rfl⟩ := okWide_slice Tryz.underlying30 hval
  rcases open_strings Tryz.underlying30 Tryz.underlying9 cells_str hf with ⟨hcs, hx⟩ | ⟨a, len', cap', ss, hcs, _, hl, hm, hz, hx, hcell, hwz⟩
  · simp [Value.cells] at hcs
    obtain ⟨rfl, rfl, rfl⟩ := hcs
    exact ⟨[], Or.inl ⟨rfl, _, _, rfl⟩⟩
  · simp [Value.cells] at hcs
    obtain ⟨rfl, rfl, rfl⟩ := hcs
    simp only [if_true] at hz
    by_cases h0 : len = 0
    · subst h0
      exact ⟨[], Or.inl ⟨rfl, _, _, rfl⟩⟩
    · obtain ⟨b, off, spot⟩ := a
      have hspot : spot = none := by simpa [Addr.add] using World.cell?_spot (hcell 0 (by omega))
      subst hspot
      have hlt := World.block_lt_of_cell? W _ (hcell 0 (by omega))
      have hlen : (ss.take len).length = len := by rw [List.length_take]; omega
      refine ⟨ss.take len, Or.inr ⟨b, off, cap, by rw [hlen], by rw [hlen]; exact hl, hm, by simpa [Addr.add] using hlt, fun i z hi => ?_, fun s hs => hwz s (List.mem_of_mem_take hs)⟩⟩
      have hil : i < len := by
        rcases Nat.lt_or_ge i (ss.take len).length with h | h
        · omega
        · rw [List.getElem?_eq_none h] at hi; cases hi
      rw [List.getElem?_take_of_lt hil] at hi
      have := hcell i (by omega)
      have e : (⟨b, off, none⟩ : Addr).add i = ⟨b, off + i, none⟩ := by simp only [Addr.add]; split <;> simp_all
      rw [e] at this
      rw [this]
      simp [List.getD, hi]

end Go.Proofs.YtibopkodoidjoaaGreatDoor

/- Package tree: step, Find. -/
namespace Go.Proofs.YtibopkodoidjoaaGreatDoor
open Go Go.RowKit

def findM (key : ByteArray) : List (ByteArray × Nat × Nd) → Option Nd
  | [] => none
  | (k, _, x) :: r => if k = key then some x else findM key r
/-- The node to which a step leads, or an error's number. -/
def stepN : Nd → ByteArray → PR Nd
  | .obj _ xs, key => match findM key xs with | some y => .ok y 0 | none => .err 6 0
  | .lst _ xs, key => if numOk key = true then (if numV key < 0 ∨ (xs.length : Int) ≤ numV key then .err 12 0 else match xs[(numV key).toNat]? with | some y => .ok y 0 | none => .err 12 0) else .err 5 0
  | _, _ => .err 5 0
def StepR (A : Nat → Addr) (w0 : World) (lo hi : Nat) (r : PR Nd) (e : Ending) : Prop := match r with
  | .ok y _ => ∃ u lo' hi', e = .returned (.tuple #[u, .nilIface]) ∧ lo ≤ lo' ∧ hi' ≤ hi ∧ OwnN w0 lo' hi' u y
  | .err k _ => e = .returned (.tuple #[.nilIface, .iface 237 (.pointer (some (A k)))])
  | .out => False
theorem findM_at {key : ByteArray} : ∀ (xs : List (ByteArray × Nat × Nd)) (k : Nat) (m : ByteArray × Nat × Nd), xs[k]? = some m → m.1 = key → (∀ j m', j < k → xs[j]? = some m' → m'.1 ≠ key) → findM key xs = some m.2.2
  | [], k, m, h, _, _ => by simp at h
  | (k', p, x) :: r, 0, m, h, hk, _ => by
    simp at h
    subst h
    rw [findM, if_pos hk]
  | (k', p, x) :: r, k + 1, m, h, hk, hn => by
    simp at h
    rw [findM, if_neg (hn 0 (k', p, x) (Nat.succ_pos _) rfl)]
    exact findM_at r k m h hk (fun j m' hj hm => hn (j + 1) m' (by omega) (by simpa using hm))
theorem findM_none {key : ByteArray} : ∀ (xs : List (ByteArray × Nat × Nd)), (∀ m ∈ xs, m.1 ≠ key) → findM key xs = none
  | [], _ => rfl
  | (k', p, x) :: r, h => by
    rw [findM, if_neg (h (k', p, x) (List.mem_cons_self ..))]
    exact findM_none r (fun m hm => h m (List.mem_cons_of_mem _ hm))
abbrev SVX : List Nat := [1, 2, 3, 4, 5, 6, 7, 8, 9, 10, 11, 12, 13, 14, 15, 16, 17, 18, 19, 20, 21]
/-- What is asked of step at a node that lay in world w0. -/
def StepC (A : Nat → Addr) (B : Nat) (w0 : World) (lo hi : Nat) (u : Value) (x : Nd) : Prop := ∀ w key, (∀ k, lo ≤ k → k < hi → w.heap[k]? = w0.heap[k]?) → hi ≤ w.heap.size → Env A B SVX w → key.size ≤ 281474976710656 →
  Calls Tryz.prog 54 #[u, .string key] w fun e w' => StepR A w0 lo hi (stepN x key) e ∧ Below w.heap.size w w'
section
variable {A : Nat → Addr} {B : Nat} {w0 : World}
set_option maxHeartbeats 1000000 in
set_option maxRecDepth 100000 in
theorem stp_null (lo hi p : Nat)  : StepC A B w0 lo hi (.iface 90 (.agg #[.int .i64 (p : Int)])) (.null p) := by
  intro w key hw hh hE hkey
  have e5 := hE.e5
  replace hw := Lib.hid hw
  go_enter Tryz.func54, Tryz.ntmps54
  (go_wp2_with fail; repeat (any_goals (go_quiet (fail); go_wp2_with fail)))
  go_ret2
  exact ⟨rfl, (by repeat (first | assumption | exact Below.refl _ _ | apply Below.drew | apply below_drewN | apply balloc | (refine Below.setCell ?_ (by first | omega | (simp <;> omega)) _)))⟩
set_option maxHeartbeats 1000000 in
set_option maxRecDepth 100000 in
theorem stp_flag (lo hi p : Nat) (b' : Bool) : StepC A B w0 lo hi (.iface 92 (.agg #[.int .i64 (p : Int), .bool b'])) (.flag p b') := by
  intro w key hw hh hE hkey
  have e5 := hE.e5
  replace hw := Lib.hid hw
  go_enter Tryz.func54, Tryz.ntmps54
  (go_wp2_with fail; repeat (any_goals (go_quiet (fail); go_wp2_with fail)))
  go_ret2
  exact ⟨rfl, (by repeat (first | assumption | exact Below.refl _ _ | apply Below.drew | apply below_drewN | apply balloc | (refine Below.setCell ?_ (by first | omega | (simp <;> omega)) _)))⟩
set_option maxHeartbeats 1000000 in
set_option maxRecDepth 100000 in
theorem stp_num (lo hi p : Nat) (t : ByteArray) : StepC A B w0 lo hi (.iface 94 (.agg #[.int .i64 (p : Int), .string t])) (.num p t) := by
  intro w key hw hh hE hkey
  have e5 := hE.e5
  replace hw := Lib.hid hw
  go_enter Tryz.func54, Tryz.ntmps54
  (go_wp2_with fail; repeat (any_goals (go_quiet (fail); go_wp2_with fail)))
  go_ret2
  exact ⟨rfl, (by repeat (first | assumption | exact Below.refl _ _ | apply Below.drew | apply below_drewN | apply balloc | (refine Below.setCell ?_ (by first | omega | (simp <;> omega)) _)))⟩
set_option maxHeartbeats 1000000 in
set_option maxRecDepth 100000 in
theorem stp_text (lo hi p : Nat) (t : ByteArray) : StepC A B w0 lo hi (.iface 95 (.agg #[.int .i64 (p : Int), .string t])) (.text p t) := by
  intro w key hw hh hE hkey
  have e5 := hE.e5
  replace hw := Lib.hid hw
  go_enter Tryz.func54, Tryz.ntmps54
  (go_wp2_with fail; repeat (any_goals (go_quiet (fail); go_wp2_with fail)))
  go_ret2
  exact ⟨rfl, (by repeat (first | assumption | exact Below.refl _ _ | apply Below.drew | apply below_drewN | apply balloc | (refine Below.setCell ?_ (by first | omega | (simp <;> omega)) _)))⟩
set_option maxHeartbeats 2000000 in
set_option maxRecDepth 100000 in
theorem stp_lst (lo hi p : Nat) (vr : Value) (cs : List Kid) (hr : w0.ownsRow lo 24 1 vr cs.length (cs.map Kid.u)) (hb0 : ∀ k, vr.ownBlock = some k → k < hi)
    (hk : ∀ c ∈ cs, c.fits lo hi vr.ownBlock) (hc : ∀ c ∈ cs, OwnN w0 c.l c.h c.u c.x) : StepC A B w0 lo hi (.iface 98 (.agg #[.int .i64 (p : Int), vr])) (.lst p (cs.map Kid.x)) := by
  intro w key hw hh hE hkey
  have NC := Lib.hid (fun w hE => tnumber_calls (A := A) (B := B) key w hE hkey)
  obtain ⟨m, hm⟩ : ∃ m, m = cs.length := ⟨_, rfl⟩
  rw [← hm] at hr
  obtain ⟨va, vc, rfl⟩ : ∃ a c, vr = .slice a m c := by
    obtain ⟨a, c, h⟩ := rowForm hr
    exact ⟨a, c, h⟩
  have hnm : m ≤ maxLen := by
    rcases rowForm2 hr with ⟨h, _⟩ | ⟨g, cap, h, _, _, h1, h2⟩
    · omega
    · omega
  unfold maxLen at hnm
  have hnI : (m : Int) ≤ 9223372036854775807 := by omega
  have hwk := Lib.hid hw
  have hr1 := Lib.hid (ownsRow_heap hr (fun k e => hw k (hr.lt k e).1 (hb0 k e)))
  have hlen : (cs.map Kid.x).length = m := by rw [List.length_map, hm]
  have e5 := hE.e5
  have e12 := hE.e12
  have l5 := hE.l5
  have l12 := hE.l12
  replace hE := Lib.hid hE
  replace hr := Lib.hid hr
  replace hm := Lib.hid hm
  replace hw := Lib.hid hw
  by_cases hn : numOk key = true
  · have hK : KeyR key = .tuple #[.int .i64 (numV key), .bool true] := by unfold KeyR; rw [if_pos hn]
    rw [hK] at NC
    replace hK := Lib.hid hK
    obtain ⟨z, hz⟩ : ∃ z, z = numV key := ⟨_, rfl⟩
    rw [← hz] at NC
    have hS : stepN (.lst p (cs.map Kid.x)) key = if z < 0 ∨ (m : Int) ≤ z then .err 12 0 else match (cs.map Kid.x)[z.toNat]? with | some y => .ok y 0 | none => .err 12 0 := by
      rw [stepN, if_pos hn, hlen, hz]
    rw [hS]
    replace hS := Lib.hid hS
    replace hz := Lib.hid hz
    replace hlen := Lib.hid hlen
    by_cases hzn : z < 0 ∨ (m : Int) ≤ z
    · rw [if_pos hzn]
      rcases hzn with h1 | h1
      all_goals
        try (have h2 : ¬ z < 0 := by omega)
        go_enter Tryz.func54, Tryz.ntmps54
        (go_wp2_with fail; repeat (any_goals (go_quiet (fail); go_wp2_with fail)))
        refine (NC.out _ ((hE.out.next (by repeat (first | assumption | exact Below.refl _ _ | apply Below.drew | apply below_drewN | apply balloc | (refine Below.setCell ?_ (by first | omega | (simp <;> omega)) _)))).sub (by decide))).mono ?_
        rintro e w1 ⟨rfl, hb⟩
        have t1 := boxed hb
        have c1 := cellB t1 1 rfl
        have hb1 : Below w.heap.size w w1 := bcall (by repeat (first | assumption | exact Below.refl _ _ | apply Below.drew | apply below_drewN | apply balloc | (refine Below.setCell ?_ (by first | omega | (simp <;> omega)) _))) hb
        have e12 := (hE.out.next hb1).e12
        clear hb
        replace t1 := Lib.hid t1
        (go_wp2_with fail; repeat (any_goals (go_quiet (fail); go_wp2_with fail)))
        go_ret2
        exact ⟨rfl, (by repeat (first | assumption | exact Below.refl _ _ | apply Below.drew | apply below_drewN | apply balloc | (refine Below.setCell ?_ (by first | omega | (simp <;> omega)) _)))⟩
    · rw [if_neg hzn]
      have h1 : ¬ z < 0 := by omega
      have h2 : ¬ (m : Int) ≤ z := by omega
      have h3 : z < (m : Int) := by omega
      have h4 : 0 ≤ z := by omega
      obtain ⟨j, rfl⟩ : ∃ j : Nat, z = (j : Int) := ⟨z.toNat, by omega⟩
      have hj : j < m := by omega
      obtain ⟨c, hcj⟩ : ∃ c, cs[j]? = some c := ⟨cs[j]'(by rw [← hm.out]; exact hj), List.getElem?_eq_getElem _⟩
      have hcm := List.mem_of_getElem? hcj
      have hxj : (cs.map Kid.x)[((j : Int)).toNat]? = some c.x := by rw [Int.toNat_natCast, List.getElem?_map, hcj]; rfl
      have huj : (cs.map Kid.u)[j]? = some c.u := by rw [List.getElem?_map, hcj]; rfl
      rw [hxj]
      dsimp only
      have hcf := hk c hcm
      have hcn := Lib.hid (hc c hcm)
      obtain ⟨g, rfl⟩ : ∃ g, va = some ⟨g, 0, none⟩ := by
        rcases rowForm2 hr.out with ⟨h, _⟩ | ⟨g, cap, h, _⟩
        · omega
        · cases h; exact ⟨g, rfl⟩
      replace hcj := Lib.hid hcj
      replace hxj := Lib.hid hxj
      replace hzn := Lib.hid hzn
      go_enter Tryz.func54, Tryz.ntmps54
      (go_wp2_with fail; repeat (any_goals (go_quiet (fail); go_wp2_with fail)))
      refine (NC.out _ ((hE.out.next (by repeat (first | assumption | exact Below.refl _ _ | apply Below.drew | apply below_drewN | apply balloc | (refine Below.setCell ?_ (by first | omega | (simp <;> omega)) _)))).sub (by decide))).mono ?_
      rintro e w1 ⟨rfl, hb⟩
      have t1 := boxed hb
      have c1 := cellB t1 1 rfl
      have hb1 : Below w.heap.size w w1 := bcall (by repeat (first | assumption | exact Below.refl _ _ | apply Below.drew | apply below_drewN | apply balloc | (refine Below.setCell ?_ (by first | omega | (simp <;> omega)) _))) hb
      have q2 : w1.cell? ⟨g, j, none⟩ = some c.u := rowCells (ownsRow_heap hr1.out fun k e => hb1.block k (by have := hb0 k e; omega)) huj
      clear hb
      replace t1 := Lib.hid t1
      replace huj := Lib.hid huj
      (go_wp2_with fail; repeat (any_goals (go_quiet (fail); go_wp2_with fail)))
      go_ret2
      exact ⟨⟨c.u, c.l, c.h, rfl, hcf.1, hcf.2.2.1, hcn.out⟩, hb1⟩
  · have hK : KeyR key = .tuple #[.int .i64 0, .bool false] := by unfold KeyR; rw [if_neg hn]
    rw [hK] at NC
    have hS : stepN (.lst p (cs.map Kid.x)) key = .err 5 0 := by rw [stepN, if_neg hn]
    rw [hS]
    replace hS := Lib.hid hS
    replace hK := Lib.hid hK
    replace hn := Lib.hid hn
    replace hlen := Lib.hid hlen
    go_enter Tryz.func54, Tryz.ntmps54
    (go_wp2_with fail; repeat (any_goals (go_quiet (fail); go_wp2_with fail)))
    refine (NC.out _ ((hE.out.next (by repeat (first | assumption | exact Below.refl _ _ | apply Below.drew | apply below_drewN | apply balloc | (refine Below.setCell ?_ (by first | omega | (simp <;> omega)) _)))).sub (by decide))).mono ?_
    rintro e w1 ⟨rfl, hb⟩
    have hb1 : Below w.heap.size w w1 := bcall (by repeat (first | assumption | exact Below.refl _ _ | apply Below.drew | apply below_drewN | apply balloc | (refine Below.setCell ?_ (by first | omega | (simp <;> omega)) _))) hb
    have e5 := (hE.out.next hb1).e5
    clear hb
    (go_wp2_with fail; repeat (any_goals (go_quiet (fail); go_wp2_with fail)))
    go_ret2
    exact ⟨rfl, (by repeat (first | assumption | exact Below.refl _ _ | apply Below.drew | apply below_drewN | apply balloc | (refine Below.setCell ?_ (by first | omega | (simp <;> omega)) _)))⟩
end

end Go.Proofs.YtibopkodoidjoaaGreatDoor

/- Package tree: step of an object; Find. -/
namespace Go.Proofs.YtibopkodoidjoaaGreatDoor
open Go Go.RowKit

theorem text_same {s t : ByteArray} (h : s.data.toList = t.data.toList) : s = t := by
  apply ByteArray.ext
  exact Array.toList_inj.1 h
set_option maxHeartbeats 2000000 in
set_option maxRecDepth 100000 in
theorem stp_obj {A : Nat → Addr} {B : Nat} {w0 : World} (lo hi p : Nat) (vr : Value) (cs : List Kid) (hr : w0.ownsRow lo 103 3 vr cs.length (cs.flatMap memC)) (hb0 : ∀ k, vr.ownBlock = some k → k < hi)
    (hk : ∀ c ∈ cs, c.fits lo hi vr.ownBlock) (hc : ∀ c ∈ cs, OwnN w0 c.l c.h c.u c.x) : StepC A B w0 lo hi (.iface 101 (.agg #[.int .i64 (p : Int), vr])) (.obj p (cs.map Kid.mem)) := by
  intro w key hw hh hE hkey
  obtain ⟨m, hm⟩ : ∃ m, m = cs.length := ⟨_, rfl⟩
  rw [← hm] at hr
  obtain ⟨va, vc, rfl⟩ : ∃ a c, vr = .slice a m c := by
    obtain ⟨a, c, h⟩ := rowForm hr
    exact ⟨a, c, h⟩
  have hnm : m ≤ maxLen := by
    rcases rowForm2 hr with ⟨h, _⟩ | ⟨g, cap, h, _, _, h1, h2⟩
    · omega
    · omega
  unfold maxLen at hnm
  have hnI : (m : Int) ≤ 9223372036854775807 := by omega
  have hr1 := Lib.hid (ownsRow_heap hr (fun k e => hw k (hr.lt k e).1 (hb0 k e)))
  obtain ⟨R, hR⟩ : ∃ R, R = stepN (.obj p (cs.map Kid.mem)) key := ⟨_, rfl⟩
  rw [← hR]
  replace hR := Lib.hid hR
  replace hE := Lib.hid hE
  replace hr := Lib.hid hr
  replace hm := Lib.hid hm
  replace hw := Lib.hid hw
  go_enter Tryz.func54, Tryz.ntmps54
  (go_wp2_with fail; repeat (any_goals (go_quiet (fail); go_wp2_with fail)))
  go_loopw [19] (fun v19 wr => ∃ k : Nat, k ≤ m ∧ v19 = .int .i64 (k : Int) ∧ Hid (∀ j c, j < k → cs[j]? = some c → c.key ≠ key) ∧ Below w.heap.size w wr) (fun v _ => m - (intOf v).toNat)
  case atStart => exact ⟨0, Nat.zero_le _, rfl, Lib.hid (fun j c h _ => absurd h (Nat.not_lt_zero _)), (by repeat (first | assumption | exact Below.refl _ _ | apply Below.drew | apply below_drewN | apply balloc | (refine Below.setCell ?_ (by first | omega | (simp <;> omega)) _)))⟩
  case round =>
    obtain ⟨k, hkn, rfl, hno, hB⟩ := hrel
    by_cases hlt : k < m
    · have hltI : (k : Int) < (m : Int) := by omega
      obtain ⟨c, hcj⟩ : ∃ c, cs[k]? = some c := ⟨cs[k]'(by rw [← hm.out]; exact hlt), List.getElem?_eq_getElem _⟩
      have hcm := List.mem_of_getElem? hcj
      obtain ⟨g, rfl⟩ : ∃ g, va = some ⟨g, 0, none⟩ := by
        rcases rowForm2 hr.out with ⟨h, _⟩ | ⟨g, cap, h, _⟩
        · omega
        · cases h; exact ⟨g, rfl⟩
      obtain ⟨q0, q1, q2⟩ := rowMem (ownsRow_heap hr1.out fun j e => hB.block j (by have := hb0 j e; omega)) hcj
      have hcf := hk c hcm
      have hcn := Lib.hid (hc c hcm)
      obtain ⟨ut, ua, hu⟩ := (hc c hcm).form
      rw [hu] at q2
      have hBn : Below w.heap.size w (wr.alloc (.cells #[.string c.key, .int .i64 (c.pl : Int), .iface ut ua] 103 (0, 0))) := balloc hB
      by_cases he : c.key = key
      · have hf : findM key (cs.map Kid.mem) = some c.x := by
          refine findM_at _ k c.mem (by rw [List.getElem?_map, hcj]; rfl) he (fun j m' hj hm' => ?_)
          rw [List.getElem?_map] at hm'
          obtain ⟨c', hc', rfl⟩ := Option.map_eq_some_iff.1 hm'
          exact hno.out j c' hj hc'
        have hR1 : R = .ok c.x 0 := by rw [hR.out, stepN, hf]
        rw [he] at q0 hBn
        replace hf := Lib.hid hf
        replace he := Lib.hid he
        replace hu := Lib.hid hu
        replace hcj := Lib.hid hcj
        replace hR1 := Lib.hid hR1
        generalize c.pl = pl at *
        go_wp2_with fail
        go_ret2
        refine ⟨?_, hBn⟩
        rw [hR1.out]
        exact ⟨_, c.l, c.h, rfl, hcf.1, hcf.2.2.1, by rw [← hu.out]; exact hcn.out⟩
      · have hne : (c.key.toList == key.toList) = false := by
          rw [toL, toL]
          simp
          intro h
          exact he (text_same (by simpa using h))
        have hno2 : Hid (∀ j c, j < k + 1 → cs[j]? = some c → c.key ≠ key) := Lib.hid (fun j c' hj hc' => by
          rcases Nat.lt_or_ge j k with h | h
          · exact hno.out j c' h hc'
          · have : j = k := by omega
            subst this
            rw [hcj] at hc'
            cases hc'
            exact he)
        replace he := Lib.hid he
        replace hu := Lib.hid hu
        replace hcj := Lib.hid hcj
        generalize c.pl = pl at *
        generalize c.key = ck at *
        go_wp2_with fail
        go_roundw
        case measure => simp [intOf]; omega
        case rel => exact ⟨k + 1, by omega, by go_num, hno2, hBn⟩
    · obtain rfl : k = m := by omega
      have hlt' : ¬ (k : Int) < (k : Int) := by omega
      have hR1 : R = .err 6 0 := by
        rw [hR.out, stepN, findM_none]
        intro x hx
        obtain ⟨c, hc', rfl⟩ := List.mem_map.1 hx
        obtain ⟨j, hj, hjc⟩ := List.getElem_of_mem hc'
        exact hno.out j c (by rw [hm.out]; exact hj) (by rw [List.getElem?_eq_getElem hj, hjc])
      have e6 := (hE.out.next hB).e6
      replace hR1 := Lib.hid hR1
      (go_wp2_with fail; repeat (any_goals (go_quiet (fail); go_wp2_with fail)))
      go_ret2
      refine ⟨?_, (by repeat (first | assumption | exact Below.refl _ _ | apply Below.drew | apply below_drewN | apply balloc | (refine Below.setCell ?_ (by first | omega | (simp <;> omega)) _)))⟩
      rw [hR1.out]
      exact rfl
theorem step_calls {A : Nat → Addr} {B : Nat} {w0 : World} {lo hi : Nat} {u : Value} {x : Nd} (h : OwnN w0 lo hi u x) : StepC A B w0 lo hi u x := by
  cases h with
  | null _ _ p => exact stp_null lo hi p
  | flag _ _ p b => exact stp_flag lo hi p b
  | num _ _ p t => exact stp_num lo hi p t
  | text _ _ p t => exact stp_text lo hi p t
  | lst _ _ p v cs ho hb hk hp hc => exact stp_lst lo hi p v cs ho hb hk hc
  | obj _ _ p v cs ho hb hk hp hc => exact stp_obj lo hi p v cs ho hb hk hc
/-- The node to which a path leads. -/
def pathN : Nd → List ByteArray → PR Nd
  | x, [] => .ok x 0
  | x, key :: r => match stepN x key with | .ok y _ => pathN y r | .err k _ => .err k 0 | .out => .out
def findS (s : ByteArray) (bs : List ByteArray) : PR Nd := match parseS s with | .ok x _ => pathN x bs | .err k pl => .err k pl | .out => .out
/-- What Find answers at a text that parses. -/
def FindR (A : Nat → Addr) (lo : Nat) (r : PR Nd) (e : Ending) (w' : World) : Prop := match r with
  | .ok y _ => ∃ u, e = .returned (.tuple #[u, .nilIface]) ∧ OwnN w' lo w'.heap.size u y
  | .err k _ => e = .returned (.tuple #[.nilIface, .iface 237 (.pointer (some (A k)))])
  | .out => False
theorem stepN_in (x : Nd) (key : ByteArray) : stepN x key ≠ .out := by
  cases x <;> simp [stepN]
  · split
    · split
      · simp
      · split <;> simp
    · simp
  · split <;> simp
set_option maxHeartbeats 2000000 in
set_option maxRecDepth 100000 in
theorem Find_calls {A : Nat → Addr} {B : Nat} (s : ByteArray) (bv : Value) (bs : List ByteArray) (w : World) (hE : Env A B SVX w) (hs : s.size ≤ 3518437208882) (hg : StrsAt w bv bs) (hkl : ∀ b ∈ bs, b.size ≤ 281474976710656) {x : Nd} {q : Nat} (hx : parseS s = .ok x q) :
    Calls Tryz.prog 27 #[.string s, bv] w fun e w' => FindR A w.heap.size (pathN x bs) e w' ∧ Below w.heap.size w w' := by
  have P := Lib.hid (fun w hE => Parse_calls (A := A) (B := B) s w hE hs)
  rw [hx] at P
  replace hx := Lib.hid hx
  obtain ⟨n, hn⟩ : ∃ n, n = bs.length := ⟨_, rfl⟩
  have hnle := hg.le
  obtain ⟨ga, gc, rfl⟩ := hg.form
  rw [← hn] at hg hnle ⊢
  have hnle' : (n : Int) ≤ 9223372036854775807 := by omega
  obtain ⟨R, hR⟩ : ∃ R, R = pathN x bs := ⟨_, rfl⟩
  rw [← hR]
  have SC : Hid (∀ w0 lo hi u x, OwnN w0 lo hi u x → StepC A B w0 lo hi u x) := Lib.hid (fun _ _ _ _ _ h => step_calls h)
  replace hR := Lib.hid hR
  replace hE := Lib.hid hE
  replace hg := Lib.hid hg
  replace hn := Lib.hid hn
  go_enter Tryz.func27, Tryz.ntmps27
  (go_wp2_with fail; repeat (any_goals (go_quiet (fail); go_wp2_with fail)))
  refine (P.out _ ((hE.out.next (by repeat (first | assumption | exact Below.refl _ _ | apply Below.drew | apply below_drewN | apply balloc | (refine Below.setCell ?_ (by first | omega | (simp <;> omega)) _)))).sub (by decide))).mono ?_
  rintro e w1 ⟨⟨u, rfl, hN⟩, hb⟩
  have hb1 : Below w.heap.size w w1 := bcall (by repeat (first | assumption | exact Below.refl _ _ | apply Below.drew | apply below_drewN | apply balloc | (refine Below.setCell ?_ (by first | omega | (simp <;> omega)) _))) hb
  obtain ⟨ut, ua, rfl⟩ := hN.form
  clear hb
  have hst : Hid (pathN x bs = pathN x (bs.drop 0)) := Lib.hid (by rw [List.drop_zero])
  replace hN := Lib.hid hN
  go_wp2_with fail
  go_loopw [6, 7, 20] (fun v6 v7 v20 wr => ∃ k : Nat, k ≤ n ∧ v20 = .int .i64 (k : Int) ∧ v7 = .nilIface ∧ (∃ y lo' hi' t a, v6 = .iface t a ∧ Hid (OwnN w1 lo' hi' (.iface t a) y ∧ w.heap.size ≤ lo' ∧ hi' ≤ w1.heap.size) ∧ Hid (pathN x bs = pathN y (bs.drop k))) ∧ Below w1.heap.size w1 wr) (fun _ _ v _ => n - (intOf v).toNat)
  case atStart => exact ⟨0, Nat.zero_le _, rfl, rfl, ⟨x, _, _, _, _, rfl, Lib.hid ⟨hN.out, Nat.le_refl _, Nat.le_refl _⟩, hst⟩, Below.refl _ _⟩
  case round =>
    obtain ⟨k, hk, rfl, rfl, ⟨y, lo', hi', t, a, rfl, hy, hp⟩, hB⟩ := hrel
    have hBw := bcall hb1 hB
    by_cases hlt : k < n
    · have hltI : (k : Int) < (n : Int) := by omega
      obtain ⟨key, hkey⟩ : ∃ key, bs[k]? = some key := ⟨bs[k]'(by rw [← hn.out]; exact hlt), List.getElem?_eq_getElem _⟩
      have hksz := hkl key (List.mem_of_getElem? hkey)
      obtain ⟨gb, off, rfl, hread⟩ : ∃ b' off, ga = some ⟨b', off, none⟩ ∧ Hid (∀ W, Below w.heap.size w W → W.cell? ⟨b', off + k, none⟩ = some (.string key)) := by
        rcases hg.out with ⟨h, _⟩ | ⟨b', off, cap, h1, _, _, h4, h5, h6⟩
        · rw [h] at hkey; simp at hkey
        · injection h1 with e1 e2 e3
          exact ⟨b', off, e1, Lib.hid (fun W hW => (hW.cell (p := ⟨b', off + k, none⟩) h4).trans (h5 _ key hkey))⟩
      have hrd := hread.out wr hBw
      have hdrop : bs.drop k = key :: bs.drop (k + 1) := by
        obtain ⟨h1, h2⟩ := List.getElem?_eq_some_iff.1 hkey
        rw [List.drop_eq_getElem_cons h1, h2]
      have hp1 : pathN x bs = match stepN y key with | .ok z _ => pathN z (bs.drop (k + 1)) | .err k _ => .err k 0 | .out => .out := by
        rw [hp.out, hdrop, pathN]
      have S1 := Lib.hid (SC.out w1 lo' hi' _ y hy.out.1 wr key (fun j _ hj => hB.block j (Nat.lt_of_lt_of_le hj hy.out.2.2)) (Nat.le_trans hy.out.2.2 hB.size) (hE.out.next hBw) hksz)
      replace hkey := Lib.hid hkey
      replace hdrop := Lib.hid hdrop
      generalize hSR : stepN y key = SR at *
      replace hSR := Lib.hid hSR
      cases SR with
      | out => exact absurd hSR.out (stepN_in y key)
      | err j pl =>
        replace hp1 := Lib.hid hp1
        go_wp2_with fail
        refine S1.out.mono ?_
        rintro e w3 ⟨rfl, hb⟩
        have hb3 := bcall hBw hb
        clear hb
        go_wp2_with fail
        go_ret2
        refine ⟨?_, hb3⟩
        rw [hR.out, hp1.out]
        exact rfl
      | ok z j =>
        replace hp1 := Lib.hid hp1
        go_wp2_with fail
        refine S1.out.mono ?_
        rintro e w3 ⟨⟨u', l2, h2, rfl, hl2, hh2, hz⟩, hb⟩
        have hb3 := bcall hB hb
        obtain ⟨t', a', rfl⟩ := hz.form
        have hz2 := Lib.hid hz
        clear hb hz
        go_wp2_with fail
        go_roundw
        case measure => simp [intOf]; omega
        case rel => exact ⟨k + 1, by omega, by go_num, rfl, ⟨z, l2, h2, _, _, rfl, Lib.hid ⟨hz2.out, Nat.le_trans hy.out.2.1 hl2, Nat.le_trans hh2 hy.out.2.2⟩, Lib.hid hp1.out⟩, hb3⟩
    · obtain rfl : k = n := by omega
      have hlt' : ¬ (k : Int) < (k : Int) := by omega
      have hR1 : R = .ok y 0 := by
        rw [hR.out, hp.out, List.drop_eq_nil_of_le (by rw [← hn.out]; exact Nat.le_refl _), pathN]
      replace hR1 := Lib.hid hR1
      have hz := hB.size
      go_wp2_with fail
      go_ret2
      refine ⟨?_, hBw⟩
      rw [hR1.out]
      exact ⟨_, rfl, (hy.out.1.keep fun j _ hj => hB.block j (Nat.lt_of_lt_of_le hj hy.out.2.2)).wide hy.out.2.1 (Nat.le_trans hy.out.2.2 hz)⟩

end Go.Proofs.YtibopkodoidjoaaGreatDoor
