/- The statements of layer 2, on: told; ValuesReads: the walk. -/
import Derived.Test.YtfdhklpabhhjjaaDoorValLaw3
import Derived.Test.YtfdhklpabhhjjaaDoorNum
import Derived.Test.YtfdhklpabhhjjaaDoorRef7
namespace Go.Proofs.YtfdhklpabhhjjaaDoor
open Go Go.RowKit

set_option maxHeartbeats 1000000 in
set_option maxRecDepth 100000 in
theorem told_bad {A : Nat → Addr} {B : Nat} (k : Nat) (a b : Int) (t : ByteArray) (w : World) (h1 : 1 ≤ k) (h2 : k ≤ 19) (hE : Env A B SVN w) :
    Calls Tryd.prog 17 #[.nilIface, .iface 226 (.pointer (some (A k))), .agg #[.int .i64 a, .int .i64 b, .string t], .int .i64 k] w fun e w' => e = .returned (.bool true) ∧ Below w.heap.size w w' := by
  have N := fun w hE => Num_err (A := A) (B := B) k w h1 h2 hE
  have hk : ((k : Int) != 0) = true := by simp; omega
  replace N := Lib.hid N
  replace h1 := Lib.hid h1
  go_enter Tryd.func17, Tryd.ntmps17
  (go_wp2_with fail; repeat (any_goals (go_quiet (fail); go_wp2_with fail)))
  refine (N.out _ (hE.next (by repeat (first | assumption | exact Below.refl _ _ | apply Below.drew | apply below_drewN | apply balloc | (refine Below.setCell ?_ (by first | omega | (simp <;> omega)) _))))).mono ?_
  rintro e w1 ⟨rfl, hb⟩
  have hb1 : Below w.heap.size w w1 := bcall (by repeat (first | assumption | exact Below.refl _ _ | apply Below.drew | apply below_drewN | apply balloc | (refine Below.setCell ?_ (by first | omega | (simp <;> omega)) _))) hb
  clear hb
  (go_wp2_with fail; repeat (any_goals (go_quiet (fail); go_wp2_with fail)))
  go_ret
  exact ⟨rfl, (by repeat (first | assumption | exact Below.refl _ _ | apply Below.drew | apply below_drewN | apply balloc | (refine Below.setCell ?_ (by first | omega | (simp <;> omega)) _)))⟩
set_option maxHeartbeats 1000000 in
set_option maxRecDepth 100000 in
theorem told_ok {p : Pl} {T : TypeId} {v : Value} {fk fp : FuncId} (hM : ValAt p T v fk fp) (w : World) :
    Calls Tryd.prog 17 #[.iface T v, .nilIface, .agg #[.int .i64 p.kind, .int .i64 p.num, .string p.text], .int .i64 0] w fun e w' => e = .returned (.bool true) ∧ Below w.heap.size w w' := by
  obtain ⟨k, n, t⟩ := p
  obtain ⟨nk, np, mk, mp, ek, ep, ck, cp⟩ := hM
  have ck := Lib.hid ck
  have cp := Lib.hid cp
  simp only at ck cp
  go_enter Tryd.func17, Tryd.ntmps17
  (go_wp2_with fail; repeat (any_goals (go_quiet (fail); go_wp2_with fail)))
  refine (Num_nil _).mono ?_
  rintro e w1 ⟨rfl, hb⟩
  have hk1 : KeepBox w w.heap.size #[.int .i64 k, .int .i64 n, .string t] 46 w1 := ⟨boxed hb, bcall (by repeat (first | assumption | exact Below.refl _ _ | apply Below.drew | apply below_drewN | apply balloc | (refine Below.setCell ?_ (by first | omega | (simp <;> omega)) _))) hb⟩
  obtain ⟨x0, x1, x2, _⟩ := hk1.cells3
  have hb1 := hk1.2
  clear hb
  (go_wp2_with fail; repeat (any_goals (go_quiet (fail); go_wp2_with fail)))
  go_region_held3 (fun w' => w'.cell? ⟨w.heap.size, 0, none⟩ = some (.int .i64 k) ∧ w'.cell? ⟨w.heap.size, 1, none⟩ = some (.int .i64 n) ∧ w'.cell? ⟨w.heap.size, 2, none⟩ = some (.string t) ∧ KeepBox w w.heap.size #[.int .i64 k, .int .i64 n, .string t] 46 w') (first | exact KeepBox.cells3 ‹_› | exact KeepBox.cells3 hk1.drew) (first | (with_reducible refine (cp.out _).mono ?_; rintro e w8 ⟨rfl, hb⟩; have hk5 : KeepBox w w.heap.size #[.int .i64 k, .int .i64 n, .string t] 46 w8 := (by first | exact hk1.drew.call hb | exact KeepBox.call ‹_› hb); clear hb) | (with_reducible refine (ck.out _).mono ?_; rintro e w8 ⟨rfl, hb⟩; have hk5 : KeepBox w w.heap.size #[.int .i64 k, .int .i64 n, .string t] 46 w8 := (by first | exact hk1.drew.call hb | exact KeepBox.call ‹_› hb); clear hb))
  all_goals
    rename_i hh9
    obtain ⟨_, _, _, hk9⟩ := hh9
    have hb9 := hk9.2
    clear hk1 hb1 x0 x1 x2
    (go_wp2_with fail; repeat (any_goals (go_quiet (fail); go_wp2_with fail)))
    go_ret
    exact ⟨rfl, hb9⟩

set_option maxHeartbeats 1000000 in
set_option maxRecDepth 100000 in
theorem VR_ok {A : Nat → Addr} {B : Nat} (s : ByteArray) (w : World) (hs : s.size ≤ 35184372088830) (hE : EnvN A B w) (he : (vParse s).2 = 0) :
    Calls Tryd.prog 4 #[.string s] w fun e w' => e = .returned (.bool true) ∧ Below w.heap.size w w' := by
  have F := Lib.hid (fun w hE => fixed_calls (A := A) (B := B) w hE)
  have D := fun w hE => Parse_calls (A := A) (B := B) s w (Nat.le_trans hs (by decide)) hE
  have R := fun w => rParse_calls s w hs
  obtain ⟨q, hq⟩ : ∃ q, vParse s = (q, 0) := ⟨(vParse s).1, by rw [← he]⟩
  have hv2 := (vParse_back hq).1
  obtain ⟨U, u, gk, gp, hV, hM⟩ := val_at hv2
  rw [show ansV A (vParse s) = .tuple #[.iface U u, .nilIface] by rw [hq, ← hV]; rfl] at D
  have T := fun w => told_ok hM w
  rw [hq] at R
  simp only [rAns, if_true, plV] at R
  replace D := Lib.hid D
  replace R := Lib.hid R
  replace T := Lib.hid T
  clear hM hV hv2 hq he
  generalize q.kind = qk at *
  generalize q.num = qn at *
  generalize q.text = qt at *
  go_enter Tryd.func4, Tryd.ntmps4
  (go_wp2_with fail; repeat (any_goals (go_quiet (fail); go_wp2_with fail)))
  refine (F.out _ (hE.next (by repeat (first | assumption | exact Below.refl _ _ | apply Below.drew | apply below_drewN | apply balloc | (refine Below.setCell ?_ (by first | omega | (simp <;> omega)) _))))).mono ?_
  rintro e w1 ⟨rfl, hb⟩
  have hb1 : Below w.heap.size w w1 := bcall (by repeat (first | assumption | exact Below.refl _ _ | apply Below.drew | apply below_drewN | apply balloc | (refine Below.setCell ?_ (by first | omega | (simp <;> omega)) _))) hb
  clear hb
  (go_wp2_with fail; repeat (any_goals (go_quiet (fail); go_wp2_with fail)))
  refine (D.out _ (hE.env.next hb1)).mono ?_
  rintro e w2 ⟨rfl, hb⟩
  have hb2 : Below w.heap.size w w2 := bcall hb1 hb
  clear hb hb1
  (go_wp2_with fail; repeat (any_goals (go_quiet (fail); go_wp2_with fail)))
  refine (R.out _).mono ?_
  rintro e w3 ⟨rfl, hb⟩
  have hb3 : Below w.heap.size w w3 := bcall hb2 hb
  clear hb hb2
  (go_wp2_with fail; repeat (any_goals (go_quiet (fail); go_wp2_with fail)))
  refine (T.out _).mono ?_
  rintro e w4 ⟨rfl, hb⟩
  have hb4 : Below w.heap.size w w4 := bcall (by repeat (first | assumption | exact Below.refl _ _ | apply Below.drew | apply below_drewN | apply balloc | (refine Below.setCell ?_ (by first | omega | (simp <;> omega)) _))) hb
  clear hb hb3
  (go_wp2_with fail; repeat (any_goals (go_quiet (fail); go_wp2_with fail)))
  go_ret
  exact ⟨rfl, (by repeat (first | assumption | exact Below.refl _ _ | apply Below.drew | apply below_drewN | apply balloc | (refine Below.setCell ?_ (by first | omega | (simp <;> omega)) _)))⟩
set_option maxHeartbeats 1000000 in
set_option maxRecDepth 100000 in
theorem VR_bad {A : Nat → Addr} {B : Nat} (s : ByteArray) (w : World) (hs : s.size ≤ 35184372088830) (hE : EnvN A B w) (hN : Env A B SVN w) (he : (vParse s).2 ≠ 0) (hl : (vParse s).2 ≤ 19) :
    Calls Tryd.prog 4 #[.string s] w fun e w' => e = .returned (.bool true) ∧ Below w.heap.size w w' := by
  have F := Lib.hid (fun w hE => fixed_calls (A := A) (B := B) w hE)
  have D := fun w hE => Parse_calls (A := A) (B := B) s w (Nat.le_trans hs (by decide)) hE
  have R := fun w => rParse_calls s w hs
  have he2 := Nat.pos_of_ne_zero he
  rw [show ansV A (vParse s) = .tuple #[.nilIface, .iface 226 (.pointer (some (A (vParse s).2)))] by unfold ansV; rw [if_neg he, errV_pos A he2]] at D
  have T := fun a b t w hE => told_bad (A := A) (B := B) (vParse s).2 a b t w he2 hl hE
  simp only [plV] at R
  generalize (rAns (vParse s)).kind = qk at *
  generalize (rAns (vParse s)).num = qn at *
  generalize (rAns (vParse s)).text = qt at *
  clear he he2 hl
  generalize (vParse s).2 = k at *
  replace D := Lib.hid D
  replace R := Lib.hid R
  replace T := Lib.hid T
  go_enter Tryd.func4, Tryd.ntmps4
  (go_wp2_with fail; repeat (any_goals (go_quiet (fail); go_wp2_with fail)))
  refine (F.out _ (hE.next (by repeat (first | assumption | exact Below.refl _ _ | apply Below.drew | apply below_drewN | apply balloc | (refine Below.setCell ?_ (by first | omega | (simp <;> omega)) _))))).mono ?_
  rintro e w1 ⟨rfl, hb⟩
  have hb1 : Below w.heap.size w w1 := bcall (by repeat (first | assumption | exact Below.refl _ _ | apply Below.drew | apply below_drewN | apply balloc | (refine Below.setCell ?_ (by first | omega | (simp <;> omega)) _))) hb
  clear hb
  (go_wp2_with fail; repeat (any_goals (go_quiet (fail); go_wp2_with fail)))
  refine (D.out _ (hE.env.next hb1)).mono ?_
  rintro e w2 ⟨rfl, hb⟩
  have hb2 : Below w.heap.size w w2 := bcall hb1 hb
  clear hb hb1
  (go_wp2_with fail; repeat (any_goals (go_quiet (fail); go_wp2_with fail)))
  refine (R.out _).mono ?_
  rintro e w3 ⟨rfl, hb⟩
  have hb3 : Below w.heap.size w w3 := bcall hb2 hb
  clear hb hb2
  (go_wp2_with fail; repeat (any_goals (go_quiet (fail); go_wp2_with fail)))
  refine (T.out _ _ _ _ (hN.next (by repeat (first | assumption | exact Below.refl _ _ | apply Below.drew | apply below_drewN | apply balloc | (refine Below.setCell ?_ (by first | omega | (simp <;> omega)) _))))).mono ?_
  rintro e w4 ⟨rfl, hb⟩
  have hb4 : Below w.heap.size w w4 := bcall (by repeat (first | assumption | exact Below.refl _ _ | apply Below.drew | apply below_drewN | apply balloc | (refine Below.setCell ?_ (by first | omega | (simp <;> omega)) _))) hb
  clear hb hb3
  (go_wp2_with fail; repeat (any_goals (go_quiet (fail); go_wp2_with fail)))
  go_ret
  exact ⟨rfl, (by repeat (first | assumption | exact Below.refl _ _ | apply Below.drew | apply below_drewN | apply balloc | (refine Below.setCell ?_ (by first | omega | (simp <;> omega)) _)))⟩
theorem txE_le (t : ByteArray) : txE t ≤ 19 := by
  unfold txE; repeat' split
  all_goals omega
theorem vParse_le (s : ByteArray) : (vParse s).2 ≤ 19 := by
  unfold vParse
  split
  · simp
  split
  · simp
  split
  · simp
  split
  · exact txE_le _
  split
  · cases Lib.parseIntB 64 s.data.toList <;> simp
  · simp
/-- All the errors' variables, and the table. -/
structure EnvNN (A : Nat → Addr) (B : Nat) (w : World) : Prop where
  all : Env A B SVN w
  tab : Lib.TabIs Tryd.prog w "internal/strconv.uint64pow10" .u64 Lib.pow10Tab
  tabB : 23 < B
theorem EnvNN.n {A : Nat → Addr} {B : Nat} {w : World} (h : EnvNN A B w) : EnvN A B w := ⟨h.all.sub (by decide), h.tab, h.tabB⟩
theorem EnvNN.next {A : Nat → Addr} {B : Nat} {w w' : World} (h : EnvNN A B w) (hb : Below w.heap.size w w') : EnvNN A B w' := ⟨h.all.next hb, (h.n.next hb).tab, h.tabB⟩
theorem ValuesReads_calls {A : Nat → Addr} {B : Nat} (s : ByteArray) (w : World) (hs : s.size ≤ 35184372088830) (hE : EnvNN A B w) :
    Calls Tryd.prog 4 #[.string s] w fun e w' => e = .returned (.bool true) ∧ Below w.heap.size w w' := by
  by_cases he : (vParse s).2 = 0
  · exact VR_ok s w hs hE.n he
  · exact VR_bad s w hs hE.n hE.all he (vParse_le s)

end Go.Proofs.YtfdhklpabhhjjaaDoor
