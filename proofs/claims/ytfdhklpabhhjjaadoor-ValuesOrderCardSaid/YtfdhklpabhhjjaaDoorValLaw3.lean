/- ValuesBack: the walk. -/
import Derived.Test.YtfdhklpabhhjjaaDoorValLaw1
import Derived.Test.YtfdhklpabhhjjaaDoorVal4
import Derived.Test.YtfdhklpabhhjjaaDoorValPlain
import Derived.Lib.ItoaLen
namespace Go.Proofs.YtfdhklpabhhjjaaDoor
open Go Go.RowKit

theorem itoa_size (n : Int) (h0 : -9223372036854775808 ≤ n) (h1 : n ≤ 9223372036854775807) : (⟨(Lib.itoa n).toArray⟩ : ByteArray).size ≤ 21 := Lib.itoa_length_le n h0 h1
theorem vText_size {p : Pl} (h : vCheck p = 0) (h0 : -9223372036854775808 ≤ p.num) (h1 : p.num ≤ 9223372036854775807) : (vText p).size ≤ 1048577 := by
  obtain ⟨k, n, t⟩ := p
  have ht := good_size h
  rcases good_cases h with ⟨rfl, rfl, rfl⟩ | ⟨rfl, rfl, rfl⟩ | ⟨rfl, rfl, rfl⟩ | ⟨rfl, rfl⟩ | ⟨rfl, rfl, h2⟩
  · decide
  · show (⟨(Lib.formatBool false).toArray⟩ : ByteArray).size ≤ _
    exact Nat.le_trans (show (Lib.formatBool false).length ≤ 5 by decide) (by decide)
  · show (⟨(Lib.formatBool true).toArray⟩ : ByteArray).size ≤ _
    exact Nat.le_trans (show (Lib.formatBool true).length ≤ 5 by decide) (by decide)
  · exact Nat.le_trans (itoa_size n h0 h1) (by decide)
  · show ((⟨#[39]⟩ : ByteArray) ++ t).size ≤ _
    rw [ByteArray.size_append]
    have : (⟨#[39]⟩ : ByteArray).size = 1 := rfl
    omega

/-- A block that is kept, beside what lay below. -/
def KeepBox (w0 : World) (g : Nat) (cs : Array Value) (t : TypeId) (w : World) : Prop := w.heap[g]? = some (.cells cs t (0, 0)) ∧ Below w0.heap.size w0 w
theorem KeepBox.drew {w0 : World} {g : Nat} {cs : Array Value} {t : TypeId} {w : World} (h : KeepBox w0 g cs t w) : KeepBox w0 g cs t w.drew := ⟨h.1, h.2.drew⟩
theorem KeepBox.call {w0 : World} {g : Nat} {cs : Array Value} {t : TypeId} {w w1 : World} (h : KeepBox w0 g cs t w) (hb : Below w.heap.size w w1) : KeepBox w0 g cs t w1 := ⟨box_next h.1 hb, bcall h.2 hb⟩
theorem KeepBox.cells3 {w0 : World} {g : Nat} {a b c : Value} {t : TypeId} {w : World} (h : KeepBox w0 g #[a, b, c] t w) :
    w.cell? ⟨g, 0, none⟩ = some a ∧ w.cell? ⟨g, 1, none⟩ = some b ∧ w.cell? ⟨g, 2, none⟩ = some c ∧ KeepBox w0 g #[a, b, c] t w :=
  ⟨cellB h.1 0 rfl, cellB h.1 1 rfl, cellB h.1 2 rfl, h⟩

set_option maxHeartbeats 2000000 in
set_option maxRecDepth 100000 in
theorem VB_ok {A : Nat → Addr} {B : Nat} (k n : Int) (t s : ByteArray) (w : World) (ht : t.size ≤ 140737488351232) (hs : s.size ≤ 140737488351232) (h0 : -9223372036854775808 ≤ n) (h1 : n ≤ 9223372036854775807) (hE : EnvN A B w) (hv : vCheck ⟨k, n, t⟩ = 0) :
    Calls Tryd.prog 6 #[.agg #[.int .i64 k, .int .i64 n, .string t], .string s] w fun e w' => e = .returned (.bool true) ∧ Below w.heap.size w w' := by
  have F := Lib.hid (fun w hE => fixed_calls (A := A) (B := B) w hE)
  have D := Lib.hid (fun w hE => Parse_calls (A := A) (B := B) s w hs hE)
  have K := fun w hE => Check_calls (A := A) (B := B) k n t w ht hE
  rw [hv, errV_zero] at K
  have K := Lib.hid K
  have T1 := fun w hE => Text_ok (A := A) (B := B) k n t w ht h0 h1 hE hv
  have P1 := fun w hE => Parse_calls (A := A) (B := B) (vText ⟨k, n, t⟩) w (Nat.le_trans (vText_size hv h0 h1) (by decide)) hE
  rw [vText_back hv h0 h1] at P1
  obtain ⟨T, v, fk, fp, hV, hM⟩ := val_at hv
  have P1 : ∀ w, Env A B SV w → Calls Tryd.prog 15 #[.string (vText ⟨k, n, t⟩)] w fun e w' => e = .returned (.tuple #[.iface T v, .nilIface]) ∧ Below w.heap.size w w' := fun w hE => by
    have := P1 w hE
    simpa only [ansV, if_true, hV] using this
  obtain ⟨nk, np, mk, mp, ek, ep, ck, cp⟩ := hM
  have ck := Lib.hid ck
  have cp := Lib.hid cp
  simp only at ck cp
  generalize vText ⟨k, n, t⟩ = r at *
  have T1 := Lib.hid T1
  have P1 := Lib.hid P1
  clear hV hv h0 h1
  go_enter Tryd.func6, Tryd.ntmps6
  (go_wp2_with fail; repeat (any_goals (go_quiet (fail); go_wp2_with fail)))
  refine (F.out _ (hE.next (by repeat (first | assumption | exact Below.refl _ _ | apply Below.drew | apply below_drewN | apply balloc | (refine Below.setCell ?_ (by first | omega | (simp <;> omega)) _))))).mono ?_
  rintro e w1 ⟨rfl, hb⟩
  have hk1 : KeepBox w w.heap.size #[.int .i64 k, .int .i64 n, .string t] 46 w1 := ⟨boxed hb, bcall (by repeat (first | assumption | exact Below.refl _ _ | apply Below.drew | apply below_drewN | apply balloc | (refine Below.setCell ?_ (by first | omega | (simp <;> omega)) _))) hb⟩
  obtain ⟨x0, x1, x2, _⟩ := hk1.cells3
  clear hb
  (go_wp2_with fail; repeat (any_goals (go_quiet (fail); go_wp2_with fail)))
  refine (T1.out _ (hE.next hk1.2)).mono ?_
  rintro e w2 ⟨rfl, hb⟩
  have hk2 := hk1.call hb
  have hb2 := hk2.2
  clear hb hk1 x0 x1 x2
  (go_wp2_with fail; repeat (any_goals (go_quiet (fail); go_wp2_with fail)))
  go_region_held3 (fun w' => w'.cell? ⟨w.heap.size, 0, none⟩ = some (.int .i64 k) ∧ w'.cell? ⟨w.heap.size, 1, none⟩ = some (.int .i64 n) ∧ w'.cell? ⟨w.heap.size, 2, none⟩ = some (.string t) ∧ KeepBox w w.heap.size #[.int .i64 k, .int .i64 n, .string t] 46 w') (first | exact KeepBox.cells3 ‹_› | exact KeepBox.cells3 hk2.drew) (first | (go_at_call 20; refine (K.out _ (hE.env.next (by repeat (first | assumption | exact Below.refl _ _ | apply Below.drew | apply below_drewN | apply balloc | (refine Below.setCell ?_ (by first | omega | (simp <;> omega)) _))))).mono ?_; rintro e w8 ⟨rfl, hb⟩; have hk3 : KeepBox w w.heap.size #[.int .i64 k, .int .i64 n, .string t] 46 w8 := hk2.drew.call hb; clear hb))
  rename_i hk3 hh3
  have hb3 := hk3.2
  clear hh3 hb2 hk2
  (go_wp2_with fail; repeat (any_goals (go_quiet (fail); go_wp2_with fail)))
  refine (P1.out _ (hE.env.next (by repeat (first | assumption | exact Below.refl _ _ | apply Below.drew | apply below_drewN | apply balloc | (refine Below.setCell ?_ (by first | omega | (simp <;> omega)) _))))).mono ?_
  rintro e w4 ⟨rfl, hb⟩
  have hk4 := hk3.call hb
  have hb4 := hk4.2
  obtain ⟨x0, x1, x2, _⟩ := hk4.cells3
  clear hb hk3 hb3
  (go_wp2_with fail; repeat (any_goals (go_quiet (fail); go_wp2_with fail)))
  go_region_held3 (fun w' => w'.cell? ⟨w.heap.size, 0, none⟩ = some (.int .i64 k) ∧ w'.cell? ⟨w.heap.size, 1, none⟩ = some (.int .i64 n) ∧ w'.cell? ⟨w.heap.size, 2, none⟩ = some (.string t) ∧ KeepBox w w.heap.size #[.int .i64 k, .int .i64 n, .string t] 46 w') (first | exact KeepBox.cells3 ‹_› | exact KeepBox.cells3 hk4.drew) (first | (with_reducible refine (cp.out _).mono ?_; rintro e w8 ⟨rfl, hb⟩; have hk5 : KeepBox w w.heap.size #[.int .i64 k, .int .i64 n, .string t] 46 w8 := (by first | exact hk4.drew.call hb | exact KeepBox.call ‹_› hb); clear hb) | (with_reducible refine (ck.out _).mono ?_; rintro e w8 ⟨rfl, hb⟩; have hk5 : KeepBox w w.heap.size #[.int .i64 k, .int .i64 n, .string t] 46 w8 := (by first | exact hk4.drew.call hb | exact KeepBox.call ‹_› hb); clear hb))
  rename_i hh9
  obtain ⟨_, _, _, hk9⟩ := hh9
  clear x0 x1 x2 hk4 hb4
  have hb9 := hk9.2
  (go_wp2_with fail; repeat (any_goals (go_quiet (fail); go_wp2_with fail)))
  have hE9 := hE.next hb9
  clear hk9
  refine (D.out _ (hE.env.next (by repeat (first | assumption | exact Below.refl _ _ | apply Below.drew | apply below_drewN | apply balloc | (refine Below.setCell ?_ (by first | omega | (simp <;> omega)) _))))).mono ?_
  rintro e w10 ⟨rfl, hb⟩
  have hb10 : Below w.heap.size w w10 := bcall (by repeat (first | assumption | exact Below.refl _ _ | apply Below.drew | apply below_drewN | apply balloc | (refine Below.setCell ?_ (by first | omega | (simp <;> omega)) _))) hb
  clear hb hb9 hE9
  by_cases he : (vParse s).2 = 0
  · obtain ⟨q, hq⟩ : ∃ q, vParse s = (q, 0) := ⟨(vParse s).1, by rw [← he]⟩
    obtain ⟨hv2, ht2, hlo, hhi, hsz⟩ := vParse_back hq
    have T2 := fun w hE => Text_ok (A := A) (B := B) q.kind q.num q.text w (by omega) hlo hhi hE hv2
    have K2 := fun w hE => Check_calls (A := A) (B := B) q.kind q.num q.text w (by omega) hE
    obtain ⟨U, u, gk, gp, hV, hM⟩ := val_at hv2
    rw [show ansV A (vParse s) = .tuple #[.iface U u, .nilIface] by rw [hq, ← hV]; rfl]
    rw [show vText ⟨q.kind, q.num, q.text⟩ = s from ht2] at T2
    rw [show vCheck ⟨q.kind, q.num, q.text⟩ = 0 from hv2, errV_zero] at K2
    have T2 := Lib.hid T2
    have K2 := Lib.hid K2
    obtain ⟨nk, np, mk, mp, ek, ep, ck, cp⟩ := hM
    have cp := Lib.hid cp
    clear hq hv2 ht2 hlo hhi hsz hV ck nk mk ek he
    generalize q.kind = qk at *
    generalize q.num = qn at *
    generalize q.text = qt at *
    (go_wp2_with fail; repeat (any_goals (go_quiet (fail); go_wp2_with fail)))
    refine (cp.out _).mono ?_
    rintro e w11 ⟨rfl, hb⟩
    have hb11 : Below w.heap.size w w11 := bcall hb10 hb
    clear hb hb10
    (go_wp2_with fail; repeat (any_goals (go_quiet (fail); go_wp2_with fail)))
    refine (T2.out _ (hE.next hb11)).mono ?_
    rintro e w12 ⟨rfl, hb⟩
    have hb12 : Below w.heap.size w w12 := bcall hb11 hb
    clear hb hb11
    (go_wp2_with fail; repeat (any_goals (go_quiet (fail); go_wp2_with fail)))
    refine (cp.out _).mono ?_
    rintro e w13 ⟨rfl, hb⟩
    have hb13 : Below w.heap.size w w13 := bcall hb12 hb
    clear hb hb12
    (go_wp2_with fail; repeat (any_goals (go_quiet (fail); go_wp2_with fail)))
    refine (K2.out _ (hE.env.next hb13)).mono ?_
    rintro e w14 ⟨rfl, hb⟩
    have hb14 : Below w.heap.size w w14 := bcall hb13 hb
    clear hb hb13
    (go_wp2_with fail; repeat (any_goals (go_quiet (fail); go_wp2_with fail)))
    go_ret
    exact ⟨ret_bool (by simp), (by repeat (first | assumption | exact Below.refl _ _ | apply Below.drew | apply below_drewN | apply balloc | (refine Below.setCell ?_ (by first | omega | (simp <;> omega)) _)))⟩
  · have he2 := Nat.pos_of_ne_zero he
    rw [show ansV A (vParse s) = .tuple #[.nilIface, .iface 226 (.pointer (some (A (vParse s).2)))] by unfold ansV; rw [if_neg he, errV_pos A he2]]
    clear he he2
    generalize A (vParse s).2 = a at *
    (go_wp2_with fail; repeat (any_goals (go_quiet (fail); go_wp2_with fail)))
    go_ret
    exact ⟨rfl, (by repeat (first | assumption | exact Below.refl _ _ | apply Below.drew | apply below_drewN | apply balloc | (refine Below.setCell ?_ (by first | omega | (simp <;> omega)) _)))⟩

set_option maxHeartbeats 2000000 in
set_option maxRecDepth 100000 in
theorem VB_bad {A : Nat → Addr} {B : Nat} (k n : Int) (t s : ByteArray) (w : World) (ht : t.size ≤ 140737488351232) (hs : s.size ≤ 140737488351232) (hE : EnvN A B w) (hv : vCheck ⟨k, n, t⟩ ≠ 0) :
    Calls Tryd.prog 6 #[.agg #[.int .i64 k, .int .i64 n, .string t], .string s] w fun e w' => e = .returned (.bool true) ∧ Below w.heap.size w w' := by
  have F := Lib.hid (fun w hE => fixed_calls (A := A) (B := B) w hE)
  have D := Lib.hid (fun w hE => Parse_calls (A := A) (B := B) s w hs hE)
  have hv2 := Nat.pos_of_ne_zero hv
  have K := fun w hE => Check_calls (A := A) (B := B) k n t w ht hE
  rw [errV_pos A hv2] at K
  have K := Lib.hid K
  have T1 := Lib.hid (fun w hE => Text_bad (A := A) (B := B) k n t w ht hE hv2)
  generalize A (vCheck ⟨k, n, t⟩) = x at *
  clear hv hv2
  go_enter Tryd.func6, Tryd.ntmps6
  (go_wp2_with fail; repeat (any_goals (go_quiet (fail); go_wp2_with fail)))
  refine (F.out _ (hE.next (by repeat (first | assumption | exact Below.refl _ _ | apply Below.drew | apply below_drewN | apply balloc | (refine Below.setCell ?_ (by first | omega | (simp <;> omega)) _))))).mono ?_
  rintro e w1 ⟨rfl, hb⟩
  have hk1 : KeepBox w w.heap.size #[.int .i64 k, .int .i64 n, .string t] 46 w1 := ⟨boxed hb, bcall (by repeat (first | assumption | exact Below.refl _ _ | apply Below.drew | apply below_drewN | apply balloc | (refine Below.setCell ?_ (by first | omega | (simp <;> omega)) _))) hb⟩
  obtain ⟨x0, x1, x2, _⟩ := hk1.cells3
  clear hb
  (go_wp2_with fail; repeat (any_goals (go_quiet (fail); go_wp2_with fail)))
  refine (T1.out _ (hE.env.next hk1.2)).mono ?_
  rintro e w2 ⟨rfl, hb⟩
  have hk2 := hk1.call hb
  have hb2 := hk2.2
  clear hb hk1 x0 x1 x2
  (go_wp2_with fail; repeat (any_goals (go_quiet (fail); go_wp2_with fail)))
  go_region_held3 (fun w' => w'.cell? ⟨w.heap.size, 0, none⟩ = some (.int .i64 k) ∧ w'.cell? ⟨w.heap.size, 1, none⟩ = some (.int .i64 n) ∧ w'.cell? ⟨w.heap.size, 2, none⟩ = some (.string t) ∧ KeepBox w w.heap.size #[.int .i64 k, .int .i64 n, .string t] 46 w') (first | exact KeepBox.cells3 ‹_› | exact KeepBox.cells3 hk2.drew) (first | (go_at_call 20; refine (K.out _ (hE.env.next (by repeat (first | assumption | exact Below.refl _ _ | apply Below.drew | apply below_drewN | apply balloc | (refine Below.setCell ?_ (by first | omega | (simp <;> omega)) _))))).mono ?_; rintro e w8 ⟨rfl, hb⟩; have hk3 : KeepBox w w.heap.size #[.int .i64 k, .int .i64 n, .string t] 46 w8 := hk2.drew.call hb; clear hb))
  rename_i hh9
  obtain ⟨_, _, _, hk9⟩ := hh9
  have hb9 := hk9.2
  clear hb2 hk2
  (go_wp2_with fail; repeat (any_goals (go_quiet (fail); go_wp2_with fail)))
  have hE9 := hE.next hb9
  clear hk9
  refine (D.out _ (hE.env.next (by repeat (first | assumption | exact Below.refl _ _ | apply Below.drew | apply below_drewN | apply balloc | (refine Below.setCell ?_ (by first | omega | (simp <;> omega)) _))))).mono ?_
  rintro e w10 ⟨rfl, hb⟩
  have hb10 : Below w.heap.size w w10 := bcall (by repeat (first | assumption | exact Below.refl _ _ | apply Below.drew | apply below_drewN | apply balloc | (refine Below.setCell ?_ (by first | omega | (simp <;> omega)) _))) hb
  clear hb hb9 hE9
  by_cases he : (vParse s).2 = 0
  · obtain ⟨q, hq⟩ : ∃ q, vParse s = (q, 0) := ⟨(vParse s).1, by rw [← he]⟩
    obtain ⟨hv2, ht2, hlo, hhi, hsz⟩ := vParse_back hq
    have T2 := fun w hE => Text_ok (A := A) (B := B) q.kind q.num q.text w (by omega) hlo hhi hE hv2
    have K2 := fun w hE => Check_calls (A := A) (B := B) q.kind q.num q.text w (by omega) hE
    obtain ⟨U, u, gk, gp, hV, hM⟩ := val_at hv2
    rw [show ansV A (vParse s) = .tuple #[.iface U u, .nilIface] by rw [hq, ← hV]; rfl]
    rw [show vText ⟨q.kind, q.num, q.text⟩ = s from ht2] at T2
    rw [show vCheck ⟨q.kind, q.num, q.text⟩ = 0 from hv2, errV_zero] at K2
    have T2 := Lib.hid T2
    have K2 := Lib.hid K2
    obtain ⟨nk, np, mk, mp, ek, ep, ck, cp⟩ := hM
    have cp := Lib.hid cp
    clear hq hv2 ht2 hlo hhi hsz hV ck nk mk ek he
    generalize q.kind = qk at *
    generalize q.num = qn at *
    generalize q.text = qt at *
    (go_wp2_with fail; repeat (any_goals (go_quiet (fail); go_wp2_with fail)))
    refine (cp.out _).mono ?_
    rintro e w11 ⟨rfl, hb⟩
    have hb11 : Below w.heap.size w w11 := bcall hb10 hb
    clear hb hb10
    (go_wp2_with fail; repeat (any_goals (go_quiet (fail); go_wp2_with fail)))
    refine (T2.out _ (hE.next hb11)).mono ?_
    rintro e w12 ⟨rfl, hb⟩
    have hb12 : Below w.heap.size w w12 := bcall hb11 hb
    clear hb hb11
    (go_wp2_with fail; repeat (any_goals (go_quiet (fail); go_wp2_with fail)))
    refine (cp.out _).mono ?_
    rintro e w13 ⟨rfl, hb⟩
    have hb13 : Below w.heap.size w w13 := bcall hb12 hb
    clear hb hb12
    (go_wp2_with fail; repeat (any_goals (go_quiet (fail); go_wp2_with fail)))
    refine (K2.out _ (hE.env.next hb13)).mono ?_
    rintro e w14 ⟨rfl, hb⟩
    have hb14 : Below w.heap.size w w14 := bcall hb13 hb
    clear hb hb13
    (go_wp2_with fail; repeat (any_goals (go_quiet (fail); go_wp2_with fail)))
    go_ret
    exact ⟨ret_bool (by simp), (by repeat (first | assumption | exact Below.refl _ _ | apply Below.drew | apply below_drewN | apply balloc | (refine Below.setCell ?_ (by first | omega | (simp <;> omega)) _)))⟩
  · have he2 := Nat.pos_of_ne_zero he
    rw [show ansV A (vParse s) = .tuple #[.nilIface, .iface 226 (.pointer (some (A (vParse s).2)))] by unfold ansV; rw [if_neg he, errV_pos A he2]]
    clear he he2
    generalize A (vParse s).2 = a at *
    (go_wp2_with fail; repeat (any_goals (go_quiet (fail); go_wp2_with fail)))
    go_ret
    exact ⟨rfl, (by repeat (first | assumption | exact Below.refl _ _ | apply Below.drew | apply below_drewN | apply balloc | (refine Below.setCell ?_ (by first | omega | (simp <;> omega)) _)))⟩

theorem ValuesBack_calls {A : Nat → Addr} {B : Nat} (k n : Int) (t s : ByteArray) (w : World) (ht : t.size ≤ 140737488351232) (hs : s.size ≤ 140737488351232) (h0 : -9223372036854775808 ≤ n) (h1 : n ≤ 9223372036854775807) (hE : EnvN A B w) :
    Calls Tryd.prog 6 #[.agg #[.int .i64 k, .int .i64 n, .string t], .string s] w fun e w' => e = .returned (.bool true) ∧ Below w.heap.size w w' := by
  by_cases hv : vCheck ⟨k, n, t⟩ = 0
  · exact VB_ok k n t s w ht hs h0 h1 hE hv
  · exact VB_bad k n t s w ht hs hE hv

end Go.Proofs.YtfdhklpabhhjjaaDoor
