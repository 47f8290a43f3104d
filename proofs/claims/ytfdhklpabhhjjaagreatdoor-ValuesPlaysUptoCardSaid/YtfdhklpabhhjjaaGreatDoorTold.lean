/- The statements of layer 2, on: told; what all of them lean on. -/
import Derived.Test.YtfdhklpabhhjjaaGreatDoorKeep
import Derived.Test.YtfdhklpabhhjjaaGreatDoorNum
namespace Go.Proofs.YtfdhklpabhhjjaaGreatDoor
open Go Go.RowKit

set_option maxHeartbeats 1000000 in
set_option maxRecDepth 100000 in
theorem told_bad {A : Nat → Addr} {B : Nat} (k : Nat) (a b : Int) (t : ByteArray) (w : World) (h1 : 1 ≤ k) (h2 : k ≤ 19) (hE : Env A B SVN w) :
    Calls Tryz.prog 23 #[.nilIface, .iface 264 (.pointer (some (A k))), .agg #[.int .i64 a, .int .i64 b, .string t], .int .i64 k] w fun e w' => e = .returned (.bool true) ∧ Below w.heap.size w w' := by
  have N := fun w hE => Num_err (A := A) (B := B) k w h1 h2 hE
  have hk : ((k : Int) != 0) = true := by simp; omega
  replace N := Lib.hid N
  replace h1 := Lib.hid h1
  go_enter Tryz.func23, Tryz.ntmps23
  (go_wp2_with fail; repeat (any_goals (go_quiet (fail); go_wp2_with fail)))
  refine (N.out _ (hE.next (by repeat (first | assumption | exact Below.refl _ _ | apply Below.drew | apply below_drewN | apply balloc | (refine Below.setCell ?_ (by first | omega | (simp <;> omega)) _))))).mono ?_
  rintro e w1 ⟨rfl, hb⟩
  have hb1 : Below w.heap.size w w1 := bcall (by repeat (first | assumption | exact Below.refl _ _ | apply Below.drew | apply below_drewN | apply balloc | (refine Below.setCell ?_ (by first | omega | (simp <;> omega)) _))) hb
  clear hb
  (go_wp2_with fail; repeat (any_goals (go_quiet (fail); go_wp2_with fail)))
  go_ret
  exact ⟨rfl, (by repeat (first | assumption | exact Below.refl _ _ | apply Below.drew | apply below_drewN | apply balloc | (refine Below.setCell ?_ (by first | omega | (simp <;> omega)) _)))⟩
set_option maxHeartbeats 1000000 in
set_option maxRecDepth 100000 in
theorem told_ok {p : Pl} {T : TypeId} {v : Value} {fk fp : FuncId} (hM : ValAt p T v fk fp) (w : World) :
    Calls Tryz.prog 23 #[.iface T v, .nilIface, .agg #[.int .i64 p.kind, .int .i64 p.num, .string p.text], .int .i64 0] w fun e w' => e = .returned (.bool true) ∧ Below w.heap.size w w' := by
  obtain ⟨k, n, t⟩ := p
  obtain ⟨nk, np, mk, mp, ek, ep, ck, cp⟩ := hM
  have ck := Lib.hid ck
  have cp := Lib.hid cp
  simp only at ck cp
  go_enter Tryz.func23, Tryz.ntmps23
  (go_wp2_with fail; repeat (any_goals (go_quiet (fail); go_wp2_with fail)))
  refine (Num_nil _).mono ?_
  rintro e w1 ⟨rfl, hb⟩
  have hk1 : KeepBox w w.heap.size #[.int .i64 k, .int .i64 n, .string t] 50 w1 := ⟨boxed hb, bcall (by repeat (first | assumption | exact Below.refl _ _ | apply Below.drew | apply below_drewN | apply balloc | (refine Below.setCell ?_ (by first | omega | (simp <;> omega)) _))) hb⟩
  obtain ⟨x0, x1, x2, _⟩ := hk1.cells3
  have hb1 := hk1.2
  clear hb
  (go_wp2_with fail; repeat (any_goals (go_quiet (fail); go_wp2_with fail)))
  go_region_held3 (fun w' => w'.cell? ⟨w.heap.size, 0, none⟩ = some (.int .i64 k) ∧ w'.cell? ⟨w.heap.size, 1, none⟩ = some (.int .i64 n) ∧ w'.cell? ⟨w.heap.size, 2, none⟩ = some (.string t) ∧ KeepBox w w.heap.size #[.int .i64 k, .int .i64 n, .string t] 50 w') (first | exact KeepBox.cells3 ‹_› | exact KeepBox.cells3 hk1.drew) (first | (with_reducible refine (cp.out _).mono ?_; rintro e w8 ⟨rfl, hb⟩; have hk5 : KeepBox w w.heap.size #[.int .i64 k, .int .i64 n, .string t] 50 w8 := (by first | exact hk1.drew.call hb | exact KeepBox.call ‹_› hb); clear hb) | (with_reducible refine (ck.out _).mono ?_; rintro e w8 ⟨rfl, hb⟩; have hk5 : KeepBox w w.heap.size #[.int .i64 k, .int .i64 n, .string t] 50 w8 := (by first | exact hk1.drew.call hb | exact KeepBox.call ‹_› hb); clear hb))
  all_goals
    rename_i hh9
    obtain ⟨_, _, _, hk9⟩ := hh9
    have hb9 := hk9.2
    clear hk1 hb1 x0 x1 x2
    (go_wp2_with fail; repeat (any_goals (go_quiet (fail); go_wp2_with fail)))
    go_ret
    exact ⟨rfl, hb9⟩

theorem txE_le (t : ByteArray) : txE t ≤ 19 := by
  unfold txE; repeat' split
  all_goals omega
/-- All the errors' variables, and the table. -/
structure EnvNN (A : Nat → Addr) (B : Nat) (w : World) : Prop where
  all : Env A B SVN w
  tab : Lib.TabIs Tryz.prog w "internal/strconv.uint64pow10" .u64 Lib.pow10Tab
  tabB : 25 < B
theorem EnvNN.n {A : Nat → Addr} {B : Nat} {w : World} (h : EnvNN A B w) : EnvN A B w := ⟨h.all.sub (by decide), h.tab, h.tabB⟩
theorem EnvNN.next {A : Nat → Addr} {B : Nat} {w w' : World} (h : EnvNN A B w) (hb : Below w.heap.size w w') : EnvNN A B w' := ⟨h.all.next hb, (h.n.next hb).tab, h.tabB⟩

end Go.Proofs.YtfdhklpabhhjjaaGreatDoor
