/- Values of the interface in one word, whatever their type; Compare. -/
import Derived.Test.YtfdhklpabhhjjaaGreatDoorValues3
import Derived.Test.YtfdhklpabhhjjaaGreatDoorValFacts
namespace Go.Proofs.YtfdhklpabhhjjaaGreatDoor
open Go Go.RowKit

/-- V is the value of p: what its methods are, and what they answer. -/
structure ValAt (p : Pl) (T : TypeId) (v : Value) (fk fp : FuncId) : Prop where
  nak : ∀ d w, (nilAhead (d + 1) T v "Kind").run Tryz.prog w = .ok (some false) w
  nap : ∀ d w, (nilAhead (d + 1) T v "Plain").run Tryz.prog w = .ok (some false) w
  mek : ∀ d w, (method (d + 1) T v "Kind").run Tryz.prog w = .ok (fk, v) w
  mep : ∀ d w, (method (d + 1) T v "Plain").run Tryz.prog w = .ok (fp, v) w
  ek : ∀ w, (callFunc fk #[v]).run Tryz.prog w = .ok (.enter fk #[v]) w
  ep : ∀ w, (callFunc fp #[v]).run Tryz.prog w = .ok (.enter fp #[v]) w
  ck : ∀ w, Calls Tryz.prog fk #[v] w fun e w' => e = .returned (.int .i64 p.kind) ∧ Below w.heap.size w w'
  cp : ∀ w, Calls Tryz.prog fp #[v] w fun e w' => e = .returned (.agg #[.int .i64 p.kind, .int .i64 p.num, .string p.text]) ∧ Below w.heap.size w w'

theorem val_at {p : Pl} (h : vCheck p = 0) : ∃ T v fk fp, valV p = .iface T v ∧ ValAt p T v fk fp := by
  obtain ⟨k, n, t⟩ := p
  rcases good_cases h with ⟨rfl, rfl, rfl⟩ | ⟨rfl, rfl, rfl⟩ | ⟨rfl, rfl, rfl⟩ | ⟨rfl, rfl⟩ | ⟨rfl, rfl, h2⟩
  · exact ⟨_, _, 198, 199, rfl, fun _ _ => na_NullKind _ _, fun _ _ => na_NullPlain _ _, fun _ _ => me_NullKind _ _, fun _ _ => me_NullPlain _ _, enters_of Tryz.func198 (by kernel_rfl) rfl _, enters_of Tryz.func199 (by kernel_rfl) rfl _, fun w => kindNull w, fun w => plainNull w⟩
  · exact ⟨_, _, 200, 201, rfl, fun _ _ => na_FlagKind _ _ _, fun _ _ => na_FlagPlain _ _ _, fun _ _ => me_FlagKind _ _ _, fun _ _ => me_FlagPlain _ _ _, enters_of Tryz.func200 (by kernel_rfl) rfl _, enters_of Tryz.func201 (by kernel_rfl) rfl _, fun w => kindFlag _ w, fun w => plainFlag false w⟩
  · exact ⟨_, _, 200, 201, rfl, fun _ _ => na_FlagKind _ _ _, fun _ _ => na_FlagPlain _ _ _, fun _ _ => me_FlagKind _ _ _, fun _ _ => me_FlagPlain _ _ _, enters_of Tryz.func200 (by kernel_rfl) rfl _, enters_of Tryz.func201 (by kernel_rfl) rfl _, fun w => kindFlag _ w, fun w => plainFlag true w⟩
  · exact ⟨_, _, 202, 203, rfl, fun _ _ => na_NumberKind _ _ _, fun _ _ => na_NumberPlain _ _ _, fun _ _ => me_NumberKind _ _ _, fun _ _ => me_NumberPlain _ _ _, enters_of Tryz.func202 (by kernel_rfl) rfl _, enters_of Tryz.func203 (by kernel_rfl) rfl _, fun w => kindNumber _ w, fun w => plainNumber n w⟩
  · exact ⟨_, _, 204, 205, rfl, fun _ _ => na_TextKind _ _ _, fun _ _ => na_TextPlain _ _ _, fun _ _ => me_TextKind _ _ _, fun _ _ => me_TextPlain _ _ _, enters_of Tryz.func204 (by kernel_rfl) rfl _, enters_of Tryz.func205 (by kernel_rfl) rfl _, fun w => kindText _ w, fun w => plainText t w⟩

theorem isNaN_int64 (x : Int) (w : World) : Calls Tryz.prog 80 #[.int .i64 x] w fun e w' => e = .returned (.bool false) ∧ w' = w := by
  go_enter Tryz.func80, Tryz.ntmps80
  go_wp2
  go_ret
  exact ⟨by simp, rfl⟩
set_option maxHeartbeats 400000 in
theorem Compare_int64 (x y : Int) (w : World) : Calls Tryz.prog 53 #[.int .i64 x, .int .i64 y] w fun e w' => e = .returned (.int .i64 (Lib.compareInt x y)) ∧ w' = w := by
  go_enter Tryz.func53, Tryz.ntmps53
  go_wp2_with (first | (go_at_call 80; refine (isNaN_int64 _ _).mono ?_; rintro e w1 ⟨rfl, rfl⟩) | go_quiet (fail))
  all_goals
    go_ret
    exact ⟨by unfold Lib.compareInt; first | (rw [if_pos (by omega)]; rfl) | (rw [if_neg (by omega), if_pos (by omega)]; rfl) | (rw [if_neg (by omega), if_neg (by omega)]; rfl), rfl⟩

end Go.Proofs.YtfdhklpabhhjjaaGreatDoor
