/- strconv.ParseInt at base 10. -/
import Derived.Test.YtnldhgkmbighkaaDoorBase
import Derived.Test.YtnldhgkmbighkaaDoorShelf
import Derived.Lib.LaidTab
import Derived.Lib.AppendIntMem
import Derived.WalkSmall
import Derived.Lib.AtoiErrMem
namespace Go.Proofs.YtnldhgkmbighkaaDoor
open Go Go.RowKit

/-- strconv.ParseInt at base 10: a value, or an error that is not nil. -/
theorem ParseInt_ok {A : Nat → Addr} {B : Nat} {S : List Nat} (s : ByteArray) (w : World) (hs : s.size ≤ 140737488351232) (_hE : Env A B S w) (v : Int) (h : Lib.parseIntB 64 s.data.toList = .ok v) :
    Calls Tryd.prog 51 #[.string s, .int .i64 10, .int .i64 64] w fun e w' => e = .returned (.tuple #[.int .i64 v, .nilIface]) ∧ Below w.heap.size w w' :=
  (Tryd.strconv_ParseInt_10_at64_ok s (by omega) v h w).mono fun e w' ⟨he, hw⟩ => ⟨he, by
    rcases hw with hw | ⟨t, hw⟩
    · subst hw; exact Below.refl _ _
    · subst hw; exact Lib.bytesWorld_below _ _ _⟩
theorem ParseInt_bad {A : Nat → Addr} {B : Nat} {S : List Nat} (s : ByteArray) (w : World) (hs : s.size ≤ 140737488351232) (hE : Env A B S w) (h : ∀ v, Lib.parseIntB 64 s.data.toList ≠ .ok v) (h20 : 20 ∈ S := by decide) (h21 : 21 ∈ S := by decide) :
    Calls Tryd.prog 51 #[.string s, .int .i64 10, .int .i64 64] w fun e w' => (∃ n a, e = .returned (.tuple #[.int .i64 n, .iface 172 (.pointer (some a))])) ∧ Below w.heap.size w w' := by
  cases hp : Lib.parseIntB 64 s.data.toList
  case ok v => exact absurd hp (h v)
  all_goals first
    | exact (Tryd.strconv_ParseInt_10_at64_range s (by omega) hp _ w (hE.e20 h20) (Or.inr ⟨_, _, rfl⟩)).mono fun e w' ⟨N, he, _, _, hb⟩ => ⟨⟨_, _, he⟩, hb⟩
    | exact (Any.strconv_ParseInt_10_at64_syntax Tryd.laysC174 s (by omega) hp _ w (hE.e21 h21) (Or.inr ⟨_, _, rfl⟩)).mono fun e w' ⟨N, he, _, _, hb⟩ => ⟨⟨_, _, he⟩, hb⟩

end Go.Proofs.YtnldhgkmbighkaaDoor
