/- Closed facts on the values of the interface: type switches, calls of their methods. -/
import Derived.Test.YtfdhklpabhhjjaaDoorBase
namespace Go.Proofs.YtfdhklpabhhjjaaDoor
open Go Go.RowKit

@[go_sem] theorem as_Flag_Flag (v : Value) (w : World) : (Instr.typeAssert (.iface 54 v) 42 54 true).run Tryd.prog w = .ok (.tuple #[v, .bool true]) w := by kernel_rfl
@[go_sem] theorem as_Flag_Number (v : Value) (w : World) : (Instr.typeAssert (.iface 54 v) 42 55 true).run Tryd.prog w = .ok (.tuple #[.int .i64 0, .bool false]) w := by kernel_rfl
@[go_sem] theorem as_Flag_Text (v : Value) (w : World) : (Instr.typeAssert (.iface 54 v) 42 56 true).run Tryd.prog w = .ok (.tuple #[.string ⟨#[]⟩, .bool false]) w := by kernel_rfl
@[go_sem] theorem as_Flag_Null (v : Value) (w : World) : (Instr.typeAssert (.iface 54 v) 42 53 true).run Tryd.prog w = .ok (.tuple #[.agg #[], .bool false]) w := by kernel_rfl
@[go_sem] theorem as_Number_Flag (v : Value) (w : World) : (Instr.typeAssert (.iface 55 v) 42 54 true).run Tryd.prog w = .ok (.tuple #[.bool false, .bool false]) w := by kernel_rfl
@[go_sem] theorem as_Number_Number (v : Value) (w : World) : (Instr.typeAssert (.iface 55 v) 42 55 true).run Tryd.prog w = .ok (.tuple #[v, .bool true]) w := by kernel_rfl
@[go_sem] theorem as_Number_Text (v : Value) (w : World) : (Instr.typeAssert (.iface 55 v) 42 56 true).run Tryd.prog w = .ok (.tuple #[.string ⟨#[]⟩, .bool false]) w := by kernel_rfl
@[go_sem] theorem as_Number_Null (v : Value) (w : World) : (Instr.typeAssert (.iface 55 v) 42 53 true).run Tryd.prog w = .ok (.tuple #[.agg #[], .bool false]) w := by kernel_rfl
@[go_sem] theorem as_Text_Flag (v : Value) (w : World) : (Instr.typeAssert (.iface 56 v) 42 54 true).run Tryd.prog w = .ok (.tuple #[.bool false, .bool false]) w := by kernel_rfl
@[go_sem] theorem as_Text_Number (v : Value) (w : World) : (Instr.typeAssert (.iface 56 v) 42 55 true).run Tryd.prog w = .ok (.tuple #[.int .i64 0, .bool false]) w := by kernel_rfl
@[go_sem] theorem as_Text_Text (v : Value) (w : World) : (Instr.typeAssert (.iface 56 v) 42 56 true).run Tryd.prog w = .ok (.tuple #[v, .bool true]) w := by kernel_rfl
@[go_sem] theorem as_Text_Null (v : Value) (w : World) : (Instr.typeAssert (.iface 56 v) 42 53 true).run Tryd.prog w = .ok (.tuple #[.agg #[], .bool false]) w := by kernel_rfl
@[go_sem] theorem as_Null_Flag (v : Value) (w : World) : (Instr.typeAssert (.iface 53 v) 42 54 true).run Tryd.prog w = .ok (.tuple #[.bool false, .bool false]) w := by kernel_rfl
@[go_sem] theorem as_Null_Number (v : Value) (w : World) : (Instr.typeAssert (.iface 53 v) 42 55 true).run Tryd.prog w = .ok (.tuple #[.int .i64 0, .bool false]) w := by kernel_rfl
@[go_sem] theorem as_Null_Text (v : Value) (w : World) : (Instr.typeAssert (.iface 53 v) 42 56 true).run Tryd.prog w = .ok (.tuple #[.string ⟨#[]⟩, .bool false]) w := by kernel_rfl
@[go_sem] theorem as_Null_Null (v : Value) (w : World) : (Instr.typeAssert (.iface 53 v) 42 53 true).run Tryd.prog w = .ok (.tuple #[v, .bool true]) w := by kernel_rfl
@[go_sem] theorem na_NullKind (d : Nat) (w : World)  : (nilAhead (d + 1) 53 (.agg #[]) "Kind").run Tryd.prog w = .ok (some false) w := by kernel_rfl
@[go_sem] theorem me_NullKind (d : Nat) (w : World)  : (method (d + 1) 53 (.agg #[]) "Kind").run Tryd.prog w = .ok (178, .agg #[]) w := by kernel_rfl
@[go_sem] theorem na_FlagKind (d : Nat) (w : World) (b : Bool) : (nilAhead (d + 1) 54 (.bool b) "Kind").run Tryd.prog w = .ok (some false) w := by kernel_rfl
@[go_sem] theorem me_FlagKind (d : Nat) (w : World) (b : Bool) : (method (d + 1) 54 (.bool b) "Kind").run Tryd.prog w = .ok (180, .bool b) w := by kernel_rfl
@[go_sem] theorem na_NumberKind (d : Nat) (w : World) (n : Int) : (nilAhead (d + 1) 55 (.int .i64 n) "Kind").run Tryd.prog w = .ok (some false) w := by kernel_rfl
@[go_sem] theorem me_NumberKind (d : Nat) (w : World) (n : Int) : (method (d + 1) 55 (.int .i64 n) "Kind").run Tryd.prog w = .ok (182, .int .i64 n) w := by kernel_rfl
@[go_sem] theorem na_TextKind (d : Nat) (w : World) (s : ByteArray) : (nilAhead (d + 1) 56 (.string s) "Kind").run Tryd.prog w = .ok (some false) w := by kernel_rfl
@[go_sem] theorem me_TextKind (d : Nat) (w : World) (s : ByteArray) : (method (d + 1) 56 (.string s) "Kind").run Tryd.prog w = .ok (184, .string s) w := by kernel_rfl
@[go_sem] theorem na_NullPlain (d : Nat) (w : World)  : (nilAhead (d + 1) 53 (.agg #[]) "Plain").run Tryd.prog w = .ok (some false) w := by kernel_rfl
@[go_sem] theorem me_NullPlain (d : Nat) (w : World)  : (method (d + 1) 53 (.agg #[]) "Plain").run Tryd.prog w = .ok (179, .agg #[]) w := by kernel_rfl
@[go_sem] theorem na_FlagPlain (d : Nat) (w : World) (b : Bool) : (nilAhead (d + 1) 54 (.bool b) "Plain").run Tryd.prog w = .ok (some false) w := by kernel_rfl
@[go_sem] theorem me_FlagPlain (d : Nat) (w : World) (b : Bool) : (method (d + 1) 54 (.bool b) "Plain").run Tryd.prog w = .ok (181, .bool b) w := by kernel_rfl
@[go_sem] theorem na_NumberPlain (d : Nat) (w : World) (n : Int) : (nilAhead (d + 1) 55 (.int .i64 n) "Plain").run Tryd.prog w = .ok (some false) w := by kernel_rfl
@[go_sem] theorem me_NumberPlain (d : Nat) (w : World) (n : Int) : (method (d + 1) 55 (.int .i64 n) "Plain").run Tryd.prog w = .ok (183, .int .i64 n) w := by kernel_rfl
@[go_sem] theorem na_TextPlain (d : Nat) (w : World) (s : ByteArray) : (nilAhead (d + 1) 56 (.string s) "Plain").run Tryd.prog w = .ok (some false) w := by kernel_rfl
@[go_sem] theorem me_TextPlain (d : Nat) (w : World) (s : ByteArray) : (method (d + 1) 56 (.string s) "Plain").run Tryd.prog w = .ok (185, .string s) w := by kernel_rfl

end Go.Proofs.YtfdhklpabhhjjaaDoor
