/- Closed facts on the values of the interface: type switches, calls of their methods. -/
import Derived.Test.YtfdhklpabhhjjaaGreatDoorBase
namespace Go.Proofs.YtfdhklpabhhjjaaGreatDoor
open Go Go.RowKit

@[go_sem] theorem as_Flag_Flag (v : Value) (w : World) : (Instr.typeAssert (.iface 152 v) 53 152 true).run Tryz.prog w = .ok (.tuple #[v, .bool true]) w := by kernel_rfl
@[go_sem] theorem as_Flag_Number (v : Value) (w : World) : (Instr.typeAssert (.iface 152 v) 53 157 true).run Tryz.prog w = .ok (.tuple #[.int .i64 0, .bool false]) w := by kernel_rfl
@[go_sem] theorem as_Flag_Text (v : Value) (w : World) : (Instr.typeAssert (.iface 152 v) 53 158 true).run Tryz.prog w = .ok (.tuple #[.string ⟨#[]⟩, .bool false]) w := by kernel_rfl
@[go_sem] theorem as_Flag_Null (v : Value) (w : World) : (Instr.typeAssert (.iface 152 v) 53 151 true).run Tryz.prog w = .ok (.tuple #[.agg #[], .bool false]) w := by kernel_rfl
@[go_sem] theorem as_Number_Flag (v : Value) (w : World) : (Instr.typeAssert (.iface 157 v) 53 152 true).run Tryz.prog w = .ok (.tuple #[.bool false, .bool false]) w := by kernel_rfl
@[go_sem] theorem as_Number_Number (v : Value) (w : World) : (Instr.typeAssert (.iface 157 v) 53 157 true).run Tryz.prog w = .ok (.tuple #[v, .bool true]) w := by kernel_rfl
@[go_sem] theorem as_Number_Text (v : Value) (w : World) : (Instr.typeAssert (.iface 157 v) 53 158 true).run Tryz.prog w = .ok (.tuple #[.string ⟨#[]⟩, .bool false]) w := by kernel_rfl
@[go_sem] theorem as_Number_Null (v : Value) (w : World) : (Instr.typeAssert (.iface 157 v) 53 151 true).run Tryz.prog w = .ok (.tuple #[.agg #[], .bool false]) w := by kernel_rfl
@[go_sem] theorem as_Text_Flag (v : Value) (w : World) : (Instr.typeAssert (.iface 158 v) 53 152 true).run Tryz.prog w = .ok (.tuple #[.bool false, .bool false]) w := by kernel_rfl
@[go_sem] theorem as_Text_Number (v : Value) (w : World) : (Instr.typeAssert (.iface 158 v) 53 157 true).run Tryz.prog w = .ok (.tuple #[.int .i64 0, .bool false]) w := by kernel_rfl
@[go_sem] theorem as_Text_Text (v : Value) (w : World) : (Instr.typeAssert (.iface 158 v) 53 158 true).run Tryz.prog w = .ok (.tuple #[v, .bool true]) w := by kernel_rfl
@[go_sem] theorem as_Text_Null (v : Value) (w : World) : (Instr.typeAssert (.iface 158 v) 53 151 true).run Tryz.prog w = .ok (.tuple #[.agg #[], .bool false]) w := by kernel_rfl
@[go_sem] theorem as_Null_Flag (v : Value) (w : World) : (Instr.typeAssert (.iface 151 v) 53 152 true).run Tryz.prog w = .ok (.tuple #[.bool false, .bool false]) w := by kernel_rfl
@[go_sem] theorem as_Null_Number (v : Value) (w : World) : (Instr.typeAssert (.iface 151 v) 53 157 true).run Tryz.prog w = .ok (.tuple #[.int .i64 0, .bool false]) w := by kernel_rfl
@[go_sem] theorem as_Null_Text (v : Value) (w : World) : (Instr.typeAssert (.iface 151 v) 53 158 true).run Tryz.prog w = .ok (.tuple #[.string ⟨#[]⟩, .bool false]) w := by kernel_rfl
@[go_sem] theorem as_Null_Null (v : Value) (w : World) : (Instr.typeAssert (.iface 151 v) 53 151 true).run Tryz.prog w = .ok (.tuple #[v, .bool true]) w := by kernel_rfl
@[go_sem] theorem na_NullKind (d : Nat) (w : World)  : (nilAhead (d + 1) 151 (.agg #[]) "Kind").run Tryz.prog w = .ok (some false) w := by kernel_rfl
@[go_sem] theorem me_NullKind (d : Nat) (w : World)  : (method (d + 1) 151 (.agg #[]) "Kind").run Tryz.prog w = .ok (198, .agg #[]) w := by kernel_rfl
@[go_sem] theorem na_FlagKind (d : Nat) (w : World) (b : Bool) : (nilAhead (d + 1) 152 (.bool b) "Kind").run Tryz.prog w = .ok (some false) w := by kernel_rfl
@[go_sem] theorem me_FlagKind (d : Nat) (w : World) (b : Bool) : (method (d + 1) 152 (.bool b) "Kind").run Tryz.prog w = .ok (200, .bool b) w := by kernel_rfl
@[go_sem] theorem na_NumberKind (d : Nat) (w : World) (n : Int) : (nilAhead (d + 1) 157 (.int .i64 n) "Kind").run Tryz.prog w = .ok (some false) w := by kernel_rfl
@[go_sem] theorem me_NumberKind (d : Nat) (w : World) (n : Int) : (method (d + 1) 157 (.int .i64 n) "Kind").run Tryz.prog w = .ok (202, .int .i64 n) w := by kernel_rfl
@[go_sem] theorem na_TextKind (d : Nat) (w : World) (s : ByteArray) : (nilAhead (d + 1) 158 (.string s) "Kind").run Tryz.prog w = .ok (some false) w := by kernel_rfl
@[go_sem] theorem me_TextKind (d : Nat) (w : World) (s : ByteArray) : (method (d + 1) 158 (.string s) "Kind").run Tryz.prog w = .ok (204, .string s) w := by kernel_rfl
@[go_sem] theorem na_NullPlain (d : Nat) (w : World)  : (nilAhead (d + 1) 151 (.agg #[]) "Plain").run Tryz.prog w = .ok (some false) w := by kernel_rfl
@[go_sem] theorem me_NullPlain (d : Nat) (w : World)  : (method (d + 1) 151 (.agg #[]) "Plain").run Tryz.prog w = .ok (199, .agg #[]) w := by kernel_rfl
@[go_sem] theorem na_FlagPlain (d : Nat) (w : World) (b : Bool) : (nilAhead (d + 1) 152 (.bool b) "Plain").run Tryz.prog w = .ok (some false) w := by kernel_rfl
@[go_sem] theorem me_FlagPlain (d : Nat) (w : World) (b : Bool) : (method (d + 1) 152 (.bool b) "Plain").run Tryz.prog w = .ok (201, .bool b) w := by kernel_rfl
@[go_sem] theorem na_NumberPlain (d : Nat) (w : World) (n : Int) : (nilAhead (d + 1) 157 (.int .i64 n) "Plain").run Tryz.prog w = .ok (some false) w := by kernel_rfl
@[go_sem] theorem me_NumberPlain (d : Nat) (w : World) (n : Int) : (method (d + 1) 157 (.int .i64 n) "Plain").run Tryz.prog w = .ok (203, .int .i64 n) w := by kernel_rfl
@[go_sem] theorem na_TextPlain (d : Nat) (w : World) (s : ByteArray) : (nilAhead (d + 1) 158 (.string s) "Plain").run Tryz.prog w = .ok (some false) w := by kernel_rfl
@[go_sem] theorem me_TextPlain (d : Nat) (w : World) (s : ByteArray) : (method (d + 1) 158 (.string s) "Plain").run Tryz.prog w = .ok (205, .string s) w := by kernel_rfl

end Go.Proofs.YtfdhklpabhhjjaaGreatDoor
