/- type assertions of errors.as. -/
import Derived.Test.YthagpdhnblmokaaGreatDoorAsFacts
namespace Go.Proofs.YthagpdhnblmokaaGreatDoor
open Go.RowKit Go.Extern.Stop Go.Stop Go.Extern

theorem Tryz.taAsPFault (v : Value) (w : World) : (Instr.typeAssert (.iface 163 v) 67 336 true).run Tryz.prog w = .ok (.tuple #[.nilIface, .bool false]) w := run_typeAssert_lacksB Tryz.underlying336 (by kernel_rfl) (by kernel_rfl) v 67 w
theorem Tryz.taUnwrapPFault (v : Value) (w : World) : (Instr.typeAssert (.iface 163 v) 67 339 true).run Tryz.prog w = .ok (.tuple #[.iface 163 v, .bool true]) w := run_typeAssert_hasB Tryz.underlying339 (by kernel_rfl) v 67 w
theorem Tryz.taAsErrno (v : Value) (w : World) : (Instr.typeAssert (.iface 69 v) 67 336 true).run Tryz.prog w = .ok (.tuple #[.nilIface, .bool false]) w := run_typeAssert_lacksB Tryz.underlying336 (by kernel_rfl) (by kernel_rfl) v 67 w
theorem Tryz.taUnwrapErrno (v : Value) (w : World) : (Instr.typeAssert (.iface 69 v) 67 339 true).run Tryz.prog w = .ok (.tuple #[.nilIface, .bool false]) w := run_typeAssert_lacksB Tryz.underlying339 (by kernel_rfl) (by kernel_rfl) v 67 w
theorem Tryz.taUnwrapsErrno (v : Value) (w : World) : (Instr.typeAssert (.iface 69 v) 67 340 true).run Tryz.prog w = .ok (.tuple #[.nilIface, .bool false]) w := run_typeAssert_lacksB Tryz.underlying340 (by kernel_rfl) (by kernel_rfl) v 67 w
end Go.Proofs.YthagpdhnblmokaaGreatDoor
