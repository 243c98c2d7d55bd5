/- The order's test of the last region of LedgerNil. -/
import Derived.Test.YthagpdhnblmokaaGreatDoorBig
import Derived.Test.YthagpdhnblmokaaGreatDoorProg
import Derived.KernelRfl
namespace Go.Proofs.YthagpdhnblmokaaGreatDoor
theorem nil_order : Region.lexB .any (opsOf Tryz.f5 18).toArray = true := lexB_of_sk (by kernel_rfl) rfl (by kernel_rfl)
end Go.Proofs.YthagpdhnblmokaaGreatDoor
