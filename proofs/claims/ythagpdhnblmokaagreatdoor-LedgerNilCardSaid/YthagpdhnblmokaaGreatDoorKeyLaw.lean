/- Closed facts on the types of the program's map keys. -/
import Derived.Test.YthagpdhnblmokaaGreatDoorBase
import Derived.Maps.OwnOps
import Derived.Maps.OwnSet
import Derived.Maps.RangeWalk
import Derived.DeepKeys4
namespace Go.Proofs.YthagpdhnblmokaaGreatDoor
open Go.RowKit Go.Maps
theorem laidOut : laidOutB Tryz.prog = true := by kernel_rfl
theorem lawKey : Keyed Tryz.prog 33 := Keyed.of_law (deep_law_laid laidOut (m := 2) (by omega) (of_decide_eq_true (by kernel_rfl)) (by kernel_rfl) (by kernel_rfl))
theorem lawPair : Keyed Tryz.prog 157 := Keyed.of_law (deep_law_laid laidOut (m := 2) (by omega) (of_decide_eq_true (by kernel_rfl)) (by kernel_rfl) (by kernel_rfl))
theorem ktKey : Tryz.prog.keyType 33 = true := by kernel_rfl
theorem ktPair : Tryz.prog.keyType 157 = true := by kernel_rfl
theorem nTypes : ∃ n, Tryz.prog.types.size = n + 3 := ⟨Tryz.prog.types.size - 3, (Nat.sub_add_cancel (of_decide_eq_true (by kernel_rfl))).symm⟩

theorem cellsKey : Tryz.prog.cellsOf 33 = 4 := by kernel_rfl
theorem cellsPair : Tryz.prog.cellsOf 157 = 3 := by kernel_rfl
theorem cellsU32 : Tryz.prog.cellsOf 23 = 1 := by kernel_rfl
theorem cellsDay : Tryz.prog.cellsOf 31 = 1 := by kernel_rfl
theorem cellsByte : Tryz.prog.cellsOf 5 = 1 := by kernel_rfl
theorem cellsBool : Tryz.prog.cellsOf 4 = 1 := by kernel_rfl
end Go.Proofs.YthagpdhnblmokaaGreatDoor
