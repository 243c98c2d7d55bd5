/- Closed facts of the program, used by each law's row. -/
import Derived.Test.YthagpdhnblmokaaGreatDoorRows
import Derived.Test.YthagpdhnblmokaaGreatDoorKeyLaw
import Derived.JoinedOf
import Derived.SevenTiedAt
import Derived.KernelRfl
namespace Go.Proofs.YthagpdhnblmokaaGreatDoor
theorem mapsRowedAll : mapsRowed Tryz.prog = true := by kernel_rfl
theorem noStops : (Tryz.prog.stops == []) = true := by kernel_rfl
theorem noKnobs : (Tryz.prog.stopKnobs == []) = true := by kernel_rfl
theorem keysPlain : Tryz.prog.plainKeys = false := by kernel_rfl
theorem heardAll : Tryz.prog.stopsHeard = true := by kernel_rfl
theorem enterAll : Tryz.prog.mayEnter = true := by kernel_rfl
theorem looksAll : true = Tryz.prog.looks [] := by kernel_rfl
theorem own : ownKnob Tryz.prog.godebug = none := by kernel_rfl
end Go.Proofs.YthagpdhnblmokaaGreatDoor
