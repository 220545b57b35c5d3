/- Closed facts of the seat's cards. -/
import Derived.Test.YtmhjojadboilbaaGreatDoorRows
import Derived.SevenTiedAt
set_option linter.unusedVariables false
set_option linter.unusedSimpArgs false
set_option linter.unusedSectionVars false
namespace Go.Proofs.YtmhjojadboilbaaGreatDoor
theorem p_main : Tryz.prog.mainIs = some (true, "28f09d7cabfff389cf9ea63f2267f5e9dfe4b841595903a6a2c4051dada5a65c".toList) := by kernel_rfl
theorem p_looks : false = Tryz.prog.looks [] := by kernel_rfl
end Go.Proofs.YtmhjojadboilbaaGreatDoor
