/- Closed facts of the row of AlgebraSelects that take the kernel long. -/
import Derived.Test.YtmhjojadboilbaaGreatDoorEvRow
set_option linter.unusedVariables false
set_option linter.unusedSimpArgs false
set_option linter.unusedSectionVars false
namespace Go.Proofs.YtmhjojadboilbaaGreatDoor.algebraSelects
theorem k_inPlace : (Rows.algebraSelectsRow.inPlace == Tryz.prog.inPlace 5) = true := by kernel_rfl
theorem k_unfollowed : (Rows.algebraSelectsRow.unfollowed == Tryz.prog.unfollowed 5) = true := by kernel_rfl
theorem k_recurses : (Rows.algebraSelectsRow.recurses == Tryz.prog.recurses 5) = true := by kernel_rfl
theorem k_named : (Rows.algebraSelectsRow.named == Tryz.prog.varsNamed 5) = true := by kernel_rfl
end Go.Proofs.YtmhjojadboilbaaGreatDoor.algebraSelects
