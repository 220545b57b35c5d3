/- For any interval and any trace id, Selects reports whether the interval is zero, or contains the slot: the law's function returns true for every input, on every tape and in every order. No condition but that the listed package-level variables hold what the program's text lays. -/
import Derived.Test.YtmhjojadboilbaaGreatDoorEvSelB
import Derived.Test.YtmhjojadboilbaaGreatDoorEvCard
import Derived.Test.YtmhjojadboilbaaGreatDoorCards
import Derived.Test.YtmhjojadboilbaaGreatDoorTie
set_option linter.unusedVariables false
set_option linter.unusedSimpArgs false
set_option linter.unusedSectionVars false
namespace Go.Proofs.YtmhjojadboilbaaGreatDoor.algebraSelects
open Go.ChangeShapes Go.WideShapes Go.ChangeAt Go.RowKit

theorem c_wf : Rows.algebraSelectsRow.wfByText (OpenSpec.ofChange Rows.algebraSelectsSpec) = true := by kernel_rfl
theorem c_goes : false = Rows.algebraSelectsRow.goesBy Tryz.prog := by kernel_rfl

theorem plain (f : FuncId) (fn : Func) (hf : Tryz.pinned.checked.prog.funcNamed "sleuth/sleuthlaw39.AlgebraSelects" = some f) (hfn : Tryz.pinned.checked.prog.funcs[f]? = some fn) :
    false = Tryz.pinned.checked.prog.looks [] ∧ ∀ (j : Nat) t, fn.params[j]? = some t → Tryz.pinned.checked.prog.wantsStandIn t = false := by
  obtain rfl : f = 5 := Option.some.inj ((show Tryz.prog.funcNamed "sleuth/sleuthlaw39.AlgebraSelects" = some 5 by kernel_rfl).symm.trans hf) |>.symm
  obtain rfl : fn = Tryz.f5 := (Option.some.inj (Tryz.func5.symm.trans hfn)).symm
  refine ⟨p_looks, fun j t ht => ?_⟩
  rw [Tryz.params5] at ht
  have : t = 56 ∨ t = 3 := by simpa using Array.mem_of_getElem? ht
  rcases this with rfl | rfl
  · exact (show Tryz.prog.wantsStandIn 56 = false by kernel_rfl)
  · exact (show Tryz.prog.wantsStandIn 3 = false by kernel_rfl)

theorem card : Rows.AlgebraSelectsCardSaid :=
  Claim7.holds_tied_plain_at .later [] _ _ _ _ said (fun _ h => by cases h) c_wf (fun _ h => by cases h) algebraSelects_row_tie rfl ⟨rfl, rfl⟩ p_main rfl plain c_goes
#print axioms card
end Go.Proofs.YtmhjojadboilbaaGreatDoor.algebraSelects
