/- A world in which the tables of this seat's rows lie as the program lays them: what the rows' witnesses need. -/
import Derived.Test.YtmhjojadboilbaaGreatDoorRows
import Derived.ProofKit
import Derived.OpenShut
import Derived.Deep.DeepHandedRow
import Derived.Deep.DeepWitnessRowRef
import Derived.Deep.DeepLaidRun
set_option linter.unusedVariables false
set_option linter.unusedSimpArgs false
set_option linter.unusedSectionVars false
namespace Go.Proofs.YtmhjojadboilbaaGreatDoor
open Go.ChangeShapes Go.WideShapes Go.ChangeAt Go.RowKit

theorem own : ownKnob Tryz.prog.godebug = none := by kernel_rfl

/-- The cells of a listed row of plain data. -/
def flatCells : Nat → DataW Unit → List Value
  | _, .lit (.int k z) => [.int k z]
  | _, .lit (.string bs) => [.string ⟨bs.toArray⟩]
  | n + 1, .agg ds => ds.flatMap (flatCells n)
  | n + 1, .slice ds _ => ds.flatMap (flatCells n)
  | _, _ => []

/-- The ranges of unicode.White_Space. -/
def ranges : DataW Unit → List Value
  | .ptr (.agg (d :: _)) => flatCells 3 d
  | _ => []

noncomputable def firstNew (os : Os) : Nat := (World.settled Tryz.prog os).heap.size

/-- The settled world, with the tables. -/
noncomputable def laidWorld (os : Os) : World :=
  let n := firstNew os
  let w0 := World.holding Tryz.prog os ⟨#[.cells (flatCells 2 Rows.laid_sleuth_syntax_relationNames).toArray 9, .cells (flatCells 2 Rows.laid_sleuth_syntax_aggregateNames).toArray 9, .cells (flatCells 2 Rows.laid_sleuth_syntax_tight).toArray 9,
    .cells (flatCells 2 Rows.laid_sleuth_syntax_closing).toArray 9, .cells #[.slice (some ⟨n + 5, 0, none⟩) 7 7, .slice none 0 0, .int .i64 2] 430, .cells (ranges Rows.laid_unicode_White_Space).toArray 433], #[], []⟩
  let put (h : Array Obj) (g : Nat) (cs : Array Value) : Array Obj := h.modify g fun
    | .cells _ t frozen => .cells cs t frozen
    | o => o
  let h0 := put w0.heap 0 #[.slice (some ⟨n, 0, none⟩) 6 6]
  let h1 := put h0 1 #[.slice (some ⟨n + 1, 0, none⟩) 9 9]
  let h2 := put h1 2 (flatCells 2 Rows.laid_strings_asciiSpace).toArray
  let h3 := put h2 3 #[.slice (some ⟨n + 2, 0, none⟩) 3 3]
  let h4 := put h3 4 #[.slice (some ⟨n + 3, 0, none⟩) 5 5]
  let h5 := put h4 5 #[.pointer (some ⟨n + 4, 0, none⟩)]
  let h6 := put h5 6 (flatCells 2 Rows.laid_internal_strconv_uint64pow10).toArray
  let h7 := put h6 7 (flatCells 2 Rows.laid_math_bits_deBruijn32tab).toArray
  let h8 := put h7 8 (flatCells 2 Rows.laid_math_bits_deBruijn64tab).toArray
  { w0 with heap := h8 }

theorem laid_met (os : Os) (args : Array Value) : laidMet Tryz.prog Rows.algebraSelectsRow.laid ((laidWorld os).forCall (fun _ _ => 0) ⟨#[], args, []⟩).memory :=
  laidMet_of_run3 8 (by kernel_rfl) (by kernel_rfl) (by kernel_rfl)
end Go.Proofs.YtmhjojadboilbaaGreatDoor
