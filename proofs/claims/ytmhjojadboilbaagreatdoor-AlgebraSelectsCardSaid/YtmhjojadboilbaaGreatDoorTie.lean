/-
  DERIVED. GIVEN WITH THE SEED: THE PROGRAM's TIES (one call each: nine closed facts by the kernel) AND EACH ROW's TIE, after the 31st guide's Derived/Test/Toyas{Tie, Card}.lean. No idea stands in it: it is a product of the set-up. Laid BY PROGRAM, IN A SANDBOX (cutbox-door.mjs). By AI agents, Wed Nov 11 2026. No macro, syntax, notation, axiom, sorry.
-/
import Derived.Test.YtmhjojadboilbaaGreatDoorRows
import Derived.LaidByTextLater
import Derived.SevenTiedAt
import Derived.LaidSub
import Derived.LaidOnce
namespace Go.Proofs.YtmhjojadboilbaaGreatDoor
open Go
set_option maxRecDepth 100000
theorem seatTie1 : Tryz.prog.laidByTextLater [("math/bits.deBruijn32tab", Rows.laid_math_bits_deBruijn32tab), ("math/bits.deBruijn64tab", Rows.laid_math_bits_deBruijn64tab), ("internal/strconv.uint64pow10", Rows.laid_internal_strconv_uint64pow10), ("unicode.White_Space", Rows.laid_unicode_White_Space), ("strings.asciiSpace", Rows.laid_strings_asciiSpace), ("sleuth/syntax.tight", Rows.laid_sleuth_syntax_tight), ("sleuth/syntax.closing", Rows.laid_sleuth_syntax_closing), ("sleuth/syntax.relationNames", Rows.laid_sleuth_syntax_relationNames), ("sleuth/syntax.aggregateNames", Rows.laid_sleuth_syntax_aggregateNames)] [.data, .data, .data, .listed, .data, .widerDeep, .widerDeep, .widerDeep, .widerDeep] true :=
  Program.laidByTextLater_by_one 68 8 257 (by kernel_rfl) (by kernel_rfl) (by kernel_rfl) (by kernel_rfl) (by kernel_rfl) (by kernel_rfl) (fun _ _ => by kernel_rfl)
theorem noOwnUnsafe : Tryz.pinned.checked.prog.headLifts.contains "ownunsafe" = false := by kernel_rfl
theorem tie : Tryz.prog.laidByTextLater [("math/bits.deBruijn32tab", Rows.laid_math_bits_deBruijn32tab), ("math/bits.deBruijn64tab", Rows.laid_math_bits_deBruijn64tab), ("internal/strconv.uint64pow10", Rows.laid_internal_strconv_uint64pow10), ("unicode.White_Space", Rows.laid_unicode_White_Space), ("strings.asciiSpace", Rows.laid_strings_asciiSpace), ("sleuth/syntax.tight", Rows.laid_sleuth_syntax_tight), ("sleuth/syntax.closing", Rows.laid_sleuth_syntax_closing), ("sleuth/syntax.relationNames", Rows.laid_sleuth_syntax_relationNames), ("sleuth/syntax.aggregateNames", Rows.laid_sleuth_syntax_aggregateNames)] [.data, .data, .data, .listed, .data, .widerDeep, .widerDeep, .widerDeep, .widerDeep] true :=
  Program.laidByTextLater.sub seatTie1 ["math/bits.deBruijn32tab", "math/bits.deBruijn64tab", "internal/strconv.uint64pow10", "unicode.White_Space", "strings.asciiSpace", "sleuth/syntax.tight", "sleuth/syntax.closing", "sleuth/syntax.relationNames", "sleuth/syntax.aggregateNames"] (by kernel_rfl) (by kernel_rfl)
theorem algebraChecks_row_tie : Rows.algebraChecksRow.laidByTextAt .later Tryz.pinned [.data, .data, .data, .listed, .data, .widerDeep, .widerDeep, .widerDeep, .widerDeep] true :=
  OpenClaim.laidByTextAt_later rfl rfl tie noOwnUnsafe
theorem algebraValues_row_tie : Rows.algebraValuesRow.laidByTextAt .later Tryz.pinned [.data, .data, .data, .listed, .data, .widerDeep, .widerDeep, .widerDeep, .widerDeep] true :=
  OpenClaim.laidByTextAt_later rfl rfl tie noOwnUnsafe
theorem algebraSelects_row_tie : Rows.algebraSelectsRow.laidByTextAt .later Tryz.pinned [.data, .data, .data, .listed, .data, .widerDeep, .widerDeep, .widerDeep, .widerDeep] true :=
  OpenClaim.laidByTextAt_later rfl rfl tie noOwnUnsafe
theorem algebraMatches_row_tie : Rows.algebraMatchesRow.laidByTextAt .later Tryz.pinned [.data, .data, .data, .listed, .data, .widerDeep, .widerDeep, .widerDeep, .widerDeep] true :=
  OpenClaim.laidByTextAt_later rfl rfl tie noOwnUnsafe
theorem algebraEvaluates_row_tie : Rows.algebraEvaluatesRow.laidByTextAt .later Tryz.pinned [.data, .data, .data, .listed, .data, .widerDeep, .widerDeep, .widerDeep, .widerDeep] true :=
  OpenClaim.laidByTextAt_later rfl rfl tie noOwnUnsafe
theorem algebraErrors_row_tie : Rows.algebraErrorsRow.laidByTextAt .later Tryz.pinned [.data, .data, .data, .listed, .data, .widerDeep, .widerDeep, .widerDeep, .widerDeep] true :=
  OpenClaim.laidByTextAt_later rfl rfl tie noOwnUnsafe
theorem algebraAggregates_row_tie : Rows.algebraAggregatesRow.laidByTextAt .later Tryz.pinned [.data, .data, .data, .listed, .data, .widerDeep, .widerDeep, .widerDeep, .widerDeep] true :=
  OpenClaim.laidByTextAt_later rfl rfl tie noOwnUnsafe
theorem algebraArranges_row_tie : Rows.algebraArrangesRow.laidByTextAt .later Tryz.pinned [.data, .data, .data, .listed, .data, .widerDeep, .widerDeep, .widerDeep, .widerDeep] true :=
  OpenClaim.laidByTextAt_later rfl rfl tie noOwnUnsafe
theorem algebraNarrows_row_tie : Rows.algebraNarrowsRow.laidByTextAt .later Tryz.pinned [.data, .data, .data, .listed, .data, .widerDeep, .widerDeep, .widerDeep, .widerDeep] true :=
  OpenClaim.laidByTextAt_later rfl rfl tie noOwnUnsafe
theorem algebraAdds_row_tie : Rows.algebraAddsRow.laidByTextAt .later Tryz.pinned [.data, .data, .data, .listed, .data, .widerDeep, .widerDeep, .widerDeep, .widerDeep] true :=
  OpenClaim.laidByTextAt_later rfl rfl tie noOwnUnsafe
theorem algebraChecksUpto_row_tie : Rows.algebraChecksUptoRow.laidByTextAt .later Tryz.pinned [.data, .data, .data, .listed, .data, .widerDeep, .widerDeep, .widerDeep, .widerDeep] true :=
  OpenClaim.laidByTextAt_later rfl rfl tie noOwnUnsafe
theorem algebraValuesUpto_row_tie : Rows.algebraValuesUptoRow.laidByTextAt .later Tryz.pinned [.data, .data, .data, .listed, .data, .widerDeep, .widerDeep, .widerDeep, .widerDeep] true :=
  OpenClaim.laidByTextAt_later rfl rfl tie noOwnUnsafe
theorem algebraSelectsUpto_row_tie : Rows.algebraSelectsUptoRow.laidByTextAt .later Tryz.pinned [.data, .data, .data, .listed, .data, .widerDeep, .widerDeep, .widerDeep, .widerDeep] true :=
  OpenClaim.laidByTextAt_later rfl rfl tie noOwnUnsafe
theorem algebraMatchesUpto_row_tie : Rows.algebraMatchesUptoRow.laidByTextAt .later Tryz.pinned [.data, .data, .data, .listed, .data, .widerDeep, .widerDeep, .widerDeep, .widerDeep] true :=
  OpenClaim.laidByTextAt_later rfl rfl tie noOwnUnsafe
theorem algebraEvaluatesUpto_row_tie : Rows.algebraEvaluatesUptoRow.laidByTextAt .later Tryz.pinned [.data, .data, .data, .listed, .data, .widerDeep, .widerDeep, .widerDeep, .widerDeep] true :=
  OpenClaim.laidByTextAt_later rfl rfl tie noOwnUnsafe
theorem algebraErrorsUpto_row_tie : Rows.algebraErrorsUptoRow.laidByTextAt .later Tryz.pinned [.data, .data, .data, .listed, .data, .widerDeep, .widerDeep, .widerDeep, .widerDeep] true :=
  OpenClaim.laidByTextAt_later rfl rfl tie noOwnUnsafe
theorem algebraAggregatesUpto_row_tie : Rows.algebraAggregatesUptoRow.laidByTextAt .later Tryz.pinned [.data, .data, .data, .listed, .data, .widerDeep, .widerDeep, .widerDeep, .widerDeep] true :=
  OpenClaim.laidByTextAt_later rfl rfl tie noOwnUnsafe
theorem algebraArrangesUpto_row_tie : Rows.algebraArrangesUptoRow.laidByTextAt .later Tryz.pinned [.data, .data, .data, .listed, .data, .widerDeep, .widerDeep, .widerDeep, .widerDeep] true :=
  OpenClaim.laidByTextAt_later rfl rfl tie noOwnUnsafe
theorem algebraNarrowsUpto_row_tie : Rows.algebraNarrowsUptoRow.laidByTextAt .later Tryz.pinned [.data, .data, .data, .listed, .data, .widerDeep, .widerDeep, .widerDeep, .widerDeep] true :=
  OpenClaim.laidByTextAt_later rfl rfl tie noOwnUnsafe
theorem algebraAddsUpto_row_tie : Rows.algebraAddsUptoRow.laidByTextAt .later Tryz.pinned [.data, .data, .data, .listed, .data, .widerDeep, .widerDeep, .widerDeep, .widerDeep] true :=
  OpenClaim.laidByTextAt_later rfl rfl tie noOwnUnsafe
end Go.Proofs.YtmhjojadboilbaaGreatDoor
