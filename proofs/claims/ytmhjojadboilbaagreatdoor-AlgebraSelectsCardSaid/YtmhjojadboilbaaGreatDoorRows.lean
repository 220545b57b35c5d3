/-
  NARROWER THAN 'FOR EVERY INPUT', by the rows' own cells (each row's printed sentence says how): AlgebraChecks: laid · AlgebraValues: laid · AlgebraSelects: laid · AlgebraMatches: laid · AlgebraEvaluates: laid · AlgebraErrors: loops, laid · AlgebraAggregates: laid · AlgebraArranges: laid · AlgebraNarrows: laid · AlgebraAdds: laid.
  DERIVED. THE GIVEN ROWS OF THIS SEAT. 10 by the template 'for every input the law returns true; each argument reads behind the call as it read before'; 0 by the template 'total and deterministic' (their statements: YtmhjojadboilbaaGreatDoorTotals.lean).
  GIVEN WITH THE SEED: the statements are not yours to turn. If you find one false, say at which input.
  Laid BY PROGRAM, IN A SANDBOX (cutbox-rows.mjs): the forced cells as the released guide's own fill.sh prints them over the translation cc14fe9f23d34e9e… (all of the seat's roots in one cut). By AI agents, Wed Nov 11 2026. No macro, syntax, notation, axiom, sorry.
-/
import Derived.Test.YtmhjojadboilbaaGreatDoorChecked
import GoSem.Claim
import GoSem.ClaimJoined
import GoSem.ClaimMapViews
import Derived.JoinedTies
import Derived.KernelRfl
namespace Go.Proofs.YtmhjojadboilbaaGreatDoor
/- THE CELL 'sum', in the pinned program and in every row, IS THE sha256 OF THE DUMP (.gsa) THAT YtmhjojadboilbaaGreatDoorProg.lean LOADS. Nothing in Lean hashes anything: it is a label: what it is worth is what the hold of that sum in a sandbox is worth. -/
noncomputable def Tryz.pinned : Pinned := { name := "ytmhjojadboilbaagreatdoor", sum := "cc14fe9f23d34e9e0a2eb309d6c1efebfd146246a9bf0a8163971181f1034439", checked := Tryz.checked }
namespace Rows
def none {H : Type} : Left H := { results := [], args := [] }

/- WHAT THE LISTED PACKAGE-LEVEL VARIABLES READ AS WHEN THE CALL BEGINS. Each datum BY PROGRAM (the guide's laid-datum.mjs) off the statement by which the dump's own 'gosem.cut.vars' lays the variable. In a bare row this is a premise. The card (YtmhjojadboilbaaGreatDoorCards.lean) ties it to the program's text. -/
def laid_math_bits_deBruijn32tab {H : Type} : DataW H := .agg [.lit (.int .u8 0), .lit (.int .u8 1), .lit (.int .u8 28), .lit (.int .u8 2), .lit (.int .u8 29), .lit (.int .u8 14), .lit (.int .u8 24), .lit (.int .u8 3), .lit (.int .u8 30), .lit (.int .u8 22), .lit (.int .u8 20), .lit (.int .u8 15), .lit (.int .u8 25), .lit (.int .u8 17), .lit (.int .u8 4), .lit (.int .u8 8), .lit (.int .u8 31), .lit (.int .u8 27), .lit (.int .u8 13), .lit (.int .u8 23), .lit (.int .u8 21), .lit (.int .u8 19), .lit (.int .u8 16), .lit (.int .u8 7), .lit (.int .u8 26), .lit (.int .u8 12), .lit (.int .u8 18), .lit (.int .u8 6), .lit (.int .u8 11), .lit (.int .u8 5), .lit (.int .u8 10), .lit (.int .u8 9)]
def laid_math_bits_deBruijn64tab {H : Type} : DataW H := .agg [.lit (.int .u8 0), .lit (.int .u8 1), .lit (.int .u8 56), .lit (.int .u8 2), .lit (.int .u8 57), .lit (.int .u8 49), .lit (.int .u8 28), .lit (.int .u8 3), .lit (.int .u8 61), .lit (.int .u8 58), .lit (.int .u8 42), .lit (.int .u8 50), .lit (.int .u8 38), .lit (.int .u8 29), .lit (.int .u8 17), .lit (.int .u8 4), .lit (.int .u8 62), .lit (.int .u8 47), .lit (.int .u8 59), .lit (.int .u8 36), .lit (.int .u8 45), .lit (.int .u8 43), .lit (.int .u8 51), .lit (.int .u8 22), .lit (.int .u8 53), .lit (.int .u8 39), .lit (.int .u8 33), .lit (.int .u8 30), .lit (.int .u8 24), .lit (.int .u8 18), .lit (.int .u8 12), .lit (.int .u8 5), .lit (.int .u8 63), .lit (.int .u8 55), .lit (.int .u8 48), .lit (.int .u8 27), .lit (.int .u8 60), .lit (.int .u8 41), .lit (.int .u8 37), .lit (.int .u8 16), .lit (.int .u8 46), .lit (.int .u8 35), .lit (.int .u8 44), .lit (.int .u8 21), .lit (.int .u8 52), .lit (.int .u8 32), .lit (.int .u8 23), .lit (.int .u8 11), .lit (.int .u8 54), .lit (.int .u8 26), .lit (.int .u8 40), .lit (.int .u8 15), .lit (.int .u8 34), .lit (.int .u8 20), .lit (.int .u8 31), .lit (.int .u8 10), .lit (.int .u8 25), .lit (.int .u8 14), .lit (.int .u8 19), .lit (.int .u8 9), .lit (.int .u8 13), .lit (.int .u8 8), .lit (.int .u8 7), .lit (.int .u8 6)]
def laid_internal_strconv_uint64pow10 {H : Type} : DataW H := .agg [.lit (.int .u64 1), .lit (.int .u64 10), .lit (.int .u64 100), .lit (.int .u64 1000), .lit (.int .u64 10000), .lit (.int .u64 100000), .lit (.int .u64 1000000), .lit (.int .u64 10000000), .lit (.int .u64 100000000), .lit (.int .u64 1000000000), .lit (.int .u64 10000000000), .lit (.int .u64 100000000000), .lit (.int .u64 1000000000000), .lit (.int .u64 10000000000000), .lit (.int .u64 100000000000000), .lit (.int .u64 1000000000000000), .lit (.int .u64 10000000000000000), .lit (.int .u64 100000000000000000), .lit (.int .u64 1000000000000000000), .lit (.int .u64 10000000000000000000)]
def laid_unicode_White_Space {H : Type} : DataW H := .ptr (.agg [.slice [.agg [.lit (.int .u16 9), .lit (.int .u16 13), .lit (.int .u16 1)], .agg [.lit (.int .u16 32), .lit (.int .u16 133), .lit (.int .u16 101)], .agg [.lit (.int .u16 160), .lit (.int .u16 5760), .lit (.int .u16 5600)], .agg [.lit (.int .u16 8192), .lit (.int .u16 8202), .lit (.int .u16 1)], .agg [.lit (.int .u16 8232), .lit (.int .u16 8233), .lit (.int .u16 1)], .agg [.lit (.int .u16 8239), .lit (.int .u16 8287), .lit (.int .u16 48)], .agg [.lit (.int .u16 12288), .lit (.int .u16 12288), .lit (.int .u16 1)]] [], .nil, .lit (.int .i64 2)])
def laid_strings_asciiSpace {H : Type} : DataW H := .agg [.lit (.int .u8 0), .lit (.int .u8 0), .lit (.int .u8 0), .lit (.int .u8 0), .lit (.int .u8 0), .lit (.int .u8 0), .lit (.int .u8 0), .lit (.int .u8 0), .lit (.int .u8 0), .lit (.int .u8 1), .lit (.int .u8 1), .lit (.int .u8 1), .lit (.int .u8 1), .lit (.int .u8 1), .lit (.int .u8 0), .lit (.int .u8 0), .lit (.int .u8 0), .lit (.int .u8 0), .lit (.int .u8 0), .lit (.int .u8 0), .lit (.int .u8 0), .lit (.int .u8 0), .lit (.int .u8 0), .lit (.int .u8 0), .lit (.int .u8 0), .lit (.int .u8 0), .lit (.int .u8 0), .lit (.int .u8 0), .lit (.int .u8 0), .lit (.int .u8 0), .lit (.int .u8 0), .lit (.int .u8 0), .lit (.int .u8 1), .lit (.int .u8 0), .lit (.int .u8 0), .lit (.int .u8 0), .lit (.int .u8 0), .lit (.int .u8 0), .lit (.int .u8 0), .lit (.int .u8 0), .lit (.int .u8 0), .lit (.int .u8 0), .lit (.int .u8 0), .lit (.int .u8 0), .lit (.int .u8 0), .lit (.int .u8 0), .lit (.int .u8 0), .lit (.int .u8 0), .lit (.int .u8 0), .lit (.int .u8 0), .lit (.int .u8 0), .lit (.int .u8 0), .lit (.int .u8 0), .lit (.int .u8 0), .lit (.int .u8 0), .lit (.int .u8 0), .lit (.int .u8 0), .lit (.int .u8 0), .lit (.int .u8 0), .lit (.int .u8 0), .lit (.int .u8 0), .lit (.int .u8 0), .lit (.int .u8 0), .lit (.int .u8 0), .lit (.int .u8 0), .lit (.int .u8 0), .lit (.int .u8 0), .lit (.int .u8 0), .lit (.int .u8 0), .lit (.int .u8 0), .lit (.int .u8 0), .lit (.int .u8 0), .lit (.int .u8 0), .lit (.int .u8 0), .lit (.int .u8 0), .lit (.int .u8 0), .lit (.int .u8 0), .lit (.int .u8 0), .lit (.int .u8 0), .lit (.int .u8 0), .lit (.int .u8 0), .lit (.int .u8 0), .lit (.int .u8 0), .lit (.int .u8 0), .lit (.int .u8 0), .lit (.int .u8 0), .lit (.int .u8 0), .lit (.int .u8 0), .lit (.int .u8 0), .lit (.int .u8 0), .lit (.int .u8 0), .lit (.int .u8 0), .lit (.int .u8 0), .lit (.int .u8 0), .lit (.int .u8 0), .lit (.int .u8 0), .lit (.int .u8 0), .lit (.int .u8 0), .lit (.int .u8 0), .lit (.int .u8 0), .lit (.int .u8 0), .lit (.int .u8 0), .lit (.int .u8 0), .lit (.int .u8 0), .lit (.int .u8 0), .lit (.int .u8 0), .lit (.int .u8 0), .lit (.int .u8 0), .lit (.int .u8 0), .lit (.int .u8 0), .lit (.int .u8 0), .lit (.int .u8 0), .lit (.int .u8 0), .lit (.int .u8 0), .lit (.int .u8 0), .lit (.int .u8 0), .lit (.int .u8 0), .lit (.int .u8 0), .lit (.int .u8 0), .lit (.int .u8 0), .lit (.int .u8 0), .lit (.int .u8 0), .lit (.int .u8 0), .lit (.int .u8 0), .lit (.int .u8 0), .lit (.int .u8 0), .lit (.int .u8 0), .lit (.int .u8 0), .lit (.int .u8 0), .lit (.int .u8 0), .lit (.int .u8 0), .lit (.int .u8 0), .lit (.int .u8 0), .lit (.int .u8 0), .lit (.int .u8 0), .lit (.int .u8 0), .lit (.int .u8 0), .lit (.int .u8 0), .lit (.int .u8 0), .lit (.int .u8 0), .lit (.int .u8 0), .lit (.int .u8 0), .lit (.int .u8 0), .lit (.int .u8 0), .lit (.int .u8 0), .lit (.int .u8 0), .lit (.int .u8 0), .lit (.int .u8 0), .lit (.int .u8 0), .lit (.int .u8 0), .lit (.int .u8 0), .lit (.int .u8 0), .lit (.int .u8 0), .lit (.int .u8 0), .lit (.int .u8 0), .lit (.int .u8 0), .lit (.int .u8 0), .lit (.int .u8 0), .lit (.int .u8 0), .lit (.int .u8 0), .lit (.int .u8 0), .lit (.int .u8 0), .lit (.int .u8 0), .lit (.int .u8 0), .lit (.int .u8 0), .lit (.int .u8 0), .lit (.int .u8 0), .lit (.int .u8 0), .lit (.int .u8 0), .lit (.int .u8 0), .lit (.int .u8 0), .lit (.int .u8 0), .lit (.int .u8 0), .lit (.int .u8 0), .lit (.int .u8 0), .lit (.int .u8 0), .lit (.int .u8 0), .lit (.int .u8 0), .lit (.int .u8 0), .lit (.int .u8 0), .lit (.int .u8 0), .lit (.int .u8 0), .lit (.int .u8 0), .lit (.int .u8 0), .lit (.int .u8 0), .lit (.int .u8 0), .lit (.int .u8 0), .lit (.int .u8 0), .lit (.int .u8 0), .lit (.int .u8 0), .lit (.int .u8 0), .lit (.int .u8 0), .lit (.int .u8 0), .lit (.int .u8 0), .lit (.int .u8 0), .lit (.int .u8 0), .lit (.int .u8 0), .lit (.int .u8 0), .lit (.int .u8 0), .lit (.int .u8 0), .lit (.int .u8 0), .lit (.int .u8 0), .lit (.int .u8 0), .lit (.int .u8 0), .lit (.int .u8 0), .lit (.int .u8 0), .lit (.int .u8 0), .lit (.int .u8 0), .lit (.int .u8 0), .lit (.int .u8 0), .lit (.int .u8 0), .lit (.int .u8 0), .lit (.int .u8 0), .lit (.int .u8 0), .lit (.int .u8 0), .lit (.int .u8 0), .lit (.int .u8 0), .lit (.int .u8 0), .lit (.int .u8 0), .lit (.int .u8 0), .lit (.int .u8 0), .lit (.int .u8 0), .lit (.int .u8 0), .lit (.int .u8 0), .lit (.int .u8 0), .lit (.int .u8 0), .lit (.int .u8 0), .lit (.int .u8 0), .lit (.int .u8 0), .lit (.int .u8 0), .lit (.int .u8 0), .lit (.int .u8 0), .lit (.int .u8 0), .lit (.int .u8 0), .lit (.int .u8 0), .lit (.int .u8 0), .lit (.int .u8 0), .lit (.int .u8 0), .lit (.int .u8 0), .lit (.int .u8 0), .lit (.int .u8 0), .lit (.int .u8 0), .lit (.int .u8 0), .lit (.int .u8 0), .lit (.int .u8 0), .lit (.int .u8 0), .lit (.int .u8 0), .lit (.int .u8 0), .lit (.int .u8 0), .lit (.int .u8 0), .lit (.int .u8 0), .lit (.int .u8 0), .lit (.int .u8 0), .lit (.int .u8 0), .lit (.int .u8 0), .lit (.int .u8 0)]
def laid_sleuth_syntax_tight {H : Type} : DataW H := .slice [.lit (.string [123]), .lit (.string [40]), .lit (.string [46])] []
def laid_sleuth_syntax_closing {H : Type} : DataW H := .slice [.lit (.string [125]), .lit (.string [41]), .lit (.string [44]), .lit (.string [123]), .lit (.string [46])] []
def laid_sleuth_syntax_relationNames {H : Type} : DataW H := .slice [.lit (.string []), .lit (.string [112, 97, 114, 101, 110, 116]), .lit (.string [97, 110, 99, 101, 115, 116, 111, 114]), .lit (.string [115, 105, 98, 108, 105, 110, 103]), .lit (.string [98, 101, 102, 111, 114, 101]), .lit (.string [108, 105, 110, 107])] []
def laid_sleuth_syntax_aggregateNames {H : Type} : DataW H := .slice [.lit (.string []), .lit (.string [109, 97, 116, 99, 104, 101, 115]), .lit (.string [116, 114, 97, 99, 101, 115]), .lit (.string [101, 115, 116, 105, 109, 97, 116, 101]), .lit (.string [115, 117, 109]), .lit (.string [108, 101, 97, 115, 116]), .lit (.string [103, 114, 101, 97, 116, 101, 115, 116]), .lit (.string [113, 117, 97, 110, 116, 105, 108, 101]), .lit (.string [100, 105, 115, 116, 105, 110, 99, 116])] []

/-- 'sleuthlaw39.AlgebraChecks': WHATEVER THE INPUT: true; the input reads as it did. -/
def algebraChecksSpec : ChangeSpec := { name := "algebraChecks", fn := fun _ => fun
  | [d1, d2] => { results := [.lit (.bool true)], args := [d1, d2] }
  | _ => none }
def algebraChecksRow : OpenClaim := { program := "ytmhjojadboilbaagreatdoor", sum := "cc14fe9f23d34e9e0a2eb309d6c1efebfd146246a9bf0a8163971181f1034439", func := "sleuth/sleuthlaw39.AlgebraChecks", spec := "algebraChecks", unfollowed := true, recurses := true, named := ["strings.asciiSpace", "unicode.White_Space", "sleuth/syntax.relationNames", "sleuth/syntax.aggregateNames", "sleuth/syntax.tight", "sleuth/syntax.closing", "internal/strconv.uint64pow10", "math/bits.deBruijn32tab", "math/bits.deBruijn64tab"], plainKeys := false, apart := false, laid := [("math/bits.deBruijn32tab", laid_math_bits_deBruijn32tab), ("math/bits.deBruijn64tab", laid_math_bits_deBruijn64tab), ("internal/strconv.uint64pow10", laid_internal_strconv_uint64pow10), ("unicode.White_Space", laid_unicode_White_Space), ("strings.asciiSpace", laid_strings_asciiSpace), ("sleuth/syntax.tight", laid_sleuth_syntax_tight), ("sleuth/syntax.closing", laid_sleuth_syntax_closing), ("sleuth/syntax.relationNames", laid_sleuth_syntax_relationNames), ("sleuth/syntax.aggregateNames", laid_sleuth_syntax_aggregateNames)] }
def AlgebraChecksSaid : Prop := algebraChecksRow.holds Tryz.pinned (OpenSpec.ofChange algebraChecksSpec)

/-- ITS FALSE NEIGHBOUR: 'it returns false'. Refute it at one input. -/
def algebraChecksWrong : ChangeSpec := { name := "algebraChecks", fn := fun _ => fun
  | [d1, d2] => { results := [.lit (.bool false)], args := [d1, d2] }
  | _ => none }
def AlgebraChecksWrongFalsely : Prop := algebraChecksRow.holds Tryz.pinned (OpenSpec.ofChange algebraChecksWrong)

/-- 'sleuthlaw39.AlgebraValues': WHATEVER THE INPUT: true; the input reads as it did. -/
def algebraValuesSpec : ChangeSpec := { name := "algebraValues", fn := fun _ => fun
  | [d1, d2, d3] => { results := [.lit (.bool true)], args := [d1, d2, d3] }
  | _ => none }
def algebraValuesRow : OpenClaim := { program := "ytmhjojadboilbaagreatdoor", sum := "cc14fe9f23d34e9e0a2eb309d6c1efebfd146246a9bf0a8163971181f1034439", func := "sleuth/sleuthlaw39.AlgebraValues", spec := "algebraValues", unfollowed := true, recurses := true, named := ["strings.asciiSpace", "unicode.White_Space", "sleuth/syntax.relationNames", "sleuth/syntax.aggregateNames", "sleuth/syntax.tight", "sleuth/syntax.closing", "internal/strconv.uint64pow10", "math/bits.deBruijn32tab", "math/bits.deBruijn64tab"], plainKeys := false, apart := false, laid := [("math/bits.deBruijn32tab", laid_math_bits_deBruijn32tab), ("math/bits.deBruijn64tab", laid_math_bits_deBruijn64tab), ("internal/strconv.uint64pow10", laid_internal_strconv_uint64pow10), ("unicode.White_Space", laid_unicode_White_Space), ("strings.asciiSpace", laid_strings_asciiSpace), ("sleuth/syntax.tight", laid_sleuth_syntax_tight), ("sleuth/syntax.closing", laid_sleuth_syntax_closing), ("sleuth/syntax.relationNames", laid_sleuth_syntax_relationNames), ("sleuth/syntax.aggregateNames", laid_sleuth_syntax_aggregateNames)] }
def AlgebraValuesSaid : Prop := algebraValuesRow.holds Tryz.pinned (OpenSpec.ofChange algebraValuesSpec)

/-- ITS FALSE NEIGHBOUR: 'it returns false'. Refute it at one input. -/
def algebraValuesWrong : ChangeSpec := { name := "algebraValues", fn := fun _ => fun
  | [d1, d2, d3] => { results := [.lit (.bool false)], args := [d1, d2, d3] }
  | _ => none }
def AlgebraValuesWrongFalsely : Prop := algebraValuesRow.holds Tryz.pinned (OpenSpec.ofChange algebraValuesWrong)

/-- 'sleuthlaw39.AlgebraSelects': WHATEVER THE INPUT: true; the input reads as it did. -/
def algebraSelectsSpec : ChangeSpec := { name := "algebraSelects", fn := fun _ => fun
  | [d1, d2] => { results := [.lit (.bool true)], args := [d1, d2] }
  | _ => none }
def algebraSelectsRow : OpenClaim := { program := "ytmhjojadboilbaagreatdoor", sum := "cc14fe9f23d34e9e0a2eb309d6c1efebfd146246a9bf0a8163971181f1034439", func := "sleuth/sleuthlaw39.AlgebraSelects", spec := "algebraSelects", unfollowed := true, recurses := true, named := ["strings.asciiSpace", "unicode.White_Space", "sleuth/syntax.relationNames", "sleuth/syntax.aggregateNames", "sleuth/syntax.tight", "sleuth/syntax.closing", "internal/strconv.uint64pow10", "math/bits.deBruijn32tab", "math/bits.deBruijn64tab"], plainKeys := false, apart := false, laid := [("math/bits.deBruijn32tab", laid_math_bits_deBruijn32tab), ("math/bits.deBruijn64tab", laid_math_bits_deBruijn64tab), ("internal/strconv.uint64pow10", laid_internal_strconv_uint64pow10), ("unicode.White_Space", laid_unicode_White_Space), ("strings.asciiSpace", laid_strings_asciiSpace), ("sleuth/syntax.tight", laid_sleuth_syntax_tight), ("sleuth/syntax.closing", laid_sleuth_syntax_closing), ("sleuth/syntax.relationNames", laid_sleuth_syntax_relationNames), ("sleuth/syntax.aggregateNames", laid_sleuth_syntax_aggregateNames)] }
def AlgebraSelectsSaid : Prop := algebraSelectsRow.holds Tryz.pinned (OpenSpec.ofChange algebraSelectsSpec)

/-- ITS FALSE NEIGHBOUR: 'it returns false'. Refute it at one input. -/
def algebraSelectsWrong : ChangeSpec := { name := "algebraSelects", fn := fun _ => fun
  | [d1, d2] => { results := [.lit (.bool false)], args := [d1, d2] }
  | _ => none }
def AlgebraSelectsWrongFalsely : Prop := algebraSelectsRow.holds Tryz.pinned (OpenSpec.ofChange algebraSelectsWrong)

/-- 'sleuthlaw39.AlgebraMatches': WHATEVER THE INPUT: true; the input reads as it did. -/
def algebraMatchesSpec : ChangeSpec := { name := "algebraMatches", fn := fun _ => fun
  | [d1, d2] => { results := [.lit (.bool true)], args := [d1, d2] }
  | _ => none }
def algebraMatchesRow : OpenClaim := { program := "ytmhjojadboilbaagreatdoor", sum := "cc14fe9f23d34e9e0a2eb309d6c1efebfd146246a9bf0a8163971181f1034439", func := "sleuth/sleuthlaw39.AlgebraMatches", spec := "algebraMatches", unfollowed := true, recurses := true, named := ["strings.asciiSpace", "unicode.White_Space", "sleuth/syntax.relationNames", "sleuth/syntax.aggregateNames", "sleuth/syntax.tight", "sleuth/syntax.closing", "internal/strconv.uint64pow10", "math/bits.deBruijn32tab", "math/bits.deBruijn64tab"], plainKeys := false, apart := false, laid := [("math/bits.deBruijn32tab", laid_math_bits_deBruijn32tab), ("math/bits.deBruijn64tab", laid_math_bits_deBruijn64tab), ("internal/strconv.uint64pow10", laid_internal_strconv_uint64pow10), ("unicode.White_Space", laid_unicode_White_Space), ("strings.asciiSpace", laid_strings_asciiSpace), ("sleuth/syntax.tight", laid_sleuth_syntax_tight), ("sleuth/syntax.closing", laid_sleuth_syntax_closing), ("sleuth/syntax.relationNames", laid_sleuth_syntax_relationNames), ("sleuth/syntax.aggregateNames", laid_sleuth_syntax_aggregateNames)] }
def AlgebraMatchesSaid : Prop := algebraMatchesRow.holds Tryz.pinned (OpenSpec.ofChange algebraMatchesSpec)

/-- ITS FALSE NEIGHBOUR: 'it returns false'. Refute it at one input. -/
def algebraMatchesWrong : ChangeSpec := { name := "algebraMatches", fn := fun _ => fun
  | [d1, d2] => { results := [.lit (.bool false)], args := [d1, d2] }
  | _ => none }
def AlgebraMatchesWrongFalsely : Prop := algebraMatchesRow.holds Tryz.pinned (OpenSpec.ofChange algebraMatchesWrong)

/-- 'sleuthlaw39.AlgebraEvaluates': WHATEVER THE INPUT: true; the input reads as it did. -/
def algebraEvaluatesSpec : ChangeSpec := { name := "algebraEvaluates", fn := fun _ => fun
  | [d1, d2] => { results := [.lit (.bool true)], args := [d1, d2] }
  | _ => none }
def algebraEvaluatesRow : OpenClaim := { program := "ytmhjojadboilbaagreatdoor", sum := "cc14fe9f23d34e9e0a2eb309d6c1efebfd146246a9bf0a8163971181f1034439", func := "sleuth/sleuthlaw39.AlgebraEvaluates", spec := "algebraEvaluates", unfollowed := true, recurses := true, named := ["strings.asciiSpace", "unicode.White_Space", "sleuth/syntax.relationNames", "sleuth/syntax.aggregateNames", "sleuth/syntax.tight", "sleuth/syntax.closing", "internal/strconv.uint64pow10", "math/bits.deBruijn32tab", "math/bits.deBruijn64tab"], plainKeys := false, apart := false, laid := [("math/bits.deBruijn32tab", laid_math_bits_deBruijn32tab), ("math/bits.deBruijn64tab", laid_math_bits_deBruijn64tab), ("internal/strconv.uint64pow10", laid_internal_strconv_uint64pow10), ("unicode.White_Space", laid_unicode_White_Space), ("strings.asciiSpace", laid_strings_asciiSpace), ("sleuth/syntax.tight", laid_sleuth_syntax_tight), ("sleuth/syntax.closing", laid_sleuth_syntax_closing), ("sleuth/syntax.relationNames", laid_sleuth_syntax_relationNames), ("sleuth/syntax.aggregateNames", laid_sleuth_syntax_aggregateNames)] }
def AlgebraEvaluatesSaid : Prop := algebraEvaluatesRow.holds Tryz.pinned (OpenSpec.ofChange algebraEvaluatesSpec)

/-- ITS FALSE NEIGHBOUR: 'it returns false'. Refute it at one input. -/
def algebraEvaluatesWrong : ChangeSpec := { name := "algebraEvaluates", fn := fun _ => fun
  | [d1, d2] => { results := [.lit (.bool false)], args := [d1, d2] }
  | _ => none }
def AlgebraEvaluatesWrongFalsely : Prop := algebraEvaluatesRow.holds Tryz.pinned (OpenSpec.ofChange algebraEvaluatesWrong)

/-- 'sleuthlaw39.AlgebraErrors': WHATEVER THE INPUT: true; the input reads as it did. -/
def algebraErrorsSpec : ChangeSpec := { name := "algebraErrors", fn := fun _ => fun
  | [d1, d2, d3] => { results := [.lit (.bool true)], args := [d1, d2, d3] }
  | _ => none }
def algebraErrorsRow : OpenClaim := { program := "ytmhjojadboilbaagreatdoor", sum := "cc14fe9f23d34e9e0a2eb309d6c1efebfd146246a9bf0a8163971181f1034439", func := "sleuth/sleuthlaw39.AlgebraErrors", spec := "algebraErrors", unfollowed := true, recurses := true, named := ["strings.asciiSpace", "unicode.White_Space", "sleuth/syntax.relationNames", "sleuth/syntax.aggregateNames", "sleuth/syntax.tight", "sleuth/syntax.closing", "internal/strconv.uint64pow10", "math/bits.deBruijn32tab", "math/bits.deBruijn64tab"], loops := true, plainKeys := false, apart := false, laid := [("math/bits.deBruijn32tab", laid_math_bits_deBruijn32tab), ("math/bits.deBruijn64tab", laid_math_bits_deBruijn64tab), ("internal/strconv.uint64pow10", laid_internal_strconv_uint64pow10), ("unicode.White_Space", laid_unicode_White_Space), ("strings.asciiSpace", laid_strings_asciiSpace), ("sleuth/syntax.tight", laid_sleuth_syntax_tight), ("sleuth/syntax.closing", laid_sleuth_syntax_closing), ("sleuth/syntax.relationNames", laid_sleuth_syntax_relationNames), ("sleuth/syntax.aggregateNames", laid_sleuth_syntax_aggregateNames)] }
def AlgebraErrorsSaid : Prop := algebraErrorsRow.holds Tryz.pinned (OpenSpec.ofChange algebraErrorsSpec)

/-- ITS FALSE NEIGHBOUR: 'it returns false'. Refute it at one input. -/
def algebraErrorsWrong : ChangeSpec := { name := "algebraErrors", fn := fun _ => fun
  | [d1, d2, d3] => { results := [.lit (.bool false)], args := [d1, d2, d3] }
  | _ => none }
def AlgebraErrorsWrongFalsely : Prop := algebraErrorsRow.holds Tryz.pinned (OpenSpec.ofChange algebraErrorsWrong)

/-- 'sleuthlaw39.AlgebraAggregates': WHATEVER THE INPUT: true; the input reads as it did. -/
def algebraAggregatesSpec : ChangeSpec := { name := "algebraAggregates", fn := fun _ => fun
  | [d1, d2, d3] => { results := [.lit (.bool true)], args := [d1, d2, d3] }
  | _ => none }
def algebraAggregatesRow : OpenClaim := { program := "ytmhjojadboilbaagreatdoor", sum := "cc14fe9f23d34e9e0a2eb309d6c1efebfd146246a9bf0a8163971181f1034439", func := "sleuth/sleuthlaw39.AlgebraAggregates", spec := "algebraAggregates", unfollowed := true, recurses := true, named := ["strings.asciiSpace", "unicode.White_Space", "sleuth/syntax.relationNames", "sleuth/syntax.aggregateNames", "sleuth/syntax.tight", "sleuth/syntax.closing", "internal/strconv.uint64pow10", "math/bits.deBruijn32tab", "math/bits.deBruijn64tab"], plainKeys := false, apart := false, laid := [("math/bits.deBruijn32tab", laid_math_bits_deBruijn32tab), ("math/bits.deBruijn64tab", laid_math_bits_deBruijn64tab), ("internal/strconv.uint64pow10", laid_internal_strconv_uint64pow10), ("unicode.White_Space", laid_unicode_White_Space), ("strings.asciiSpace", laid_strings_asciiSpace), ("sleuth/syntax.tight", laid_sleuth_syntax_tight), ("sleuth/syntax.closing", laid_sleuth_syntax_closing), ("sleuth/syntax.relationNames", laid_sleuth_syntax_relationNames), ("sleuth/syntax.aggregateNames", laid_sleuth_syntax_aggregateNames)] }
def AlgebraAggregatesSaid : Prop := algebraAggregatesRow.holds Tryz.pinned (OpenSpec.ofChange algebraAggregatesSpec)

/-- ITS FALSE NEIGHBOUR: 'it returns false'. Refute it at one input. -/
def algebraAggregatesWrong : ChangeSpec := { name := "algebraAggregates", fn := fun _ => fun
  | [d1, d2, d3] => { results := [.lit (.bool false)], args := [d1, d2, d3] }
  | _ => none }
def AlgebraAggregatesWrongFalsely : Prop := algebraAggregatesRow.holds Tryz.pinned (OpenSpec.ofChange algebraAggregatesWrong)

/-- 'sleuthlaw39.AlgebraArranges': WHATEVER THE INPUT: true; the input reads as it did. -/
def algebraArrangesSpec : ChangeSpec := { name := "algebraArranges", fn := fun _ => fun
  | [d1, d2, d3] => { results := [.lit (.bool true)], args := [d1, d2, d3] }
  | _ => none }
def algebraArrangesRow : OpenClaim := { program := "ytmhjojadboilbaagreatdoor", sum := "cc14fe9f23d34e9e0a2eb309d6c1efebfd146246a9bf0a8163971181f1034439", func := "sleuth/sleuthlaw39.AlgebraArranges", spec := "algebraArranges", unfollowed := true, recurses := true, named := ["strings.asciiSpace", "unicode.White_Space", "sleuth/syntax.relationNames", "sleuth/syntax.aggregateNames", "sleuth/syntax.tight", "sleuth/syntax.closing", "internal/strconv.uint64pow10", "math/bits.deBruijn32tab", "math/bits.deBruijn64tab"], plainKeys := false, apart := false, laid := [("math/bits.deBruijn32tab", laid_math_bits_deBruijn32tab), ("math/bits.deBruijn64tab", laid_math_bits_deBruijn64tab), ("internal/strconv.uint64pow10", laid_internal_strconv_uint64pow10), ("unicode.White_Space", laid_unicode_White_Space), ("strings.asciiSpace", laid_strings_asciiSpace), ("sleuth/syntax.tight", laid_sleuth_syntax_tight), ("sleuth/syntax.closing", laid_sleuth_syntax_closing), ("sleuth/syntax.relationNames", laid_sleuth_syntax_relationNames), ("sleuth/syntax.aggregateNames", laid_sleuth_syntax_aggregateNames)] }
def AlgebraArrangesSaid : Prop := algebraArrangesRow.holds Tryz.pinned (OpenSpec.ofChange algebraArrangesSpec)

/-- ITS FALSE NEIGHBOUR: 'it returns false'. Refute it at one input. -/
def algebraArrangesWrong : ChangeSpec := { name := "algebraArranges", fn := fun _ => fun
  | [d1, d2, d3] => { results := [.lit (.bool false)], args := [d1, d2, d3] }
  | _ => none }
def AlgebraArrangesWrongFalsely : Prop := algebraArrangesRow.holds Tryz.pinned (OpenSpec.ofChange algebraArrangesWrong)

/-- 'sleuthlaw39.AlgebraNarrows': WHATEVER THE INPUT: true; the input reads as it did. -/
def algebraNarrowsSpec : ChangeSpec := { name := "algebraNarrows", fn := fun _ => fun
  | [d1, d2, d3] => { results := [.lit (.bool true)], args := [d1, d2, d3] }
  | _ => none }
def algebraNarrowsRow : OpenClaim := { program := "ytmhjojadboilbaagreatdoor", sum := "cc14fe9f23d34e9e0a2eb309d6c1efebfd146246a9bf0a8163971181f1034439", func := "sleuth/sleuthlaw39.AlgebraNarrows", spec := "algebraNarrows", unfollowed := true, recurses := true, named := ["strings.asciiSpace", "unicode.White_Space", "sleuth/syntax.relationNames", "sleuth/syntax.aggregateNames", "sleuth/syntax.tight", "sleuth/syntax.closing", "internal/strconv.uint64pow10", "math/bits.deBruijn32tab", "math/bits.deBruijn64tab"], plainKeys := false, apart := false, laid := [("math/bits.deBruijn32tab", laid_math_bits_deBruijn32tab), ("math/bits.deBruijn64tab", laid_math_bits_deBruijn64tab), ("internal/strconv.uint64pow10", laid_internal_strconv_uint64pow10), ("unicode.White_Space", laid_unicode_White_Space), ("strings.asciiSpace", laid_strings_asciiSpace), ("sleuth/syntax.tight", laid_sleuth_syntax_tight), ("sleuth/syntax.closing", laid_sleuth_syntax_closing), ("sleuth/syntax.relationNames", laid_sleuth_syntax_relationNames), ("sleuth/syntax.aggregateNames", laid_sleuth_syntax_aggregateNames)] }
def AlgebraNarrowsSaid : Prop := algebraNarrowsRow.holds Tryz.pinned (OpenSpec.ofChange algebraNarrowsSpec)

/-- ITS FALSE NEIGHBOUR: 'it returns false'. Refute it at one input. -/
def algebraNarrowsWrong : ChangeSpec := { name := "algebraNarrows", fn := fun _ => fun
  | [d1, d2, d3] => { results := [.lit (.bool false)], args := [d1, d2, d3] }
  | _ => none }
def AlgebraNarrowsWrongFalsely : Prop := algebraNarrowsRow.holds Tryz.pinned (OpenSpec.ofChange algebraNarrowsWrong)

/-- 'sleuthlaw39.AlgebraAdds': WHATEVER THE INPUT: true; the input reads as it did. -/
def algebraAddsSpec : ChangeSpec := { name := "algebraAdds", fn := fun _ => fun
  | [d1, d2, d3] => { results := [.lit (.bool true)], args := [d1, d2, d3] }
  | _ => none }
def algebraAddsRow : OpenClaim := { program := "ytmhjojadboilbaagreatdoor", sum := "cc14fe9f23d34e9e0a2eb309d6c1efebfd146246a9bf0a8163971181f1034439", func := "sleuth/sleuthlaw39.AlgebraAdds", spec := "algebraAdds", unfollowed := true, recurses := true, named := ["strings.asciiSpace", "unicode.White_Space", "sleuth/syntax.relationNames", "sleuth/syntax.aggregateNames", "sleuth/syntax.tight", "sleuth/syntax.closing", "internal/strconv.uint64pow10", "math/bits.deBruijn32tab", "math/bits.deBruijn64tab"], plainKeys := false, apart := false, laid := [("math/bits.deBruijn32tab", laid_math_bits_deBruijn32tab), ("math/bits.deBruijn64tab", laid_math_bits_deBruijn64tab), ("internal/strconv.uint64pow10", laid_internal_strconv_uint64pow10), ("unicode.White_Space", laid_unicode_White_Space), ("strings.asciiSpace", laid_strings_asciiSpace), ("sleuth/syntax.tight", laid_sleuth_syntax_tight), ("sleuth/syntax.closing", laid_sleuth_syntax_closing), ("sleuth/syntax.relationNames", laid_sleuth_syntax_relationNames), ("sleuth/syntax.aggregateNames", laid_sleuth_syntax_aggregateNames)] }
def AlgebraAddsSaid : Prop := algebraAddsRow.holds Tryz.pinned (OpenSpec.ofChange algebraAddsSpec)

/-- ITS FALSE NEIGHBOUR: 'it returns false'. Refute it at one input. -/
def algebraAddsWrong : ChangeSpec := { name := "algebraAdds", fn := fun _ => fun
  | [d1, d2, d3] => { results := [.lit (.bool false)], args := [d1, d2, d3] }
  | _ => none }
def AlgebraAddsWrongFalsely : Prop := algebraAddsRow.holds Tryz.pinned (OpenSpec.ofChange algebraAddsWrong)

/- THE SECOND FORM. 'bulk': how many values and letters a reading holds, each counted each time it is reached (what is shared counts as often as it is met; a slice's spare places count too). A statement '..UptoSaid' is the law's where the arguments, and the package variables that the reading takes, are together of bulk at most 1048576: NARROWER than '..Said'. Prove '..Said' where nothing that the law and all that it calls make is longer than what came in: it says more and counts as full. Else prove '..UptoSaid'. A law counts once. -/
mutual
def uptoBulk {H : Type} : DataW H → Nat
  | .lit (.string bytes) => bytes.length + 1
  | .lit _ => 1
  | .nil => 1
  | .ptr d => uptoBulk d + 1
  | .slice elems spare => uptoBulkAll elems + uptoBulkAll spare + 1
  | .agg parts => uptoBulkAll parts + 1
  | .iface _ d => uptoBulk d + 1
  | .map entries => uptoBulkEntries entries + 1
  | .held _ => 1
def uptoBulkAll {H : Type} : List (DataW H) → Nat
  | [] => 0
  | d :: r => uptoBulk d + uptoBulkAll r
def uptoBulkEntries {H : Type} : List (Lit × DataW H) → Nat
  | [] => 0
  | x :: r => uptoBulkEntry x + uptoBulkEntries r
def uptoBulkEntry {H : Type} : Lit × DataW H → Nat
  | (.string bytes, d) => bytes.length + uptoBulk d + 1
  | (_, d) => uptoBulk d + 1
 end
def uptoSmall : (H : Type) → List (DataW H) → Bool := fun _ ds => decide (uptoBulkAll ds ≤ 1048576)
def OpenSpec.upto (s : _root_.Go.ChangeSpec) : _root_.Go.OpenSpec := { _root_.Go.OpenSpec.ofChange s with cond := some uptoSmall }

/-- 'sleuthlaw39.AlgebraChecks', WHERE WHAT IT READS IS OF BULK AT MOST 1048576: true; the input reads as it did. -/
def algebraChecksUptoRow : OpenClaim := { program := "ytmhjojadboilbaagreatdoor", sum := "cc14fe9f23d34e9e0a2eb309d6c1efebfd146246a9bf0a8163971181f1034439", func := "sleuth/sleuthlaw39.AlgebraChecks", spec := "algebraChecks", unfollowed := true, recurses := true, named := ["strings.asciiSpace", "unicode.White_Space", "sleuth/syntax.relationNames", "sleuth/syntax.aggregateNames", "sleuth/syntax.tight", "sleuth/syntax.closing", "internal/strconv.uint64pow10", "math/bits.deBruijn32tab", "math/bits.deBruijn64tab"], plainKeys := false, apart := false, laid := [("math/bits.deBruijn32tab", laid_math_bits_deBruijn32tab), ("math/bits.deBruijn64tab", laid_math_bits_deBruijn64tab), ("internal/strconv.uint64pow10", laid_internal_strconv_uint64pow10), ("unicode.White_Space", laid_unicode_White_Space), ("strings.asciiSpace", laid_strings_asciiSpace), ("sleuth/syntax.tight", laid_sleuth_syntax_tight), ("sleuth/syntax.closing", laid_sleuth_syntax_closing), ("sleuth/syntax.relationNames", laid_sleuth_syntax_relationNames), ("sleuth/syntax.aggregateNames", laid_sleuth_syntax_aggregateNames)], narrowed := true }
def AlgebraChecksUptoSaid : Prop := algebraChecksUptoRow.holds Tryz.pinned (OpenSpec.upto algebraChecksSpec)

/-- 'sleuthlaw39.AlgebraValues', WHERE WHAT IT READS IS OF BULK AT MOST 1048576: true; the input reads as it did. -/
def algebraValuesUptoRow : OpenClaim := { program := "ytmhjojadboilbaagreatdoor", sum := "cc14fe9f23d34e9e0a2eb309d6c1efebfd146246a9bf0a8163971181f1034439", func := "sleuth/sleuthlaw39.AlgebraValues", spec := "algebraValues", unfollowed := true, recurses := true, named := ["strings.asciiSpace", "unicode.White_Space", "sleuth/syntax.relationNames", "sleuth/syntax.aggregateNames", "sleuth/syntax.tight", "sleuth/syntax.closing", "internal/strconv.uint64pow10", "math/bits.deBruijn32tab", "math/bits.deBruijn64tab"], plainKeys := false, apart := false, laid := [("math/bits.deBruijn32tab", laid_math_bits_deBruijn32tab), ("math/bits.deBruijn64tab", laid_math_bits_deBruijn64tab), ("internal/strconv.uint64pow10", laid_internal_strconv_uint64pow10), ("unicode.White_Space", laid_unicode_White_Space), ("strings.asciiSpace", laid_strings_asciiSpace), ("sleuth/syntax.tight", laid_sleuth_syntax_tight), ("sleuth/syntax.closing", laid_sleuth_syntax_closing), ("sleuth/syntax.relationNames", laid_sleuth_syntax_relationNames), ("sleuth/syntax.aggregateNames", laid_sleuth_syntax_aggregateNames)], narrowed := true }
def AlgebraValuesUptoSaid : Prop := algebraValuesUptoRow.holds Tryz.pinned (OpenSpec.upto algebraValuesSpec)

/-- 'sleuthlaw39.AlgebraSelects', WHERE WHAT IT READS IS OF BULK AT MOST 1048576: true; the input reads as it did. -/
def algebraSelectsUptoRow : OpenClaim := { program := "ytmhjojadboilbaagreatdoor", sum := "cc14fe9f23d34e9e0a2eb309d6c1efebfd146246a9bf0a8163971181f1034439", func := "sleuth/sleuthlaw39.AlgebraSelects", spec := "algebraSelects", unfollowed := true, recurses := true, named := ["strings.asciiSpace", "unicode.White_Space", "sleuth/syntax.relationNames", "sleuth/syntax.aggregateNames", "sleuth/syntax.tight", "sleuth/syntax.closing", "internal/strconv.uint64pow10", "math/bits.deBruijn32tab", "math/bits.deBruijn64tab"], plainKeys := false, apart := false, laid := [("math/bits.deBruijn32tab", laid_math_bits_deBruijn32tab), ("math/bits.deBruijn64tab", laid_math_bits_deBruijn64tab), ("internal/strconv.uint64pow10", laid_internal_strconv_uint64pow10), ("unicode.White_Space", laid_unicode_White_Space), ("strings.asciiSpace", laid_strings_asciiSpace), ("sleuth/syntax.tight", laid_sleuth_syntax_tight), ("sleuth/syntax.closing", laid_sleuth_syntax_closing), ("sleuth/syntax.relationNames", laid_sleuth_syntax_relationNames), ("sleuth/syntax.aggregateNames", laid_sleuth_syntax_aggregateNames)], narrowed := true }
def AlgebraSelectsUptoSaid : Prop := algebraSelectsUptoRow.holds Tryz.pinned (OpenSpec.upto algebraSelectsSpec)

/-- 'sleuthlaw39.AlgebraMatches', WHERE WHAT IT READS IS OF BULK AT MOST 1048576: true; the input reads as it did. -/
def algebraMatchesUptoRow : OpenClaim := { program := "ytmhjojadboilbaagreatdoor", sum := "cc14fe9f23d34e9e0a2eb309d6c1efebfd146246a9bf0a8163971181f1034439", func := "sleuth/sleuthlaw39.AlgebraMatches", spec := "algebraMatches", unfollowed := true, recurses := true, named := ["strings.asciiSpace", "unicode.White_Space", "sleuth/syntax.relationNames", "sleuth/syntax.aggregateNames", "sleuth/syntax.tight", "sleuth/syntax.closing", "internal/strconv.uint64pow10", "math/bits.deBruijn32tab", "math/bits.deBruijn64tab"], plainKeys := false, apart := false, laid := [("math/bits.deBruijn32tab", laid_math_bits_deBruijn32tab), ("math/bits.deBruijn64tab", laid_math_bits_deBruijn64tab), ("internal/strconv.uint64pow10", laid_internal_strconv_uint64pow10), ("unicode.White_Space", laid_unicode_White_Space), ("strings.asciiSpace", laid_strings_asciiSpace), ("sleuth/syntax.tight", laid_sleuth_syntax_tight), ("sleuth/syntax.closing", laid_sleuth_syntax_closing), ("sleuth/syntax.relationNames", laid_sleuth_syntax_relationNames), ("sleuth/syntax.aggregateNames", laid_sleuth_syntax_aggregateNames)], narrowed := true }
def AlgebraMatchesUptoSaid : Prop := algebraMatchesUptoRow.holds Tryz.pinned (OpenSpec.upto algebraMatchesSpec)

/-- 'sleuthlaw39.AlgebraEvaluates', WHERE WHAT IT READS IS OF BULK AT MOST 1048576: true; the input reads as it did. -/
def algebraEvaluatesUptoRow : OpenClaim := { program := "ytmhjojadboilbaagreatdoor", sum := "cc14fe9f23d34e9e0a2eb309d6c1efebfd146246a9bf0a8163971181f1034439", func := "sleuth/sleuthlaw39.AlgebraEvaluates", spec := "algebraEvaluates", unfollowed := true, recurses := true, named := ["strings.asciiSpace", "unicode.White_Space", "sleuth/syntax.relationNames", "sleuth/syntax.aggregateNames", "sleuth/syntax.tight", "sleuth/syntax.closing", "internal/strconv.uint64pow10", "math/bits.deBruijn32tab", "math/bits.deBruijn64tab"], plainKeys := false, apart := false, laid := [("math/bits.deBruijn32tab", laid_math_bits_deBruijn32tab), ("math/bits.deBruijn64tab", laid_math_bits_deBruijn64tab), ("internal/strconv.uint64pow10", laid_internal_strconv_uint64pow10), ("unicode.White_Space", laid_unicode_White_Space), ("strings.asciiSpace", laid_strings_asciiSpace), ("sleuth/syntax.tight", laid_sleuth_syntax_tight), ("sleuth/syntax.closing", laid_sleuth_syntax_closing), ("sleuth/syntax.relationNames", laid_sleuth_syntax_relationNames), ("sleuth/syntax.aggregateNames", laid_sleuth_syntax_aggregateNames)], narrowed := true }
def AlgebraEvaluatesUptoSaid : Prop := algebraEvaluatesUptoRow.holds Tryz.pinned (OpenSpec.upto algebraEvaluatesSpec)

/-- 'sleuthlaw39.AlgebraErrors', WHERE WHAT IT READS IS OF BULK AT MOST 1048576: true; the input reads as it did. -/
def algebraErrorsUptoRow : OpenClaim := { program := "ytmhjojadboilbaagreatdoor", sum := "cc14fe9f23d34e9e0a2eb309d6c1efebfd146246a9bf0a8163971181f1034439", func := "sleuth/sleuthlaw39.AlgebraErrors", spec := "algebraErrors", unfollowed := true, recurses := true, named := ["strings.asciiSpace", "unicode.White_Space", "sleuth/syntax.relationNames", "sleuth/syntax.aggregateNames", "sleuth/syntax.tight", "sleuth/syntax.closing", "internal/strconv.uint64pow10", "math/bits.deBruijn32tab", "math/bits.deBruijn64tab"], loops := true, plainKeys := false, apart := false, laid := [("math/bits.deBruijn32tab", laid_math_bits_deBruijn32tab), ("math/bits.deBruijn64tab", laid_math_bits_deBruijn64tab), ("internal/strconv.uint64pow10", laid_internal_strconv_uint64pow10), ("unicode.White_Space", laid_unicode_White_Space), ("strings.asciiSpace", laid_strings_asciiSpace), ("sleuth/syntax.tight", laid_sleuth_syntax_tight), ("sleuth/syntax.closing", laid_sleuth_syntax_closing), ("sleuth/syntax.relationNames", laid_sleuth_syntax_relationNames), ("sleuth/syntax.aggregateNames", laid_sleuth_syntax_aggregateNames)], narrowed := true }
def AlgebraErrorsUptoSaid : Prop := algebraErrorsUptoRow.holds Tryz.pinned (OpenSpec.upto algebraErrorsSpec)

/-- 'sleuthlaw39.AlgebraAggregates', WHERE WHAT IT READS IS OF BULK AT MOST 1048576: true; the input reads as it did. -/
def algebraAggregatesUptoRow : OpenClaim := { program := "ytmhjojadboilbaagreatdoor", sum := "cc14fe9f23d34e9e0a2eb309d6c1efebfd146246a9bf0a8163971181f1034439", func := "sleuth/sleuthlaw39.AlgebraAggregates", spec := "algebraAggregates", unfollowed := true, recurses := true, named := ["strings.asciiSpace", "unicode.White_Space", "sleuth/syntax.relationNames", "sleuth/syntax.aggregateNames", "sleuth/syntax.tight", "sleuth/syntax.closing", "internal/strconv.uint64pow10", "math/bits.deBruijn32tab", "math/bits.deBruijn64tab"], plainKeys := false, apart := false, laid := [("math/bits.deBruijn32tab", laid_math_bits_deBruijn32tab), ("math/bits.deBruijn64tab", laid_math_bits_deBruijn64tab), ("internal/strconv.uint64pow10", laid_internal_strconv_uint64pow10), ("unicode.White_Space", laid_unicode_White_Space), ("strings.asciiSpace", laid_strings_asciiSpace), ("sleuth/syntax.tight", laid_sleuth_syntax_tight), ("sleuth/syntax.closing", laid_sleuth_syntax_closing), ("sleuth/syntax.relationNames", laid_sleuth_syntax_relationNames), ("sleuth/syntax.aggregateNames", laid_sleuth_syntax_aggregateNames)], narrowed := true }
def AlgebraAggregatesUptoSaid : Prop := algebraAggregatesUptoRow.holds Tryz.pinned (OpenSpec.upto algebraAggregatesSpec)

/-- 'sleuthlaw39.AlgebraArranges', WHERE WHAT IT READS IS OF BULK AT MOST 1048576: true; the input reads as it did. -/
def algebraArrangesUptoRow : OpenClaim := { program := "ytmhjojadboilbaagreatdoor", sum := "cc14fe9f23d34e9e0a2eb309d6c1efebfd146246a9bf0a8163971181f1034439", func := "sleuth/sleuthlaw39.AlgebraArranges", spec := "algebraArranges", unfollowed := true, recurses := true, named := ["strings.asciiSpace", "unicode.White_Space", "sleuth/syntax.relationNames", "sleuth/syntax.aggregateNames", "sleuth/syntax.tight", "sleuth/syntax.closing", "internal/strconv.uint64pow10", "math/bits.deBruijn32tab", "math/bits.deBruijn64tab"], plainKeys := false, apart := false, laid := [("math/bits.deBruijn32tab", laid_math_bits_deBruijn32tab), ("math/bits.deBruijn64tab", laid_math_bits_deBruijn64tab), ("internal/strconv.uint64pow10", laid_internal_strconv_uint64pow10), ("unicode.White_Space", laid_unicode_White_Space), ("strings.asciiSpace", laid_strings_asciiSpace), ("sleuth/syntax.tight", laid_sleuth_syntax_tight), ("sleuth/syntax.closing", laid_sleuth_syntax_closing), ("sleuth/syntax.relationNames", laid_sleuth_syntax_relationNames), ("sleuth/syntax.aggregateNames", laid_sleuth_syntax_aggregateNames)], narrowed := true }
def AlgebraArrangesUptoSaid : Prop := algebraArrangesUptoRow.holds Tryz.pinned (OpenSpec.upto algebraArrangesSpec)

/-- 'sleuthlaw39.AlgebraNarrows', WHERE WHAT IT READS IS OF BULK AT MOST 1048576: true; the input reads as it did. -/
def algebraNarrowsUptoRow : OpenClaim := { program := "ytmhjojadboilbaagreatdoor", sum := "cc14fe9f23d34e9e0a2eb309d6c1efebfd146246a9bf0a8163971181f1034439", func := "sleuth/sleuthlaw39.AlgebraNarrows", spec := "algebraNarrows", unfollowed := true, recurses := true, named := ["strings.asciiSpace", "unicode.White_Space", "sleuth/syntax.relationNames", "sleuth/syntax.aggregateNames", "sleuth/syntax.tight", "sleuth/syntax.closing", "internal/strconv.uint64pow10", "math/bits.deBruijn32tab", "math/bits.deBruijn64tab"], plainKeys := false, apart := false, laid := [("math/bits.deBruijn32tab", laid_math_bits_deBruijn32tab), ("math/bits.deBruijn64tab", laid_math_bits_deBruijn64tab), ("internal/strconv.uint64pow10", laid_internal_strconv_uint64pow10), ("unicode.White_Space", laid_unicode_White_Space), ("strings.asciiSpace", laid_strings_asciiSpace), ("sleuth/syntax.tight", laid_sleuth_syntax_tight), ("sleuth/syntax.closing", laid_sleuth_syntax_closing), ("sleuth/syntax.relationNames", laid_sleuth_syntax_relationNames), ("sleuth/syntax.aggregateNames", laid_sleuth_syntax_aggregateNames)], narrowed := true }
def AlgebraNarrowsUptoSaid : Prop := algebraNarrowsUptoRow.holds Tryz.pinned (OpenSpec.upto algebraNarrowsSpec)

/-- 'sleuthlaw39.AlgebraAdds', WHERE WHAT IT READS IS OF BULK AT MOST 1048576: true; the input reads as it did. -/
def algebraAddsUptoRow : OpenClaim := { program := "ytmhjojadboilbaagreatdoor", sum := "cc14fe9f23d34e9e0a2eb309d6c1efebfd146246a9bf0a8163971181f1034439", func := "sleuth/sleuthlaw39.AlgebraAdds", spec := "algebraAdds", unfollowed := true, recurses := true, named := ["strings.asciiSpace", "unicode.White_Space", "sleuth/syntax.relationNames", "sleuth/syntax.aggregateNames", "sleuth/syntax.tight", "sleuth/syntax.closing", "internal/strconv.uint64pow10", "math/bits.deBruijn32tab", "math/bits.deBruijn64tab"], plainKeys := false, apart := false, laid := [("math/bits.deBruijn32tab", laid_math_bits_deBruijn32tab), ("math/bits.deBruijn64tab", laid_math_bits_deBruijn64tab), ("internal/strconv.uint64pow10", laid_internal_strconv_uint64pow10), ("unicode.White_Space", laid_unicode_White_Space), ("strings.asciiSpace", laid_strings_asciiSpace), ("sleuth/syntax.tight", laid_sleuth_syntax_tight), ("sleuth/syntax.closing", laid_sleuth_syntax_closing), ("sleuth/syntax.relationNames", laid_sleuth_syntax_relationNames), ("sleuth/syntax.aggregateNames", laid_sleuth_syntax_aggregateNames)], narrowed := true }
def AlgebraAddsUptoSaid : Prop := algebraAddsUptoRow.holds Tryz.pinned (OpenSpec.upto algebraAddsSpec)

end Rows
end Go.Proofs.YtmhjojadboilbaaGreatDoor
