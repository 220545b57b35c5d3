/-
  DERIVED. GIVEN WITH THE SEED: THE CARDS: each row of YtmhjojadboilbaaGreatDoorRows.lean that lists a variable, with what it lists TIED to the program's text (the seventh form; the later family's looks); each row that meets fmt, with fmt's text TOLD by the authors' own Lean function (tested against real Go, not proved from fmt's source: count such statements apart). THE CARD IS WHAT COUNTS. Prove the row's statement (the work); the ties are given (YtmhjojadboilbaaGreatDoorTie.lean); close each card by the builder's one call (the guide's Derived/Test/ToyasCard.lean, 'card_holds'). Laid BY PROGRAM, IN A SANDBOX (cutbox-door.mjs). By AI agents, Wed Nov 11 2026. No macro, syntax, notation, axiom, sorry.
-/
import Derived.Test.YtmhjojadboilbaaGreatDoorRows
import GoSem.ClaimSeven
namespace Go.Proofs.YtmhjojadboilbaaGreatDoor
namespace Rows

/-- THE TIED CARD OF 'sleuthlaw39.AlgebraChecks'. -/
def algebraChecksCard : Claim7 := { stood := { row := algebraChecksRow, standIns := [], harness := (true, "28f09d7cabfff389cf9ea63f2267f5e9dfe4b841595903a6a2c4051dada5a65c"), looks := false }, kinds := [], alts := [], laidByText := true, laidKinds := [.data, .data, .data, .listed, .data, .widerDeep, .widerDeep, .widerDeep, .widerDeep], laidTests := true, laidLooks := .later }
def AlgebraChecksCardSaid : Prop := Claim7.holds Tryz.pinned (.plain (OpenSpec.ofChange algebraChecksSpec)) algebraChecksCard

/-- THE TIED CARD OF 'sleuthlaw39.AlgebraValues'. -/
def algebraValuesCard : Claim7 := { stood := { row := algebraValuesRow, standIns := [], harness := (true, "28f09d7cabfff389cf9ea63f2267f5e9dfe4b841595903a6a2c4051dada5a65c"), looks := false }, kinds := [], alts := [], laidByText := true, laidKinds := [.data, .data, .data, .listed, .data, .widerDeep, .widerDeep, .widerDeep, .widerDeep], laidTests := true, laidLooks := .later }
def AlgebraValuesCardSaid : Prop := Claim7.holds Tryz.pinned (.plain (OpenSpec.ofChange algebraValuesSpec)) algebraValuesCard

/-- THE TIED CARD OF 'sleuthlaw39.AlgebraSelects'. -/
def algebraSelectsCard : Claim7 := { stood := { row := algebraSelectsRow, standIns := [], harness := (true, "28f09d7cabfff389cf9ea63f2267f5e9dfe4b841595903a6a2c4051dada5a65c"), looks := false }, kinds := [], alts := [], laidByText := true, laidKinds := [.data, .data, .data, .listed, .data, .widerDeep, .widerDeep, .widerDeep, .widerDeep], laidTests := true, laidLooks := .later }
def AlgebraSelectsCardSaid : Prop := Claim7.holds Tryz.pinned (.plain (OpenSpec.ofChange algebraSelectsSpec)) algebraSelectsCard

/-- THE TIED CARD OF 'sleuthlaw39.AlgebraMatches'. -/
def algebraMatchesCard : Claim7 := { stood := { row := algebraMatchesRow, standIns := [], harness := (true, "28f09d7cabfff389cf9ea63f2267f5e9dfe4b841595903a6a2c4051dada5a65c"), looks := false }, kinds := [], alts := [], laidByText := true, laidKinds := [.data, .data, .data, .listed, .data, .widerDeep, .widerDeep, .widerDeep, .widerDeep], laidTests := true, laidLooks := .later }
def AlgebraMatchesCardSaid : Prop := Claim7.holds Tryz.pinned (.plain (OpenSpec.ofChange algebraMatchesSpec)) algebraMatchesCard

/-- THE TIED CARD OF 'sleuthlaw39.AlgebraEvaluates'. -/
def algebraEvaluatesCard : Claim7 := { stood := { row := algebraEvaluatesRow, standIns := [], harness := (true, "28f09d7cabfff389cf9ea63f2267f5e9dfe4b841595903a6a2c4051dada5a65c"), looks := false }, kinds := [], alts := [], laidByText := true, laidKinds := [.data, .data, .data, .listed, .data, .widerDeep, .widerDeep, .widerDeep, .widerDeep], laidTests := true, laidLooks := .later }
def AlgebraEvaluatesCardSaid : Prop := Claim7.holds Tryz.pinned (.plain (OpenSpec.ofChange algebraEvaluatesSpec)) algebraEvaluatesCard

/-- THE TIED CARD OF 'sleuthlaw39.AlgebraErrors'. -/
def algebraErrorsCard : Claim7 := { stood := { row := algebraErrorsRow, standIns := [], harness := (true, "28f09d7cabfff389cf9ea63f2267f5e9dfe4b841595903a6a2c4051dada5a65c"), looks := false }, kinds := [], alts := [], laidByText := true, laidKinds := [.data, .data, .data, .listed, .data, .widerDeep, .widerDeep, .widerDeep, .widerDeep], laidTests := true, laidLooks := .later }
def AlgebraErrorsCardSaid : Prop := Claim7.holds Tryz.pinned (.plain (OpenSpec.ofChange algebraErrorsSpec)) algebraErrorsCard

/-- THE TIED CARD OF 'sleuthlaw39.AlgebraAggregates'. -/
def algebraAggregatesCard : Claim7 := { stood := { row := algebraAggregatesRow, standIns := [], harness := (true, "28f09d7cabfff389cf9ea63f2267f5e9dfe4b841595903a6a2c4051dada5a65c"), looks := false }, kinds := [], alts := [], laidByText := true, laidKinds := [.data, .data, .data, .listed, .data, .widerDeep, .widerDeep, .widerDeep, .widerDeep], laidTests := true, laidLooks := .later }
def AlgebraAggregatesCardSaid : Prop := Claim7.holds Tryz.pinned (.plain (OpenSpec.ofChange algebraAggregatesSpec)) algebraAggregatesCard

/-- THE TIED CARD OF 'sleuthlaw39.AlgebraArranges'. -/
def algebraArrangesCard : Claim7 := { stood := { row := algebraArrangesRow, standIns := [], harness := (true, "28f09d7cabfff389cf9ea63f2267f5e9dfe4b841595903a6a2c4051dada5a65c"), looks := false }, kinds := [], alts := [], laidByText := true, laidKinds := [.data, .data, .data, .listed, .data, .widerDeep, .widerDeep, .widerDeep, .widerDeep], laidTests := true, laidLooks := .later }
def AlgebraArrangesCardSaid : Prop := Claim7.holds Tryz.pinned (.plain (OpenSpec.ofChange algebraArrangesSpec)) algebraArrangesCard

/-- THE TIED CARD OF 'sleuthlaw39.AlgebraNarrows'. -/
def algebraNarrowsCard : Claim7 := { stood := { row := algebraNarrowsRow, standIns := [], harness := (true, "28f09d7cabfff389cf9ea63f2267f5e9dfe4b841595903a6a2c4051dada5a65c"), looks := false }, kinds := [], alts := [], laidByText := true, laidKinds := [.data, .data, .data, .listed, .data, .widerDeep, .widerDeep, .widerDeep, .widerDeep], laidTests := true, laidLooks := .later }
def AlgebraNarrowsCardSaid : Prop := Claim7.holds Tryz.pinned (.plain (OpenSpec.ofChange algebraNarrowsSpec)) algebraNarrowsCard

/-- THE TIED CARD OF 'sleuthlaw39.AlgebraAdds'. -/
def algebraAddsCard : Claim7 := { stood := { row := algebraAddsRow, standIns := [], harness := (true, "28f09d7cabfff389cf9ea63f2267f5e9dfe4b841595903a6a2c4051dada5a65c"), looks := false }, kinds := [], alts := [], laidByText := true, laidKinds := [.data, .data, .data, .listed, .data, .widerDeep, .widerDeep, .widerDeep, .widerDeep], laidTests := true, laidLooks := .later }
def AlgebraAddsCardSaid : Prop := Claim7.holds Tryz.pinned (.plain (OpenSpec.ofChange algebraAddsSpec)) algebraAddsCard

/-- THE SECOND FORM's CARD OF 'sleuthlaw39.AlgebraChecks'. -/
def algebraChecksUptoCard : Claim7 := { stood := { row := algebraChecksUptoRow, standIns := [], harness := (true, "28f09d7cabfff389cf9ea63f2267f5e9dfe4b841595903a6a2c4051dada5a65c"), looks := false }, kinds := [], alts := [], laidByText := true, laidKinds := [.data, .data, .data, .listed, .data, .widerDeep, .widerDeep, .widerDeep, .widerDeep], laidTests := true, laidLooks := .later }
def AlgebraChecksUptoCardSaid : Prop := Claim7.holds Tryz.pinned (.plain (OpenSpec.upto algebraChecksSpec)) algebraChecksUptoCard

/-- THE SECOND FORM's CARD OF 'sleuthlaw39.AlgebraValues'. -/
def algebraValuesUptoCard : Claim7 := { stood := { row := algebraValuesUptoRow, standIns := [], harness := (true, "28f09d7cabfff389cf9ea63f2267f5e9dfe4b841595903a6a2c4051dada5a65c"), looks := false }, kinds := [], alts := [], laidByText := true, laidKinds := [.data, .data, .data, .listed, .data, .widerDeep, .widerDeep, .widerDeep, .widerDeep], laidTests := true, laidLooks := .later }
def AlgebraValuesUptoCardSaid : Prop := Claim7.holds Tryz.pinned (.plain (OpenSpec.upto algebraValuesSpec)) algebraValuesUptoCard

/-- THE SECOND FORM's CARD OF 'sleuthlaw39.AlgebraSelects'. -/
def algebraSelectsUptoCard : Claim7 := { stood := { row := algebraSelectsUptoRow, standIns := [], harness := (true, "28f09d7cabfff389cf9ea63f2267f5e9dfe4b841595903a6a2c4051dada5a65c"), looks := false }, kinds := [], alts := [], laidByText := true, laidKinds := [.data, .data, .data, .listed, .data, .widerDeep, .widerDeep, .widerDeep, .widerDeep], laidTests := true, laidLooks := .later }
def AlgebraSelectsUptoCardSaid : Prop := Claim7.holds Tryz.pinned (.plain (OpenSpec.upto algebraSelectsSpec)) algebraSelectsUptoCard

/-- THE SECOND FORM's CARD OF 'sleuthlaw39.AlgebraMatches'. -/
def algebraMatchesUptoCard : Claim7 := { stood := { row := algebraMatchesUptoRow, standIns := [], harness := (true, "28f09d7cabfff389cf9ea63f2267f5e9dfe4b841595903a6a2c4051dada5a65c"), looks := false }, kinds := [], alts := [], laidByText := true, laidKinds := [.data, .data, .data, .listed, .data, .widerDeep, .widerDeep, .widerDeep, .widerDeep], laidTests := true, laidLooks := .later }
def AlgebraMatchesUptoCardSaid : Prop := Claim7.holds Tryz.pinned (.plain (OpenSpec.upto algebraMatchesSpec)) algebraMatchesUptoCard

/-- THE SECOND FORM's CARD OF 'sleuthlaw39.AlgebraEvaluates'. -/
def algebraEvaluatesUptoCard : Claim7 := { stood := { row := algebraEvaluatesUptoRow, standIns := [], harness := (true, "28f09d7cabfff389cf9ea63f2267f5e9dfe4b841595903a6a2c4051dada5a65c"), looks := false }, kinds := [], alts := [], laidByText := true, laidKinds := [.data, .data, .data, .listed, .data, .widerDeep, .widerDeep, .widerDeep, .widerDeep], laidTests := true, laidLooks := .later }
def AlgebraEvaluatesUptoCardSaid : Prop := Claim7.holds Tryz.pinned (.plain (OpenSpec.upto algebraEvaluatesSpec)) algebraEvaluatesUptoCard

/-- THE SECOND FORM's CARD OF 'sleuthlaw39.AlgebraErrors'. -/
def algebraErrorsUptoCard : Claim7 := { stood := { row := algebraErrorsUptoRow, standIns := [], harness := (true, "28f09d7cabfff389cf9ea63f2267f5e9dfe4b841595903a6a2c4051dada5a65c"), looks := false }, kinds := [], alts := [], laidByText := true, laidKinds := [.data, .data, .data, .listed, .data, .widerDeep, .widerDeep, .widerDeep, .widerDeep], laidTests := true, laidLooks := .later }
def AlgebraErrorsUptoCardSaid : Prop := Claim7.holds Tryz.pinned (.plain (OpenSpec.upto algebraErrorsSpec)) algebraErrorsUptoCard

/-- THE SECOND FORM's CARD OF 'sleuthlaw39.AlgebraAggregates'. -/
def algebraAggregatesUptoCard : Claim7 := { stood := { row := algebraAggregatesUptoRow, standIns := [], harness := (true, "28f09d7cabfff389cf9ea63f2267f5e9dfe4b841595903a6a2c4051dada5a65c"), looks := false }, kinds := [], alts := [], laidByText := true, laidKinds := [.data, .data, .data, .listed, .data, .widerDeep, .widerDeep, .widerDeep, .widerDeep], laidTests := true, laidLooks := .later }
def AlgebraAggregatesUptoCardSaid : Prop := Claim7.holds Tryz.pinned (.plain (OpenSpec.upto algebraAggregatesSpec)) algebraAggregatesUptoCard

/-- THE SECOND FORM's CARD OF 'sleuthlaw39.AlgebraArranges'. -/
def algebraArrangesUptoCard : Claim7 := { stood := { row := algebraArrangesUptoRow, standIns := [], harness := (true, "28f09d7cabfff389cf9ea63f2267f5e9dfe4b841595903a6a2c4051dada5a65c"), looks := false }, kinds := [], alts := [], laidByText := true, laidKinds := [.data, .data, .data, .listed, .data, .widerDeep, .widerDeep, .widerDeep, .widerDeep], laidTests := true, laidLooks := .later }
def AlgebraArrangesUptoCardSaid : Prop := Claim7.holds Tryz.pinned (.plain (OpenSpec.upto algebraArrangesSpec)) algebraArrangesUptoCard

/-- THE SECOND FORM's CARD OF 'sleuthlaw39.AlgebraNarrows'. -/
def algebraNarrowsUptoCard : Claim7 := { stood := { row := algebraNarrowsUptoRow, standIns := [], harness := (true, "28f09d7cabfff389cf9ea63f2267f5e9dfe4b841595903a6a2c4051dada5a65c"), looks := false }, kinds := [], alts := [], laidByText := true, laidKinds := [.data, .data, .data, .listed, .data, .widerDeep, .widerDeep, .widerDeep, .widerDeep], laidTests := true, laidLooks := .later }
def AlgebraNarrowsUptoCardSaid : Prop := Claim7.holds Tryz.pinned (.plain (OpenSpec.upto algebraNarrowsSpec)) algebraNarrowsUptoCard

/-- THE SECOND FORM's CARD OF 'sleuthlaw39.AlgebraAdds'. -/
def algebraAddsUptoCard : Claim7 := { stood := { row := algebraAddsUptoRow, standIns := [], harness := (true, "28f09d7cabfff389cf9ea63f2267f5e9dfe4b841595903a6a2c4051dada5a65c"), looks := false }, kinds := [], alts := [], laidByText := true, laidKinds := [.data, .data, .data, .listed, .data, .widerDeep, .widerDeep, .widerDeep, .widerDeep], laidTests := true, laidLooks := .later }
def AlgebraAddsUptoCardSaid : Prop := Claim7.holds Tryz.pinned (.plain (OpenSpec.upto algebraAddsSpec)) algebraAddsUptoCard
end Rows
end Go.Proofs.YtmhjojadboilbaaGreatDoor
