/-
  DERIVED. GIVEN WITH THE SEED: THE CARDS: each row of YtngoiphknffplaaDoorRows.lean that lists a variable, with what it lists TIED to the program's text (the seventh form; the later family's looks); each row that meets fmt, with fmt's text TOLD by the authors' own Lean function (tested against real Go, not proved from fmt's source: count such statements apart). THE CARD IS WHAT COUNTS. Prove the row's statement (the work); the ties are given (YtngoiphknffplaaDoorTie.lean); close each card by the builder's one call (the guide's Derived/Test/ToyasCard.lean, 'card_holds'). Laid BY PROGRAM, IN A SANDBOX (cutbox-door.mjs). By AI agents, Wed Nov 11 2026. No macro, syntax, notation, axiom, sorry.
-/
import Derived.Test.YtngoiphknffplaaDoorRows
import GoSem.ClaimSeven
namespace Go.Proofs.YtngoiphknffplaaDoor
namespace Rows

/-- THE TIED CARD OF 'bywashlaw02.SchemaParses'. -/
def schemaParsesCard : Claim7 := { stood := { row := schemaParsesRow, standIns := [], harness := (true, "f6c3a78454732425777c8cf6f4da1fd08966608962bd450c58752be6814b20f5"), looks := false }, kinds := [], alts := [], laidByText := true, laidKinds := [.data, .widerDeep, .pinned], laidTests := true, laidLooks := .later }
def SchemaParsesCardSaid : Prop := Claim7.holds Tryd.pinned (.plain (OpenSpec.ofChange schemaParsesSpec)) schemaParsesCard

/-- THE TIED CARD OF 'bywashlaw02.SchemaShows'. -/
def schemaShowsCard : Claim7 := { stood := { row := schemaShowsRow, standIns := [], harness := (true, "f6c3a78454732425777c8cf6f4da1fd08966608962bd450c58752be6814b20f5"), looks := false }, kinds := [], alts := [], laidByText := true, laidKinds := [.data, .widerDeep, .pinned], laidTests := true, laidLooks := .later }
def SchemaShowsCardSaid : Prop := Claim7.holds Tryd.pinned (.plain (OpenSpec.ofChange schemaShowsSpec)) schemaShowsCard

/-- THE TIED CARD OF 'bywashlaw02.SchemaPicks'. -/
def schemaPicksCard : Claim7 := { stood := { row := schemaPicksRow, standIns := [], harness := (true, "f6c3a78454732425777c8cf6f4da1fd08966608962bd450c58752be6814b20f5"), looks := false }, kinds := [], alts := [], laidByText := true, laidKinds := [.data, .widerDeep, .pinned], laidTests := true, laidLooks := .later }
def SchemaPicksCardSaid : Prop := Claim7.holds Tryd.pinned (.plain (OpenSpec.ofChange schemaPicksSpec)) schemaPicksCard

/-- THE TIED CARD OF 'bywashlaw02.SchemaChecks'. -/
def schemaChecksCard : Claim7 := { stood := { row := schemaChecksRow, standIns := [], harness := (true, "f6c3a78454732425777c8cf6f4da1fd08966608962bd450c58752be6814b20f5"), looks := false }, kinds := [], alts := [], laidByText := true, laidKinds := [.data, .widerDeep, .pinned], laidTests := true, laidLooks := .later }
def SchemaChecksCardSaid : Prop := Claim7.holds Tryd.pinned (.plain (OpenSpec.ofChange schemaChecksSpec)) schemaChecksCard

/-- THE TIED CARD OF 'bywashlaw02.SchemaFits'. -/
def schemaFitsCard : Claim7 := { stood := { row := schemaFitsRow, standIns := [], harness := (true, "f6c3a78454732425777c8cf6f4da1fd08966608962bd450c58752be6814b20f5"), looks := false }, kinds := [], alts := [], laidByText := true, laidKinds := [.data, .widerDeep, .pinned], laidTests := true, laidLooks := .later }
def SchemaFitsCardSaid : Prop := Claim7.holds Tryd.pinned (.plain (OpenSpec.ofChange schemaFitsSpec)) schemaFitsCard

/-- THE TIED CARD OF 'bywashlaw02.SchemaJoins'. -/
def schemaJoinsCard : Claim7 := { stood := { row := schemaJoinsRow, standIns := [], harness := (true, "f6c3a78454732425777c8cf6f4da1fd08966608962bd450c58752be6814b20f5"), looks := false }, kinds := [], alts := [], laidByText := true, laidKinds := [.data, .widerDeep, .pinned], laidTests := true, laidLooks := .later }
def SchemaJoinsCardSaid : Prop := Claim7.holds Tryd.pinned (.plain (OpenSpec.ofChange schemaJoinsSpec)) schemaJoinsCard

/-- THE TIED CARD OF 'bywashlaw02.SchemaRows'. -/
def schemaRowsCard : Claim7 := { stood := { row := schemaRowsRow, standIns := [], harness := (true, "f6c3a78454732425777c8cf6f4da1fd08966608962bd450c58752be6814b20f5"), looks := false }, kinds := [], alts := [], laidByText := true, laidKinds := [.data, .widerDeep, .pinned], laidTests := true, laidLooks := .later }
def SchemaRowsCardSaid : Prop := Claim7.holds Tryd.pinned (.plain (OpenSpec.ofChange schemaRowsSpec)) schemaRowsCard

/-- THE SECOND FORM's CARD OF 'bywashlaw02.SchemaParses'. -/
def schemaParsesUptoCard : Claim7 := { stood := { row := schemaParsesUptoRow, standIns := [], harness := (true, "f6c3a78454732425777c8cf6f4da1fd08966608962bd450c58752be6814b20f5"), looks := false }, kinds := [], alts := [], laidByText := true, laidKinds := [.data, .widerDeep, .pinned], laidTests := true, laidLooks := .later }
def SchemaParsesUptoCardSaid : Prop := Claim7.holds Tryd.pinned (.plain (OpenSpec.upto schemaParsesSpec)) schemaParsesUptoCard

/-- THE SECOND FORM's CARD OF 'bywashlaw02.SchemaShows'. -/
def schemaShowsUptoCard : Claim7 := { stood := { row := schemaShowsUptoRow, standIns := [], harness := (true, "f6c3a78454732425777c8cf6f4da1fd08966608962bd450c58752be6814b20f5"), looks := false }, kinds := [], alts := [], laidByText := true, laidKinds := [.data, .widerDeep, .pinned], laidTests := true, laidLooks := .later }
def SchemaShowsUptoCardSaid : Prop := Claim7.holds Tryd.pinned (.plain (OpenSpec.upto schemaShowsSpec)) schemaShowsUptoCard

/-- THE SECOND FORM's CARD OF 'bywashlaw02.SchemaPicks'. -/
def schemaPicksUptoCard : Claim7 := { stood := { row := schemaPicksUptoRow, standIns := [], harness := (true, "f6c3a78454732425777c8cf6f4da1fd08966608962bd450c58752be6814b20f5"), looks := false }, kinds := [], alts := [], laidByText := true, laidKinds := [.data, .widerDeep, .pinned], laidTests := true, laidLooks := .later }
def SchemaPicksUptoCardSaid : Prop := Claim7.holds Tryd.pinned (.plain (OpenSpec.upto schemaPicksSpec)) schemaPicksUptoCard

/-- THE SECOND FORM's CARD OF 'bywashlaw02.SchemaChecks'. -/
def schemaChecksUptoCard : Claim7 := { stood := { row := schemaChecksUptoRow, standIns := [], harness := (true, "f6c3a78454732425777c8cf6f4da1fd08966608962bd450c58752be6814b20f5"), looks := false }, kinds := [], alts := [], laidByText := true, laidKinds := [.data, .widerDeep, .pinned], laidTests := true, laidLooks := .later }
def SchemaChecksUptoCardSaid : Prop := Claim7.holds Tryd.pinned (.plain (OpenSpec.upto schemaChecksSpec)) schemaChecksUptoCard

/-- THE SECOND FORM's CARD OF 'bywashlaw02.SchemaFits'. -/
def schemaFitsUptoCard : Claim7 := { stood := { row := schemaFitsUptoRow, standIns := [], harness := (true, "f6c3a78454732425777c8cf6f4da1fd08966608962bd450c58752be6814b20f5"), looks := false }, kinds := [], alts := [], laidByText := true, laidKinds := [.data, .widerDeep, .pinned], laidTests := true, laidLooks := .later }
def SchemaFitsUptoCardSaid : Prop := Claim7.holds Tryd.pinned (.plain (OpenSpec.upto schemaFitsSpec)) schemaFitsUptoCard

/-- THE SECOND FORM's CARD OF 'bywashlaw02.SchemaJoins'. -/
def schemaJoinsUptoCard : Claim7 := { stood := { row := schemaJoinsUptoRow, standIns := [], harness := (true, "f6c3a78454732425777c8cf6f4da1fd08966608962bd450c58752be6814b20f5"), looks := false }, kinds := [], alts := [], laidByText := true, laidKinds := [.data, .widerDeep, .pinned], laidTests := true, laidLooks := .later }
def SchemaJoinsUptoCardSaid : Prop := Claim7.holds Tryd.pinned (.plain (OpenSpec.upto schemaJoinsSpec)) schemaJoinsUptoCard

/-- THE SECOND FORM's CARD OF 'bywashlaw02.SchemaRows'. -/
def schemaRowsUptoCard : Claim7 := { stood := { row := schemaRowsUptoRow, standIns := [], harness := (true, "f6c3a78454732425777c8cf6f4da1fd08966608962bd450c58752be6814b20f5"), looks := false }, kinds := [], alts := [], laidByText := true, laidKinds := [.data, .widerDeep, .pinned], laidTests := true, laidLooks := .later }
def SchemaRowsUptoCardSaid : Prop := Claim7.holds Tryd.pinned (.plain (OpenSpec.upto schemaRowsSpec)) schemaRowsUptoCard
end Rows
end Go.Proofs.YtngoiphknffplaaDoor
