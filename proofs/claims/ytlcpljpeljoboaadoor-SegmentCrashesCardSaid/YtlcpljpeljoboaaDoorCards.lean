/-
  DERIVED. GIVEN WITH THE SEED: THE CARDS: each row of YtlcpljpeljoboaaDoorRows.lean that lists a variable, with what it lists TIED to the program's text (the seventh form; the later family's looks); each row that meets fmt, with fmt's text TOLD by the authors' own Lean function (tested against real Go, not proved from fmt's source: count such statements apart). THE CARD IS WHAT COUNTS. Prove the row's statement (the work); the ties are given (YtlcpljpeljoboaaDoorTie.lean); close each card by the builder's one call (the guide's Derived/Test/ToyasCard.lean, 'card_holds'). Laid BY PROGRAM, IN A SANDBOX (cutbox-door.mjs). By AI agents, Wed Nov 11 2026. No macro, syntax, notation, axiom, sorry.
-/
import Derived.Test.YtlcpljpeljoboaaDoorRows
import GoSem.ClaimSeven
namespace Go.Proofs.YtlcpljpeljoboaaDoor
namespace Rows

/-- THE TIED CARD OF 'bywashlaw08.SegmentOpens'. -/
def segmentOpensCard : Claim7 := { stood := { row := segmentOpensRow, standIns := [], harness := (true, "2e3040deadf934756e82f6ea199e40b2ee843b7135d35191f55661ff1e9e61ed"), looks := false }, kinds := [], alts := [], laidByText := true, laidKinds := [.data], laidTests := true, laidLooks := .later }
def SegmentOpensCardSaid : Prop := Claim7.holds Tryd.pinned (.plain (OpenSpec.ofChange segmentOpensSpec)) segmentOpensCard

/-- THE TIED CARD OF 'bywashlaw08.SegmentCrashes'. -/
def segmentCrashesCard : Claim7 := { stood := { row := segmentCrashesRow, standIns := [], harness := (true, "2e3040deadf934756e82f6ea199e40b2ee843b7135d35191f55661ff1e9e61ed"), looks := false }, kinds := [], alts := [], laidByText := true, laidKinds := [.data], laidTests := true, laidLooks := .later }
def SegmentCrashesCardSaid : Prop := Claim7.holds Tryd.pinned (.plain (OpenSpec.ofChange segmentCrashesSpec)) segmentCrashesCard

/-- THE TIED CARD OF 'bywashlaw08.SegmentReopens'. -/
def segmentReopensCard : Claim7 := { stood := { row := segmentReopensRow, standIns := [], harness := (true, "2e3040deadf934756e82f6ea199e40b2ee843b7135d35191f55661ff1e9e61ed"), looks := false }, kinds := [], alts := [], laidByText := true, laidKinds := [.data], laidTests := true, laidLooks := .later }
def SegmentReopensCardSaid : Prop := Claim7.holds Tryd.pinned (.plain (OpenSpec.ofChange segmentReopensSpec)) segmentReopensCard

/-- THE TIED CARD OF 'bywashlaw08.SegmentPlays'. -/
def segmentPlaysCard : Claim7 := { stood := { row := segmentPlaysRow, standIns := [], harness := (true, "2e3040deadf934756e82f6ea199e40b2ee843b7135d35191f55661ff1e9e61ed"), looks := false }, kinds := [], alts := [], laidByText := true, laidKinds := [.data], laidTests := true, laidLooks := .later }
def SegmentPlaysCardSaid : Prop := Claim7.holds Tryd.pinned (.plain (OpenSpec.ofChange segmentPlaysSpec)) segmentPlaysCard

/-- THE SECOND FORM's CARD OF 'bywashlaw08.SegmentOpens'. -/
def segmentOpensUptoCard : Claim7 := { stood := { row := segmentOpensUptoRow, standIns := [], harness := (true, "2e3040deadf934756e82f6ea199e40b2ee843b7135d35191f55661ff1e9e61ed"), looks := false }, kinds := [], alts := [], laidByText := true, laidKinds := [.data], laidTests := true, laidLooks := .later }
def SegmentOpensUptoCardSaid : Prop := Claim7.holds Tryd.pinned (.plain (OpenSpec.upto segmentOpensSpec)) segmentOpensUptoCard

/-- THE SECOND FORM's CARD OF 'bywashlaw08.SegmentCrashes'. -/
def segmentCrashesUptoCard : Claim7 := { stood := { row := segmentCrashesUptoRow, standIns := [], harness := (true, "2e3040deadf934756e82f6ea199e40b2ee843b7135d35191f55661ff1e9e61ed"), looks := false }, kinds := [], alts := [], laidByText := true, laidKinds := [.data], laidTests := true, laidLooks := .later }
def SegmentCrashesUptoCardSaid : Prop := Claim7.holds Tryd.pinned (.plain (OpenSpec.upto segmentCrashesSpec)) segmentCrashesUptoCard

/-- THE SECOND FORM's CARD OF 'bywashlaw08.SegmentReopens'. -/
def segmentReopensUptoCard : Claim7 := { stood := { row := segmentReopensUptoRow, standIns := [], harness := (true, "2e3040deadf934756e82f6ea199e40b2ee843b7135d35191f55661ff1e9e61ed"), looks := false }, kinds := [], alts := [], laidByText := true, laidKinds := [.data], laidTests := true, laidLooks := .later }
def SegmentReopensUptoCardSaid : Prop := Claim7.holds Tryd.pinned (.plain (OpenSpec.upto segmentReopensSpec)) segmentReopensUptoCard

/-- THE SECOND FORM's CARD OF 'bywashlaw08.SegmentPlays'. -/
def segmentPlaysUptoCard : Claim7 := { stood := { row := segmentPlaysUptoRow, standIns := [], harness := (true, "2e3040deadf934756e82f6ea199e40b2ee843b7135d35191f55661ff1e9e61ed"), looks := false }, kinds := [], alts := [], laidByText := true, laidKinds := [.data], laidTests := true, laidLooks := .later }
def SegmentPlaysUptoCardSaid : Prop := Claim7.holds Tryd.pinned (.plain (OpenSpec.upto segmentPlaysSpec)) segmentPlaysUptoCard
end Rows
end Go.Proofs.YtlcpljpeljoboaaDoor
