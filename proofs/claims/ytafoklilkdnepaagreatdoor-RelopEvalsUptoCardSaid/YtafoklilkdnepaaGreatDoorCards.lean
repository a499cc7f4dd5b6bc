/-
  DERIVED. GIVEN WITH THE SEED: THE CARDS: each row of YtafoklilkdnepaaGreatDoorRows.lean that lists a variable, with what it lists TIED to the program's text (the seventh form; the later family's looks); each row that meets fmt, with fmt's text TOLD by the authors' own Lean function (tested against real Go, not proved from fmt's source: count such statements apart). THE CARD IS WHAT COUNTS. Prove the row's statement (the work); the ties are given (YtafoklilkdnepaaGreatDoorTie.lean); close each card by the builder's one call (the guide's Derived/Test/ToyasCard.lean, 'card_holds'). Laid BY PROGRAM, IN A SANDBOX (cutbox-door.mjs). By AI agents, Wed Nov 11 2026. No macro, syntax, notation, axiom, sorry.
-/
import Derived.Test.YtafoklilkdnepaaGreatDoorRows
import GoSem.ClaimSeven
namespace Go.Proofs.YtafoklilkdnepaaGreatDoor
namespace Rows

/-- THE TIED CARD OF 'bywashlaw05.RelopMany'. -/
def relopManyCard : Claim7 := { stood := { row := relopManyRow, standIns := [], harness := (true, "341e95d0a9d5e8e516152ac814105e17b53d3ee8f1c423f447a0b773349b1223"), looks := false }, kinds := [], alts := [], laidByText := true, laidKinds := [.data, .data, .data, .data], laidTests := true, laidLooks := .later }
def RelopManyCardSaid : Prop := Claim7.holds Tryz.pinned (.plain (OpenSpec.ofChange relopManySpec)) relopManyCard

/-- THE TIED CARD OF 'bywashlaw05.RelopTypes'. -/
def relopTypesCard : Claim7 := { stood := { row := relopTypesRow, standIns := [], harness := (true, "341e95d0a9d5e8e516152ac814105e17b53d3ee8f1c423f447a0b773349b1223"), looks := false }, kinds := [], alts := [], laidByText := true, laidKinds := [.data, .data, .data, .data], laidTests := true, laidLooks := .later }
def RelopTypesCardSaid : Prop := Claim7.holds Tryz.pinned (.plain (OpenSpec.ofChange relopTypesSpec)) relopTypesCard

/-- THE TIED CARD OF 'bywashlaw05.RelopEvals'. -/
def relopEvalsCard : Claim7 := { stood := { row := relopEvalsRow, standIns := [], harness := (true, "341e95d0a9d5e8e516152ac814105e17b53d3ee8f1c423f447a0b773349b1223"), looks := false }, kinds := [], alts := [], laidByText := true, laidKinds := [.data, .data, .data, .data], laidTests := true, laidLooks := .later }
def RelopEvalsCardSaid : Prop := Claim7.holds Tryz.pinned (.plain (OpenSpec.ofChange relopEvalsSpec)) relopEvalsCard

/-- THE TIED CARD OF 'bywashlaw05.RelopNested'. -/
def relopNestedCard : Claim7 := { stood := { row := relopNestedRow, standIns := [], harness := (true, "341e95d0a9d5e8e516152ac814105e17b53d3ee8f1c423f447a0b773349b1223"), looks := false }, kinds := [], alts := [], laidByText := true, laidKinds := [.data, .data, .data, .data], laidTests := true, laidLooks := .later }
def RelopNestedCardSaid : Prop := Claim7.holds Tryz.pinned (.plain (OpenSpec.ofChange relopNestedSpec)) relopNestedCard

/-- THE TIED CARD OF 'bywashlaw05.RelopRules'. -/
def relopRulesCard : Claim7 := { stood := { row := relopRulesRow, standIns := [], harness := (true, "341e95d0a9d5e8e516152ac814105e17b53d3ee8f1c423f447a0b773349b1223"), looks := false }, kinds := [], alts := [], laidByText := true, laidKinds := [.data, .data, .data, .data], laidTests := true, laidLooks := .later }
def RelopRulesCardSaid : Prop := Claim7.holds Tryz.pinned (.plain (OpenSpec.ofChange relopRulesSpec)) relopRulesCard

/-- THE TIED CARD OF 'bywashlaw05.RelopInputs'. -/
def relopInputsCard : Claim7 := { stood := { row := relopInputsRow, standIns := [], harness := (true, "341e95d0a9d5e8e516152ac814105e17b53d3ee8f1c423f447a0b773349b1223"), looks := false }, kinds := [], alts := [], laidByText := true, laidKinds := [.data, .data, .data, .data], laidTests := true, laidLooks := .later }
def RelopInputsCardSaid : Prop := Claim7.holds Tryz.pinned (.plain (OpenSpec.ofChange relopInputsSpec)) relopInputsCard

/-- THE SECOND FORM's CARD OF 'bywashlaw05.RelopMany'. -/
def relopManyUptoCard : Claim7 := { stood := { row := relopManyUptoRow, standIns := [], harness := (true, "341e95d0a9d5e8e516152ac814105e17b53d3ee8f1c423f447a0b773349b1223"), looks := false }, kinds := [], alts := [], laidByText := true, laidKinds := [.data, .data, .data, .data], laidTests := true, laidLooks := .later }
def RelopManyUptoCardSaid : Prop := Claim7.holds Tryz.pinned (.plain (OpenSpec.upto relopManySpec)) relopManyUptoCard

/-- THE SECOND FORM's CARD OF 'bywashlaw05.RelopTypes'. -/
def relopTypesUptoCard : Claim7 := { stood := { row := relopTypesUptoRow, standIns := [], harness := (true, "341e95d0a9d5e8e516152ac814105e17b53d3ee8f1c423f447a0b773349b1223"), looks := false }, kinds := [], alts := [], laidByText := true, laidKinds := [.data, .data, .data, .data], laidTests := true, laidLooks := .later }
def RelopTypesUptoCardSaid : Prop := Claim7.holds Tryz.pinned (.plain (OpenSpec.upto relopTypesSpec)) relopTypesUptoCard

/-- THE SECOND FORM's CARD OF 'bywashlaw05.RelopEvals'. -/
def relopEvalsUptoCard : Claim7 := { stood := { row := relopEvalsUptoRow, standIns := [], harness := (true, "341e95d0a9d5e8e516152ac814105e17b53d3ee8f1c423f447a0b773349b1223"), looks := false }, kinds := [], alts := [], laidByText := true, laidKinds := [.data, .data, .data, .data], laidTests := true, laidLooks := .later }
def RelopEvalsUptoCardSaid : Prop := Claim7.holds Tryz.pinned (.plain (OpenSpec.upto relopEvalsSpec)) relopEvalsUptoCard

/-- THE SECOND FORM's CARD OF 'bywashlaw05.RelopNested'. -/
def relopNestedUptoCard : Claim7 := { stood := { row := relopNestedUptoRow, standIns := [], harness := (true, "341e95d0a9d5e8e516152ac814105e17b53d3ee8f1c423f447a0b773349b1223"), looks := false }, kinds := [], alts := [], laidByText := true, laidKinds := [.data, .data, .data, .data], laidTests := true, laidLooks := .later }
def RelopNestedUptoCardSaid : Prop := Claim7.holds Tryz.pinned (.plain (OpenSpec.upto relopNestedSpec)) relopNestedUptoCard

/-- THE SECOND FORM's CARD OF 'bywashlaw05.RelopRules'. -/
def relopRulesUptoCard : Claim7 := { stood := { row := relopRulesUptoRow, standIns := [], harness := (true, "341e95d0a9d5e8e516152ac814105e17b53d3ee8f1c423f447a0b773349b1223"), looks := false }, kinds := [], alts := [], laidByText := true, laidKinds := [.data, .data, .data, .data], laidTests := true, laidLooks := .later }
def RelopRulesUptoCardSaid : Prop := Claim7.holds Tryz.pinned (.plain (OpenSpec.upto relopRulesSpec)) relopRulesUptoCard

/-- THE SECOND FORM's CARD OF 'bywashlaw05.RelopInputs'. -/
def relopInputsUptoCard : Claim7 := { stood := { row := relopInputsUptoRow, standIns := [], harness := (true, "341e95d0a9d5e8e516152ac814105e17b53d3ee8f1c423f447a0b773349b1223"), looks := false }, kinds := [], alts := [], laidByText := true, laidKinds := [.data, .data, .data, .data], laidTests := true, laidLooks := .later }
def RelopInputsUptoCardSaid : Prop := Claim7.holds Tryz.pinned (.plain (OpenSpec.upto relopInputsSpec)) relopInputsUptoCard
end Rows
end Go.Proofs.YtafoklilkdnepaaGreatDoor
