/-
  DERIVED. GIVEN WITH THE SEED: THE CARDS: each row of YtoabloeechphkaaDoorRows.lean that lists a variable, with what it lists TIED to the program's text (the seventh form; the later family's looks); each row that meets fmt, with fmt's text TOLD by the authors' own Lean function (tested against real Go, not proved from fmt's source: count such statements apart). THE CARD IS WHAT COUNTS. Prove the row's statement (the work); the ties are given (YtoabloeechphkaaDoorTie.lean); close each card by the builder's one call (the guide's Derived/Test/ToyasCard.lean, 'card_holds'). Laid BY PROGRAM, IN A SANDBOX (cutbox-door.mjs). By AI agents, Wed Nov 11 2026. No macro, syntax, notation, axiom, sorry.
-/
import Derived.Test.YtoabloeechphkaaDoorRows
import GoSem.ClaimSeven
namespace Go.Proofs.YtoabloeechphkaaDoor
namespace Rows

/-- THE TIED CARD OF 'bywashlaw10.CronParses'. -/
def cronParsesCard : Claim7 := { stood := { row := cronParsesRow, standIns := [], harness := (true, "6e53ce5c8f9caffda0b2eb92ac971762c26b46cb08afad9de5c2fe5123322ef7"), looks := false }, kinds := [], alts := [], laidByText := true, laidKinds := [.data, .data, .data, .pinned], laidTests := true, laidLooks := .later }
def CronParsesCardSaid : Prop := Claim7.holds Tryd.pinned (.plain (OpenSpec.ofChange cronParsesSpec)) cronParsesCard

/-- THE TIED CARD OF 'bywashlaw10.CronMatches'. -/
def cronMatchesCard : Claim7 := { stood := { row := cronMatchesRow, standIns := [], harness := (true, "6e53ce5c8f9caffda0b2eb92ac971762c26b46cb08afad9de5c2fe5123322ef7"), looks := false }, kinds := [], alts := [], laidByText := true, laidKinds := [.data, .data, .data, .pinned], laidTests := true, laidLooks := .later }
def CronMatchesCardSaid : Prop := Claim7.holds Tryd.pinned (.plain (OpenSpec.ofChange cronMatchesSpec)) cronMatchesCard

/-- THE TIED CARD OF 'bywashlaw10.CronNext'. -/
def cronNextCard : Claim7 := { stood := { row := cronNextRow, standIns := [], harness := (true, "6e53ce5c8f9caffda0b2eb92ac971762c26b46cb08afad9de5c2fe5123322ef7"), looks := false }, kinds := [], alts := [], laidByText := true, laidKinds := [.data, .data, .data, .pinned], laidTests := true, laidLooks := .later }
def CronNextCardSaid : Prop := Claim7.holds Tryd.pinned (.plain (OpenSpec.ofChange cronNextSpec)) cronNextCard

/-- THE TIED CARD OF 'bywashlaw10.CronBetween'. -/
def cronBetweenCard : Claim7 := { stood := { row := cronBetweenRow, standIns := [], harness := (true, "6e53ce5c8f9caffda0b2eb92ac971762c26b46cb08afad9de5c2fe5123322ef7"), looks := false }, kinds := [], alts := [], laidByText := true, laidKinds := [.data, .data, .data, .pinned], laidTests := true, laidLooks := .later }
def CronBetweenCardSaid : Prop := Claim7.holds Tryd.pinned (.plain (OpenSpec.ofChange cronBetweenSpec)) cronBetweenCard

/-- THE TIED CARD OF 'bywashlaw10.CronParts'. -/
def cronPartsCard : Claim7 := { stood := { row := cronPartsRow, standIns := [], harness := (true, "6e53ce5c8f9caffda0b2eb92ac971762c26b46cb08afad9de5c2fe5123322ef7"), looks := false }, kinds := [], alts := [], laidByText := true, laidKinds := [.data, .data, .data, .pinned], laidTests := true, laidLooks := .later }
def CronPartsCardSaid : Prop := Claim7.holds Tryd.pinned (.plain (OpenSpec.ofChange cronPartsSpec)) cronPartsCard

/-- THE TIED CARD OF 'bywashlaw10.CronShows'. -/
def cronShowsCard : Claim7 := { stood := { row := cronShowsRow, standIns := [], harness := (true, "6e53ce5c8f9caffda0b2eb92ac971762c26b46cb08afad9de5c2fe5123322ef7"), looks := false }, kinds := [], alts := [], laidByText := true, laidKinds := [.data, .data, .data, .data, .data, .data, .pinned], laidTests := true, laidLooks := .later }
def CronShowsCardSaid : Prop := Claim7.holds Tryd.pinned (.plain (OpenSpec.ofChange cronShowsSpec)) cronShowsCard

/-- THE SECOND FORM's CARD OF 'bywashlaw10.CronParses'. -/
def cronParsesUptoCard : Claim7 := { stood := { row := cronParsesUptoRow, standIns := [], harness := (true, "6e53ce5c8f9caffda0b2eb92ac971762c26b46cb08afad9de5c2fe5123322ef7"), looks := false }, kinds := [], alts := [], laidByText := true, laidKinds := [.data, .data, .data, .pinned], laidTests := true, laidLooks := .later }
def CronParsesUptoCardSaid : Prop := Claim7.holds Tryd.pinned (.plain (OpenSpec.upto cronParsesSpec)) cronParsesUptoCard

/-- THE SECOND FORM's CARD OF 'bywashlaw10.CronMatches'. -/
def cronMatchesUptoCard : Claim7 := { stood := { row := cronMatchesUptoRow, standIns := [], harness := (true, "6e53ce5c8f9caffda0b2eb92ac971762c26b46cb08afad9de5c2fe5123322ef7"), looks := false }, kinds := [], alts := [], laidByText := true, laidKinds := [.data, .data, .data, .pinned], laidTests := true, laidLooks := .later }
def CronMatchesUptoCardSaid : Prop := Claim7.holds Tryd.pinned (.plain (OpenSpec.upto cronMatchesSpec)) cronMatchesUptoCard

/-- THE SECOND FORM's CARD OF 'bywashlaw10.CronNext'. -/
def cronNextUptoCard : Claim7 := { stood := { row := cronNextUptoRow, standIns := [], harness := (true, "6e53ce5c8f9caffda0b2eb92ac971762c26b46cb08afad9de5c2fe5123322ef7"), looks := false }, kinds := [], alts := [], laidByText := true, laidKinds := [.data, .data, .data, .pinned], laidTests := true, laidLooks := .later }
def CronNextUptoCardSaid : Prop := Claim7.holds Tryd.pinned (.plain (OpenSpec.upto cronNextSpec)) cronNextUptoCard

/-- THE SECOND FORM's CARD OF 'bywashlaw10.CronBetween'. -/
def cronBetweenUptoCard : Claim7 := { stood := { row := cronBetweenUptoRow, standIns := [], harness := (true, "6e53ce5c8f9caffda0b2eb92ac971762c26b46cb08afad9de5c2fe5123322ef7"), looks := false }, kinds := [], alts := [], laidByText := true, laidKinds := [.data, .data, .data, .pinned], laidTests := true, laidLooks := .later }
def CronBetweenUptoCardSaid : Prop := Claim7.holds Tryd.pinned (.plain (OpenSpec.upto cronBetweenSpec)) cronBetweenUptoCard

/-- THE SECOND FORM's CARD OF 'bywashlaw10.CronParts'. -/
def cronPartsUptoCard : Claim7 := { stood := { row := cronPartsUptoRow, standIns := [], harness := (true, "6e53ce5c8f9caffda0b2eb92ac971762c26b46cb08afad9de5c2fe5123322ef7"), looks := false }, kinds := [], alts := [], laidByText := true, laidKinds := [.data, .data, .data, .pinned], laidTests := true, laidLooks := .later }
def CronPartsUptoCardSaid : Prop := Claim7.holds Tryd.pinned (.plain (OpenSpec.upto cronPartsSpec)) cronPartsUptoCard

/-- THE SECOND FORM's CARD OF 'bywashlaw10.CronShows'. -/
def cronShowsUptoCard : Claim7 := { stood := { row := cronShowsUptoRow, standIns := [], harness := (true, "6e53ce5c8f9caffda0b2eb92ac971762c26b46cb08afad9de5c2fe5123322ef7"), looks := false }, kinds := [], alts := [], laidByText := true, laidKinds := [.data, .data, .data, .data, .data, .data, .pinned], laidTests := true, laidLooks := .later }
def CronShowsUptoCardSaid : Prop := Claim7.holds Tryd.pinned (.plain (OpenSpec.upto cronShowsSpec)) cronShowsUptoCard
end Rows
end Go.Proofs.YtoabloeechphkaaDoor
