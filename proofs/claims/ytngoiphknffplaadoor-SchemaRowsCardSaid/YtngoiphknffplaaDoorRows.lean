/-
  NARROWER THAN 'FOR EVERY INPUT', by the rows' own cells (each row's printed sentence says how): SchemaParses: laid · SchemaShows: laid · SchemaPicks: laid · SchemaChecks: laid · SchemaFits: laid · SchemaJoins: laid · SchemaRows: laid.
  DERIVED. THE GIVEN ROWS OF THIS SEAT. 7 by the template 'for every input the law returns true; each argument reads behind the call as it read before'; 0 by the template 'total and deterministic' (their statements: YtngoiphknffplaaDoorTotals.lean).
  GIVEN WITH THE SEED: the statements are not yours to turn. If you find one false, say at which input.
  Laid BY PROGRAM, IN A SANDBOX (cutbox-rows.mjs): the forced cells as the released guide's own fill.sh prints them over the translation 544ba7ba94fde083… (all of the seat's roots in one cut). By AI agents, Wed Nov 11 2026. No macro, syntax, notation, axiom, sorry.
-/
import Derived.Test.YtngoiphknffplaaDoorChecked
import GoSem.PinnedTables
import GoSem.Claim
import GoSem.ClaimJoined
import GoSem.ClaimMapViews
import Derived.JoinedTies
import Derived.KernelRfl
namespace Go.Proofs.YtngoiphknffplaaDoor
/- THE CELL 'sum', in the pinned program and in every row, IS THE sha256 OF THE DUMP (.gsa) THAT YtngoiphknffplaaDoorProg.lean LOADS. Nothing in Lean hashes anything: it is a label: what it is worth is what the hold of that sum in a sandbox is worth. -/
noncomputable def Tryd.pinned : Pinned := { name := "ytngoiphknffplaadoor", sum := "544ba7ba94fde083eb3b6ccbadade5944c948c9127328296e51734ec8d8857f2", checked := Tryd.checked }
namespace Rows
def none {H : Type} : Left H := { results := [], args := [] }

/- WHAT THE LISTED PACKAGE-LEVEL VARIABLES READ AS WHEN THE CALL BEGINS. Each datum BY PROGRAM (the guide's laid-datum.mjs) off the statement by which the dump's own 'gosem.cut.vars' lays the variable. In a bare row this is a premise. The card (YtngoiphknffplaaDoorCards.lean) ties it to the program's text. -/
def laid_unicode_utf8_acceptRanges {H : Type} : DataW H := .agg [.agg [.lit (.int .u8 128), .lit (.int .u8 191)], .agg [.lit (.int .u8 160), .lit (.int .u8 191)], .agg [.lit (.int .u8 128), .lit (.int .u8 159)], .agg [.lit (.int .u8 144), .lit (.int .u8 191)], .agg [.lit (.int .u8 128), .lit (.int .u8 143)], .agg [.lit (.int .u8 0), .lit (.int .u8 0)], .agg [.lit (.int .u8 0), .lit (.int .u8 0)], .agg [.lit (.int .u8 0), .lit (.int .u8 0)], .agg [.lit (.int .u8 0), .lit (.int .u8 0)], .agg [.lit (.int .u8 0), .lit (.int .u8 0)], .agg [.lit (.int .u8 0), .lit (.int .u8 0)], .agg [.lit (.int .u8 0), .lit (.int .u8 0)], .agg [.lit (.int .u8 0), .lit (.int .u8 0)], .agg [.lit (.int .u8 0), .lit (.int .u8 0)], .agg [.lit (.int .u8 0), .lit (.int .u8 0)], .agg [.lit (.int .u8 0), .lit (.int .u8 0)]]
def laid_bywash_schema_words {H : Type} : DataW H := .agg [.lit (.string []), .lit (.string [105, 110, 116]), .lit (.string [116, 101, 120, 116])]
/-- One of Go's own tables, pinned by name: the form's constant. -/
def laid_unicode_utf8_first : DataW Unit := Go.Pinned.utf8First

/-- 'bywashlaw02.SchemaParses': WHATEVER THE INPUT: true; the input reads as it did. -/
def schemaParsesSpec : ChangeSpec := { name := "schemaParses", fn := fun _ => fun
  | [d] => { results := [.lit (.bool true)], args := [d] }
  | _ => none }
def schemaParsesRow : OpenClaim := { program := "ytngoiphknffplaadoor", sum := "544ba7ba94fde083eb3b6ccbadade5944c948c9127328296e51734ec8d8857f2", func := "bywash/bywashlaw02.SchemaParses", spec := "schemaParses", inPlace := ["internal/bytealg.IndexByteString", "internal/bytealg.IndexString", "internal/abi.NoEscape", "internal/bytealg.MakeNoZero"], unfollowed := true, recurses := true, named := ["bywash/schema.words", "unicode/utf8.first", "unicode/utf8.acceptRanges", "internal/bytealg.MaxLen"], apart := false, laid := [("unicode/utf8.acceptRanges", laid_unicode_utf8_acceptRanges), ("bywash/schema.words", laid_bywash_schema_words), ("unicode/utf8.first", laid_unicode_utf8_first)] }
def SchemaParsesSaid : Prop := schemaParsesRow.holds Tryd.pinned (OpenSpec.ofChange schemaParsesSpec)

/-- ITS FALSE NEIGHBOUR: 'it returns false'. Refute it at one input. -/
def schemaParsesWrong : ChangeSpec := { name := "schemaParses", fn := fun _ => fun
  | [d] => { results := [.lit (.bool false)], args := [d] }
  | _ => none }
def SchemaParsesWrongFalsely : Prop := schemaParsesRow.holds Tryd.pinned (OpenSpec.ofChange schemaParsesWrong)

/-- 'bywashlaw02.SchemaShows': WHATEVER THE INPUT: true; the input reads as it did. -/
def schemaShowsSpec : ChangeSpec := { name := "schemaShows", fn := fun _ => fun
  | [d] => { results := [.lit (.bool true)], args := [d] }
  | _ => none }
def schemaShowsRow : OpenClaim := { program := "ytngoiphknffplaadoor", sum := "544ba7ba94fde083eb3b6ccbadade5944c948c9127328296e51734ec8d8857f2", func := "bywash/bywashlaw02.SchemaShows", spec := "schemaShows", inPlace := ["internal/bytealg.IndexByteString", "internal/bytealg.IndexString", "internal/abi.NoEscape", "internal/bytealg.MakeNoZero"], unfollowed := true, recurses := true, named := ["bywash/schema.words", "unicode/utf8.first", "unicode/utf8.acceptRanges", "internal/bytealg.MaxLen"], apart := false, laid := [("unicode/utf8.acceptRanges", laid_unicode_utf8_acceptRanges), ("bywash/schema.words", laid_bywash_schema_words), ("unicode/utf8.first", laid_unicode_utf8_first)] }
def SchemaShowsSaid : Prop := schemaShowsRow.holds Tryd.pinned (OpenSpec.ofChange schemaShowsSpec)

/-- ITS FALSE NEIGHBOUR: 'it returns false'. Refute it at one input. -/
def schemaShowsWrong : ChangeSpec := { name := "schemaShows", fn := fun _ => fun
  | [d] => { results := [.lit (.bool false)], args := [d] }
  | _ => none }
def SchemaShowsWrongFalsely : Prop := schemaShowsRow.holds Tryd.pinned (OpenSpec.ofChange schemaShowsWrong)

/-- 'bywashlaw02.SchemaPicks': WHATEVER THE INPUT: true; the input reads as it did. -/
def schemaPicksSpec : ChangeSpec := { name := "schemaPicks", fn := fun _ => fun
  | [d1, d2] => { results := [.lit (.bool true)], args := [d1, d2] }
  | _ => none }
def schemaPicksRow : OpenClaim := { program := "ytngoiphknffplaadoor", sum := "544ba7ba94fde083eb3b6ccbadade5944c948c9127328296e51734ec8d8857f2", func := "bywash/bywashlaw02.SchemaPicks", spec := "schemaPicks", inPlace := ["internal/bytealg.IndexByteString", "internal/bytealg.IndexString", "internal/abi.NoEscape", "internal/bytealg.MakeNoZero"], unfollowed := true, recurses := true, named := ["bywash/schema.words", "unicode/utf8.first", "unicode/utf8.acceptRanges", "internal/bytealg.MaxLen"], apart := false, laid := [("unicode/utf8.acceptRanges", laid_unicode_utf8_acceptRanges), ("bywash/schema.words", laid_bywash_schema_words), ("unicode/utf8.first", laid_unicode_utf8_first)] }
def SchemaPicksSaid : Prop := schemaPicksRow.holds Tryd.pinned (OpenSpec.ofChange schemaPicksSpec)

/-- ITS FALSE NEIGHBOUR: 'it returns false'. Refute it at one input. -/
def schemaPicksWrong : ChangeSpec := { name := "schemaPicks", fn := fun _ => fun
  | [d1, d2] => { results := [.lit (.bool false)], args := [d1, d2] }
  | _ => none }
def SchemaPicksWrongFalsely : Prop := schemaPicksRow.holds Tryd.pinned (OpenSpec.ofChange schemaPicksWrong)

/-- 'bywashlaw02.SchemaChecks': WHATEVER THE INPUT: true; the input reads as it did. -/
def schemaChecksSpec : ChangeSpec := { name := "schemaChecks", fn := fun _ => fun
  | [d1, d2] => { results := [.lit (.bool true)], args := [d1, d2] }
  | _ => none }
def schemaChecksRow : OpenClaim := { program := "ytngoiphknffplaadoor", sum := "544ba7ba94fde083eb3b6ccbadade5944c948c9127328296e51734ec8d8857f2", func := "bywash/bywashlaw02.SchemaChecks", spec := "schemaChecks", inPlace := ["internal/bytealg.IndexByteString", "internal/bytealg.IndexString", "internal/abi.NoEscape", "internal/bytealg.MakeNoZero"], unfollowed := true, recurses := true, named := ["bywash/schema.words", "unicode/utf8.first", "unicode/utf8.acceptRanges", "internal/bytealg.MaxLen"], apart := false, laid := [("unicode/utf8.acceptRanges", laid_unicode_utf8_acceptRanges), ("bywash/schema.words", laid_bywash_schema_words), ("unicode/utf8.first", laid_unicode_utf8_first)] }
def SchemaChecksSaid : Prop := schemaChecksRow.holds Tryd.pinned (OpenSpec.ofChange schemaChecksSpec)

/-- ITS FALSE NEIGHBOUR: 'it returns false'. Refute it at one input. -/
def schemaChecksWrong : ChangeSpec := { name := "schemaChecks", fn := fun _ => fun
  | [d1, d2] => { results := [.lit (.bool false)], args := [d1, d2] }
  | _ => none }
def SchemaChecksWrongFalsely : Prop := schemaChecksRow.holds Tryd.pinned (OpenSpec.ofChange schemaChecksWrong)

/-- 'bywashlaw02.SchemaFits': WHATEVER THE INPUT: true; the input reads as it did. -/
def schemaFitsSpec : ChangeSpec := { name := "schemaFits", fn := fun _ => fun
  | [d1, d2] => { results := [.lit (.bool true)], args := [d1, d2] }
  | _ => none }
def schemaFitsRow : OpenClaim := { program := "ytngoiphknffplaadoor", sum := "544ba7ba94fde083eb3b6ccbadade5944c948c9127328296e51734ec8d8857f2", func := "bywash/bywashlaw02.SchemaFits", spec := "schemaFits", inPlace := ["internal/bytealg.IndexByteString", "internal/bytealg.IndexString", "internal/abi.NoEscape", "internal/bytealg.MakeNoZero"], unfollowed := true, recurses := true, named := ["bywash/schema.words", "unicode/utf8.first", "unicode/utf8.acceptRanges", "internal/bytealg.MaxLen"], apart := false, laid := [("unicode/utf8.acceptRanges", laid_unicode_utf8_acceptRanges), ("bywash/schema.words", laid_bywash_schema_words), ("unicode/utf8.first", laid_unicode_utf8_first)] }
def SchemaFitsSaid : Prop := schemaFitsRow.holds Tryd.pinned (OpenSpec.ofChange schemaFitsSpec)

/-- ITS FALSE NEIGHBOUR: 'it returns false'. Refute it at one input. -/
def schemaFitsWrong : ChangeSpec := { name := "schemaFits", fn := fun _ => fun
  | [d1, d2] => { results := [.lit (.bool false)], args := [d1, d2] }
  | _ => none }
def SchemaFitsWrongFalsely : Prop := schemaFitsRow.holds Tryd.pinned (OpenSpec.ofChange schemaFitsWrong)

/-- 'bywashlaw02.SchemaJoins': WHATEVER THE INPUT: true; the input reads as it did. -/
def schemaJoinsSpec : ChangeSpec := { name := "schemaJoins", fn := fun _ => fun
  | [d1, d2] => { results := [.lit (.bool true)], args := [d1, d2] }
  | _ => none }
def schemaJoinsRow : OpenClaim := { program := "ytngoiphknffplaadoor", sum := "544ba7ba94fde083eb3b6ccbadade5944c948c9127328296e51734ec8d8857f2", func := "bywash/bywashlaw02.SchemaJoins", spec := "schemaJoins", inPlace := ["internal/bytealg.IndexByteString", "internal/bytealg.IndexString", "internal/abi.NoEscape", "internal/bytealg.MakeNoZero"], unfollowed := true, recurses := true, named := ["bywash/schema.words", "unicode/utf8.first", "unicode/utf8.acceptRanges", "internal/bytealg.MaxLen"], apart := false, laid := [("unicode/utf8.acceptRanges", laid_unicode_utf8_acceptRanges), ("bywash/schema.words", laid_bywash_schema_words), ("unicode/utf8.first", laid_unicode_utf8_first)] }
def SchemaJoinsSaid : Prop := schemaJoinsRow.holds Tryd.pinned (OpenSpec.ofChange schemaJoinsSpec)

/-- ITS FALSE NEIGHBOUR: 'it returns false'. Refute it at one input. -/
def schemaJoinsWrong : ChangeSpec := { name := "schemaJoins", fn := fun _ => fun
  | [d1, d2] => { results := [.lit (.bool false)], args := [d1, d2] }
  | _ => none }
def SchemaJoinsWrongFalsely : Prop := schemaJoinsRow.holds Tryd.pinned (OpenSpec.ofChange schemaJoinsWrong)

/-- 'bywashlaw02.SchemaRows': WHATEVER THE INPUT: true; the input reads as it did. -/
def schemaRowsSpec : ChangeSpec := { name := "schemaRows", fn := fun _ => fun
  | [d1, d2] => { results := [.lit (.bool true)], args := [d1, d2] }
  | _ => none }
def schemaRowsRow : OpenClaim := { program := "ytngoiphknffplaadoor", sum := "544ba7ba94fde083eb3b6ccbadade5944c948c9127328296e51734ec8d8857f2", func := "bywash/bywashlaw02.SchemaRows", spec := "schemaRows", inPlace := ["internal/bytealg.IndexByteString", "internal/bytealg.IndexString", "internal/abi.NoEscape", "internal/bytealg.MakeNoZero", "internal/bytealg.abigen_runtime_cmpstring"], unfollowed := true, recurses := true, named := ["bywash/schema.words", "unicode/utf8.first", "unicode/utf8.acceptRanges", "internal/bytealg.MaxLen"], apart := false, laid := [("unicode/utf8.acceptRanges", laid_unicode_utf8_acceptRanges), ("bywash/schema.words", laid_bywash_schema_words), ("unicode/utf8.first", laid_unicode_utf8_first)] }
def SchemaRowsSaid : Prop := schemaRowsRow.holds Tryd.pinned (OpenSpec.ofChange schemaRowsSpec)

/-- ITS FALSE NEIGHBOUR: 'it returns false'. Refute it at one input. -/
def schemaRowsWrong : ChangeSpec := { name := "schemaRows", fn := fun _ => fun
  | [d1, d2] => { results := [.lit (.bool false)], args := [d1, d2] }
  | _ => none }
def SchemaRowsWrongFalsely : Prop := schemaRowsRow.holds Tryd.pinned (OpenSpec.ofChange schemaRowsWrong)

/- THE SECOND FORM. 'bulk': how many values and letters a reading holds, each counted each time it is reached (what is shared counts as often as it is met; a slice's spare places count too). A statement '..UptoSaid' is the law's where the arguments, and the package variables that the reading takes, are together of bulk at most 1048576: NARROWER than '..Said'. Prove '..Said' where nothing that the law and all that it calls make is longer than what came in: it says more and counts as full. Else prove '..UptoSaid'. A law counts once. -/
mutual
def uptoBulk {H : Type} : DataW H → Nat
  | .lit (.string bytes) => bytes.length + 1
  | .lit _ => 1
  | .nil => 1
  | .ptr d => uptoBulk d + 1
  | .slice elems spare => uptoBulkAll elems + uptoBulkAll spare + 1
  | .agg parts => uptoBulkAll parts + 1
  | .iface _ d => uptoBulk d + 1
  | .map entries => uptoBulkEntries entries + 1
  | .held _ => 1
def uptoBulkAll {H : Type} : List (DataW H) → Nat
  | [] => 0
  | d :: r => uptoBulk d + uptoBulkAll r
def uptoBulkEntries {H : Type} : List (Lit × DataW H) → Nat
  | [] => 0
  | x :: r => uptoBulkEntry x + uptoBulkEntries r
def uptoBulkEntry {H : Type} : Lit × DataW H → Nat
  | (.string bytes, d) => bytes.length + uptoBulk d + 1
  | (_, d) => uptoBulk d + 1
 end
def uptoSmall : (H : Type) → List (DataW H) → Bool := fun _ ds => decide (uptoBulkAll ds ≤ 1048576)
def OpenSpec.upto (s : _root_.Go.ChangeSpec) : _root_.Go.OpenSpec := { _root_.Go.OpenSpec.ofChange s with cond := some uptoSmall }

/-- 'bywashlaw02.SchemaParses', WHERE WHAT IT READS IS OF BULK AT MOST 1048576: true; the input reads as it did. -/
def schemaParsesUptoRow : OpenClaim := { program := "ytngoiphknffplaadoor", sum := "544ba7ba94fde083eb3b6ccbadade5944c948c9127328296e51734ec8d8857f2", func := "bywash/bywashlaw02.SchemaParses", spec := "schemaParses", inPlace := ["internal/bytealg.IndexByteString", "internal/bytealg.IndexString", "internal/abi.NoEscape", "internal/bytealg.MakeNoZero"], unfollowed := true, recurses := true, named := ["bywash/schema.words", "unicode/utf8.first", "unicode/utf8.acceptRanges", "internal/bytealg.MaxLen"], apart := false, laid := [("unicode/utf8.acceptRanges", laid_unicode_utf8_acceptRanges), ("bywash/schema.words", laid_bywash_schema_words), ("unicode/utf8.first", laid_unicode_utf8_first)], narrowed := true }
def SchemaParsesUptoSaid : Prop := schemaParsesUptoRow.holds Tryd.pinned (OpenSpec.upto schemaParsesSpec)

/-- 'bywashlaw02.SchemaShows', WHERE WHAT IT READS IS OF BULK AT MOST 1048576: true; the input reads as it did. -/
def schemaShowsUptoRow : OpenClaim := { program := "ytngoiphknffplaadoor", sum := "544ba7ba94fde083eb3b6ccbadade5944c948c9127328296e51734ec8d8857f2", func := "bywash/bywashlaw02.SchemaShows", spec := "schemaShows", inPlace := ["internal/bytealg.IndexByteString", "internal/bytealg.IndexString", "internal/abi.NoEscape", "internal/bytealg.MakeNoZero"], unfollowed := true, recurses := true, named := ["bywash/schema.words", "unicode/utf8.first", "unicode/utf8.acceptRanges", "internal/bytealg.MaxLen"], apart := false, laid := [("unicode/utf8.acceptRanges", laid_unicode_utf8_acceptRanges), ("bywash/schema.words", laid_bywash_schema_words), ("unicode/utf8.first", laid_unicode_utf8_first)], narrowed := true }
def SchemaShowsUptoSaid : Prop := schemaShowsUptoRow.holds Tryd.pinned (OpenSpec.upto schemaShowsSpec)

/-- 'bywashlaw02.SchemaPicks', WHERE WHAT IT READS IS OF BULK AT MOST 1048576: true; the input reads as it did. -/
def schemaPicksUptoRow : OpenClaim := { program := "ytngoiphknffplaadoor", sum := "544ba7ba94fde083eb3b6ccbadade5944c948c9127328296e51734ec8d8857f2", func := "bywash/bywashlaw02.SchemaPicks", spec := "schemaPicks", inPlace := ["internal/bytealg.IndexByteString", "internal/bytealg.IndexString", "internal/abi.NoEscape", "internal/bytealg.MakeNoZero"], unfollowed := true, recurses := true, named := ["bywash/schema.words", "unicode/utf8.first", "unicode/utf8.acceptRanges", "internal/bytealg.MaxLen"], apart := false, laid := [("unicode/utf8.acceptRanges", laid_unicode_utf8_acceptRanges), ("bywash/schema.words", laid_bywash_schema_words), ("unicode/utf8.first", laid_unicode_utf8_first)], narrowed := true }
def SchemaPicksUptoSaid : Prop := schemaPicksUptoRow.holds Tryd.pinned (OpenSpec.upto schemaPicksSpec)

/-- 'bywashlaw02.SchemaChecks', WHERE WHAT IT READS IS OF BULK AT MOST 1048576: true; the input reads as it did. -/
def schemaChecksUptoRow : OpenClaim := { program := "ytngoiphknffplaadoor", sum := "544ba7ba94fde083eb3b6ccbadade5944c948c9127328296e51734ec8d8857f2", func := "bywash/bywashlaw02.SchemaChecks", spec := "schemaChecks", inPlace := ["internal/bytealg.IndexByteString", "internal/bytealg.IndexString", "internal/abi.NoEscape", "internal/bytealg.MakeNoZero"], unfollowed := true, recurses := true, named := ["bywash/schema.words", "unicode/utf8.first", "unicode/utf8.acceptRanges", "internal/bytealg.MaxLen"], apart := false, laid := [("unicode/utf8.acceptRanges", laid_unicode_utf8_acceptRanges), ("bywash/schema.words", laid_bywash_schema_words), ("unicode/utf8.first", laid_unicode_utf8_first)], narrowed := true }
def SchemaChecksUptoSaid : Prop := schemaChecksUptoRow.holds Tryd.pinned (OpenSpec.upto schemaChecksSpec)

/-- 'bywashlaw02.SchemaFits', WHERE WHAT IT READS IS OF BULK AT MOST 1048576: true; the input reads as it did. -/
def schemaFitsUptoRow : OpenClaim := { program := "ytngoiphknffplaadoor", sum := "544ba7ba94fde083eb3b6ccbadade5944c948c9127328296e51734ec8d8857f2", func := "bywash/bywashlaw02.SchemaFits", spec := "schemaFits", inPlace := ["internal/bytealg.IndexByteString", "internal/bytealg.IndexString", "internal/abi.NoEscape", "internal/bytealg.MakeNoZero"], unfollowed := true, recurses := true, named := ["bywash/schema.words", "unicode/utf8.first", "unicode/utf8.acceptRanges", "internal/bytealg.MaxLen"], apart := false, laid := [("unicode/utf8.acceptRanges", laid_unicode_utf8_acceptRanges), ("bywash/schema.words", laid_bywash_schema_words), ("unicode/utf8.first", laid_unicode_utf8_first)], narrowed := true }
def SchemaFitsUptoSaid : Prop := schemaFitsUptoRow.holds Tryd.pinned (OpenSpec.upto schemaFitsSpec)

/-- 'bywashlaw02.SchemaJoins', WHERE WHAT IT READS IS OF BULK AT MOST 1048576: true; the input reads as it did. -/
def schemaJoinsUptoRow : OpenClaim := { program := "ytngoiphknffplaadoor", sum := "544ba7ba94fde083eb3b6ccbadade5944c948c9127328296e51734ec8d8857f2", func := "bywash/bywashlaw02.SchemaJoins", spec := "schemaJoins", inPlace := ["internal/bytealg.IndexByteString", "internal/bytealg.IndexString", "internal/abi.NoEscape", "internal/bytealg.MakeNoZero"], unfollowed := true, recurses := true, named := ["bywash/schema.words", "unicode/utf8.first", "unicode/utf8.acceptRanges", "internal/bytealg.MaxLen"], apart := false, laid := [("unicode/utf8.acceptRanges", laid_unicode_utf8_acceptRanges), ("bywash/schema.words", laid_bywash_schema_words), ("unicode/utf8.first", laid_unicode_utf8_first)], narrowed := true }
def SchemaJoinsUptoSaid : Prop := schemaJoinsUptoRow.holds Tryd.pinned (OpenSpec.upto schemaJoinsSpec)

/-- 'bywashlaw02.SchemaRows', WHERE WHAT IT READS IS OF BULK AT MOST 1048576: true; the input reads as it did. -/
def schemaRowsUptoRow : OpenClaim := { program := "ytngoiphknffplaadoor", sum := "544ba7ba94fde083eb3b6ccbadade5944c948c9127328296e51734ec8d8857f2", func := "bywash/bywashlaw02.SchemaRows", spec := "schemaRows", inPlace := ["internal/bytealg.IndexByteString", "internal/bytealg.IndexString", "internal/abi.NoEscape", "internal/bytealg.MakeNoZero", "internal/bytealg.abigen_runtime_cmpstring"], unfollowed := true, recurses := true, named := ["bywash/schema.words", "unicode/utf8.first", "unicode/utf8.acceptRanges", "internal/bytealg.MaxLen"], apart := false, laid := [("unicode/utf8.acceptRanges", laid_unicode_utf8_acceptRanges), ("bywash/schema.words", laid_bywash_schema_words), ("unicode/utf8.first", laid_unicode_utf8_first)], narrowed := true }
def SchemaRowsUptoSaid : Prop := schemaRowsUptoRow.holds Tryd.pinned (OpenSpec.upto schemaRowsSpec)

end Rows
end Go.Proofs.YtngoiphknffplaaDoor
