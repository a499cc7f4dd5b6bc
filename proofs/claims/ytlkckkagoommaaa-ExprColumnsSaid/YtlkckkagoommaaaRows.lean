/-
  No cell of these rows narrows 'for every input' (looked for: loops, veiled, ifaces, maps, wideKeys, modest, calm, conditions, laid).
  DERIVED. THE GIVEN ROWS OF THIS SEAT. 6 by the template 'for every input the law returns true; each argument reads behind the call as it read before'; 0 by the template 'total and deterministic' (their statements: YtlkckkagoommaaaTotals.lean).
  GIVEN WITH THE SEED: the statements are not yours to turn. If you find one false, say at which input.
  Laid BY PROGRAM, IN A SANDBOX (cutbox-rows.mjs): the forced cells as the released guide's own fill.sh prints them over the translation 98d305d86b1a8136… (all of the seat's roots in one cut). By AI agents, Wed Nov 11 2026. No macro, syntax, notation, axiom, sorry.
-/
import Derived.Test.YtlkckkagoommaaaChecked
import GoSem.Claim
import GoSem.ClaimJoined
import GoSem.ClaimMapViews
import Derived.JoinedTies
import Derived.KernelRfl
namespace Go.Proofs.Ytlkckkagoommaaa
/- THE CELL 'sum', in the pinned program and in every row, IS THE sha256 OF THE DUMP (.gsa) THAT YtlkckkagoommaaaProg.lean LOADS. Nothing in Lean hashes anything: it is a label: what it is worth is what the hold of that sum in a sandbox is worth. -/
noncomputable def Try.pinned : Pinned := { name := "ytlkckkagoommaaa", sum := "98d305d86b1a8136429b3956d1817b9a706137530dc884e2bf72266c19dbcef3", checked := Try.checked }
namespace Rows
def none {H : Type} : Left H := { results := [], args := [] }

/-- 'bywashlaw04.ExprEvals': WHATEVER THE INPUT: true; the input reads as it did. -/
def exprEvalsSpec : ChangeSpec := { name := "exprEvals", fn := fun _ => fun
  | [d1, d2, d3] => { results := [.lit (.bool true)], args := [d1, d2, d3] }
  | _ => none }
def exprEvalsRow : OpenClaim := { program := "ytlkckkagoommaaa", sum := "98d305d86b1a8136429b3956d1817b9a706137530dc884e2bf72266c19dbcef3", func := "bywash/bywashlaw04.ExprEvals", spec := "exprEvals", inPlace := ["internal/bytealg.IndexByteString", "internal/bytealg.abigen_runtime_cmpstring"], unfollowed := true, recurses := true, apart := false }
def ExprEvalsSaid : Prop := exprEvalsRow.holds Try.pinned (OpenSpec.ofChange exprEvalsSpec)

/-- ITS FALSE NEIGHBOUR: 'it returns false'. Refute it at one input. -/
def exprEvalsWrong : ChangeSpec := { name := "exprEvals", fn := fun _ => fun
  | [d1, d2, d3] => { results := [.lit (.bool false)], args := [d1, d2, d3] }
  | _ => none }
def ExprEvalsWrongFalsely : Prop := exprEvalsRow.holds Try.pinned (OpenSpec.ofChange exprEvalsWrong)

/-- 'bywashlaw04.ExprNulls': WHATEVER THE INPUT: true; the input reads as it did. -/
def exprNullsSpec : ChangeSpec := { name := "exprNulls", fn := fun _ => fun
  | [d1, d2, d3] => { results := [.lit (.bool true)], args := [d1, d2, d3] }
  | _ => none }
def exprNullsRow : OpenClaim := { program := "ytlkckkagoommaaa", sum := "98d305d86b1a8136429b3956d1817b9a706137530dc884e2bf72266c19dbcef3", func := "bywash/bywashlaw04.ExprNulls", spec := "exprNulls", inPlace := ["internal/bytealg.IndexByteString", "internal/bytealg.abigen_runtime_cmpstring"], unfollowed := true, recurses := true, apart := false }
def ExprNullsSaid : Prop := exprNullsRow.holds Try.pinned (OpenSpec.ofChange exprNullsSpec)

/-- ITS FALSE NEIGHBOUR: 'it returns false'. Refute it at one input. -/
def exprNullsWrong : ChangeSpec := { name := "exprNulls", fn := fun _ => fun
  | [d1, d2, d3] => { results := [.lit (.bool false)], args := [d1, d2, d3] }
  | _ => none }
def ExprNullsWrongFalsely : Prop := exprNullsRow.holds Try.pinned (OpenSpec.ofChange exprNullsWrong)

/-- 'bywashlaw04.ExprTypes': WHATEVER THE INPUT: true; the input reads as it did. -/
def exprTypesSpec : ChangeSpec := { name := "exprTypes", fn := fun _ => fun
  | [d1, d2] => { results := [.lit (.bool true)], args := [d1, d2] }
  | _ => none }
def exprTypesRow : OpenClaim := { program := "ytlkckkagoommaaa", sum := "98d305d86b1a8136429b3956d1817b9a706137530dc884e2bf72266c19dbcef3", func := "bywash/bywashlaw04.ExprTypes", spec := "exprTypes", inPlace := ["internal/bytealg.IndexByteString", "internal/bytealg.abigen_runtime_cmpstring"], unfollowed := true, recurses := true, apart := false }
def ExprTypesSaid : Prop := exprTypesRow.holds Try.pinned (OpenSpec.ofChange exprTypesSpec)

/-- ITS FALSE NEIGHBOUR: 'it returns false'. Refute it at one input. -/
def exprTypesWrong : ChangeSpec := { name := "exprTypes", fn := fun _ => fun
  | [d1, d2] => { results := [.lit (.bool false)], args := [d1, d2] }
  | _ => none }
def ExprTypesWrongFalsely : Prop := exprTypesRow.holds Try.pinned (OpenSpec.ofChange exprTypesWrong)

/-- 'bywashlaw04.ExprEquals': WHATEVER THE INPUT: true; the input reads as it did. -/
def exprEqualsSpec : ChangeSpec := { name := "exprEquals", fn := fun _ => fun
  | [d1, d2, d3] => { results := [.lit (.bool true)], args := [d1, d2, d3] }
  | _ => none }
def exprEqualsRow : OpenClaim := { program := "ytlkckkagoommaaa", sum := "98d305d86b1a8136429b3956d1817b9a706137530dc884e2bf72266c19dbcef3", func := "bywash/bywashlaw04.ExprEquals", spec := "exprEquals", inPlace := ["internal/bytealg.IndexByteString", "internal/bytealg.abigen_runtime_cmpstring"], unfollowed := true, recurses := true, apart := false }
def ExprEqualsSaid : Prop := exprEqualsRow.holds Try.pinned (OpenSpec.ofChange exprEqualsSpec)

/-- ITS FALSE NEIGHBOUR: 'it returns false'. Refute it at one input. -/
def exprEqualsWrong : ChangeSpec := { name := "exprEquals", fn := fun _ => fun
  | [d1, d2, d3] => { results := [.lit (.bool false)], args := [d1, d2, d3] }
  | _ => none }
def ExprEqualsWrongFalsely : Prop := exprEqualsRow.holds Try.pinned (OpenSpec.ofChange exprEqualsWrong)

/-- 'bywashlaw04.ExprMakes': WHATEVER THE INPUT: true; the input reads as it did. -/
def exprMakesSpec : ChangeSpec := { name := "exprMakes", fn := fun _ => fun
  | [d1, d2, d3] => { results := [.lit (.bool true)], args := [d1, d2, d3] }
  | _ => none }
def exprMakesRow : OpenClaim := { program := "ytlkckkagoommaaa", sum := "98d305d86b1a8136429b3956d1817b9a706137530dc884e2bf72266c19dbcef3", func := "bywash/bywashlaw04.ExprMakes", spec := "exprMakes", inPlace := ["internal/bytealg.IndexByteString", "internal/bytealg.abigen_runtime_cmpstring"], unfollowed := true, recurses := true, apart := false }
def ExprMakesSaid : Prop := exprMakesRow.holds Try.pinned (OpenSpec.ofChange exprMakesSpec)

/-- ITS FALSE NEIGHBOUR: 'it returns false'. Refute it at one input. -/
def exprMakesWrong : ChangeSpec := { name := "exprMakes", fn := fun _ => fun
  | [d1, d2, d3] => { results := [.lit (.bool false)], args := [d1, d2, d3] }
  | _ => none }
def ExprMakesWrongFalsely : Prop := exprMakesRow.holds Try.pinned (OpenSpec.ofChange exprMakesWrong)

/-- 'bywashlaw04.ExprColumns': WHATEVER THE INPUT: true; the input reads as it did. -/
def exprColumnsSpec : ChangeSpec := { name := "exprColumns", fn := fun _ => fun
  | [d] => { results := [.lit (.bool true)], args := [d] }
  | _ => none }
def exprColumnsRow : OpenClaim := { program := "ytlkckkagoommaaa", sum := "98d305d86b1a8136429b3956d1817b9a706137530dc884e2bf72266c19dbcef3", func := "bywash/bywashlaw04.ExprColumns", spec := "exprColumns", inPlace := ["internal/bytealg.IndexByteString", "internal/bytealg.abigen_runtime_cmpstring"], unfollowed := true, recurses := true, apart := false }
def ExprColumnsSaid : Prop := exprColumnsRow.holds Try.pinned (OpenSpec.ofChange exprColumnsSpec)

/-- ITS FALSE NEIGHBOUR: 'it returns false'. Refute it at one input. -/
def exprColumnsWrong : ChangeSpec := { name := "exprColumns", fn := fun _ => fun
  | [d] => { results := [.lit (.bool false)], args := [d] }
  | _ => none }
def ExprColumnsWrongFalsely : Prop := exprColumnsRow.holds Try.pinned (OpenSpec.ofChange exprColumnsWrong)

/- THE SECOND FORM. 'bulk': how many values and letters a reading holds, each counted each time it is reached (what is shared counts as often as it is met; a slice's spare places count too). A statement '..UptoSaid' is the law's where the arguments, and the package variables that the reading takes, are together of bulk at most 1048576: NARROWER than '..Said'. Prove '..Said' where nothing that the law and all that it calls make is longer than what came in: it says more and counts as full. Else prove '..UptoSaid'. A law counts once. -/
mutual
def uptoBulk {H : Type} : DataW H → Nat
  | .lit (.string bytes) => bytes.length + 1
  | .lit _ => 1
  | .nil => 1
  | .ptr d => uptoBulk d + 1
  | .slice elems spare => uptoBulkAll elems + uptoBulkAll spare + 1
  | .agg parts => uptoBulkAll parts + 1
  | .iface _ d => uptoBulk d + 1
  | .map entries => uptoBulkEntries entries + 1
  | .held _ => 1
def uptoBulkAll {H : Type} : List (DataW H) → Nat
  | [] => 0
  | d :: r => uptoBulk d + uptoBulkAll r
def uptoBulkEntries {H : Type} : List (Lit × DataW H) → Nat
  | [] => 0
  | x :: r => uptoBulkEntry x + uptoBulkEntries r
def uptoBulkEntry {H : Type} : Lit × DataW H → Nat
  | (.string bytes, d) => bytes.length + uptoBulk d + 1
  | (_, d) => uptoBulk d + 1
 end
def uptoSmall : (H : Type) → List (DataW H) → Bool := fun _ ds => decide (uptoBulkAll ds ≤ 1048576)
def OpenSpec.upto (s : _root_.Go.ChangeSpec) : _root_.Go.OpenSpec := { _root_.Go.OpenSpec.ofChange s with cond := some uptoSmall }

/-- 'bywashlaw04.ExprEvals', WHERE WHAT IT READS IS OF BULK AT MOST 1048576: true; the input reads as it did. -/
def exprEvalsUptoRow : OpenClaim := { program := "ytlkckkagoommaaa", sum := "98d305d86b1a8136429b3956d1817b9a706137530dc884e2bf72266c19dbcef3", func := "bywash/bywashlaw04.ExprEvals", spec := "exprEvals", inPlace := ["internal/bytealg.IndexByteString", "internal/bytealg.abigen_runtime_cmpstring"], unfollowed := true, recurses := true, apart := false, narrowed := true }
def ExprEvalsUptoSaid : Prop := exprEvalsUptoRow.holds Try.pinned (OpenSpec.upto exprEvalsSpec)

/-- 'bywashlaw04.ExprNulls', WHERE WHAT IT READS IS OF BULK AT MOST 1048576: true; the input reads as it did. -/
def exprNullsUptoRow : OpenClaim := { program := "ytlkckkagoommaaa", sum := "98d305d86b1a8136429b3956d1817b9a706137530dc884e2bf72266c19dbcef3", func := "bywash/bywashlaw04.ExprNulls", spec := "exprNulls", inPlace := ["internal/bytealg.IndexByteString", "internal/bytealg.abigen_runtime_cmpstring"], unfollowed := true, recurses := true, apart := false, narrowed := true }
def ExprNullsUptoSaid : Prop := exprNullsUptoRow.holds Try.pinned (OpenSpec.upto exprNullsSpec)

/-- 'bywashlaw04.ExprTypes', WHERE WHAT IT READS IS OF BULK AT MOST 1048576: true; the input reads as it did. -/
def exprTypesUptoRow : OpenClaim := { program := "ytlkckkagoommaaa", sum := "98d305d86b1a8136429b3956d1817b9a706137530dc884e2bf72266c19dbcef3", func := "bywash/bywashlaw04.ExprTypes", spec := "exprTypes", inPlace := ["internal/bytealg.IndexByteString", "internal/bytealg.abigen_runtime_cmpstring"], unfollowed := true, recurses := true, apart := false, narrowed := true }
def ExprTypesUptoSaid : Prop := exprTypesUptoRow.holds Try.pinned (OpenSpec.upto exprTypesSpec)

/-- 'bywashlaw04.ExprEquals', WHERE WHAT IT READS IS OF BULK AT MOST 1048576: true; the input reads as it did. -/
def exprEqualsUptoRow : OpenClaim := { program := "ytlkckkagoommaaa", sum := "98d305d86b1a8136429b3956d1817b9a706137530dc884e2bf72266c19dbcef3", func := "bywash/bywashlaw04.ExprEquals", spec := "exprEquals", inPlace := ["internal/bytealg.IndexByteString", "internal/bytealg.abigen_runtime_cmpstring"], unfollowed := true, recurses := true, apart := false, narrowed := true }
def ExprEqualsUptoSaid : Prop := exprEqualsUptoRow.holds Try.pinned (OpenSpec.upto exprEqualsSpec)

/-- 'bywashlaw04.ExprMakes', WHERE WHAT IT READS IS OF BULK AT MOST 1048576: true; the input reads as it did. -/
def exprMakesUptoRow : OpenClaim := { program := "ytlkckkagoommaaa", sum := "98d305d86b1a8136429b3956d1817b9a706137530dc884e2bf72266c19dbcef3", func := "bywash/bywashlaw04.ExprMakes", spec := "exprMakes", inPlace := ["internal/bytealg.IndexByteString", "internal/bytealg.abigen_runtime_cmpstring"], unfollowed := true, recurses := true, apart := false, narrowed := true }
def ExprMakesUptoSaid : Prop := exprMakesUptoRow.holds Try.pinned (OpenSpec.upto exprMakesSpec)

/-- 'bywashlaw04.ExprColumns', WHERE WHAT IT READS IS OF BULK AT MOST 1048576: true; the input reads as it did. -/
def exprColumnsUptoRow : OpenClaim := { program := "ytlkckkagoommaaa", sum := "98d305d86b1a8136429b3956d1817b9a706137530dc884e2bf72266c19dbcef3", func := "bywash/bywashlaw04.ExprColumns", spec := "exprColumns", inPlace := ["internal/bytealg.IndexByteString", "internal/bytealg.abigen_runtime_cmpstring"], unfollowed := true, recurses := true, apart := false, narrowed := true }
def ExprColumnsUptoSaid : Prop := exprColumnsUptoRow.holds Try.pinned (OpenSpec.upto exprColumnsSpec)

end Rows
end Go.Proofs.Ytlkckkagoommaaa
