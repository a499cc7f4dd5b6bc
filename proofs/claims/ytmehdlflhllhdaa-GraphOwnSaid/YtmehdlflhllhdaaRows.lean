/-
  No cell of these rows narrows 'for every input' (looked for: loops, veiled, ifaces, maps, wideKeys, modest, calm, conditions, laid).
  DERIVED. THE GIVEN ROWS OF THIS SEAT. 6 by the template 'for every input the law returns true; each argument reads behind the call as it read before'; 0 by the template 'total and deterministic' (their statements: YtmehdlflhllhdaaTotals.lean).
  GIVEN WITH THE SEED: the statements are not yours to turn. If you find one false, say at which input.
  Laid BY PROGRAM, IN A SANDBOX (cutbox-rows.mjs): the forced cells as the released guide's own fill.sh prints them over the translation 05c53cd5603a36fa… (all of the seat's roots in one cut). By AI agents, Wed Nov 11 2026. No macro, syntax, notation, axiom, sorry.
-/
import Derived.Test.YtmehdlflhllhdaaChecked
import GoSem.Claim
import GoSem.ClaimJoined
import GoSem.ClaimMapViews
import Derived.JoinedTies
import Derived.KernelRfl
namespace Go.Proofs.Ytmehdlflhllhdaa
/- THE CELL 'sum', in the pinned program and in every row, IS THE sha256 OF THE DUMP (.gsa) THAT YtmehdlflhllhdaaProg.lean LOADS. Nothing in Lean hashes anything: it is a label: what it is worth is what the hold of that sum in a sandbox is worth. -/
noncomputable def Try.pinned : Pinned := { name := "ytmehdlflhllhdaa", sum := "05c53cd5603a36fa0b2ef24fb535aba5813a2c01322eed6461aebb22b14ea191", checked := Try.checked }
namespace Rows
def none {H : Type} : Left H := { results := [], args := [] }

/-- 'bywashlaw16.GraphMakes': WHATEVER THE INPUT: true; the input reads as it did. -/
def graphMakesSpec : ChangeSpec := { name := "graphMakes", fn := fun _ => fun
  | [d1, d2] => { results := [.lit (.bool true)], args := [d1, d2] }
  | _ => none }
def graphMakesRow : OpenClaim := { program := "ytmehdlflhllhdaa", sum := "05c53cd5603a36fa0b2ef24fb535aba5813a2c01322eed6461aebb22b14ea191", func := "bywash/bywashlaw16.GraphMakes", spec := "graphMakes", unfollowed := true, recurses := true, apart := false }
def GraphMakesSaid : Prop := graphMakesRow.holds Try.pinned (OpenSpec.ofChange graphMakesSpec)

/-- ITS FALSE NEIGHBOUR: 'it returns false'. Refute it at one input. -/
def graphMakesWrong : ChangeSpec := { name := "graphMakes", fn := fun _ => fun
  | [d1, d2] => { results := [.lit (.bool false)], args := [d1, d2] }
  | _ => none }
def GraphMakesWrongFalsely : Prop := graphMakesRow.holds Try.pinned (OpenSpec.ofChange graphMakesWrong)

/-- 'bywashlaw16.GraphOrders': WHATEVER THE INPUT: true; the input reads as it did. -/
def graphOrdersSpec : ChangeSpec := { name := "graphOrders", fn := fun _ => fun
  | [d1, d2] => { results := [.lit (.bool true)], args := [d1, d2] }
  | _ => none }
def graphOrdersRow : OpenClaim := { program := "ytmehdlflhllhdaa", sum := "05c53cd5603a36fa0b2ef24fb535aba5813a2c01322eed6461aebb22b14ea191", func := "bywash/bywashlaw16.GraphOrders", spec := "graphOrders", unfollowed := true, recurses := true, apart := false }
def GraphOrdersSaid : Prop := graphOrdersRow.holds Try.pinned (OpenSpec.ofChange graphOrdersSpec)

/-- ITS FALSE NEIGHBOUR: 'it returns false'. Refute it at one input. -/
def graphOrdersWrong : ChangeSpec := { name := "graphOrders", fn := fun _ => fun
  | [d1, d2] => { results := [.lit (.bool false)], args := [d1, d2] }
  | _ => none }
def GraphOrdersWrongFalsely : Prop := graphOrdersRow.holds Try.pinned (OpenSpec.ofChange graphOrdersWrong)

/-- 'bywashlaw16.GraphReach': WHATEVER THE INPUT: true; the input reads as it did. -/
def graphReachSpec : ChangeSpec := { name := "graphReach", fn := fun _ => fun
  | [d] => { results := [.lit (.bool true)], args := [d] }
  | _ => none }
def graphReachRow : OpenClaim := { program := "ytmehdlflhllhdaa", sum := "05c53cd5603a36fa0b2ef24fb535aba5813a2c01322eed6461aebb22b14ea191", func := "bywash/bywashlaw16.GraphReach", spec := "graphReach", unfollowed := true, recurses := true, apart := false }
def GraphReachSaid : Prop := graphReachRow.holds Try.pinned (OpenSpec.ofChange graphReachSpec)

/-- ITS FALSE NEIGHBOUR: 'it returns false'. Refute it at one input. -/
def graphReachWrong : ChangeSpec := { name := "graphReach", fn := fun _ => fun
  | [d] => { results := [.lit (.bool false)], args := [d] }
  | _ => none }
def GraphReachWrongFalsely : Prop := graphReachRow.holds Try.pinned (OpenSpec.ofChange graphReachWrong)

/-- 'bywashlaw16.GraphOwn': WHATEVER THE INPUT: true; the input reads as it did. -/
def graphOwnSpec : ChangeSpec := { name := "graphOwn", fn := fun _ => fun
  | [d1, d2] => { results := [.lit (.bool true)], args := [d1, d2] }
  | _ => none }
def graphOwnRow : OpenClaim := { program := "ytmehdlflhllhdaa", sum := "05c53cd5603a36fa0b2ef24fb535aba5813a2c01322eed6461aebb22b14ea191", func := "bywash/bywashlaw16.GraphOwn", spec := "graphOwn", unfollowed := true, recurses := true, apart := false }
def GraphOwnSaid : Prop := graphOwnRow.holds Try.pinned (OpenSpec.ofChange graphOwnSpec)

/-- ITS FALSE NEIGHBOUR: 'it returns false'. Refute it at one input. -/
def graphOwnWrong : ChangeSpec := { name := "graphOwn", fn := fun _ => fun
  | [d1, d2] => { results := [.lit (.bool false)], args := [d1, d2] }
  | _ => none }
def GraphOwnWrongFalsely : Prop := graphOwnRow.holds Try.pinned (OpenSpec.ofChange graphOwnWrong)

/-- 'bywashlaw16.GraphTurns': WHATEVER THE INPUT: true; the input reads as it did. -/
def graphTurnsSpec : ChangeSpec := { name := "graphTurns", fn := fun _ => fun
  | [d1, d2, d3] => { results := [.lit (.bool true)], args := [d1, d2, d3] }
  | _ => none }
def graphTurnsRow : OpenClaim := { program := "ytmehdlflhllhdaa", sum := "05c53cd5603a36fa0b2ef24fb535aba5813a2c01322eed6461aebb22b14ea191", func := "bywash/bywashlaw16.GraphTurns", spec := "graphTurns", unfollowed := true, recurses := true, apart := false }
def GraphTurnsSaid : Prop := graphTurnsRow.holds Try.pinned (OpenSpec.ofChange graphTurnsSpec)

/-- ITS FALSE NEIGHBOUR: 'it returns false'. Refute it at one input. -/
def graphTurnsWrong : ChangeSpec := { name := "graphTurns", fn := fun _ => fun
  | [d1, d2, d3] => { results := [.lit (.bool false)], args := [d1, d2, d3] }
  | _ => none }
def GraphTurnsWrongFalsely : Prop := graphTurnsRow.holds Try.pinned (OpenSpec.ofChange graphTurnsWrong)

/-- 'bywashlaw16.GraphCycles': WHATEVER THE INPUT: true; the input reads as it did. -/
def graphCyclesSpec : ChangeSpec := { name := "graphCycles", fn := fun _ => fun
  | [d1, d2] => { results := [.lit (.bool true)], args := [d1, d2] }
  | _ => none }
def graphCyclesRow : OpenClaim := { program := "ytmehdlflhllhdaa", sum := "05c53cd5603a36fa0b2ef24fb535aba5813a2c01322eed6461aebb22b14ea191", func := "bywash/bywashlaw16.GraphCycles", spec := "graphCycles", unfollowed := true, recurses := true, apart := false }
def GraphCyclesSaid : Prop := graphCyclesRow.holds Try.pinned (OpenSpec.ofChange graphCyclesSpec)

/-- ITS FALSE NEIGHBOUR: 'it returns false'. Refute it at one input. -/
def graphCyclesWrong : ChangeSpec := { name := "graphCycles", fn := fun _ => fun
  | [d1, d2] => { results := [.lit (.bool false)], args := [d1, d2] }
  | _ => none }
def GraphCyclesWrongFalsely : Prop := graphCyclesRow.holds Try.pinned (OpenSpec.ofChange graphCyclesWrong)

/- THE SECOND FORM. 'bulk': how many values and letters a reading holds, each counted each time it is reached (what is shared counts as often as it is met; a slice's spare places count too). A statement '..UptoSaid' is the law's where the arguments, and the package variables that the reading takes, are together of bulk at most 1048576: NARROWER than '..Said'. Prove '..Said' where nothing that the law and all that it calls make is longer than what came in: it says more and counts as full. Else prove '..UptoSaid'. A law counts once. -/
mutual
def uptoBulk {H : Type} : DataW H → Nat
  | .lit (.string bytes) => bytes.length + 1
  | .lit _ => 1
  | .nil => 1
  | .ptr d => uptoBulk d + 1
  | .slice elems spare => uptoBulkAll elems + uptoBulkAll spare + 1
  | .agg parts => uptoBulkAll parts + 1
  | .iface _ d => uptoBulk d + 1
  | .map entries => uptoBulkEntries entries + 1
  | .held _ => 1
def uptoBulkAll {H : Type} : List (DataW H) → Nat
  | [] => 0
  | d :: r => uptoBulk d + uptoBulkAll r
def uptoBulkEntries {H : Type} : List (Lit × DataW H) → Nat
  | [] => 0
  | x :: r => uptoBulkEntry x + uptoBulkEntries r
def uptoBulkEntry {H : Type} : Lit × DataW H → Nat
  | (.string bytes, d) => bytes.length + uptoBulk d + 1
  | (_, d) => uptoBulk d + 1
 end
def uptoSmall : (H : Type) → List (DataW H) → Bool := fun _ ds => decide (uptoBulkAll ds ≤ 1048576)
def OpenSpec.upto (s : _root_.Go.ChangeSpec) : _root_.Go.OpenSpec := { _root_.Go.OpenSpec.ofChange s with cond := some uptoSmall }

/-- 'bywashlaw16.GraphMakes', WHERE WHAT IT READS IS OF BULK AT MOST 1048576: true; the input reads as it did. -/
def graphMakesUptoRow : OpenClaim := { program := "ytmehdlflhllhdaa", sum := "05c53cd5603a36fa0b2ef24fb535aba5813a2c01322eed6461aebb22b14ea191", func := "bywash/bywashlaw16.GraphMakes", spec := "graphMakes", unfollowed := true, recurses := true, apart := false, narrowed := true }
def GraphMakesUptoSaid : Prop := graphMakesUptoRow.holds Try.pinned (OpenSpec.upto graphMakesSpec)

/-- 'bywashlaw16.GraphOrders', WHERE WHAT IT READS IS OF BULK AT MOST 1048576: true; the input reads as it did. -/
def graphOrdersUptoRow : OpenClaim := { program := "ytmehdlflhllhdaa", sum := "05c53cd5603a36fa0b2ef24fb535aba5813a2c01322eed6461aebb22b14ea191", func := "bywash/bywashlaw16.GraphOrders", spec := "graphOrders", unfollowed := true, recurses := true, apart := false, narrowed := true }
def GraphOrdersUptoSaid : Prop := graphOrdersUptoRow.holds Try.pinned (OpenSpec.upto graphOrdersSpec)

/-- 'bywashlaw16.GraphReach', WHERE WHAT IT READS IS OF BULK AT MOST 1048576: true; the input reads as it did. -/
def graphReachUptoRow : OpenClaim := { program := "ytmehdlflhllhdaa", sum := "05c53cd5603a36fa0b2ef24fb535aba5813a2c01322eed6461aebb22b14ea191", func := "bywash/bywashlaw16.GraphReach", spec := "graphReach", unfollowed := true, recurses := true, apart := false, narrowed := true }
def GraphReachUptoSaid : Prop := graphReachUptoRow.holds Try.pinned (OpenSpec.upto graphReachSpec)

/-- 'bywashlaw16.GraphOwn', WHERE WHAT IT READS IS OF BULK AT MOST 1048576: true; the input reads as it did. -/
def graphOwnUptoRow : OpenClaim := { program := "ytmehdlflhllhdaa", sum := "05c53cd5603a36fa0b2ef24fb535aba5813a2c01322eed6461aebb22b14ea191", func := "bywash/bywashlaw16.GraphOwn", spec := "graphOwn", unfollowed := true, recurses := true, apart := false, narrowed := true }
def GraphOwnUptoSaid : Prop := graphOwnUptoRow.holds Try.pinned (OpenSpec.upto graphOwnSpec)

/-- 'bywashlaw16.GraphTurns', WHERE WHAT IT READS IS OF BULK AT MOST 1048576: true; the input reads as it did. -/
def graphTurnsUptoRow : OpenClaim := { program := "ytmehdlflhllhdaa", sum := "05c53cd5603a36fa0b2ef24fb535aba5813a2c01322eed6461aebb22b14ea191", func := "bywash/bywashlaw16.GraphTurns", spec := "graphTurns", unfollowed := true, recurses := true, apart := false, narrowed := true }
def GraphTurnsUptoSaid : Prop := graphTurnsUptoRow.holds Try.pinned (OpenSpec.upto graphTurnsSpec)

/-- 'bywashlaw16.GraphCycles', WHERE WHAT IT READS IS OF BULK AT MOST 1048576: true; the input reads as it did. -/
def graphCyclesUptoRow : OpenClaim := { program := "ytmehdlflhllhdaa", sum := "05c53cd5603a36fa0b2ef24fb535aba5813a2c01322eed6461aebb22b14ea191", func := "bywash/bywashlaw16.GraphCycles", spec := "graphCycles", unfollowed := true, recurses := true, apart := false, narrowed := true }
def GraphCyclesUptoSaid : Prop := graphCyclesUptoRow.holds Try.pinned (OpenSpec.upto graphCyclesSpec)

end Rows
end Go.Proofs.Ytmehdlflhllhdaa
