/-
  No cell of these rows narrows 'for every input' (looked for: loops, veiled, ifaces, maps, wideKeys, modest, calm, conditions, laid).
  DERIVED. THE GIVEN ROWS OF THIS SEAT. 4 by the template 'for every input the law returns true; each argument reads behind the call as it read before'; 0 by the template 'total and deterministic' (their statements: YthhjioeipjnjmaaTotals.lean).
  GIVEN WITH THE SEED: the statements are not yours to turn. If you find one false, say at which input.
  Laid BY PROGRAM, IN A SANDBOX (cutbox-rows.mjs): the forced cells as the released guide's own fill.sh prints them over the translation 49e50cdc51b7be5c… (all of the seat's roots in one cut). By AI agents, Wed Nov 11 2026. No macro, syntax, notation, axiom, sorry.
-/
import Derived.Test.YthhjioeipjnjmaaChecked
import GoSem.Claim
import GoSem.ClaimJoined
import GoSem.ClaimMapViews
import Derived.JoinedTies
import Derived.KernelRfl
namespace Go.Proofs.Ythhjioeipjnjmaa
/- THE CELL 'sum', in the pinned program and in every row, IS THE sha256 OF THE DUMP (.gsa) THAT YthhjioeipjnjmaaProg.lean LOADS. Nothing in Lean hashes anything: it is a label: what it is worth is what the hold of that sum in a sandbox is worth. -/
noncomputable def Try.pinned : Pinned := { name := "ythhjioeipjnjmaa", sum := "49e50cdc51b7be5c2830ea153ab5ebb820c3bbcb8fe657d0d10a7d646c8c4339", checked := Try.checked }
namespace Rows
def none {H : Type} : Left H := { results := [], args := [] }

/-- 'bywashlaw24.QueueOrders': WHATEVER THE INPUT: true; the input reads as it did. -/
def queueOrdersSpec : ChangeSpec := { name := "queueOrders", fn := fun _ => fun
  | [d] => { results := [.lit (.bool true)], args := [d] }
  | _ => none }
def queueOrdersRow : OpenClaim := { program := "ythhjioeipjnjmaa", sum := "49e50cdc51b7be5c2830ea153ab5ebb820c3bbcb8fe657d0d10a7d646c8c4339", func := "bywash/bywashlaw24.QueueOrders", spec := "queueOrders", unfollowed := true, recurses := true, plainKeys := false, apart := false }
def QueueOrdersSaid : Prop := queueOrdersRow.holds Try.pinned (OpenSpec.ofChange queueOrdersSpec)

/-- ITS FALSE NEIGHBOUR: 'it returns false'. Refute it at one input. -/
def queueOrdersWrong : ChangeSpec := { name := "queueOrders", fn := fun _ => fun
  | [d] => { results := [.lit (.bool false)], args := [d] }
  | _ => none }
def QueueOrdersWrongFalsely : Prop := queueOrdersRow.holds Try.pinned (OpenSpec.ofChange queueOrdersWrong)

/-- 'bywashlaw24.QueueWaits': WHATEVER THE INPUT: true; the input reads as it did. -/
def queueWaitsSpec : ChangeSpec := { name := "queueWaits", fn := fun _ => fun
  | [d1, d2, d3] => { results := [.lit (.bool true)], args := [d1, d2, d3] }
  | _ => none }
def queueWaitsRow : OpenClaim := { program := "ythhjioeipjnjmaa", sum := "49e50cdc51b7be5c2830ea153ab5ebb820c3bbcb8fe657d0d10a7d646c8c4339", func := "bywash/bywashlaw24.QueueWaits", spec := "queueWaits", unfollowed := true, recurses := true, plainKeys := false, apart := false }
def QueueWaitsSaid : Prop := queueWaitsRow.holds Try.pinned (OpenSpec.ofChange queueWaitsSpec)

/-- ITS FALSE NEIGHBOUR: 'it returns false'. Refute it at one input. -/
def queueWaitsWrong : ChangeSpec := { name := "queueWaits", fn := fun _ => fun
  | [d1, d2, d3] => { results := [.lit (.bool false)], args := [d1, d2, d3] }
  | _ => none }
def QueueWaitsWrongFalsely : Prop := queueWaitsRow.holds Try.pinned (OpenSpec.ofChange queueWaitsWrong)

/-- 'bywashlaw24.QueueDue': WHATEVER THE INPUT: true; the input reads as it did. -/
def queueDueSpec : ChangeSpec := { name := "queueDue", fn := fun _ => fun
  | [d1, d2, d3] => { results := [.lit (.bool true)], args := [d1, d2, d3] }
  | _ => none }
def queueDueRow : OpenClaim := { program := "ythhjioeipjnjmaa", sum := "49e50cdc51b7be5c2830ea153ab5ebb820c3bbcb8fe657d0d10a7d646c8c4339", func := "bywash/bywashlaw24.QueueDue", spec := "queueDue", unfollowed := true, recurses := true, plainKeys := false, apart := false }
def QueueDueSaid : Prop := queueDueRow.holds Try.pinned (OpenSpec.ofChange queueDueSpec)

/-- ITS FALSE NEIGHBOUR: 'it returns false'. Refute it at one input. -/
def queueDueWrong : ChangeSpec := { name := "queueDue", fn := fun _ => fun
  | [d1, d2, d3] => { results := [.lit (.bool false)], args := [d1, d2, d3] }
  | _ => none }
def QueueDueWrongFalsely : Prop := queueDueRow.holds Try.pinned (OpenSpec.ofChange queueDueWrong)

/-- 'bywashlaw24.QueuePlays': WHATEVER THE INPUT: true; the input reads as it did. -/
def queuePlaysSpec : ChangeSpec := { name := "queuePlays", fn := fun _ => fun
  | [d] => { results := [.lit (.bool true)], args := [d] }
  | _ => none }
def queuePlaysRow : OpenClaim := { program := "ythhjioeipjnjmaa", sum := "49e50cdc51b7be5c2830ea153ab5ebb820c3bbcb8fe657d0d10a7d646c8c4339", func := "bywash/bywashlaw24.QueuePlays", spec := "queuePlays", unfollowed := true, recurses := true, plainKeys := false, apart := false }
def QueuePlaysSaid : Prop := queuePlaysRow.holds Try.pinned (OpenSpec.ofChange queuePlaysSpec)

/-- ITS FALSE NEIGHBOUR: 'it returns false'. Refute it at one input. -/
def queuePlaysWrong : ChangeSpec := { name := "queuePlays", fn := fun _ => fun
  | [d] => { results := [.lit (.bool false)], args := [d] }
  | _ => none }
def QueuePlaysWrongFalsely : Prop := queuePlaysRow.holds Try.pinned (OpenSpec.ofChange queuePlaysWrong)

/- THE SECOND FORM. 'bulk': how many values and letters a reading holds, each counted each time it is reached (what is shared counts as often as it is met; a slice's spare places count too). A statement '..UptoSaid' is the law's where the arguments, and the package variables that the reading takes, are together of bulk at most 1048576: NARROWER than '..Said'. Prove '..Said' where nothing that the law and all that it calls make is longer than what came in: it says more and counts as full. Else prove '..UptoSaid'. A law counts once. -/
mutual
def uptoBulk {H : Type} : DataW H → Nat
  | .lit (.string bytes) => bytes.length + 1
  | .lit _ => 1
  | .nil => 1
  | .ptr d => uptoBulk d + 1
  | .slice elems spare => uptoBulkAll elems + uptoBulkAll spare + 1
  | .agg parts => uptoBulkAll parts + 1
  | .iface _ d => uptoBulk d + 1
  | .map entries => uptoBulkEntries entries + 1
  | .held _ => 1
def uptoBulkAll {H : Type} : List (DataW H) → Nat
  | [] => 0
  | d :: r => uptoBulk d + uptoBulkAll r
def uptoBulkEntries {H : Type} : List (Lit × DataW H) → Nat
  | [] => 0
  | x :: r => uptoBulkEntry x + uptoBulkEntries r
def uptoBulkEntry {H : Type} : Lit × DataW H → Nat
  | (.string bytes, d) => bytes.length + uptoBulk d + 1
  | (_, d) => uptoBulk d + 1
 end
def uptoSmall : (H : Type) → List (DataW H) → Bool := fun _ ds => decide (uptoBulkAll ds ≤ 1048576)
def OpenSpec.upto (s : _root_.Go.ChangeSpec) : _root_.Go.OpenSpec := { _root_.Go.OpenSpec.ofChange s with cond := some uptoSmall }

/-- 'bywashlaw24.QueueOrders', WHERE WHAT IT READS IS OF BULK AT MOST 1048576: true; the input reads as it did. -/
def queueOrdersUptoRow : OpenClaim := { program := "ythhjioeipjnjmaa", sum := "49e50cdc51b7be5c2830ea153ab5ebb820c3bbcb8fe657d0d10a7d646c8c4339", func := "bywash/bywashlaw24.QueueOrders", spec := "queueOrders", unfollowed := true, recurses := true, plainKeys := false, apart := false, narrowed := true }
def QueueOrdersUptoSaid : Prop := queueOrdersUptoRow.holds Try.pinned (OpenSpec.upto queueOrdersSpec)

/-- 'bywashlaw24.QueueWaits', WHERE WHAT IT READS IS OF BULK AT MOST 1048576: true; the input reads as it did. -/
def queueWaitsUptoRow : OpenClaim := { program := "ythhjioeipjnjmaa", sum := "49e50cdc51b7be5c2830ea153ab5ebb820c3bbcb8fe657d0d10a7d646c8c4339", func := "bywash/bywashlaw24.QueueWaits", spec := "queueWaits", unfollowed := true, recurses := true, plainKeys := false, apart := false, narrowed := true }
def QueueWaitsUptoSaid : Prop := queueWaitsUptoRow.holds Try.pinned (OpenSpec.upto queueWaitsSpec)

/-- 'bywashlaw24.QueueDue', WHERE WHAT IT READS IS OF BULK AT MOST 1048576: true; the input reads as it did. -/
def queueDueUptoRow : OpenClaim := { program := "ythhjioeipjnjmaa", sum := "49e50cdc51b7be5c2830ea153ab5ebb820c3bbcb8fe657d0d10a7d646c8c4339", func := "bywash/bywashlaw24.QueueDue", spec := "queueDue", unfollowed := true, recurses := true, plainKeys := false, apart := false, narrowed := true }
def QueueDueUptoSaid : Prop := queueDueUptoRow.holds Try.pinned (OpenSpec.upto queueDueSpec)

/-- 'bywashlaw24.QueuePlays', WHERE WHAT IT READS IS OF BULK AT MOST 1048576: true; the input reads as it did. -/
def queuePlaysUptoRow : OpenClaim := { program := "ythhjioeipjnjmaa", sum := "49e50cdc51b7be5c2830ea153ab5ebb820c3bbcb8fe657d0d10a7d646c8c4339", func := "bywash/bywashlaw24.QueuePlays", spec := "queuePlays", unfollowed := true, recurses := true, plainKeys := false, apart := false, narrowed := true }
def QueuePlaysUptoSaid : Prop := queuePlaysUptoRow.holds Try.pinned (OpenSpec.upto queuePlaysSpec)

end Rows
end Go.Proofs.Ythhjioeipjnjmaa
