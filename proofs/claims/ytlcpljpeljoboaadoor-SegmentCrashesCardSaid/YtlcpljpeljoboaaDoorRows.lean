/-
  NARROWER THAN 'FOR EVERY INPUT', by the rows' own cells (each row's printed sentence says how): SegmentOpens: laid · SegmentCrashes: laid · SegmentReopens: laid · SegmentPlays: laid.
  DERIVED. THE GIVEN ROWS OF THIS SEAT. 4 by the template 'for every input the law returns true; each argument reads behind the call as it read before'; 0 by the template 'total and deterministic' (their statements: YtlcpljpeljoboaaDoorTotals.lean).
  GIVEN WITH THE SEED: the statements are not yours to turn. If you find one false, say at which input.
  Laid BY PROGRAM, IN A SANDBOX (cutbox-rows.mjs): the forced cells as the released guide's own fill.sh prints them over the translation 49adcaff90893f4e… (all of the seat's roots in one cut). By AI agents, Wed Nov 11 2026. No macro, syntax, notation, axiom, sorry.
-/
import Derived.Test.YtlcpljpeljoboaaDoorChecked
import GoSem.Claim
import GoSem.ClaimJoined
import GoSem.ClaimMapViews
import Derived.JoinedTies
import Derived.KernelRfl
namespace Go.Proofs.YtlcpljpeljoboaaDoor
/- THE CELL 'sum', in the pinned program and in every row, IS THE sha256 OF THE DUMP (.gsa) THAT YtlcpljpeljoboaaDoorProg.lean LOADS. Nothing in Lean hashes anything: it is a label: what it is worth is what the hold of that sum in a sandbox is worth. -/
noncomputable def Tryd.pinned : Pinned := { name := "ytlcpljpeljoboaadoor", sum := "49adcaff90893f4e8ecfa7e93ccb3315e00906285aa8f2d7160e0dca7c9923f4", checked := Tryd.checked }
namespace Rows
def none {H : Type} : Left H := { results := [], args := [] }

/- WHAT THE LISTED PACKAGE-LEVEL VARIABLES READ AS WHEN THE CALL BEGINS. Each datum BY PROGRAM (the guide's laid-datum.mjs) off the statement by which the dump's own 'gosem.cut.vars' lays the variable. In a bare row this is a premise. The card (YtlcpljpeljoboaaDoorCards.lean) ties it to the program's text. -/
def laid_bywash_frame_half {H : Type} : DataW H := .agg [.lit (.int .u32 0), .lit (.int .u32 498536548), .lit (.int .u32 997073096), .lit (.int .u32 651767980), .lit (.int .u32 1994146192), .lit (.int .u32 1802195444), .lit (.int .u32 1303535960), .lit (.int .u32 1342533948), .lit (.int .u32 3988292384), .lit (.int .u32 4027552580), .lit (.int .u32 3604390888), .lit (.int .u32 3412177804), .lit (.int .u32 2607071920), .lit (.int .u32 2262029012), .lit (.int .u32 2685067896), .lit (.int .u32 3183342108)]

/-- 'bywashlaw08.SegmentOpens': WHATEVER THE INPUT: true; the input reads as it did. -/
def segmentOpensSpec : ChangeSpec := { name := "segmentOpens", fn := fun _ => fun
  | [d1, d2] => { results := [.lit (.bool true)], args := [d1, d2] }
  | _ => none }
def segmentOpensRow : OpenClaim := { program := "ytlcpljpeljoboaadoor", sum := "49adcaff90893f4e8ecfa7e93ccb3315e00906285aa8f2d7160e0dca7c9923f4", func := "bywash/bywashlaw08.SegmentOpens", spec := "segmentOpens", unfollowed := true, recurses := true, named := ["bywash/frame.half"], apart := false, laid := [("bywash/frame.half", laid_bywash_frame_half)] }
def SegmentOpensSaid : Prop := segmentOpensRow.holds Tryd.pinned (OpenSpec.ofChange segmentOpensSpec)

/-- ITS FALSE NEIGHBOUR: 'it returns false'. Refute it at one input. -/
def segmentOpensWrong : ChangeSpec := { name := "segmentOpens", fn := fun _ => fun
  | [d1, d2] => { results := [.lit (.bool false)], args := [d1, d2] }
  | _ => none }
def SegmentOpensWrongFalsely : Prop := segmentOpensRow.holds Tryd.pinned (OpenSpec.ofChange segmentOpensWrong)

/-- 'bywashlaw08.SegmentCrashes': WHATEVER THE INPUT: true; the input reads as it did. -/
def segmentCrashesSpec : ChangeSpec := { name := "segmentCrashes", fn := fun _ => fun
  | [d] => { results := [.lit (.bool true)], args := [d] }
  | _ => none }
def segmentCrashesRow : OpenClaim := { program := "ytlcpljpeljoboaadoor", sum := "49adcaff90893f4e8ecfa7e93ccb3315e00906285aa8f2d7160e0dca7c9923f4", func := "bywash/bywashlaw08.SegmentCrashes", spec := "segmentCrashes", unfollowed := true, recurses := true, named := ["bywash/frame.half"], apart := false, laid := [("bywash/frame.half", laid_bywash_frame_half)] }
def SegmentCrashesSaid : Prop := segmentCrashesRow.holds Tryd.pinned (OpenSpec.ofChange segmentCrashesSpec)

/-- ITS FALSE NEIGHBOUR: 'it returns false'. Refute it at one input. -/
def segmentCrashesWrong : ChangeSpec := { name := "segmentCrashes", fn := fun _ => fun
  | [d] => { results := [.lit (.bool false)], args := [d] }
  | _ => none }
def SegmentCrashesWrongFalsely : Prop := segmentCrashesRow.holds Tryd.pinned (OpenSpec.ofChange segmentCrashesWrong)

/-- 'bywashlaw08.SegmentReopens': WHATEVER THE INPUT: true; the input reads as it did. -/
def segmentReopensSpec : ChangeSpec := { name := "segmentReopens", fn := fun _ => fun
  | [d1, d2, d3] => { results := [.lit (.bool true)], args := [d1, d2, d3] }
  | _ => none }
def segmentReopensRow : OpenClaim := { program := "ytlcpljpeljoboaadoor", sum := "49adcaff90893f4e8ecfa7e93ccb3315e00906285aa8f2d7160e0dca7c9923f4", func := "bywash/bywashlaw08.SegmentReopens", spec := "segmentReopens", unfollowed := true, recurses := true, named := ["bywash/frame.half"], apart := false, laid := [("bywash/frame.half", laid_bywash_frame_half)] }
def SegmentReopensSaid : Prop := segmentReopensRow.holds Tryd.pinned (OpenSpec.ofChange segmentReopensSpec)

/-- ITS FALSE NEIGHBOUR: 'it returns false'. Refute it at one input. -/
def segmentReopensWrong : ChangeSpec := { name := "segmentReopens", fn := fun _ => fun
  | [d1, d2, d3] => { results := [.lit (.bool false)], args := [d1, d2, d3] }
  | _ => none }
def SegmentReopensWrongFalsely : Prop := segmentReopensRow.holds Tryd.pinned (OpenSpec.ofChange segmentReopensWrong)

/-- 'bywashlaw08.SegmentPlays': WHATEVER THE INPUT: true; the input reads as it did. -/
def segmentPlaysSpec : ChangeSpec := { name := "segmentPlays", fn := fun _ => fun
  | [d1, d2] => { results := [.lit (.bool true)], args := [d1, d2] }
  | _ => none }
def segmentPlaysRow : OpenClaim := { program := "ytlcpljpeljoboaadoor", sum := "49adcaff90893f4e8ecfa7e93ccb3315e00906285aa8f2d7160e0dca7c9923f4", func := "bywash/bywashlaw08.SegmentPlays", spec := "segmentPlays", unfollowed := true, recurses := true, named := ["bywash/frame.half"], apart := false, laid := [("bywash/frame.half", laid_bywash_frame_half)] }
def SegmentPlaysSaid : Prop := segmentPlaysRow.holds Tryd.pinned (OpenSpec.ofChange segmentPlaysSpec)

/-- ITS FALSE NEIGHBOUR: 'it returns false'. Refute it at one input. -/
def segmentPlaysWrong : ChangeSpec := { name := "segmentPlays", fn := fun _ => fun
  | [d1, d2] => { results := [.lit (.bool false)], args := [d1, d2] }
  | _ => none }
def SegmentPlaysWrongFalsely : Prop := segmentPlaysRow.holds Tryd.pinned (OpenSpec.ofChange segmentPlaysWrong)

/- THE SECOND FORM. 'bulk': how many values and letters a reading holds, each counted each time it is reached (what is shared counts as often as it is met; a slice's spare places count too). A statement '..UptoSaid' is the law's where the arguments, and the package variables that the reading takes, are together of bulk at most 1048576: NARROWER than '..Said'. Prove '..Said' where nothing that the law and all that it calls make is longer than what came in: it says more and counts as full. Else prove '..UptoSaid'. A law counts once. -/
mutual
def uptoBulk {H : Type} : DataW H → Nat
  | .lit (.string bytes) => bytes.length + 1
  | .lit _ => 1
  | .nil => 1
  | .ptr d => uptoBulk d + 1
  | .slice elems spare => uptoBulkAll elems + uptoBulkAll spare + 1
  | .agg parts => uptoBulkAll parts + 1
  | .iface _ d => uptoBulk d + 1
  | .map entries => uptoBulkEntries entries + 1
  | .held _ => 1
def uptoBulkAll {H : Type} : List (DataW H) → Nat
  | [] => 0
  | d :: r => uptoBulk d + uptoBulkAll r
def uptoBulkEntries {H : Type} : List (Lit × DataW H) → Nat
  | [] => 0
  | x :: r => uptoBulkEntry x + uptoBulkEntries r
def uptoBulkEntry {H : Type} : Lit × DataW H → Nat
  | (.string bytes, d) => bytes.length + uptoBulk d + 1
  | (_, d) => uptoBulk d + 1
 end
def uptoSmall : (H : Type) → List (DataW H) → Bool := fun _ ds => decide (uptoBulkAll ds ≤ 1048576)
def OpenSpec.upto (s : _root_.Go.ChangeSpec) : _root_.Go.OpenSpec := { _root_.Go.OpenSpec.ofChange s with cond := some uptoSmall }

/-- 'bywashlaw08.SegmentOpens', WHERE WHAT IT READS IS OF BULK AT MOST 1048576: true; the input reads as it did. -/
def segmentOpensUptoRow : OpenClaim := { program := "ytlcpljpeljoboaadoor", sum := "49adcaff90893f4e8ecfa7e93ccb3315e00906285aa8f2d7160e0dca7c9923f4", func := "bywash/bywashlaw08.SegmentOpens", spec := "segmentOpens", unfollowed := true, recurses := true, named := ["bywash/frame.half"], apart := false, laid := [("bywash/frame.half", laid_bywash_frame_half)], narrowed := true }
def SegmentOpensUptoSaid : Prop := segmentOpensUptoRow.holds Tryd.pinned (OpenSpec.upto segmentOpensSpec)

/-- 'bywashlaw08.SegmentCrashes', WHERE WHAT IT READS IS OF BULK AT MOST 1048576: true; the input reads as it did. -/
def segmentCrashesUptoRow : OpenClaim := { program := "ytlcpljpeljoboaadoor", sum := "49adcaff90893f4e8ecfa7e93ccb3315e00906285aa8f2d7160e0dca7c9923f4", func := "bywash/bywashlaw08.SegmentCrashes", spec := "segmentCrashes", unfollowed := true, recurses := true, named := ["bywash/frame.half"], apart := false, laid := [("bywash/frame.half", laid_bywash_frame_half)], narrowed := true }
def SegmentCrashesUptoSaid : Prop := segmentCrashesUptoRow.holds Tryd.pinned (OpenSpec.upto segmentCrashesSpec)

/-- 'bywashlaw08.SegmentReopens', WHERE WHAT IT READS IS OF BULK AT MOST 1048576: true; the input reads as it did. -/
def segmentReopensUptoRow : OpenClaim := { program := "ytlcpljpeljoboaadoor", sum := "49adcaff90893f4e8ecfa7e93ccb3315e00906285aa8f2d7160e0dca7c9923f4", func := "bywash/bywashlaw08.SegmentReopens", spec := "segmentReopens", unfollowed := true, recurses := true, named := ["bywash/frame.half"], apart := false, laid := [("bywash/frame.half", laid_bywash_frame_half)], narrowed := true }
def SegmentReopensUptoSaid : Prop := segmentReopensUptoRow.holds Tryd.pinned (OpenSpec.upto segmentReopensSpec)

/-- 'bywashlaw08.SegmentPlays', WHERE WHAT IT READS IS OF BULK AT MOST 1048576: true; the input reads as it did. -/
def segmentPlaysUptoRow : OpenClaim := { program := "ytlcpljpeljoboaadoor", sum := "49adcaff90893f4e8ecfa7e93ccb3315e00906285aa8f2d7160e0dca7c9923f4", func := "bywash/bywashlaw08.SegmentPlays", spec := "segmentPlays", unfollowed := true, recurses := true, named := ["bywash/frame.half"], apart := false, laid := [("bywash/frame.half", laid_bywash_frame_half)], narrowed := true }
def SegmentPlaysUptoSaid : Prop := segmentPlaysUptoRow.holds Tryd.pinned (OpenSpec.upto segmentPlaysSpec)

end Rows
end Go.Proofs.YtlcpljpeljoboaaDoor
