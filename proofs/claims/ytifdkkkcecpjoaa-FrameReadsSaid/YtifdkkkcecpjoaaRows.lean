/-
  NARROWER THAN 'FOR EVERY INPUT', by the rows' own cells (each row's printed sentence says how): FrameRequests: loops · FrameReads: loops · FrameRows: loops.
  DERIVED. THE GIVEN ROWS OF THIS SEAT. 9 by the template 'for every input the law returns true; each argument reads behind the call as it read before'; 0 by the template 'total and deterministic' (their statements: YtifdkkkcecpjoaaTotals.lean).
  GIVEN WITH THE SEED: the statements are not yours to turn. If you find one false, say at which input.
  Laid BY PROGRAM, IN A SANDBOX (cutbox-rows.mjs): the forced cells as the released guide's own fill.sh prints them over the translation 76354b2655b37b89… (all of the seat's roots in one cut). By AI agents, Wed Nov 11 2026. No macro, syntax, notation, axiom, sorry.
-/
import Derived.Test.YtifdkkkcecpjoaaChecked
import GoSem.Claim
import GoSem.ClaimJoined
import GoSem.ClaimMapViews
import Derived.JoinedTies
import Derived.KernelRfl
namespace Go.Proofs.Ytifdkkkcecpjoaa
/- THE CELL 'sum', in the pinned program and in every row, IS THE sha256 OF THE DUMP (.gsa) THAT YtifdkkkcecpjoaaProg.lean LOADS. Nothing in Lean hashes anything: it is a label: what it is worth is what the hold of that sum in a sandbox is worth. -/
noncomputable def Try.pinned : Pinned := { name := "ytifdkkkcecpjoaa", sum := "76354b2655b37b89653b4367cc59328d4af144e7ee2b555298bab02edc80fdc4", checked := Try.checked }
namespace Rows
def none {H : Type} : Left H := { results := [], args := [] }

/-- 'letterpresslaw11.FrameRequests': WHATEVER THE INPUT: true; the input reads as it did. -/
def frameRequestsSpec : ChangeSpec := { name := "frameRequests", fn := fun _ => fun
  | [d1, d2, d3] => { results := [.lit (.bool true)], args := [d1, d2, d3] }
  | _ => none }
def frameRequestsRow : OpenClaim := { program := "ytifdkkkcecpjoaa", sum := "76354b2655b37b89653b4367cc59328d4af144e7ee2b555298bab02edc80fdc4", func := "letterpress/letterpresslaw11.FrameRequests", spec := "frameRequests", unfollowed := true, recurses := true, loops := true, apart := false }
def FrameRequestsSaid : Prop := frameRequestsRow.holds Try.pinned (OpenSpec.ofChange frameRequestsSpec)

/-- ITS FALSE NEIGHBOUR: 'it returns false'. Refute it at one input. -/
def frameRequestsWrong : ChangeSpec := { name := "frameRequests", fn := fun _ => fun
  | [d1, d2, d3] => { results := [.lit (.bool false)], args := [d1, d2, d3] }
  | _ => none }
def FrameRequestsWrongFalsely : Prop := frameRequestsRow.holds Try.pinned (OpenSpec.ofChange frameRequestsWrong)

/-- 'letterpresslaw11.FrameReads': WHATEVER THE INPUT: true; the input reads as it did. -/
def frameReadsSpec : ChangeSpec := { name := "frameReads", fn := fun _ => fun
  | [d1, d2, d3, d4, d5, d6, d7] => { results := [.lit (.bool true)], args := [d1, d2, d3, d4, d5, d6, d7] }
  | _ => none }
def frameReadsRow : OpenClaim := { program := "ytifdkkkcecpjoaa", sum := "76354b2655b37b89653b4367cc59328d4af144e7ee2b555298bab02edc80fdc4", func := "letterpress/letterpresslaw11.FrameReads", spec := "frameReads", unfollowed := true, recurses := true, loops := true, apart := false }
def FrameReadsSaid : Prop := frameReadsRow.holds Try.pinned (OpenSpec.ofChange frameReadsSpec)

/-- ITS FALSE NEIGHBOUR: 'it returns false'. Refute it at one input. -/
def frameReadsWrong : ChangeSpec := { name := "frameReads", fn := fun _ => fun
  | [d1, d2, d3, d4, d5, d6, d7] => { results := [.lit (.bool false)], args := [d1, d2, d3, d4, d5, d6, d7] }
  | _ => none }
def FrameReadsWrongFalsely : Prop := frameReadsRow.holds Try.pinned (OpenSpec.ofChange frameReadsWrong)

/-- 'letterpresslaw11.FrameResponses': WHATEVER THE INPUT: true; the input reads as it did. -/
def frameResponsesSpec : ChangeSpec := { name := "frameResponses", fn := fun _ => fun
  | [d1, d2, d3, d4] => { results := [.lit (.bool true)], args := [d1, d2, d3, d4] }
  | _ => none }
def frameResponsesRow : OpenClaim := { program := "ytifdkkkcecpjoaa", sum := "76354b2655b37b89653b4367cc59328d4af144e7ee2b555298bab02edc80fdc4", func := "letterpress/letterpresslaw11.FrameResponses", spec := "frameResponses", unfollowed := true, recurses := true, apart := false }
def FrameResponsesSaid : Prop := frameResponsesRow.holds Try.pinned (OpenSpec.ofChange frameResponsesSpec)

/-- ITS FALSE NEIGHBOUR: 'it returns false'. Refute it at one input. -/
def frameResponsesWrong : ChangeSpec := { name := "frameResponses", fn := fun _ => fun
  | [d1, d2, d3, d4] => { results := [.lit (.bool false)], args := [d1, d2, d3, d4] }
  | _ => none }
def FrameResponsesWrongFalsely : Prop := frameResponsesRow.holds Try.pinned (OpenSpec.ofChange frameResponsesWrong)

/-- 'letterpresslaw11.FrameRows': WHATEVER THE INPUT: true; the input reads as it did. -/
def frameRowsSpec : ChangeSpec := { name := "frameRows", fn := fun _ => fun
  | [d1, d2, d3] => { results := [.lit (.bool true)], args := [d1, d2, d3] }
  | _ => none }
def frameRowsRow : OpenClaim := { program := "ytifdkkkcecpjoaa", sum := "76354b2655b37b89653b4367cc59328d4af144e7ee2b555298bab02edc80fdc4", func := "letterpress/letterpresslaw11.FrameRows", spec := "frameRows", unfollowed := true, recurses := true, loops := true, apart := false }
def FrameRowsSaid : Prop := frameRowsRow.holds Try.pinned (OpenSpec.ofChange frameRowsSpec)

/-- ITS FALSE NEIGHBOUR: 'it returns false'. Refute it at one input. -/
def frameRowsWrong : ChangeSpec := { name := "frameRows", fn := fun _ => fun
  | [d1, d2, d3] => { results := [.lit (.bool false)], args := [d1, d2, d3] }
  | _ => none }
def FrameRowsWrongFalsely : Prop := frameRowsRow.holds Try.pinned (OpenSpec.ofChange frameRowsWrong)

/-- 'letterpresslaw11.FrameLarge': WHATEVER THE INPUT: true; the input reads as it did. -/
def frameLargeSpec : ChangeSpec := { name := "frameLarge", fn := fun _ => fun
  | [d1, d2] => { results := [.lit (.bool true)], args := [d1, d2] }
  | _ => none }
def frameLargeRow : OpenClaim := { program := "ytifdkkkcecpjoaa", sum := "76354b2655b37b89653b4367cc59328d4af144e7ee2b555298bab02edc80fdc4", func := "letterpress/letterpresslaw11.FrameLarge", spec := "frameLarge", unfollowed := true, recurses := true, apart := false }
def FrameLargeSaid : Prop := frameLargeRow.holds Try.pinned (OpenSpec.ofChange frameLargeSpec)

/-- ITS FALSE NEIGHBOUR: 'it returns false'. Refute it at one input. -/
def frameLargeWrong : ChangeSpec := { name := "frameLarge", fn := fun _ => fun
  | [d1, d2] => { results := [.lit (.bool false)], args := [d1, d2] }
  | _ => none }
def FrameLargeWrongFalsely : Prop := frameLargeRow.holds Try.pinned (OpenSpec.ofChange frameLargeWrong)

/-- 'letterpresslaw11.FrameApart': WHATEVER THE INPUT: true; the input reads as it did. -/
def frameApartSpec : ChangeSpec := { name := "frameApart", fn := fun _ => fun
  | [d1, d2, d3, d4, d5] => { results := [.lit (.bool true)], args := [d1, d2, d3, d4, d5] }
  | _ => none }
def frameApartRow : OpenClaim := { program := "ytifdkkkcecpjoaa", sum := "76354b2655b37b89653b4367cc59328d4af144e7ee2b555298bab02edc80fdc4", func := "letterpress/letterpresslaw11.FrameApart", spec := "frameApart", unfollowed := true, recurses := true, apart := false }
def FrameApartSaid : Prop := frameApartRow.holds Try.pinned (OpenSpec.ofChange frameApartSpec)

/-- ITS FALSE NEIGHBOUR: 'it returns false'. Refute it at one input. -/
def frameApartWrong : ChangeSpec := { name := "frameApart", fn := fun _ => fun
  | [d1, d2, d3, d4, d5] => { results := [.lit (.bool false)], args := [d1, d2, d3, d4, d5] }
  | _ => none }
def FrameApartWrongFalsely : Prop := frameApartRow.holds Try.pinned (OpenSpec.ofChange frameApartWrong)

/-- 'letterpresslaw11.FrameWhole': WHATEVER THE INPUT: true; the input reads as it did. -/
def frameWholeSpec : ChangeSpec := { name := "frameWhole", fn := fun _ => fun
  | [d1, d2, d3] => { results := [.lit (.bool true)], args := [d1, d2, d3] }
  | _ => none }
def frameWholeRow : OpenClaim := { program := "ytifdkkkcecpjoaa", sum := "76354b2655b37b89653b4367cc59328d4af144e7ee2b555298bab02edc80fdc4", func := "letterpress/letterpresslaw11.FrameWhole", spec := "frameWhole", unfollowed := true, recurses := true, apart := false }
def FrameWholeSaid : Prop := frameWholeRow.holds Try.pinned (OpenSpec.ofChange frameWholeSpec)

/-- ITS FALSE NEIGHBOUR: 'it returns false'. Refute it at one input. -/
def frameWholeWrong : ChangeSpec := { name := "frameWhole", fn := fun _ => fun
  | [d1, d2, d3] => { results := [.lit (.bool false)], args := [d1, d2, d3] }
  | _ => none }
def FrameWholeWrongFalsely : Prop := frameWholeRow.holds Try.pinned (OpenSpec.ofChange frameWholeWrong)

/-- 'letterpresslaw11.FrameBytes': WHATEVER THE INPUT: true; the input reads as it did. -/
def frameBytesSpec : ChangeSpec := { name := "frameBytes", fn := fun _ => fun
  | [d1, d2, d3, d4] => { results := [.lit (.bool true)], args := [d1, d2, d3, d4] }
  | _ => none }
def frameBytesRow : OpenClaim := { program := "ytifdkkkcecpjoaa", sum := "76354b2655b37b89653b4367cc59328d4af144e7ee2b555298bab02edc80fdc4", func := "letterpress/letterpresslaw11.FrameBytes", spec := "frameBytes", unfollowed := true, recurses := true, apart := false }
def FrameBytesSaid : Prop := frameBytesRow.holds Try.pinned (OpenSpec.ofChange frameBytesSpec)

/-- ITS FALSE NEIGHBOUR: 'it returns false'. Refute it at one input. -/
def frameBytesWrong : ChangeSpec := { name := "frameBytes", fn := fun _ => fun
  | [d1, d2, d3, d4] => { results := [.lit (.bool false)], args := [d1, d2, d3, d4] }
  | _ => none }
def FrameBytesWrongFalsely : Prop := frameBytesRow.holds Try.pinned (OpenSpec.ofChange frameBytesWrong)

/-- 'letterpresslaw11.FrameValues': WHATEVER THE INPUT: true; the input reads as it did. -/
def frameValuesSpec : ChangeSpec := { name := "frameValues", fn := fun _ => fun
  | [d1, d2] => { results := [.lit (.bool true)], args := [d1, d2] }
  | _ => none }
def frameValuesRow : OpenClaim := { program := "ytifdkkkcecpjoaa", sum := "76354b2655b37b89653b4367cc59328d4af144e7ee2b555298bab02edc80fdc4", func := "letterpress/letterpresslaw11.FrameValues", spec := "frameValues", unfollowed := true, recurses := true, apart := false }
def FrameValuesSaid : Prop := frameValuesRow.holds Try.pinned (OpenSpec.ofChange frameValuesSpec)

/-- ITS FALSE NEIGHBOUR: 'it returns false'. Refute it at one input. -/
def frameValuesWrong : ChangeSpec := { name := "frameValues", fn := fun _ => fun
  | [d1, d2] => { results := [.lit (.bool false)], args := [d1, d2] }
  | _ => none }
def FrameValuesWrongFalsely : Prop := frameValuesRow.holds Try.pinned (OpenSpec.ofChange frameValuesWrong)

/- THE SECOND FORM. 'bulk': how many values and letters a reading holds, each counted each time it is reached (what is shared counts as often as it is met; a slice's spare places count too). A statement '..UptoSaid' is the law's where the arguments, and the package variables that the reading takes, are together of bulk at most 1048576: NARROWER than '..Said'. Prove '..Said' where nothing that the law and all that it calls make is longer than what came in: it says more and counts as full. Else prove '..UptoSaid'. A law counts once. -/
mutual
def uptoBulk {H : Type} : DataW H → Nat
  | .lit (.string bytes) => bytes.length + 1
  | .lit _ => 1
  | .nil => 1
  | .ptr d => uptoBulk d + 1
  | .slice elems spare => uptoBulkAll elems + uptoBulkAll spare + 1
  | .agg parts => uptoBulkAll parts + 1
  | .iface _ d => uptoBulk d + 1
  | .map entries => uptoBulkEntries entries + 1
  | .held _ => 1
def uptoBulkAll {H : Type} : List (DataW H) → Nat
  | [] => 0
  | d :: r => uptoBulk d + uptoBulkAll r
def uptoBulkEntries {H : Type} : List (Lit × DataW H) → Nat
  | [] => 0
  | x :: r => uptoBulkEntry x + uptoBulkEntries r
def uptoBulkEntry {H : Type} : Lit × DataW H → Nat
  | (.string bytes, d) => bytes.length + uptoBulk d + 1
  | (_, d) => uptoBulk d + 1
 end
def uptoSmall : (H : Type) → List (DataW H) → Bool := fun _ ds => decide (uptoBulkAll ds ≤ 1048576)
def OpenSpec.upto (s : _root_.Go.ChangeSpec) : _root_.Go.OpenSpec := { _root_.Go.OpenSpec.ofChange s with cond := some uptoSmall }

/-- 'letterpresslaw11.FrameRequests', WHERE WHAT IT READS IS OF BULK AT MOST 1048576: true; the input reads as it did. -/
def frameRequestsUptoRow : OpenClaim := { program := "ytifdkkkcecpjoaa", sum := "76354b2655b37b89653b4367cc59328d4af144e7ee2b555298bab02edc80fdc4", func := "letterpress/letterpresslaw11.FrameRequests", spec := "frameRequests", unfollowed := true, recurses := true, loops := true, apart := false, narrowed := true }
def FrameRequestsUptoSaid : Prop := frameRequestsUptoRow.holds Try.pinned (OpenSpec.upto frameRequestsSpec)

/-- 'letterpresslaw11.FrameReads', WHERE WHAT IT READS IS OF BULK AT MOST 1048576: true; the input reads as it did. -/
def frameReadsUptoRow : OpenClaim := { program := "ytifdkkkcecpjoaa", sum := "76354b2655b37b89653b4367cc59328d4af144e7ee2b555298bab02edc80fdc4", func := "letterpress/letterpresslaw11.FrameReads", spec := "frameReads", unfollowed := true, recurses := true, loops := true, apart := false, narrowed := true }
def FrameReadsUptoSaid : Prop := frameReadsUptoRow.holds Try.pinned (OpenSpec.upto frameReadsSpec)

/-- 'letterpresslaw11.FrameResponses', WHERE WHAT IT READS IS OF BULK AT MOST 1048576: true; the input reads as it did. -/
def frameResponsesUptoRow : OpenClaim := { program := "ytifdkkkcecpjoaa", sum := "76354b2655b37b89653b4367cc59328d4af144e7ee2b555298bab02edc80fdc4", func := "letterpress/letterpresslaw11.FrameResponses", spec := "frameResponses", unfollowed := true, recurses := true, apart := false, narrowed := true }
def FrameResponsesUptoSaid : Prop := frameResponsesUptoRow.holds Try.pinned (OpenSpec.upto frameResponsesSpec)

/-- 'letterpresslaw11.FrameRows', WHERE WHAT IT READS IS OF BULK AT MOST 1048576: true; the input reads as it did. -/
def frameRowsUptoRow : OpenClaim := { program := "ytifdkkkcecpjoaa", sum := "76354b2655b37b89653b4367cc59328d4af144e7ee2b555298bab02edc80fdc4", func := "letterpress/letterpresslaw11.FrameRows", spec := "frameRows", unfollowed := true, recurses := true, loops := true, apart := false, narrowed := true }
def FrameRowsUptoSaid : Prop := frameRowsUptoRow.holds Try.pinned (OpenSpec.upto frameRowsSpec)

/-- 'letterpresslaw11.FrameLarge', WHERE WHAT IT READS IS OF BULK AT MOST 1048576: true; the input reads as it did. -/
def frameLargeUptoRow : OpenClaim := { program := "ytifdkkkcecpjoaa", sum := "76354b2655b37b89653b4367cc59328d4af144e7ee2b555298bab02edc80fdc4", func := "letterpress/letterpresslaw11.FrameLarge", spec := "frameLarge", unfollowed := true, recurses := true, apart := false, narrowed := true }
def FrameLargeUptoSaid : Prop := frameLargeUptoRow.holds Try.pinned (OpenSpec.upto frameLargeSpec)

/-- 'letterpresslaw11.FrameApart', WHERE WHAT IT READS IS OF BULK AT MOST 1048576: true; the input reads as it did. -/
def frameApartUptoRow : OpenClaim := { program := "ytifdkkkcecpjoaa", sum := "76354b2655b37b89653b4367cc59328d4af144e7ee2b555298bab02edc80fdc4", func := "letterpress/letterpresslaw11.FrameApart", spec := "frameApart", unfollowed := true, recurses := true, apart := false, narrowed := true }
def FrameApartUptoSaid : Prop := frameApartUptoRow.holds Try.pinned (OpenSpec.upto frameApartSpec)

/-- 'letterpresslaw11.FrameWhole', WHERE WHAT IT READS IS OF BULK AT MOST 1048576: true; the input reads as it did. -/
def frameWholeUptoRow : OpenClaim := { program := "ytifdkkkcecpjoaa", sum := "76354b2655b37b89653b4367cc59328d4af144e7ee2b555298bab02edc80fdc4", func := "letterpress/letterpresslaw11.FrameWhole", spec := "frameWhole", unfollowed := true, recurses := true, apart := false, narrowed := true }
def FrameWholeUptoSaid : Prop := frameWholeUptoRow.holds Try.pinned (OpenSpec.upto frameWholeSpec)

/-- 'letterpresslaw11.FrameBytes', WHERE WHAT IT READS IS OF BULK AT MOST 1048576: true; the input reads as it did. -/
def frameBytesUptoRow : OpenClaim := { program := "ytifdkkkcecpjoaa", sum := "76354b2655b37b89653b4367cc59328d4af144e7ee2b555298bab02edc80fdc4", func := "letterpress/letterpresslaw11.FrameBytes", spec := "frameBytes", unfollowed := true, recurses := true, apart := false, narrowed := true }
def FrameBytesUptoSaid : Prop := frameBytesUptoRow.holds Try.pinned (OpenSpec.upto frameBytesSpec)

/-- 'letterpresslaw11.FrameValues', WHERE WHAT IT READS IS OF BULK AT MOST 1048576: true; the input reads as it did. -/
def frameValuesUptoRow : OpenClaim := { program := "ytifdkkkcecpjoaa", sum := "76354b2655b37b89653b4367cc59328d4af144e7ee2b555298bab02edc80fdc4", func := "letterpress/letterpresslaw11.FrameValues", spec := "frameValues", unfollowed := true, recurses := true, apart := false, narrowed := true }
def FrameValuesUptoSaid : Prop := frameValuesUptoRow.holds Try.pinned (OpenSpec.upto frameValuesSpec)

end Rows
end Go.Proofs.Ytifdkkkcecpjoaa
