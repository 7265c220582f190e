/-
  No cell of these rows narrows 'for every input' (looked for: loops, veiled, ifaces, maps, wideKeys, modest, calm, conditions, laid).
  DERIVED. THE GIVEN ROWS OF THIS SEAT. 12 by the template 'for every input the law returns true; each argument reads behind the call as it read before'; 0 by the template 'total and deterministic' (their statements: YtghddmlndafefaaTotals.lean).
  GIVEN WITH THE SEED: the statements are not yours to turn. If you find one false, say at which input.
  Laid BY PROGRAM, IN A SANDBOX (cutbox-rows.mjs): the forced cells as the released guide's own fill.sh prints them over the translation 8d1c2fd74d2ef671… (all of the seat's roots in one cut). By AI agents, Wed Nov 11 2026. No macro, syntax, notation, axiom, sorry.
-/
import Derived.Test.YtghddmlndafefaaChecked
import GoSem.Claim
import GoSem.ClaimJoined
import GoSem.ClaimMapViews
import Derived.JoinedTies
import Derived.KernelRfl
namespace Go.Proofs.Ytghddmlndafefaa
/- THE CELL 'sum', in the pinned program and in every row, IS THE sha256 OF THE DUMP (.gsa) THAT YtghddmlndafefaaProg.lean LOADS. Nothing in Lean hashes anything: it is a label: what it is worth is what the hold of that sum in a sandbox is worth. -/
noncomputable def Try.pinned : Pinned := { name := "ytghddmlndafefaa", sum := "8d1c2fd74d2ef6713e461aebfb3fca6108ad6d607ae46801b061343f06361e79", checked := Try.checked }
namespace Rows
def none {H : Type} : Left H := { results := [], args := [] }

/-- 'letterpresslaw7.StoreLast': WHATEVER THE INPUT: true; the input reads as it did. -/
def storeLastSpec : ChangeSpec := { name := "storeLast", fn := fun _ => fun
  | [d] => { results := [.lit (.bool true)], args := [d] }
  | _ => none }
def storeLastRow : OpenClaim := { program := "ytghddmlndafefaa", sum := "8d1c2fd74d2ef6713e461aebfb3fca6108ad6d607ae46801b061343f06361e79", func := "letterpress/letterpresslaw7.StoreLast", spec := "storeLast", unfollowed := true, recurses := true, apart := false }
def StoreLastSaid : Prop := storeLastRow.holds Try.pinned (OpenSpec.ofChange storeLastSpec)

/-- ITS FALSE NEIGHBOUR: 'it returns false'. Refute it at one input. -/
def storeLastWrong : ChangeSpec := { name := "storeLast", fn := fun _ => fun
  | [d] => { results := [.lit (.bool false)], args := [d] }
  | _ => none }
def StoreLastWrongFalsely : Prop := storeLastRow.holds Try.pinned (OpenSpec.ofChange storeLastWrong)

/-- 'letterpresslaw7.StoreChanged': WHATEVER THE INPUT: true; the input reads as it did. -/
def storeChangedSpec : ChangeSpec := { name := "storeChanged", fn := fun _ => fun
  | [d] => { results := [.lit (.bool true)], args := [d] }
  | _ => none }
def storeChangedRow : OpenClaim := { program := "ytghddmlndafefaa", sum := "8d1c2fd74d2ef6713e461aebfb3fca6108ad6d607ae46801b061343f06361e79", func := "letterpress/letterpresslaw7.StoreChanged", spec := "storeChanged", unfollowed := true, recurses := true, apart := false }
def StoreChangedSaid : Prop := storeChangedRow.holds Try.pinned (OpenSpec.ofChange storeChangedSpec)

/-- ITS FALSE NEIGHBOUR: 'it returns false'. Refute it at one input. -/
def storeChangedWrong : ChangeSpec := { name := "storeChanged", fn := fun _ => fun
  | [d] => { results := [.lit (.bool false)], args := [d] }
  | _ => none }
def StoreChangedWrongFalsely : Prop := storeChangedRow.holds Try.pinned (OpenSpec.ofChange storeChangedWrong)

/-- 'letterpresslaw7.StoreGone': WHATEVER THE INPUT: true; the input reads as it did. -/
def storeGoneSpec : ChangeSpec := { name := "storeGone", fn := fun _ => fun
  | [d] => { results := [.lit (.bool true)], args := [d] }
  | _ => none }
def storeGoneRow : OpenClaim := { program := "ytghddmlndafefaa", sum := "8d1c2fd74d2ef6713e461aebfb3fca6108ad6d607ae46801b061343f06361e79", func := "letterpress/letterpresslaw7.StoreGone", spec := "storeGone", unfollowed := true, recurses := true, apart := false }
def StoreGoneSaid : Prop := storeGoneRow.holds Try.pinned (OpenSpec.ofChange storeGoneSpec)

/-- ITS FALSE NEIGHBOUR: 'it returns false'. Refute it at one input. -/
def storeGoneWrong : ChangeSpec := { name := "storeGone", fn := fun _ => fun
  | [d] => { results := [.lit (.bool false)], args := [d] }
  | _ => none }
def StoreGoneWrongFalsely : Prop := storeGoneRow.holds Try.pinned (OpenSpec.ofChange storeGoneWrong)

/-- 'letterpresslaw7.StoreEmpty': WHATEVER THE INPUT: true; the input reads as it did. -/
def storeEmptySpec : ChangeSpec := { name := "storeEmpty", fn := fun _ => fun
  | [d1, d2] => { results := [.lit (.bool true)], args := [d1, d2] }
  | _ => none }
def storeEmptyRow : OpenClaim := { program := "ytghddmlndafefaa", sum := "8d1c2fd74d2ef6713e461aebfb3fca6108ad6d607ae46801b061343f06361e79", func := "letterpress/letterpresslaw7.StoreEmpty", spec := "storeEmpty", unfollowed := true, recurses := true, apart := false }
def StoreEmptySaid : Prop := storeEmptyRow.holds Try.pinned (OpenSpec.ofChange storeEmptySpec)

/-- ITS FALSE NEIGHBOUR: 'it returns false'. Refute it at one input. -/
def storeEmptyWrong : ChangeSpec := { name := "storeEmpty", fn := fun _ => fun
  | [d1, d2] => { results := [.lit (.bool false)], args := [d1, d2] }
  | _ => none }
def StoreEmptyWrongFalsely : Prop := storeEmptyRow.holds Try.pinned (OpenSpec.ofChange storeEmptyWrong)

/-- 'letterpresslaw7.StoreFull': WHATEVER THE INPUT: true; the input reads as it did. -/
def storeFullSpec : ChangeSpec := { name := "storeFull", fn := fun _ => fun
  | [d1, d2] => { results := [.lit (.bool true)], args := [d1, d2] }
  | _ => none }
def storeFullRow : OpenClaim := { program := "ytghddmlndafefaa", sum := "8d1c2fd74d2ef6713e461aebfb3fca6108ad6d607ae46801b061343f06361e79", func := "letterpress/letterpresslaw7.StoreFull", spec := "storeFull", unfollowed := true, recurses := true, apart := false }
def StoreFullSaid : Prop := storeFullRow.holds Try.pinned (OpenSpec.ofChange storeFullSpec)

/-- ITS FALSE NEIGHBOUR: 'it returns false'. Refute it at one input. -/
def storeFullWrong : ChangeSpec := { name := "storeFull", fn := fun _ => fun
  | [d1, d2] => { results := [.lit (.bool false)], args := [d1, d2] }
  | _ => none }
def StoreFullWrongFalsely : Prop := storeFullRow.holds Try.pinned (OpenSpec.ofChange storeFullWrong)

/-- 'letterpresslaw7.StorePinned': WHATEVER THE INPUT: true; the input reads as it did. -/
def storePinnedSpec : ChangeSpec := { name := "storePinned", fn := fun _ => fun
  | [d1, d2] => { results := [.lit (.bool true)], args := [d1, d2] }
  | _ => none }
def storePinnedRow : OpenClaim := { program := "ytghddmlndafefaa", sum := "8d1c2fd74d2ef6713e461aebfb3fca6108ad6d607ae46801b061343f06361e79", func := "letterpress/letterpresslaw7.StorePinned", spec := "storePinned", unfollowed := true, recurses := true, apart := false }
def StorePinnedSaid : Prop := storePinnedRow.holds Try.pinned (OpenSpec.ofChange storePinnedSpec)

/-- ITS FALSE NEIGHBOUR: 'it returns false'. Refute it at one input. -/
def storePinnedWrong : ChangeSpec := { name := "storePinned", fn := fun _ => fun
  | [d1, d2] => { results := [.lit (.bool false)], args := [d1, d2] }
  | _ => none }
def StorePinnedWrongFalsely : Prop := storePinnedRow.holds Try.pinned (OpenSpec.ofChange storePinnedWrong)

/-- 'letterpresslaw7.StoreStamps': WHATEVER THE INPUT: true; the input reads as it did. -/
def storeStampsSpec : ChangeSpec := { name := "storeStamps", fn := fun _ => fun
  | [d] => { results := [.lit (.bool true)], args := [d] }
  | _ => none }
def storeStampsRow : OpenClaim := { program := "ytghddmlndafefaa", sum := "8d1c2fd74d2ef6713e461aebfb3fca6108ad6d607ae46801b061343f06361e79", func := "letterpress/letterpresslaw7.StoreStamps", spec := "storeStamps", unfollowed := true, recurses := true, apart := false }
def StoreStampsSaid : Prop := storeStampsRow.holds Try.pinned (OpenSpec.ofChange storeStampsSpec)

/-- ITS FALSE NEIGHBOUR: 'it returns false'. Refute it at one input. -/
def storeStampsWrong : ChangeSpec := { name := "storeStamps", fn := fun _ => fun
  | [d] => { results := [.lit (.bool false)], args := [d] }
  | _ => none }
def StoreStampsWrongFalsely : Prop := storeStampsRow.holds Try.pinned (OpenSpec.ofChange storeStampsWrong)

/-- 'letterpresslaw7.StoreTwice': WHATEVER THE INPUT: true; the input reads as it did. -/
def storeTwiceSpec : ChangeSpec := { name := "storeTwice", fn := fun _ => fun
  | [d1, d2] => { results := [.lit (.bool true)], args := [d1, d2] }
  | _ => none }
def storeTwiceRow : OpenClaim := { program := "ytghddmlndafefaa", sum := "8d1c2fd74d2ef6713e461aebfb3fca6108ad6d607ae46801b061343f06361e79", func := "letterpress/letterpresslaw7.StoreTwice", spec := "storeTwice", unfollowed := true, recurses := true, apart := false }
def StoreTwiceSaid : Prop := storeTwiceRow.holds Try.pinned (OpenSpec.ofChange storeTwiceSpec)

/-- ITS FALSE NEIGHBOUR: 'it returns false'. Refute it at one input. -/
def storeTwiceWrong : ChangeSpec := { name := "storeTwice", fn := fun _ => fun
  | [d1, d2] => { results := [.lit (.bool false)], args := [d1, d2] }
  | _ => none }
def StoreTwiceWrongFalsely : Prop := storeTwiceRow.holds Try.pinned (OpenSpec.ofChange storeTwiceWrong)

/-- 'letterpresslaw7.StoreApart': WHATEVER THE INPUT: true; the input reads as it did. -/
def storeApartSpec : ChangeSpec := { name := "storeApart", fn := fun _ => fun
  | [d1, d2] => { results := [.lit (.bool true)], args := [d1, d2] }
  | _ => none }
def storeApartRow : OpenClaim := { program := "ytghddmlndafefaa", sum := "8d1c2fd74d2ef6713e461aebfb3fca6108ad6d607ae46801b061343f06361e79", func := "letterpress/letterpresslaw7.StoreApart", spec := "storeApart", unfollowed := true, recurses := true, apart := false }
def StoreApartSaid : Prop := storeApartRow.holds Try.pinned (OpenSpec.ofChange storeApartSpec)

/-- ITS FALSE NEIGHBOUR: 'it returns false'. Refute it at one input. -/
def storeApartWrong : ChangeSpec := { name := "storeApart", fn := fun _ => fun
  | [d1, d2] => { results := [.lit (.bool false)], args := [d1, d2] }
  | _ => none }
def StoreApartWrongFalsely : Prop := storeApartRow.holds Try.pinned (OpenSpec.ofChange storeApartWrong)

/-- 'letterpresslaw7.StorePlays': WHATEVER THE INPUT: true; the input reads as it did. -/
def storePlaysSpec : ChangeSpec := { name := "storePlays", fn := fun _ => fun
  | [d1, d2, d3] => { results := [.lit (.bool true)], args := [d1, d2, d3] }
  | _ => none }
def storePlaysRow : OpenClaim := { program := "ytghddmlndafefaa", sum := "8d1c2fd74d2ef6713e461aebfb3fca6108ad6d607ae46801b061343f06361e79", func := "letterpress/letterpresslaw7.StorePlays", spec := "storePlays", unfollowed := true, recurses := true, apart := false }
def StorePlaysSaid : Prop := storePlaysRow.holds Try.pinned (OpenSpec.ofChange storePlaysSpec)

/-- ITS FALSE NEIGHBOUR: 'it returns false'. Refute it at one input. -/
def storePlaysWrong : ChangeSpec := { name := "storePlays", fn := fun _ => fun
  | [d1, d2, d3] => { results := [.lit (.bool false)], args := [d1, d2, d3] }
  | _ => none }
def StorePlaysWrongFalsely : Prop := storePlaysRow.holds Try.pinned (OpenSpec.ofChange storePlaysWrong)

/-- 'letterpresslaw7.StoreCleans': WHATEVER THE INPUT: true; the input reads as it did. -/
def storeCleansSpec : ChangeSpec := { name := "storeCleans", fn := fun _ => fun
  | [d1, d2] => { results := [.lit (.bool true)], args := [d1, d2] }
  | _ => none }
def storeCleansRow : OpenClaim := { program := "ytghddmlndafefaa", sum := "8d1c2fd74d2ef6713e461aebfb3fca6108ad6d607ae46801b061343f06361e79", func := "letterpress/letterpresslaw7.StoreCleans", spec := "storeCleans", unfollowed := true, recurses := true, apart := false }
def StoreCleansSaid : Prop := storeCleansRow.holds Try.pinned (OpenSpec.ofChange storeCleansSpec)

/-- ITS FALSE NEIGHBOUR: 'it returns false'. Refute it at one input. -/
def storeCleansWrong : ChangeSpec := { name := "storeCleans", fn := fun _ => fun
  | [d1, d2] => { results := [.lit (.bool false)], args := [d1, d2] }
  | _ => none }
def StoreCleansWrongFalsely : Prop := storeCleansRow.holds Try.pinned (OpenSpec.ofChange storeCleansWrong)

/-- 'letterpresslaw7.StorePins': WHATEVER THE INPUT: true; the input reads as it did. -/
def storePinsSpec : ChangeSpec := { name := "storePins", fn := fun _ => fun
  | [d1, d2, d3] => { results := [.lit (.bool true)], args := [d1, d2, d3] }
  | _ => none }
def storePinsRow : OpenClaim := { program := "ytghddmlndafefaa", sum := "8d1c2fd74d2ef6713e461aebfb3fca6108ad6d607ae46801b061343f06361e79", func := "letterpress/letterpresslaw7.StorePins", spec := "storePins", unfollowed := true, recurses := true, apart := false }
def StorePinsSaid : Prop := storePinsRow.holds Try.pinned (OpenSpec.ofChange storePinsSpec)

/-- ITS FALSE NEIGHBOUR: 'it returns false'. Refute it at one input. -/
def storePinsWrong : ChangeSpec := { name := "storePins", fn := fun _ => fun
  | [d1, d2, d3] => { results := [.lit (.bool false)], args := [d1, d2, d3] }
  | _ => none }
def StorePinsWrongFalsely : Prop := storePinsRow.holds Try.pinned (OpenSpec.ofChange storePinsWrong)

/- THE SECOND FORM. 'bulk': how many values and letters a reading holds, each counted each time it is reached (what is shared counts as often as it is met; a slice's spare places count too). A statement '..UptoSaid' is the law's where the arguments, and the package variables that the reading takes, are together of bulk at most 1048576: NARROWER than '..Said'. Prove '..Said' where nothing that the law and all that it calls make is longer than what came in: it says more and counts as full. Else prove '..UptoSaid'. A law counts once. -/
mutual
def uptoBulk {H : Type} : DataW H → Nat
  | .lit (.string bytes) => bytes.length + 1
  | .lit _ => 1
  | .nil => 1
  | .ptr d => uptoBulk d + 1
  | .slice elems spare => uptoBulkAll elems + uptoBulkAll spare + 1
  | .agg parts => uptoBulkAll parts + 1
  | .iface _ d => uptoBulk d + 1
  | .map entries => uptoBulkEntries entries + 1
  | .held _ => 1
def uptoBulkAll {H : Type} : List (DataW H) → Nat
  | [] => 0
  | d :: r => uptoBulk d + uptoBulkAll r
def uptoBulkEntries {H : Type} : List (Lit × DataW H) → Nat
  | [] => 0
  | x :: r => uptoBulkEntry x + uptoBulkEntries r
def uptoBulkEntry {H : Type} : Lit × DataW H → Nat
  | (.string bytes, d) => bytes.length + uptoBulk d + 1
  | (_, d) => uptoBulk d + 1
 end
def uptoSmall : (H : Type) → List (DataW H) → Bool := fun _ ds => decide (uptoBulkAll ds ≤ 1048576)
def OpenSpec.upto (s : _root_.Go.ChangeSpec) : _root_.Go.OpenSpec := { _root_.Go.OpenSpec.ofChange s with cond := some uptoSmall }

/-- 'letterpresslaw7.StoreLast', WHERE WHAT IT READS IS OF BULK AT MOST 1048576: true; the input reads as it did. -/
def storeLastUptoRow : OpenClaim := { program := "ytghddmlndafefaa", sum := "8d1c2fd74d2ef6713e461aebfb3fca6108ad6d607ae46801b061343f06361e79", func := "letterpress/letterpresslaw7.StoreLast", spec := "storeLast", unfollowed := true, recurses := true, apart := false, narrowed := true }
def StoreLastUptoSaid : Prop := storeLastUptoRow.holds Try.pinned (OpenSpec.upto storeLastSpec)

/-- 'letterpresslaw7.StoreChanged', WHERE WHAT IT READS IS OF BULK AT MOST 1048576: true; the input reads as it did. -/
def storeChangedUptoRow : OpenClaim := { program := "ytghddmlndafefaa", sum := "8d1c2fd74d2ef6713e461aebfb3fca6108ad6d607ae46801b061343f06361e79", func := "letterpress/letterpresslaw7.StoreChanged", spec := "storeChanged", unfollowed := true, recurses := true, apart := false, narrowed := true }
def StoreChangedUptoSaid : Prop := storeChangedUptoRow.holds Try.pinned (OpenSpec.upto storeChangedSpec)

/-- 'letterpresslaw7.StoreGone', WHERE WHAT IT READS IS OF BULK AT MOST 1048576: true; the input reads as it did. -/
def storeGoneUptoRow : OpenClaim := { program := "ytghddmlndafefaa", sum := "8d1c2fd74d2ef6713e461aebfb3fca6108ad6d607ae46801b061343f06361e79", func := "letterpress/letterpresslaw7.StoreGone", spec := "storeGone", unfollowed := true, recurses := true, apart := false, narrowed := true }
def StoreGoneUptoSaid : Prop := storeGoneUptoRow.holds Try.pinned (OpenSpec.upto storeGoneSpec)

/-- 'letterpresslaw7.StoreEmpty', WHERE WHAT IT READS IS OF BULK AT MOST 1048576: true; the input reads as it did. -/
def storeEmptyUptoRow : OpenClaim := { program := "ytghddmlndafefaa", sum := "8d1c2fd74d2ef6713e461aebfb3fca6108ad6d607ae46801b061343f06361e79", func := "letterpress/letterpresslaw7.StoreEmpty", spec := "storeEmpty", unfollowed := true, recurses := true, apart := false, narrowed := true }
def StoreEmptyUptoSaid : Prop := storeEmptyUptoRow.holds Try.pinned (OpenSpec.upto storeEmptySpec)

/-- 'letterpresslaw7.StoreFull', WHERE WHAT IT READS IS OF BULK AT MOST 1048576: true; the input reads as it did. -/
def storeFullUptoRow : OpenClaim := { program := "ytghddmlndafefaa", sum := "8d1c2fd74d2ef6713e461aebfb3fca6108ad6d607ae46801b061343f06361e79", func := "letterpress/letterpresslaw7.StoreFull", spec := "storeFull", unfollowed := true, recurses := true, apart := false, narrowed := true }
def StoreFullUptoSaid : Prop := storeFullUptoRow.holds Try.pinned (OpenSpec.upto storeFullSpec)

/-- 'letterpresslaw7.StorePinned', WHERE WHAT IT READS IS OF BULK AT MOST 1048576: true; the input reads as it did. -/
def storePinnedUptoRow : OpenClaim := { program := "ytghddmlndafefaa", sum := "8d1c2fd74d2ef6713e461aebfb3fca6108ad6d607ae46801b061343f06361e79", func := "letterpress/letterpresslaw7.StorePinned", spec := "storePinned", unfollowed := true, recurses := true, apart := false, narrowed := true }
def StorePinnedUptoSaid : Prop := storePinnedUptoRow.holds Try.pinned (OpenSpec.upto storePinnedSpec)

/-- 'letterpresslaw7.StoreStamps', WHERE WHAT IT READS IS OF BULK AT MOST 1048576: true; the input reads as it did. -/
def storeStampsUptoRow : OpenClaim := { program := "ytghddmlndafefaa", sum := "8d1c2fd74d2ef6713e461aebfb3fca6108ad6d607ae46801b061343f06361e79", func := "letterpress/letterpresslaw7.StoreStamps", spec := "storeStamps", unfollowed := true, recurses := true, apart := false, narrowed := true }
def StoreStampsUptoSaid : Prop := storeStampsUptoRow.holds Try.pinned (OpenSpec.upto storeStampsSpec)

/-- 'letterpresslaw7.StoreTwice', WHERE WHAT IT READS IS OF BULK AT MOST 1048576: true; the input reads as it did. -/
def storeTwiceUptoRow : OpenClaim := { program := "ytghddmlndafefaa", sum := "8d1c2fd74d2ef6713e461aebfb3fca6108ad6d607ae46801b061343f06361e79", func := "letterpress/letterpresslaw7.StoreTwice", spec := "storeTwice", unfollowed := true, recurses := true, apart := false, narrowed := true }
def StoreTwiceUptoSaid : Prop := storeTwiceUptoRow.holds Try.pinned (OpenSpec.upto storeTwiceSpec)

/-- 'letterpresslaw7.StoreApart', WHERE WHAT IT READS IS OF BULK AT MOST 1048576: true; the input reads as it did. -/
def storeApartUptoRow : OpenClaim := { program := "ytghddmlndafefaa", sum := "8d1c2fd74d2ef6713e461aebfb3fca6108ad6d607ae46801b061343f06361e79", func := "letterpress/letterpresslaw7.StoreApart", spec := "storeApart", unfollowed := true, recurses := true, apart := false, narrowed := true }
def StoreApartUptoSaid : Prop := storeApartUptoRow.holds Try.pinned (OpenSpec.upto storeApartSpec)

/-- 'letterpresslaw7.StorePlays', WHERE WHAT IT READS IS OF BULK AT MOST 1048576: true; the input reads as it did. -/
def storePlaysUptoRow : OpenClaim := { program := "ytghddmlndafefaa", sum := "8d1c2fd74d2ef6713e461aebfb3fca6108ad6d607ae46801b061343f06361e79", func := "letterpress/letterpresslaw7.StorePlays", spec := "storePlays", unfollowed := true, recurses := true, apart := false, narrowed := true }
def StorePlaysUptoSaid : Prop := storePlaysUptoRow.holds Try.pinned (OpenSpec.upto storePlaysSpec)

/-- 'letterpresslaw7.StoreCleans', WHERE WHAT IT READS IS OF BULK AT MOST 1048576: true; the input reads as it did. -/
def storeCleansUptoRow : OpenClaim := { program := "ytghddmlndafefaa", sum := "8d1c2fd74d2ef6713e461aebfb3fca6108ad6d607ae46801b061343f06361e79", func := "letterpress/letterpresslaw7.StoreCleans", spec := "storeCleans", unfollowed := true, recurses := true, apart := false, narrowed := true }
def StoreCleansUptoSaid : Prop := storeCleansUptoRow.holds Try.pinned (OpenSpec.upto storeCleansSpec)

/-- 'letterpresslaw7.StorePins', WHERE WHAT IT READS IS OF BULK AT MOST 1048576: true; the input reads as it did. -/
def storePinsUptoRow : OpenClaim := { program := "ytghddmlndafefaa", sum := "8d1c2fd74d2ef6713e461aebfb3fca6108ad6d607ae46801b061343f06361e79", func := "letterpress/letterpresslaw7.StorePins", spec := "storePins", unfollowed := true, recurses := true, apart := false, narrowed := true }
def StorePinsUptoSaid : Prop := storePinsUptoRow.holds Try.pinned (OpenSpec.upto storePinsSpec)

end Rows
end Go.Proofs.Ytghddmlndafefaa
