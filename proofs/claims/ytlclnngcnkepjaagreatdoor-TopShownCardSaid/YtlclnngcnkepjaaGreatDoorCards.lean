/-
  DERIVED. GIVEN WITH THE SEED: THE CARDS: each row of YtlclnngcnkepjaaGreatDoorRows.lean that lists a variable, with what it lists TIED to the program's text (the seventh form; the later family's looks); each row that meets fmt, with fmt's text TOLD by the authors' own Lean function (tested against real Go, not proved from fmt's source: count such statements apart). THE CARD IS WHAT COUNTS. Prove the row's statement (the work); the ties are given (YtlclnngcnkepjaaGreatDoorTie.lean); close each card by the builder's one call (the guide's Derived/Test/ToyasCard.lean, 'card_holds'). Laid BY PROGRAM, IN A SANDBOX (cutbox-door.mjs). By AI agents, Wed Nov 11 2026. No macro, syntax, notation, axiom, sorry.
-/
import Derived.Test.YtlclnngcnkepjaaGreatDoorRows
import GoSem.ClaimSeven
namespace Go.Proofs.YtlclnngcnkepjaaGreatDoor
namespace Rows

/-- THE TIED CARD OF 'letterpresstop.TopErrors'. -/
def topErrorsCard : Claim7 := { stood := { row := topErrorsRow, standIns := [], harness := (true, "b1677d0bd53dcd7a0ca980bb6c2411bb46d26a2279c701461845cd11478cc99c"), looks := true }, kinds := [], alts := [], laidByText := true, laidKinds := [.data, .data, .data, .data, .sentinel, .sentinel, .listed, .data, .pinned], laidTests := true, laidLooks := .later }
def TopErrorsCardSaid : Prop := Claim7.holds Tryz.pinned (.plain (OpenSpec.ofChange topErrorsSpec)) topErrorsCard

/-- THE TIED CARD OF 'letterpresstop.TopAcross'. -/
def topAcrossCard : Claim7 := { stood := { row := topAcrossRow, standIns := [], harness := (true, "b1677d0bd53dcd7a0ca980bb6c2411bb46d26a2279c701461845cd11478cc99c"), looks := true }, kinds := [], alts := [], laidByText := true, laidKinds := [.data, .data, .data, .data, .sentinel, .sentinel, .listed, .data, .pinned], laidTests := true, laidLooks := .later }
def TopAcrossCardSaid : Prop := Claim7.holds Tryz.pinned (.plain (OpenSpec.ofChange topAcrossSpec)) topAcrossCard

/-- THE TIED CARD OF 'letterpresstop.TopShown'. -/
def topShownCard : Claim7 := { stood := { row := topShownRow, standIns := [], harness := (true, "b1677d0bd53dcd7a0ca980bb6c2411bb46d26a2279c701461845cd11478cc99c"), looks := true }, kinds := [], alts := [], laidByText := true, laidKinds := [.data, .data, .data, .data, .sentinel, .sentinel, .listed, .data, .pinned], laidTests := true, laidLooks := .later }
def TopShownCardSaid : Prop := Claim7.holds Tryz.pinned (.plain (OpenSpec.ofChange topShownSpec)) topShownCard

/-- THE TIED CARD OF 'letterpresstop.TopListing'. -/
def topListingCard : Claim7 := { stood := { row := topListingRow, standIns := [], harness := (true, "b1677d0bd53dcd7a0ca980bb6c2411bb46d26a2279c701461845cd11478cc99c"), looks := true }, kinds := [], alts := [], laidByText := true, laidKinds := [.data, .data, .data, .data, .sentinel, .sentinel, .listed, .data, .pinned], laidTests := true, laidLooks := .later }
def TopListingCardSaid : Prop := Claim7.holds Tryz.pinned (.plain (OpenSpec.ofChange topListingSpec)) topListingCard

/-- THE SECOND FORM's CARD OF 'letterpresstop.TopErrors'. -/
def topErrorsUptoCard : Claim7 := { stood := { row := topErrorsUptoRow, standIns := [], harness := (true, "b1677d0bd53dcd7a0ca980bb6c2411bb46d26a2279c701461845cd11478cc99c"), looks := true }, kinds := [], alts := [], laidByText := true, laidKinds := [.data, .data, .data, .data, .sentinel, .sentinel, .listed, .data, .pinned], laidTests := true, laidLooks := .later }
def TopErrorsUptoCardSaid : Prop := Claim7.holds Tryz.pinned (.plain (OpenSpec.upto topErrorsSpec)) topErrorsUptoCard

/-- THE SECOND FORM's CARD OF 'letterpresstop.TopAcross'. -/
def topAcrossUptoCard : Claim7 := { stood := { row := topAcrossUptoRow, standIns := [], harness := (true, "b1677d0bd53dcd7a0ca980bb6c2411bb46d26a2279c701461845cd11478cc99c"), looks := true }, kinds := [], alts := [], laidByText := true, laidKinds := [.data, .data, .data, .data, .sentinel, .sentinel, .listed, .data, .pinned], laidTests := true, laidLooks := .later }
def TopAcrossUptoCardSaid : Prop := Claim7.holds Tryz.pinned (.plain (OpenSpec.upto topAcrossSpec)) topAcrossUptoCard

/-- THE SECOND FORM's CARD OF 'letterpresstop.TopShown'. -/
def topShownUptoCard : Claim7 := { stood := { row := topShownUptoRow, standIns := [], harness := (true, "b1677d0bd53dcd7a0ca980bb6c2411bb46d26a2279c701461845cd11478cc99c"), looks := true }, kinds := [], alts := [], laidByText := true, laidKinds := [.data, .data, .data, .data, .sentinel, .sentinel, .listed, .data, .pinned], laidTests := true, laidLooks := .later }
def TopShownUptoCardSaid : Prop := Claim7.holds Tryz.pinned (.plain (OpenSpec.upto topShownSpec)) topShownUptoCard

/-- THE SECOND FORM's CARD OF 'letterpresstop.TopListing'. -/
def topListingUptoCard : Claim7 := { stood := { row := topListingUptoRow, standIns := [], harness := (true, "b1677d0bd53dcd7a0ca980bb6c2411bb46d26a2279c701461845cd11478cc99c"), looks := true }, kinds := [], alts := [], laidByText := true, laidKinds := [.data, .data, .data, .data, .sentinel, .sentinel, .listed, .data, .pinned], laidTests := true, laidLooks := .later }
def TopListingUptoCardSaid : Prop := Claim7.holds Tryz.pinned (.plain (OpenSpec.upto topListingSpec)) topListingUptoCard
end Rows
end Go.Proofs.YtlclnngcnkepjaaGreatDoor
