/- TopShown answers true for every input (every text, every text behind it, every cut), in every world in which the listed package variables hold what the program text gives them. -/
import Derived.Test.YtlclnngcnkepjaaGreatDoorRVb
import Derived.Test.YtlclnngcnkepjaaGreatDoorRVc
import Derived.Test.YtlclnngcnkepjaaGreatDoorRV
import Derived.Test.YtlclnngcnkepjaaGreatDoorRVq
import Derived.Test.YtlclnngcnkepjaaGreatDoorRXq
import Derived.Test.YtlclnngcnkepjaaGreatDoorCards
import Derived.Test.YtlclnngcnkepjaaGreatDoorTie
import Derived.SevenTiedAt
namespace Go.Ae
open Go Go.Proofs Go.Proofs.YtlclnngcnkepjaaGreatDoor Go.ChangeShapes Go.WideShapes Go.ChangeAt Go.RowKit
set_option maxRecDepth 100000
theorem and2 {a b : Bool} (h1 : a = true) (h2 : b = true) : (a && b) = true := by rw [h1, h2]; rfl
theorem row_joined : joinedFacts Tryz.prog 5 Tryz.f5 (OpenSpec.bare (OpenSpec.ofChange Rows.topShownSpec)) Rows.topShownRow = true :=
  (and2 (and2 (and2 (and2 (and2 (and2 (and2 (and2 (and2 (and2 (and2 (and2 (and2 (and2 (and2 (and2 (and2 (and2 (and2 (and2 (and2 (and2 (and2 (and2 (and2 (and2 (and2 (and2 (and2 (and2 (and2 jf0 jf1) jf2) jf3) jf4) jf5) jf6) jf7) jf8) jf9) jf10) jf11) jf12) jf13) jf14) jf15) jf16) jf17) jf18) jf19) jf20) jf21) jf22) jf23) jf24) jf25) jf26) jf27) jf28) jf29) jf30) jf31)
end Go.Ae
namespace Go.Ae
open Go Go.Proofs Go.Proofs.YtlclnngcnkepjaaGreatDoor Go.ChangeShapes Go.WideShapes Go.ChangeAt Go.RowKit
theorem said : Rows.TopShownSaid :=
  OpenClaim.holds_of_cond 5 Tryz.f5 rfl rfl rfl rfl rfl rfl rfl ⟨rfl, rfl, rfl, rfl, rfl⟩ rfl rfl rfl rfl rfl row_named Tryz.func5 row_joined row_instance row_wrapper
    (fun os started H enc _ F0 => by rw [OpenClaim.pre_eq_preRow]; exact row_lifted os started H enc F0)
end Go.Ae
namespace Go.Proofs.YtlclnngcnkepjaaGreatDoor
open Go Go.Ae

theorem topShown_holds : Rows.TopShownCardSaid :=
  Claim7.holds_tied_plain_at .later [] [.data, .data, .data, .data, .sentinel, .sentinel, .listed, .data, .pinned] true (true, "b1677d0bd53dcd7a0ca980bb6c2411bb46d26a2279c701461845cd11478cc99c") true
    said (fun _ h => by cases h) card_wf (fun _ h => by cases h) topShown_row_tie rfl ⟨rfl, rfl⟩ card_main rfl
    (fun f fn hf hfn => by
      obtain rfl : f = 5 := Option.some.inj (hf.symm.trans card_f5)
      obtain rfl : fn = Tryz.f5 := (Option.some.inj (Tryz.func5.symm.trans hfn)).symm
      exact ⟨card_looks, fun j t ht => by
        rw [Tryz.params5] at ht
        rcases j with _ | _ | _ | j
        · obtain rfl : 9 = t := by simpa using ht
          exact card_wants9
        · obtain rfl : 9 = t := by simpa using ht
          exact card_wants9
        · obtain rfl : 3 = t := by simpa using ht
          exact card_wants
        · simp at ht⟩)
    card_goes
#print axioms topShown_holds
end Go.Proofs.YtlclnngcnkepjaaGreatDoor
