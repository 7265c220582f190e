/- A part of the proof of the law of TopShown: ZX1. -/
import Derived.Test.YtlclnngcnkepjaaGreatDoorRVa
import Derived.SevenTiedAt
namespace Go.Ae
open Go Go.Proofs Go.Proofs.YtlclnngcnkepjaaGreatDoor Go.ChangeShapes Go.WideShapes Go.ChangeAt Go.RowKit
set_option maxRecDepth 100000
theorem card_wf : Rows.topShownRow.wfByText (OpenSpec.ofChange Rows.topShownSpec) = true := by kernel_rfl
theorem card_main : Tryz.pinned.checked.prog.mainIs = some (true, "b1677d0bd53dcd7a0ca980bb6c2411bb46d26a2279c701461845cd11478cc99c".toList) := by kernel_rfl
theorem card_looks : true = Tryz.prog.looks [] := by kernel_rfl
theorem card_wants : Tryz.prog.wantsStandIn 3 = false := by kernel_rfl
theorem card_wants9 : Tryz.prog.wantsStandIn 9 = false := by kernel_rfl
theorem card_goes : false = Rows.topShownRow.goesBy Tryz.pinned.checked.prog := by kernel_rfl
theorem card_f5 : Tryz.pinned.checked.prog.funcNamed Rows.topShownRow.func = some 5 := by kernel_rfl
end Go.Ae
