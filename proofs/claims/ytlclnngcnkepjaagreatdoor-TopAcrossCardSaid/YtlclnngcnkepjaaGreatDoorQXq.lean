/- A part of the proof of the law of TopAcross: YX1. -/
import Derived.Test.YtlclnngcnkepjaaGreatDoorQVa
import Derived.SevenTiedAt
namespace Go.Ae
open Go Go.Proofs Go.Proofs.YtlclnngcnkepjaaGreatDoor Go.ChangeShapes Go.WideShapes Go.ChangeAt Go.RowKit
set_option maxRecDepth 100000
theorem card_wf : Rows.topAcrossRow.wfByText (OpenSpec.ofChange Rows.topAcrossSpec) = true := by kernel_rfl
theorem card_main : Tryz.pinned.checked.prog.mainIs = some (true, "b1677d0bd53dcd7a0ca980bb6c2411bb46d26a2279c701461845cd11478cc99c".toList) := by kernel_rfl
theorem card_looks : true = Tryz.prog.looks [] := by kernel_rfl
theorem card_wants : Tryz.prog.wantsStandIn 3 = false := by kernel_rfl
theorem card_wants4 : Tryz.prog.wantsStandIn 4 = false := by kernel_rfl
theorem card_goes : false = Rows.topAcrossRow.goesBy Tryz.pinned.checked.prog := by kernel_rfl
theorem card_f4 : Tryz.pinned.checked.prog.funcNamed Rows.topAcrossRow.func = some 4 := by kernel_rfl
end Go.Ae
