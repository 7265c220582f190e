/- A part of the proof of the four laws of the top: TopVb. -/
import Derived.Test.YtlclnngcnkepjaaGreatDoorVa
namespace Go.Ae
open Go Go.Proofs Go.Proofs.YtlclnngcnkepjaaGreatDoor Go.ChangeShapes Go.WideShapes Go.ChangeAt Go.RowKit
set_option maxRecDepth 100000
theorem jf0 : (Rows.topErrorsRow.wf (OpenSpec.ofChange (OpenSpec.bare (OpenSpec.ofChange Rows.topErrorsSpec)))) = true := by kernel_rfl
theorem jf1 : (laidOutB Tryz.prog) = true := by kernel_rfl
theorem jf2 : (mapsRowed Tryz.prog) = true := by kernel_rfl
theorem jf3 : (Tryz.f3.params.all (Tryz.prog.readableRec ·)) = true := by kernel_rfl
theorem jf4 : (namedTie Tryz.prog Rows.topErrorsRow.named (OpenSpec.bare (OpenSpec.ofChange Rows.topErrorsSpec)).vars) = true := by kernel_rfl
theorem jf5 : ((Rows.topErrorsRow.stops == [])) = true := by kernel_rfl
theorem jf6 : ((Tryz.prog.stops == [])) = true := by kernel_rfl
theorem jf7 : ((Rows.topErrorsRow.knobs == [])) = true := by kernel_rfl
theorem jf8 : ((Tryz.prog.stopKnobs == [])) = true := by kernel_rfl
theorem jf9 : ((Rows.topErrorsRow.inPlace == Tryz.prog.inPlace 3)) = true := by kernel_rfl
end Go.Ae
