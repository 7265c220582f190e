/- A part of the proof of the law of TopAcross: YVb. -/
import Derived.Test.YtlclnngcnkepjaaGreatDoorQVa
namespace Go.Ae
open Go Go.Proofs Go.Proofs.YtlclnngcnkepjaaGreatDoor Go.ChangeShapes Go.WideShapes Go.ChangeAt Go.RowKit
set_option maxRecDepth 100000
theorem jf0 : (Rows.topAcrossRow.wf (OpenSpec.ofChange (OpenSpec.bare (OpenSpec.ofChange Rows.topAcrossSpec)))) = true := by kernel_rfl
theorem jf1 : (laidOutB Tryz.prog) = true := by kernel_rfl
theorem jf2 : (mapsRowed Tryz.prog) = true := by kernel_rfl
theorem jf3 : (Tryz.f4.params.all (Tryz.prog.readableRec ·)) = true := by kernel_rfl
theorem jf4 : (namedTie Tryz.prog Rows.topAcrossRow.named (OpenSpec.bare (OpenSpec.ofChange Rows.topAcrossSpec)).vars) = true := by kernel_rfl
theorem jf5 : ((Rows.topAcrossRow.stops == [])) = true := by kernel_rfl
theorem jf6 : ((Tryz.prog.stops == [])) = true := by kernel_rfl
theorem jf7 : ((Rows.topAcrossRow.knobs == [])) = true := by kernel_rfl
theorem jf8 : ((Tryz.prog.stopKnobs == [])) = true := by kernel_rfl
theorem jf9 : ((Rows.topAcrossRow.inPlace == Tryz.prog.inPlace 4)) = true := by kernel_rfl
end Go.Ae
