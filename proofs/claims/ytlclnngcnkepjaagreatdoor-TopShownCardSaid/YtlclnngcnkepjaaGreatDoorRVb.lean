/- A part of the proof of the law of TopShown: ZVb. -/
import Derived.Test.YtlclnngcnkepjaaGreatDoorRVa
namespace Go.Ae
open Go Go.Proofs Go.Proofs.YtlclnngcnkepjaaGreatDoor Go.ChangeShapes Go.WideShapes Go.ChangeAt Go.RowKit
set_option maxRecDepth 100000
theorem jf0 : (Rows.topShownRow.wf (OpenSpec.ofChange (OpenSpec.bare (OpenSpec.ofChange Rows.topShownSpec)))) = true := by kernel_rfl
theorem jf1 : (laidOutB Tryz.prog) = true := by kernel_rfl
theorem jf2 : (mapsRowed Tryz.prog) = true := by kernel_rfl
theorem jf3 : (Tryz.f5.params.all (Tryz.prog.readableRec ·)) = true := by kernel_rfl
theorem jf4 : (namedTie Tryz.prog Rows.topShownRow.named (OpenSpec.bare (OpenSpec.ofChange Rows.topShownSpec)).vars) = true := by kernel_rfl
theorem jf5 : ((Rows.topShownRow.stops == [])) = true := by kernel_rfl
theorem jf6 : ((Tryz.prog.stops == [])) = true := by kernel_rfl
theorem jf7 : ((Rows.topShownRow.knobs == [])) = true := by kernel_rfl
theorem jf8 : ((Tryz.prog.stopKnobs == [])) = true := by kernel_rfl
theorem jf9 : ((Rows.topShownRow.inPlace == Tryz.prog.inPlace 5)) = true := by kernel_rfl
end Go.Ae
