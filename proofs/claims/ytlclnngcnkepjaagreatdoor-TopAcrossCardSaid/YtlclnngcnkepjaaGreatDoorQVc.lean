/- A part of the proof of the law of TopAcross: YVc. -/
import Derived.Test.YtlclnngcnkepjaaGreatDoorQVa
namespace Go.Ae
open Go Go.Proofs Go.Proofs.YtlclnngcnkepjaaGreatDoor Go.ChangeShapes Go.WideShapes Go.ChangeAt Go.RowKit
set_option maxRecDepth 100000
theorem jf10 : ((Rows.topAcrossRow.unfollowed == Tryz.prog.unfollowed 4)) = true := by kernel_rfl
theorem jf11 : ((Rows.topAcrossRow.recurses == Tryz.prog.recurses 4)) = true := by kernel_rfl
theorem jf12 : ((Rows.topAcrossRow.named == Tryz.prog.varsNamed 4)) = true := by kernel_rfl
theorem jf13 : ((Rows.topAcrossRow.maps == (Tryz.f4.params.toList ++ (OpenSpec.bare (OpenSpec.ofChange Rows.topAcrossSpec)).plain.varTypes Tryz.prog).any (Tryz.prog.mapsRec ·))) = true := by kernel_rfl
theorem jf14 : ((Rows.topAcrossRow.ifaces == (Tryz.f4.params.toList ++ (OpenSpec.bare (OpenSpec.ofChange Rows.topAcrossSpec)).plain.varTypes Tryz.prog).any (Tryz.prog.ifacesRec ·))) = true := by kernel_rfl
theorem jf15 : ((Rows.topAcrossRow.mapsOut == Tryz.prog.mapsAmong Tryz.f4.resultTypes.toList)) = true := by kernel_rfl
theorem jf16 : ((Rows.topAcrossRow.loops == (Tryz.f4.params.toList ++ (OpenSpec.bare (OpenSpec.ofChange Rows.topAcrossSpec)).plain.varTypes Tryz.prog).any (Tryz.prog.loopsFrom ·))) = true := by kernel_rfl
theorem jf17 : ((Rows.topAcrossRow.wideKeys == (Tryz.f4.params.toList ++ (OpenSpec.bare (OpenSpec.ofChange Rows.topAcrossSpec)).plain.varTypes Tryz.prog ++ Tryz.f4.resultTypes.toList).any (Tryz.prog.wideKeysFrom ·))) = true := by kernel_rfl
theorem jf18 : ((OpenSpec.bare (OpenSpec.ofChange Rows.topAcrossSpec)).vars.all (Tryz.prog.varReadable ·)) = true := by kernel_rfl
theorem jf19 : (Tryz.f4.resultTypes.all (fun t => Tryz.prog.readableRec t && decide (t < Tryz.prog.types.size))) = true := by kernel_rfl
theorem jf20 : ((Rows.topAcrossRow.ifacesOut == Tryz.f4.resultTypes.toList.any (Tryz.prog.ifacesRec ·))) = true := by kernel_rfl
theorem jf21 : ((Rows.topAcrossRow.loopsOut == Tryz.f4.resultTypes.toList.any (Tryz.prog.loopsFrom ·))) = true := by kernel_rfl
theorem jf22 : ((Rows.topAcrossRow.plainKeys == Tryz.prog.plainKeys)) = true := by kernel_rfl
theorem jf23 : (Rows.topAcrossRow.shortTexts.isNone) = true := by kernel_rfl
theorem jf24 : (Tryz.prog.stopsHeard) = true := by kernel_rfl
theorem jf25 : (Tryz.prog.mayEnter) = true := by kernel_rfl
theorem jf26 : ((Rows.topAcrossRow.lifted == Tryz.prog.liftsFinal)) = true := by kernel_rfl
theorem jf27 : ((Tryz.prog.make == some Rows.topAcrossRow.make)) = true := by kernel_rfl
theorem jf28 : ((Rows.topAcrossRow.kinds == (if Rows.topAcrossRow.domain.isEmpty then [] else Tryz.f4.params.toList.map fun t => match Tryz.prog.underlying t with | some (.int k) => some k | _ => none))) = true := by kernel_rfl
theorem jf29 : ((Rows.topAcrossRow.pinned == Rows.topAcrossRow.pinnedBy)) = true := by kernel_rfl
theorem jf30 : ((Rows.topAcrossRow.veiled == (Tryz.f4.params.toList ++ (OpenSpec.bare (OpenSpec.ofChange Rows.topAcrossSpec)).plain.varTypes Tryz.prog ++ Tryz.f4.resultTypes.toList).any (Tryz.prog.veiledRec ·))) = true := by kernel_rfl
theorem jf31 : (Rows.topAcrossRow.veiledFits Tryz.prog Tryz.f4.params.toList (Tryz.f4.params.toList ++ (OpenSpec.bare (OpenSpec.ofChange Rows.topAcrossSpec)).plain.varTypes Tryz.prog ++ Tryz.f4.resultTypes.toList)) = true := by kernel_rfl
end Go.Ae
