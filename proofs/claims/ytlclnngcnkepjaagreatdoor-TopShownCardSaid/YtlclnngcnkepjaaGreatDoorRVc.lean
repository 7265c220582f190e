/- A part of the proof of the law of TopShown: ZVc. -/
import Derived.Test.YtlclnngcnkepjaaGreatDoorRVa
namespace Go.Ae
open Go Go.Proofs Go.Proofs.YtlclnngcnkepjaaGreatDoor Go.ChangeShapes Go.WideShapes Go.ChangeAt Go.RowKit
set_option maxRecDepth 100000
theorem jf10 : ((Rows.topShownRow.unfollowed == Tryz.prog.unfollowed 5)) = true := by kernel_rfl
theorem jf11 : ((Rows.topShownRow.recurses == Tryz.prog.recurses 5)) = true := by kernel_rfl
theorem jf12 : ((Rows.topShownRow.named == Tryz.prog.varsNamed 5)) = true := by kernel_rfl
theorem jf13 : ((Rows.topShownRow.maps == (Tryz.f5.params.toList ++ (OpenSpec.bare (OpenSpec.ofChange Rows.topShownSpec)).plain.varTypes Tryz.prog).any (Tryz.prog.mapsRec ·))) = true := by kernel_rfl
theorem jf14 : ((Rows.topShownRow.ifaces == (Tryz.f5.params.toList ++ (OpenSpec.bare (OpenSpec.ofChange Rows.topShownSpec)).plain.varTypes Tryz.prog).any (Tryz.prog.ifacesRec ·))) = true := by kernel_rfl
theorem jf15 : ((Rows.topShownRow.mapsOut == Tryz.prog.mapsAmong Tryz.f5.resultTypes.toList)) = true := by kernel_rfl
theorem jf16 : ((Rows.topShownRow.loops == (Tryz.f5.params.toList ++ (OpenSpec.bare (OpenSpec.ofChange Rows.topShownSpec)).plain.varTypes Tryz.prog).any (Tryz.prog.loopsFrom ·))) = true := by kernel_rfl
theorem jf17 : ((Rows.topShownRow.wideKeys == (Tryz.f5.params.toList ++ (OpenSpec.bare (OpenSpec.ofChange Rows.topShownSpec)).plain.varTypes Tryz.prog ++ Tryz.f5.resultTypes.toList).any (Tryz.prog.wideKeysFrom ·))) = true := by kernel_rfl
theorem jf18 : ((OpenSpec.bare (OpenSpec.ofChange Rows.topShownSpec)).vars.all (Tryz.prog.varReadable ·)) = true := by kernel_rfl
theorem jf19 : (Tryz.f5.resultTypes.all (fun t => Tryz.prog.readableRec t && decide (t < Tryz.prog.types.size))) = true := by kernel_rfl
theorem jf20 : ((Rows.topShownRow.ifacesOut == Tryz.f5.resultTypes.toList.any (Tryz.prog.ifacesRec ·))) = true := by kernel_rfl
theorem jf21 : ((Rows.topShownRow.loopsOut == Tryz.f5.resultTypes.toList.any (Tryz.prog.loopsFrom ·))) = true := by kernel_rfl
theorem jf22 : ((Rows.topShownRow.plainKeys == Tryz.prog.plainKeys)) = true := by kernel_rfl
theorem jf23 : (Rows.topShownRow.shortTexts.isNone) = true := by kernel_rfl
theorem jf24 : (Tryz.prog.stopsHeard) = true := by kernel_rfl
theorem jf25 : (Tryz.prog.mayEnter) = true := by kernel_rfl
theorem jf26 : ((Rows.topShownRow.lifted == Tryz.prog.liftsFinal)) = true := by kernel_rfl
theorem jf27 : ((Tryz.prog.make == some Rows.topShownRow.make)) = true := by kernel_rfl
theorem jf28 : ((Rows.topShownRow.kinds == (if Rows.topShownRow.domain.isEmpty then [] else Tryz.f5.params.toList.map fun t => match Tryz.prog.underlying t with | some (.int k) => some k | _ => none))) = true := by kernel_rfl
theorem jf29 : ((Rows.topShownRow.pinned == Rows.topShownRow.pinnedBy)) = true := by kernel_rfl
theorem jf30 : ((Rows.topShownRow.veiled == (Tryz.f5.params.toList ++ (OpenSpec.bare (OpenSpec.ofChange Rows.topShownSpec)).plain.varTypes Tryz.prog ++ Tryz.f5.resultTypes.toList).any (Tryz.prog.veiledRec ·))) = true := by kernel_rfl
theorem jf31 : (Rows.topShownRow.veiledFits Tryz.prog Tryz.f5.params.toList (Tryz.f5.params.toList ++ (OpenSpec.bare (OpenSpec.ofChange Rows.topShownSpec)).plain.varTypes Tryz.prog ++ Tryz.f5.resultTypes.toList)) = true := by kernel_rfl
end Go.Ae
