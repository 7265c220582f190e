/- A part of the proof of the four laws of the top: TopV1. -/
import Derived.Test.YtlclnngcnkepjaaGreatDoorVa
namespace Go.Ae
open Go Go.Proofs Go.Proofs.YtlclnngcnkepjaaGreatDoor Go.ChangeShapes Go.WideShapes Go.ChangeAt Go.RowKit
set_option maxRecDepth 100000
theorem row_named : Program.funcNamed (Checked.prog (Pinned.checked Tryz.pinned)) (OpenClaim.func Rows.topErrorsRow) = some 3 := by kernel_rfl
theorem row_instance : Func.isInstance (Checked.prog (Pinned.checked Tryz.pinned)) Tryz.f3 (OpenClaim.origin Rows.topErrorsRow) (OpenClaim.targs Rows.topErrorsRow) := of_decide_eq_true (by kernel_rfl)
theorem row_wrapper : Func.isWrapper (Checked.prog (Pinned.checked Tryz.pinned)) Tryz.f3 (OpenClaim.wrapper Rows.topErrorsRow) (OpenClaim.mainSum Rows.topErrorsRow) := by unfold Func.isWrapper; rw [if_neg (of_decide_eq_false (by kernel_rfl))]; exact ⟨rfl, rfl⟩
end Go.Ae
