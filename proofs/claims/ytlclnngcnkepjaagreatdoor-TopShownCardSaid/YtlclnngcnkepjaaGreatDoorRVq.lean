/- A part of the proof of the law of TopShown: ZV1. -/
import Derived.Test.YtlclnngcnkepjaaGreatDoorRVa
namespace Go.Ae
open Go Go.Proofs Go.Proofs.YtlclnngcnkepjaaGreatDoor Go.ChangeShapes Go.WideShapes Go.ChangeAt Go.RowKit
set_option maxRecDepth 100000
theorem row_named : Program.funcNamed (Checked.prog (Pinned.checked Tryz.pinned)) (OpenClaim.func Rows.topShownRow) = some 5 := by kernel_rfl
theorem row_instance : Func.isInstance (Checked.prog (Pinned.checked Tryz.pinned)) Tryz.f5 (OpenClaim.origin Rows.topShownRow) (OpenClaim.targs Rows.topShownRow) := of_decide_eq_true (by kernel_rfl)
theorem row_wrapper : Func.isWrapper (Checked.prog (Pinned.checked Tryz.pinned)) Tryz.f5 (OpenClaim.wrapper Rows.topShownRow) (OpenClaim.mainSum Rows.topShownRow) := by unfold Func.isWrapper; rw [if_neg (of_decide_eq_false (by kernel_rfl))]; exact ⟨rfl, rfl⟩
end Go.Ae
