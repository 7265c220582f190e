/- A part of the proof of the law of TopAcross: AeMe. -/
import Derived.Test.YtlclnngcnkepjaaGreatDoorQ5
namespace Go.Ae
open Go Go.Proofs
set_option maxRecDepth 1000000
theorem mem_of : forN (fun n => okR 30 [.i .i64 n, .fn (.func 31) [] []] (kindsL n)) 0 66 = true := by kernel_rfl
end Go.Ae
