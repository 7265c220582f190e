/- A part of the proof of the law of TopAcross: AeMb. -/
import Derived.Test.YtlclnngcnkepjaaGreatDoorQ5
namespace Go.Ae
open Go Go.Proofs
set_option maxRecDepth 1000000
theorem mem_name : forN (fun n => okO 63 [.i .i64 n] (nameA n)) 0 66 = true := by kernel_rfl
theorem mem_size : forN (fun n => okO 29 [.i .i64 n] (sizeA n)) 0 66 = true := by kernel_rfl
end Go.Ae
