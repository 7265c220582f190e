/- A part of the proof of the law of TopAcross: AeMd. -/
import Derived.Test.YtlclnngcnkepjaaGreatDoorQ5
namespace Go.Ae
open Go Go.Proofs
set_option maxRecDepth 1000000
theorem mem_fields : kindsAll.all (fun x => okR 64 [.s x] (fieldsA x)) = true := by kernel_rfl
end Go.Ae
