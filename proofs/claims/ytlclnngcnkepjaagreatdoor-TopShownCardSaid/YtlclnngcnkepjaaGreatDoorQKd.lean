/- A part of the proof of the law of TopAcross: X7d. -/
import Derived.Test.YtlclnngcnkepjaaGreatDoorQ6
namespace Go.Ae
open Go Go.Proofs
set_option maxRecDepth 1000000
theorem k7_4 : forgetO [0] [0, 3, 4] (runsQ CK 100000 48 ((I7.drop 8).take 2) S7_3) = some (.ret, S7_4) := by kernel_rfl
end Go.Ae
