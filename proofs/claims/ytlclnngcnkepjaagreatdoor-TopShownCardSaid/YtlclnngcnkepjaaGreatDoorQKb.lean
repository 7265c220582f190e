/- A part of the proof of the law of TopAcross: X7b. -/
import Derived.Test.YtlclnngcnkepjaaGreatDoorQ6
namespace Go.Ae
open Go Go.Proofs
set_option maxRecDepth 1000000
theorem k7_2 : forgetO [0, 1] [0, 3, 4, 12, 13, 14, 16, 17, 18, 19, 166, 222, 336, 341, 343, 545, 552, 554, 557, 587] (runsQ CK 100000 48 ((I7.drop 6).take 1) S7_1) = some (.nrm, S7_2) := by kernel_rfl
end Go.Ae
