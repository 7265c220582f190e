/- A part of the proof of the law of TopAcross: XC021a, XC021c. -/
import Derived.Test.YtlclnngcnkepjaaGreatDoorQ6
namespace Go.Ae
open Go Go.Proofs
set_option maxRecDepth 1000000
theorem ka021_0 : forgetO [0, 1, 4, 5, 6, 7, 8, 9, 10] [0, 3, 4, 12, 13, 14, 15, 16, 17, 18, 19, 309, 358, 360, 362, 364, 367, 396] (runsQ (CA LA021) 100000 114 ((I4.drop 0).take 14) ⟨mkT 0 [.sym 0, .b false] .e, H1, []⟩) = some (.nrm, SA021_0) := by kernel_rfl
end Go.Ae
namespace Go.Ae
open Go Go.Proofs
set_option maxRecDepth 1000000
theorem ka021_2 : forgetO [4] [0, 3, 4] (runsQ (CA LA021) 100000 114 ((I4.drop 15).take 14) SA021_1) = some (.ret, SA021_2) := by kernel_rfl
end Go.Ae
