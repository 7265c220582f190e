/- A part of the proof of the law of TopAcross: XC030b. -/
import Derived.Test.YtlclnngcnkepjaaGreatDoorQ6
namespace Go.Ae
open Go Go.Proofs
set_option maxRecDepth 1000000
theorem ka030_1 : forgetO [0, 1, 4, 5, 6, 7, 8, 9, 10, 11] [0, 3, 4, 12, 13, 14, 16, 17, 18, 19, 435, 515, 627, 632, 750, 755, 774, 776, 1164, 1171, 1173, 1175, 1177, 1180, 1210, 1222, 1225] (runsQ (CA LA030) 100000 114 ((I4.drop 14).take 1) SA030_0) = some (.nrm, SA030_1) := by kernel_rfl
end Go.Ae
