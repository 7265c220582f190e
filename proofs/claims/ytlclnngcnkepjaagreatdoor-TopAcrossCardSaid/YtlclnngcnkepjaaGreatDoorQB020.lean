/- A part of the proof of the law of TopAcross: XC020b. -/
import Derived.Test.YtlclnngcnkepjaaGreatDoorQ6
namespace Go.Ae
open Go Go.Proofs
set_option maxRecDepth 1000000
theorem ka020_1 : forgetO [0, 1, 4, 5, 6, 7, 8, 9, 10, 11] [0, 3, 4, 12, 13, 14, 16, 17, 18, 19, 433, 513, 625, 630, 748, 753, 772, 774, 1162, 1169, 1171, 1173, 1175, 1178, 1208, 1220, 1223] (runsQ (CA LA020) 100000 114 ((I4.drop 14).take 1) SA020_0) = some (.nrm, SA020_1) := by kernel_rfl
end Go.Ae
