/- A part of the proof of the law of TopAcross: XC010b. -/
import Derived.Test.YtlclnngcnkepjaaGreatDoorQ6
namespace Go.Ae
open Go Go.Proofs
set_option maxRecDepth 1000000
theorem ka010_1 : forgetO [0, 1, 4, 5, 6, 7, 8, 9, 10, 11] [0, 3, 4, 12, 13, 14, 16, 17, 18, 19, 431, 511, 623, 628, 746, 751, 770, 772, 1160, 1167, 1169, 1171, 1173, 1176, 1206, 1218, 1221] (runsQ (CA LA010) 100000 114 ((I4.drop 14).take 1) SA010_0) = some (.nrm, SA010_1) := by kernel_rfl
end Go.Ae
