/- A part of the proof of the law of TopAcross: XC13Lb. -/
import Derived.Test.YtlclnngcnkepjaaGreatDoorQ6
namespace Go.Ae
open Go Go.Proofs
set_option maxRecDepth 1000000
theorem ka13L_1 : forgetO [0, 1, 4, 5, 6, 7, 8, 9, 10, 11] [0, 3, 4, 12, 13, 14, 16, 17, 18, 19, 435, 515, 532, 650, 655, 769, 774, 776, 1172, 1179, 1181, 1183, 1185, 1188, 1218, 1230, 1233] (runsQ (CA LA13L) 100000 114 ((I4.drop 14).take 1) SA13L_0) = some (.nrm, SA13L_1) := by kernel_rfl
end Go.Ae
