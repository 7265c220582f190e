/- A part of the proof of the law of TopAcross: XC000b. -/
import Derived.Test.YtlclnngcnkepjaaGreatDoorQ6
namespace Go.Ae
open Go Go.Proofs
set_option maxRecDepth 1000000
theorem ka000_1 : forgetO [0, 1, 4, 5, 6, 7, 8, 9, 10, 11] [0, 3, 4, 12, 13, 14, 16, 17, 18, 19, 431, 511, 623, 628, 746, 751, 770, 772, 1159, 1166, 1168, 1170, 1172, 1175, 1205, 1216, 1218] (runsQ (CA LA000) 100000 114 ((I4.drop 14).take 1) SA000_0) = some (.nrm, SA000_1) := by kernel_rfl
end Go.Ae
