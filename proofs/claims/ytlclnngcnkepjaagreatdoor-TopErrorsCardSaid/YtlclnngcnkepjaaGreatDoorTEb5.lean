/- A part of the proof of the four laws of the top: TEb5. -/
import Derived.Test.YtlclnngcnkepjaaGreatDoorS
namespace Go.Ae
open Go Go.Proofs
set_option maxRecDepth 1000000
theorem te5b1 : forgetO [0, 1, 4, 5, 6, 7, 8] [0, 3, 4, 12, 13, 14, 16, 17, 18, 19, 407, 428, 661, 757, 813, 819, 1050, 1057, 1059, 1062, 1102, 1112, 1118, 1120] (runs C1 100000 79 (L3.drop 2) S5h1) = some (.nrm, S5h2) := by kernel_rfl
theorem te5b2 : forgetO [0, 1, 4, 5, 6, 7, 8] [0, 3, 4, 12, 13, 14, 16, 17, 18, 19, 407, 428, 661, 1050, 1146, 1202, 1208, 1439, 1446, 1448, 1451, 1491, 1501, 1507, 1509] (runs C1 100000 79 (L3.drop 2) S5h2) = some (.nrm, S5h3) := by kernel_rfl
end Go.Ae
