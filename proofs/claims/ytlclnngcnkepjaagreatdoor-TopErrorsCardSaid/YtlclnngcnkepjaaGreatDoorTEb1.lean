/- A part of the proof of the four laws of the top: TEb1. -/
import Derived.Test.YtlclnngcnkepjaaGreatDoorS
namespace Go.Ae
open Go Go.Proofs
set_option maxRecDepth 1000000
theorem te1b1 : forgetO [0, 1, 4, 5, 6, 7, 8] [0, 3, 4, 12, 13, 14, 16, 17, 18, 19, 403, 408, 624, 720, 776, 782, 996, 1003, 1005, 1008, 1048, 1058, 1064, 1066] (runs C1 100000 79 (L3.drop 2) S1h1) = some (.nrm, S1h2) := by kernel_rfl
theorem te1b2 : forgetO [0, 1, 4, 5, 6, 7, 8] [0, 3, 4, 12, 13, 14, 16, 17, 18, 19, 403, 408, 624, 996, 1092, 1148, 1154, 1368, 1375, 1377, 1380, 1420, 1430, 1436, 1438] (runs C1 100000 79 (L3.drop 2) S1h2) = some (.nrm, S1h3) := by kernel_rfl
end Go.Ae
