/- A part of the proof of the four laws of the top: TEb4. -/
import Derived.Test.YtlclnngcnkepjaaGreatDoorS
namespace Go.Ae
open Go Go.Proofs
set_option maxRecDepth 1000000
theorem te4b1 : forgetO [0, 1, 4, 5, 6, 7, 8] [0, 3, 4, 12, 13, 14, 16, 17, 18, 19, 404, 416, 637, 733, 789, 795, 1014, 1021, 1023, 1026, 1066, 1076, 1082, 1084] (runs C1 100000 79 (L3.drop 2) S4h1) = some (.nrm, S4h2) := by kernel_rfl
theorem te4b2 : forgetO [0, 1, 4, 5, 6, 7, 8] [0, 3, 4, 12, 13, 14, 16, 17, 18, 19, 404, 416, 637, 1014, 1110, 1166, 1172, 1391, 1398, 1400, 1403, 1443, 1453, 1459, 1461] (runs C1 100000 79 (L3.drop 2) S4h2) = some (.nrm, S4h3) := by kernel_rfl
end Go.Ae
