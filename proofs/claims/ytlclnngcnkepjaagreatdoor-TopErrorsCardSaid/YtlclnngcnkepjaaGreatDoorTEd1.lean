/- A part of the proof of the four laws of the top: TEd1. -/
import Derived.Test.YtlclnngcnkepjaaGreatDoorS
namespace Go.Ae
open Go Go.Proofs
set_option maxRecDepth 1000000
theorem te1e2 : forgetO [4] [0, 3, 4] (runs C1 100000 79 (I3.drop 12) S1p2) = some (.ret, S1e2) := by kernel_rfl
theorem te1p3 : forgetO [0, 1, 4, 5, 6, 7, 8] [0, 3, 4, 12, 13, 14, 16, 17, 18, 19, 403, 408, 624, 996, 1148, 1154, 1368, 1430, 1436, 1438, 1470, 1509, 1511, 1514, 1543] (runs C1 100000 79 ((I3.drop 11).take 1) S1h3) = some (.nrm, S1p3) := by kernel_rfl
theorem te1e3 : forgetO [4] [0, 3, 4] (runs C1 100000 79 (I3.drop 12) S1p3) = some (.ret, S1e3) := by kernel_rfl
end Go.Ae
