/- A part of the proof of the four laws of the top: TEd2. -/
import Derived.Test.YtlclnngcnkepjaaGreatDoorS
namespace Go.Ae
open Go Go.Proofs
set_option maxRecDepth 1000000
theorem te2e2 : forgetO [4] [0, 3, 4] (runs C1 100000 79 (I3.drop 12) S2p2) = some (.ret, S2e2) := by kernel_rfl
theorem te2p3 : forgetO [0, 1, 4, 5, 6, 7, 8] [0, 3, 4, 12, 13, 14, 16, 17, 18, 19, 407, 412, 622, 988, 1140, 1146, 1354, 1416, 1422, 1424, 1456, 1495, 1497, 1500, 1529] (runs C1 100000 79 ((I3.drop 11).take 1) S2h3) = some (.nrm, S2p3) := by kernel_rfl
theorem te2e3 : forgetO [4] [0, 3, 4] (runs C1 100000 79 (I3.drop 12) S2p3) = some (.ret, S2e3) := by kernel_rfl
end Go.Ae
