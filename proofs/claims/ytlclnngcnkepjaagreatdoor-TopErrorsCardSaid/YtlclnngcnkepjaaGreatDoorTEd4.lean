/- A part of the proof of the four laws of the top: TEd4. -/
import Derived.Test.YtlclnngcnkepjaaGreatDoorS
namespace Go.Ae
open Go Go.Proofs
set_option maxRecDepth 1000000
theorem te4e2 : forgetO [4] [0, 3, 4] (runs C1 100000 79 (I3.drop 12) S4p2) = some (.ret, S4e2) := by kernel_rfl
theorem te4p3 : forgetO [0, 1, 4, 5, 6, 7, 8] [0, 3, 4, 12, 13, 14, 16, 17, 18, 19, 404, 416, 637, 1014, 1166, 1172, 1391, 1453, 1459, 1461, 1493, 1532, 1534, 1537, 1566] (runs C1 100000 79 ((I3.drop 11).take 1) S4h3) = some (.nrm, S4p3) := by kernel_rfl
theorem te4e3 : forgetO [4] [0, 3, 4] (runs C1 100000 79 (I3.drop 12) S4p3) = some (.ret, S4e3) := by kernel_rfl
end Go.Ae
