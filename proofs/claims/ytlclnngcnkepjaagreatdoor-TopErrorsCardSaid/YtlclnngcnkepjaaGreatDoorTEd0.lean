/- A part of the proof of the four laws of the top: TEd0. -/
import Derived.Test.YtlclnngcnkepjaaGreatDoorS
namespace Go.Ae
open Go Go.Proofs
set_option maxRecDepth 1000000
theorem te0e2 : forgetO [4] [0, 3, 4] (runs C1 100000 79 (I3.drop 12) S0p2) = some (.ret, S0e2) := by kernel_rfl
theorem te0p3 : forgetO [0, 1, 4, 5, 6, 7, 8] [0, 3, 4, 12, 13, 14, 16, 17, 18, 19, 395, 640, 792, 798, 885, 947, 953, 955, 987, 1026, 1028, 1031, 1060] (runs C1 100000 79 ((I3.drop 11).take 1) S0h3) = some (.nrm, S0p3) := by kernel_rfl
theorem te0e3 : forgetO [4] [0, 3, 4] (runs C1 100000 79 (I3.drop 12) S0p3) = some (.ret, S0e3) := by kernel_rfl
end Go.Ae
