/- A part of the proof of the four laws of the top: TEc0. -/
import Derived.Test.YtlclnngcnkepjaaGreatDoorS
namespace Go.Ae
open Go Go.Proofs
set_option maxRecDepth 1000000
theorem te0p1 : forgetO [0, 1, 4, 5, 6, 7, 8] [0, 3, 4, 12, 13, 14, 16, 17, 18, 19, 223, 308, 395, 457, 463, 465, 497, 536, 538, 541, 570] (runs C1 100000 79 ((I3.drop 11).take 1) S0h1) = some (.nrm, S0p1) := by kernel_rfl
theorem te0e1 : forgetO [4] [0, 3, 4] (runs C1 100000 79 (I3.drop 12) S0p1) = some (.ret, S0e1) := by kernel_rfl
theorem te0p2 : forgetO [0, 1, 4, 5, 6, 7, 8] [0, 3, 4, 12, 13, 14, 16, 17, 18, 19, 395, 547, 553, 640, 702, 708, 710, 742, 781, 783, 786, 815] (runs C1 100000 79 ((I3.drop 11).take 1) S0h2) = some (.nrm, S0p2) := by kernel_rfl
end Go.Ae
