/- A part of the proof of the four laws of the top: TEc4. -/
import Derived.Test.YtlclnngcnkepjaaGreatDoorS
namespace Go.Ae
open Go Go.Proofs
set_option maxRecDepth 1000000
theorem te4p1 : forgetO [0, 1, 4, 5, 6, 7, 8] [0, 3, 4, 12, 13, 14, 16, 17, 18, 19, 223, 404, 416, 418, 637, 699, 705, 707, 739, 778, 780, 783, 812] (runs C1 100000 79 ((I3.drop 11).take 1) S4h1) = some (.nrm, S4p1) := by kernel_rfl
theorem te4e1 : forgetO [4] [0, 3, 4] (runs C1 100000 79 (I3.drop 12) S4p1) = some (.ret, S4e1) := by kernel_rfl
theorem te4p2 : forgetO [0, 1, 4, 5, 6, 7, 8] [0, 3, 4, 12, 13, 14, 16, 17, 18, 19, 404, 416, 637, 789, 795, 1014, 1076, 1082, 1084, 1116, 1155, 1157, 1160, 1189] (runs C1 100000 79 ((I3.drop 11).take 1) S4h2) = some (.nrm, S4p2) := by kernel_rfl
end Go.Ae
