/- A part of the proof of the four laws of the top: TEc1. -/
import Derived.Test.YtlclnngcnkepjaaGreatDoorS
namespace Go.Ae
open Go Go.Proofs
set_option maxRecDepth 1000000
theorem te1p1 : forgetO [0, 1, 4, 5, 6, 7, 8] [0, 3, 4, 12, 13, 14, 16, 17, 18, 19, 223, 403, 408, 410, 624, 686, 692, 694, 726, 765, 767, 770, 799] (runs C1 100000 79 ((I3.drop 11).take 1) S1h1) = some (.nrm, S1p1) := by kernel_rfl
theorem te1e1 : forgetO [4] [0, 3, 4] (runs C1 100000 79 (I3.drop 12) S1p1) = some (.ret, S1e1) := by kernel_rfl
theorem te1p2 : forgetO [0, 1, 4, 5, 6, 7, 8] [0, 3, 4, 12, 13, 14, 16, 17, 18, 19, 403, 408, 624, 776, 782, 996, 1058, 1064, 1066, 1098, 1137, 1139, 1142, 1171] (runs C1 100000 79 ((I3.drop 11).take 1) S1h2) = some (.nrm, S1p2) := by kernel_rfl
end Go.Ae
