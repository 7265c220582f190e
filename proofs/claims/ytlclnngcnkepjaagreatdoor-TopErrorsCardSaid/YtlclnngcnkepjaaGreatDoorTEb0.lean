/- A part of the proof of the four laws of the top: TEb0. -/
import Derived.Test.YtlclnngcnkepjaaGreatDoorS
namespace Go.Ae
open Go Go.Proofs
set_option maxRecDepth 1000000
theorem te0b1 : forgetO [0, 1, 4, 5, 6, 7, 8] [0, 3, 4, 12, 13, 14, 16, 17, 18, 19, 395, 491, 547, 553, 640, 647, 649, 652, 692, 702, 708, 710] (runs C1 100000 79 (L3.drop 2) S0h1) = some (.nrm, S0h2) := by kernel_rfl
theorem te0b2 : forgetO [0, 1, 4, 5, 6, 7, 8] [0, 3, 4, 12, 13, 14, 16, 17, 18, 19, 395, 640, 736, 792, 798, 885, 892, 894, 897, 937, 947, 953, 955] (runs C1 100000 79 (L3.drop 2) S0h2) = some (.nrm, S0h3) := by kernel_rfl
end Go.Ae
