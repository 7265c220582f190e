/- A part of the proof of the four laws of the top: TEb2. -/
import Derived.Test.YtlclnngcnkepjaaGreatDoorS
namespace Go.Ae
open Go Go.Proofs
set_option maxRecDepth 1000000
theorem te2b1 : forgetO [0, 1, 4, 5, 6, 7, 8] [0, 3, 4, 12, 13, 14, 16, 17, 18, 19, 407, 412, 622, 718, 774, 780, 988, 995, 997, 1000, 1040, 1050, 1056, 1058] (runs C1 100000 79 (L3.drop 2) S2h1) = some (.nrm, S2h2) := by kernel_rfl
theorem te2b2 : forgetO [0, 1, 4, 5, 6, 7, 8] [0, 3, 4, 12, 13, 14, 16, 17, 18, 19, 407, 412, 622, 988, 1084, 1140, 1146, 1354, 1361, 1363, 1366, 1406, 1416, 1422, 1424] (runs C1 100000 79 (L3.drop 2) S2h2) = some (.nrm, S2h3) := by kernel_rfl
end Go.Ae
