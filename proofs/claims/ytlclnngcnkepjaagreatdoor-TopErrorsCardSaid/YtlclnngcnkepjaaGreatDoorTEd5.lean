/- A part of the proof of the four laws of the top: TEd5. -/
import Derived.Test.YtlclnngcnkepjaaGreatDoorS
namespace Go.Ae
open Go Go.Proofs
set_option maxRecDepth 1000000
theorem te5e2 : forgetO [4] [0, 3, 4] (runs C1 100000 79 (I3.drop 12) S5p2) = some (.ret, S5e2) := by kernel_rfl
theorem te5p3 : forgetO [0, 1, 4, 5, 6, 7, 8] [0, 3, 4, 12, 13, 14, 16, 17, 18, 19, 407, 428, 661, 1050, 1202, 1208, 1439, 1501, 1507, 1509, 1541, 1580, 1582, 1585, 1614] (runs C1 100000 79 ((I3.drop 11).take 1) S5h3) = some (.nrm, S5p3) := by kernel_rfl
theorem te5e3 : forgetO [4] [0, 3, 4] (runs C1 100000 79 (I3.drop 12) S5p3) = some (.ret, S5e3) := by kernel_rfl
end Go.Ae
