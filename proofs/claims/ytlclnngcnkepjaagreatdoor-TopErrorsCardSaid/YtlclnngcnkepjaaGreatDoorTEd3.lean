/- A part of the proof of the four laws of the top: TEd3. -/
import Derived.Test.YtlclnngcnkepjaaGreatDoorS
namespace Go.Ae
open Go Go.Proofs
set_option maxRecDepth 1000000
theorem te3e2 : forgetO [4] [0, 3, 4] (runs C1 100000 79 (I3.drop 12) S3p2) = some (.ret, S3e2) := by kernel_rfl
theorem te3p3 : forgetO [0, 1, 4, 5, 6, 7, 8] [0, 3, 4, 12, 13, 14, 16, 17, 18, 19, 244, 283, 478, 630, 636, 673, 735, 741, 743, 775, 814, 816, 819, 848] (runs C1 100000 79 ((I3.drop 11).take 1) S3h3) = some (.nrm, S3p3) := by kernel_rfl
theorem te3e3 : forgetO [4] [0, 3, 4] (runs C1 100000 79 (I3.drop 12) S3p3) = some (.ret, S3e3) := by kernel_rfl
end Go.Ae
