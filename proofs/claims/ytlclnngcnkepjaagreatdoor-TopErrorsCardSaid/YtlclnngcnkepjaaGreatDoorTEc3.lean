/- A part of the proof of the four laws of the top: TEc3. -/
import Derived.Test.YtlclnngcnkepjaaGreatDoorS
namespace Go.Ae
open Go Go.Proofs
set_option maxRecDepth 1000000
theorem te3p1 : forgetO [0, 1, 4, 5, 6, 7, 8] [0, 3, 4, 12, 13, 14, 16, 17, 18, 19, 223, 244, 246, 283, 345, 351, 353, 385, 424, 426, 429, 458] (runs C1 100000 79 ((I3.drop 11).take 1) S3h1) = some (.nrm, S3p1) := by kernel_rfl
theorem te3e1 : forgetO [4] [0, 3, 4] (runs C1 100000 79 (I3.drop 12) S3p1) = some (.ret, S3e1) := by kernel_rfl
theorem te3p2 : forgetO [0, 1, 4, 5, 6, 7, 8] [0, 3, 4, 12, 13, 14, 16, 17, 18, 19, 244, 283, 435, 441, 478, 540, 546, 548, 580, 619, 621, 624, 653] (runs C1 100000 79 ((I3.drop 11).take 1) S3h2) = some (.nrm, S3p2) := by kernel_rfl
end Go.Ae
