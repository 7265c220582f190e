/- A part of the proof of the four laws of the top: TEb3. -/
import Derived.Test.YtlclnngcnkepjaaGreatDoorS
namespace Go.Ae
open Go Go.Proofs
set_option maxRecDepth 1000000
theorem te3b1 : forgetO [0, 1, 4, 5, 6, 7, 8] [0, 3, 4, 12, 13, 14, 16, 17, 18, 19, 244, 283, 379, 435, 441, 478, 485, 487, 490, 530, 540, 546, 548] (runs C1 100000 79 (L3.drop 2) S3h1) = some (.nrm, S3h2) := by kernel_rfl
theorem te3b2 : forgetO [0, 1, 4, 5, 6, 7, 8] [0, 3, 4, 12, 13, 14, 16, 17, 18, 19, 244, 283, 478, 574, 630, 636, 673, 680, 682, 685, 725, 735, 741, 743] (runs C1 100000 79 (L3.drop 2) S3h2) = some (.nrm, S3h3) := by kernel_rfl
end Go.Ae
