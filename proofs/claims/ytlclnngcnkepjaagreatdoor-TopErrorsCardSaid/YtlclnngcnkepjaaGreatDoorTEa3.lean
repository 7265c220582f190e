/- A part of the proof of the four laws of the top: TEa3. -/
import Derived.Test.YtlclnngcnkepjaaGreatDoorS
namespace Go.Ae
open Go Go.Proofs
set_option maxRecDepth 1000000
theorem te3t00 (p : Int) : forgetO [0, 1, 4, 5, 6, 7] [0, 3, 4, 12, 13, 14, 15, 16, 17, 18, 19, 51, 96, 98, 101, 130] (runs (CW p 0) 100000 79 (L3.take 2) S3h0) = some (.nrm, S3h0) := by kernel_rfl
theorem te3t01 (p : Int) : forgetO [0, 1, 4, 5, 6, 7] [0, 3, 4, 12, 13, 14, 15, 16, 17, 18, 19, 51, 96, 98, 101, 130] (runs (CW p 1) 100000 79 (L3.take 2) S3h0) = some (.nrm, S3h0) := by kernel_rfl
theorem te3t02 (p : Int) : forgetO [0, 1, 4, 5, 6, 7] [0, 3, 4, 12, 13, 14, 15, 16, 17, 18, 19, 51, 96, 98, 101, 130] (runs (CW p 2) 100000 79 (L3.take 2) S3h0) = some (.nrm, S3h0) := by kernel_rfl
theorem te3t10 (p : Int) : forgetO [0, 1, 4, 5, 6, 7, 8] [0, 3, 4, 12, 13, 14, 16, 17, 18, 19, 167, 223, 244, 246, 283, 290, 292, 295, 335, 345, 351, 353] (runs (CW p 0) 100000 79 (L3.take 2) S3h1) = some (.ex 0, S3h1) := by kernel_rfl
theorem te3t11 (p : Int) : forgetO [0, 1, 4, 5, 6, 7, 8] [0, 3, 4, 12, 13, 14, 16, 17, 18, 19, 167, 223, 244, 246, 283, 290, 292, 295, 335, 345, 351, 353] (runs (CW p 1) 100000 79 (L3.take 2) S3h1) = some (.nrm, S3h1) := by kernel_rfl
theorem te3t12 (p : Int) : forgetO [0, 1, 4, 5, 6, 7, 8] [0, 3, 4, 12, 13, 14, 16, 17, 18, 19, 167, 223, 244, 246, 283, 290, 292, 295, 335, 345, 351, 353] (runs (CW p 2) 100000 79 (L3.take 2) S3h1) = some (.nrm, S3h1) := by kernel_rfl
theorem te3t21 (p : Int) : forgetO [0, 1, 4, 5, 6, 7, 8] [0, 3, 4, 12, 13, 14, 16, 17, 18, 19, 244, 283, 379, 435, 441, 478, 485, 487, 490, 530, 540, 546, 548] (runs (CW p 1) 100000 79 (L3.take 2) S3h2) = some (.ex 0, S3h2) := by kernel_rfl
theorem te3t22 (p : Int) : forgetO [0, 1, 4, 5, 6, 7, 8] [0, 3, 4, 12, 13, 14, 16, 17, 18, 19, 244, 283, 379, 435, 441, 478, 485, 487, 490, 530, 540, 546, 548] (runs (CW p 2) 100000 79 (L3.take 2) S3h2) = some (.nrm, S3h2) := by kernel_rfl
theorem te3t32 (p : Int) : forgetO [0, 1, 4, 5, 6, 7, 8] [0, 3, 4, 12, 13, 14, 16, 17, 18, 19, 244, 283, 478, 574, 630, 636, 673, 680, 682, 685, 725, 735, 741, 743] (runs (CW p 2) 100000 79 (L3.take 2) S3h3) = some (.ex 0, S3h3) := by kernel_rfl
theorem te3h0 (q : Int) : forgetO [0, 1, 4, 5, 6, 7] [0, 3, 4, 12, 13, 14, 15, 16, 17, 18, 19, 51, 96, 98, 101, 130] (runs (CW 3 q) 100000 79 (I3.take 10) ⟨mkT 0 [.sym 0, .sym 1] .e, H1, []⟩) = some (.nrm, S3h0) := by kernel_rfl
theorem te3b0 : forgetO [0, 1, 4, 5, 6, 7, 8] [0, 3, 4, 12, 13, 14, 16, 17, 18, 19, 167, 223, 244, 246, 283, 290, 292, 295, 335, 345, 351, 353] (runs C1 100000 79 (L3.drop 2) S3h0) = some (.nrm, S3h1) := by kernel_rfl
end Go.Ae
