/- A part of the proof of the four laws of the top: TEa0. -/
import Derived.Test.YtlclnngcnkepjaaGreatDoorS
namespace Go.Ae
open Go Go.Proofs
set_option maxRecDepth 1000000
theorem te0t00 (p : Int) : forgetO [0, 1, 4, 5, 6, 7] [0, 3, 4, 12, 13, 14, 15, 16, 17, 18, 19, 51, 96, 98, 101, 130] (runs (CW p 0) 100000 79 (L3.take 2) S0h0) = some (.nrm, S0h0) := by kernel_rfl
theorem te0t01 (p : Int) : forgetO [0, 1, 4, 5, 6, 7] [0, 3, 4, 12, 13, 14, 15, 16, 17, 18, 19, 51, 96, 98, 101, 130] (runs (CW p 1) 100000 79 (L3.take 2) S0h0) = some (.nrm, S0h0) := by kernel_rfl
theorem te0t02 (p : Int) : forgetO [0, 1, 4, 5, 6, 7] [0, 3, 4, 12, 13, 14, 15, 16, 17, 18, 19, 51, 96, 98, 101, 130] (runs (CW p 2) 100000 79 (L3.take 2) S0h0) = some (.nrm, S0h0) := by kernel_rfl
theorem te0t10 (p : Int) : forgetO [0, 1, 4, 5, 6, 7, 8] [0, 3, 4, 12, 13, 14, 16, 17, 18, 19, 167, 223, 308, 395, 402, 404, 407, 447, 457, 463, 465] (runs (CW p 0) 100000 79 (L3.take 2) S0h1) = some (.ex 0, S0h1) := by kernel_rfl
theorem te0t11 (p : Int) : forgetO [0, 1, 4, 5, 6, 7, 8] [0, 3, 4, 12, 13, 14, 16, 17, 18, 19, 167, 223, 308, 395, 402, 404, 407, 447, 457, 463, 465] (runs (CW p 1) 100000 79 (L3.take 2) S0h1) = some (.nrm, S0h1) := by kernel_rfl
theorem te0t12 (p : Int) : forgetO [0, 1, 4, 5, 6, 7, 8] [0, 3, 4, 12, 13, 14, 16, 17, 18, 19, 167, 223, 308, 395, 402, 404, 407, 447, 457, 463, 465] (runs (CW p 2) 100000 79 (L3.take 2) S0h1) = some (.nrm, S0h1) := by kernel_rfl
theorem te0t21 (p : Int) : forgetO [0, 1, 4, 5, 6, 7, 8] [0, 3, 4, 12, 13, 14, 16, 17, 18, 19, 395, 491, 547, 553, 640, 647, 649, 652, 692, 702, 708, 710] (runs (CW p 1) 100000 79 (L3.take 2) S0h2) = some (.ex 0, S0h2) := by kernel_rfl
theorem te0t22 (p : Int) : forgetO [0, 1, 4, 5, 6, 7, 8] [0, 3, 4, 12, 13, 14, 16, 17, 18, 19, 395, 491, 547, 553, 640, 647, 649, 652, 692, 702, 708, 710] (runs (CW p 2) 100000 79 (L3.take 2) S0h2) = some (.nrm, S0h2) := by kernel_rfl
theorem te0t32 (p : Int) : forgetO [0, 1, 4, 5, 6, 7, 8] [0, 3, 4, 12, 13, 14, 16, 17, 18, 19, 395, 640, 736, 792, 798, 885, 892, 894, 897, 937, 947, 953, 955] (runs (CW p 2) 100000 79 (L3.take 2) S0h3) = some (.ex 0, S0h3) := by kernel_rfl
theorem te0h0 (q : Int) : forgetO [0, 1, 4, 5, 6, 7] [0, 3, 4, 12, 13, 14, 15, 16, 17, 18, 19, 51, 96, 98, 101, 130] (runs (CW 0 q) 100000 79 (I3.take 10) ⟨mkT 0 [.sym 0, .sym 1] .e, H1, []⟩) = some (.nrm, S0h0) := by kernel_rfl
theorem te0b0 : forgetO [0, 1, 4, 5, 6, 7, 8] [0, 3, 4, 12, 13, 14, 16, 17, 18, 19, 167, 223, 308, 395, 402, 404, 407, 447, 457, 463, 465] (runs C1 100000 79 (L3.drop 2) S0h0) = some (.nrm, S0h1) := by kernel_rfl
end Go.Ae
