/- A part of the proof of the four laws of the top: TEa2. -/
import Derived.Test.YtlclnngcnkepjaaGreatDoorS
namespace Go.Ae
open Go Go.Proofs
set_option maxRecDepth 1000000
theorem te2t00 (p : Int) : forgetO [0, 1, 4, 5, 6, 7] [0, 3, 4, 12, 13, 14, 15, 16, 17, 18, 19, 51, 96, 98, 101, 130] (runs (CW p 0) 100000 79 (L3.take 2) S2h0) = some (.nrm, S2h0) := by kernel_rfl
theorem te2t01 (p : Int) : forgetO [0, 1, 4, 5, 6, 7] [0, 3, 4, 12, 13, 14, 15, 16, 17, 18, 19, 51, 96, 98, 101, 130] (runs (CW p 1) 100000 79 (L3.take 2) S2h0) = some (.nrm, S2h0) := by kernel_rfl
theorem te2t02 (p : Int) : forgetO [0, 1, 4, 5, 6, 7] [0, 3, 4, 12, 13, 14, 15, 16, 17, 18, 19, 51, 96, 98, 101, 130] (runs (CW p 2) 100000 79 (L3.take 2) S2h0) = some (.nrm, S2h0) := by kernel_rfl
theorem te2t10 (p : Int) : forgetO [0, 1, 4, 5, 6, 7, 8] [0, 3, 4, 12, 13, 14, 16, 17, 18, 19, 167, 223, 407, 412, 414, 622, 629, 631, 634, 674, 684, 690, 692] (runs (CW p 0) 100000 79 (L3.take 2) S2h1) = some (.ex 0, S2h1) := by kernel_rfl
theorem te2t11 (p : Int) : forgetO [0, 1, 4, 5, 6, 7, 8] [0, 3, 4, 12, 13, 14, 16, 17, 18, 19, 167, 223, 407, 412, 414, 622, 629, 631, 634, 674, 684, 690, 692] (runs (CW p 1) 100000 79 (L3.take 2) S2h1) = some (.nrm, S2h1) := by kernel_rfl
theorem te2t12 (p : Int) : forgetO [0, 1, 4, 5, 6, 7, 8] [0, 3, 4, 12, 13, 14, 16, 17, 18, 19, 167, 223, 407, 412, 414, 622, 629, 631, 634, 674, 684, 690, 692] (runs (CW p 2) 100000 79 (L3.take 2) S2h1) = some (.nrm, S2h1) := by kernel_rfl
theorem te2t21 (p : Int) : forgetO [0, 1, 4, 5, 6, 7, 8] [0, 3, 4, 12, 13, 14, 16, 17, 18, 19, 407, 412, 622, 718, 774, 780, 988, 995, 997, 1000, 1040, 1050, 1056, 1058] (runs (CW p 1) 100000 79 (L3.take 2) S2h2) = some (.ex 0, S2h2) := by kernel_rfl
theorem te2t22 (p : Int) : forgetO [0, 1, 4, 5, 6, 7, 8] [0, 3, 4, 12, 13, 14, 16, 17, 18, 19, 407, 412, 622, 718, 774, 780, 988, 995, 997, 1000, 1040, 1050, 1056, 1058] (runs (CW p 2) 100000 79 (L3.take 2) S2h2) = some (.nrm, S2h2) := by kernel_rfl
theorem te2t32 (p : Int) : forgetO [0, 1, 4, 5, 6, 7, 8] [0, 3, 4, 12, 13, 14, 16, 17, 18, 19, 407, 412, 622, 988, 1084, 1140, 1146, 1354, 1361, 1363, 1366, 1406, 1416, 1422, 1424] (runs (CW p 2) 100000 79 (L3.take 2) S2h3) = some (.ex 0, S2h3) := by kernel_rfl
theorem te2h0 (q : Int) : forgetO [0, 1, 4, 5, 6, 7] [0, 3, 4, 12, 13, 14, 15, 16, 17, 18, 19, 51, 96, 98, 101, 130] (runs (CW 2 q) 100000 79 (I3.take 10) ⟨mkT 0 [.sym 0, .sym 1] .e, H1, []⟩) = some (.nrm, S2h0) := by kernel_rfl
theorem te2b0 : forgetO [0, 1, 4, 5, 6, 7, 8] [0, 3, 4, 12, 13, 14, 16, 17, 18, 19, 167, 223, 407, 412, 414, 622, 629, 631, 634, 674, 684, 690, 692] (runs C1 100000 79 (L3.drop 2) S2h0) = some (.nrm, S2h1) := by kernel_rfl
end Go.Ae
