/- A part of the proof of the four laws of the top: TEa5. -/
import Derived.Test.YtlclnngcnkepjaaGreatDoorS
namespace Go.Ae
open Go Go.Proofs
set_option maxRecDepth 1000000
theorem te5t00 (p : Int) : forgetO [0, 1, 4, 5, 6, 7] [0, 3, 4, 12, 13, 14, 15, 16, 17, 18, 19, 51, 96, 98, 101, 130] (runs (CW p 0) 100000 79 (L3.take 2) S5h0) = some (.nrm, S5h0) := by kernel_rfl
theorem te5t01 (p : Int) : forgetO [0, 1, 4, 5, 6, 7] [0, 3, 4, 12, 13, 14, 15, 16, 17, 18, 19, 51, 96, 98, 101, 130] (runs (CW p 1) 100000 79 (L3.take 2) S5h0) = some (.nrm, S5h0) := by kernel_rfl
theorem te5t02 (p : Int) : forgetO [0, 1, 4, 5, 6, 7] [0, 3, 4, 12, 13, 14, 15, 16, 17, 18, 19, 51, 96, 98, 101, 130] (runs (CW p 2) 100000 79 (L3.take 2) S5h0) = some (.nrm, S5h0) := by kernel_rfl
theorem te5t10 (p : Int) : forgetO [0, 1, 4, 5, 6, 7, 8] [0, 3, 4, 12, 13, 14, 16, 17, 18, 19, 167, 223, 407, 428, 430, 661, 668, 670, 673, 713, 723, 729, 731] (runs (CW p 0) 100000 79 (L3.take 2) S5h1) = some (.ex 0, S5h1) := by kernel_rfl
theorem te5t11 (p : Int) : forgetO [0, 1, 4, 5, 6, 7, 8] [0, 3, 4, 12, 13, 14, 16, 17, 18, 19, 167, 223, 407, 428, 430, 661, 668, 670, 673, 713, 723, 729, 731] (runs (CW p 1) 100000 79 (L3.take 2) S5h1) = some (.nrm, S5h1) := by kernel_rfl
theorem te5t12 (p : Int) : forgetO [0, 1, 4, 5, 6, 7, 8] [0, 3, 4, 12, 13, 14, 16, 17, 18, 19, 167, 223, 407, 428, 430, 661, 668, 670, 673, 713, 723, 729, 731] (runs (CW p 2) 100000 79 (L3.take 2) S5h1) = some (.nrm, S5h1) := by kernel_rfl
theorem te5t21 (p : Int) : forgetO [0, 1, 4, 5, 6, 7, 8] [0, 3, 4, 12, 13, 14, 16, 17, 18, 19, 407, 428, 661, 757, 813, 819, 1050, 1057, 1059, 1062, 1102, 1112, 1118, 1120] (runs (CW p 1) 100000 79 (L3.take 2) S5h2) = some (.ex 0, S5h2) := by kernel_rfl
theorem te5t22 (p : Int) : forgetO [0, 1, 4, 5, 6, 7, 8] [0, 3, 4, 12, 13, 14, 16, 17, 18, 19, 407, 428, 661, 757, 813, 819, 1050, 1057, 1059, 1062, 1102, 1112, 1118, 1120] (runs (CW p 2) 100000 79 (L3.take 2) S5h2) = some (.nrm, S5h2) := by kernel_rfl
theorem te5t32 (p : Int) : forgetO [0, 1, 4, 5, 6, 7, 8] [0, 3, 4, 12, 13, 14, 16, 17, 18, 19, 407, 428, 661, 1050, 1146, 1202, 1208, 1439, 1446, 1448, 1451, 1491, 1501, 1507, 1509] (runs (CW p 2) 100000 79 (L3.take 2) S5h3) = some (.ex 0, S5h3) := by kernel_rfl
theorem te5h0 (q : Int) : forgetO [0, 1, 4, 5, 6, 7] [0, 3, 4, 12, 13, 14, 15, 16, 17, 18, 19, 51, 96, 98, 101, 130] (runs (CW 5 q) 100000 79 (I3.take 10) ⟨mkT 0 [.sym 0, .sym 1] .e, H1, []⟩) = some (.nrm, S5h0) := by kernel_rfl
theorem te5b0 : forgetO [0, 1, 4, 5, 6, 7, 8] [0, 3, 4, 12, 13, 14, 16, 17, 18, 19, 167, 223, 407, 428, 430, 661, 668, 670, 673, 713, 723, 729, 731] (runs C1 100000 79 (L3.drop 2) S5h0) = some (.nrm, S5h1) := by kernel_rfl
end Go.Ae
