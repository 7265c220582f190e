/- A part of the proof of the four laws of the top: TEa4. -/
import Derived.Test.YtlclnngcnkepjaaGreatDoorS
namespace Go.Ae
open Go Go.Proofs
set_option maxRecDepth 1000000
theorem te4t00 (p : Int) : forgetO [0, 1, 4, 5, 6, 7] [0, 3, 4, 12, 13, 14, 15, 16, 17, 18, 19, 51, 96, 98, 101, 130] (runs (CW p 0) 100000 79 (L3.take 2) S4h0) = some (.nrm, S4h0) := by kernel_rfl
theorem te4t01 (p : Int) : forgetO [0, 1, 4, 5, 6, 7] [0, 3, 4, 12, 13, 14, 15, 16, 17, 18, 19, 51, 96, 98, 101, 130] (runs (CW p 1) 100000 79 (L3.take 2) S4h0) = some (.nrm, S4h0) := by kernel_rfl
theorem te4t02 (p : Int) : forgetO [0, 1, 4, 5, 6, 7] [0, 3, 4, 12, 13, 14, 15, 16, 17, 18, 19, 51, 96, 98, 101, 130] (runs (CW p 2) 100000 79 (L3.take 2) S4h0) = some (.nrm, S4h0) := by kernel_rfl
theorem te4t10 (p : Int) : forgetO [0, 1, 4, 5, 6, 7, 8] [0, 3, 4, 12, 13, 14, 16, 17, 18, 19, 167, 223, 404, 416, 418, 637, 644, 646, 649, 689, 699, 705, 707] (runs (CW p 0) 100000 79 (L3.take 2) S4h1) = some (.ex 0, S4h1) := by kernel_rfl
theorem te4t11 (p : Int) : forgetO [0, 1, 4, 5, 6, 7, 8] [0, 3, 4, 12, 13, 14, 16, 17, 18, 19, 167, 223, 404, 416, 418, 637, 644, 646, 649, 689, 699, 705, 707] (runs (CW p 1) 100000 79 (L3.take 2) S4h1) = some (.nrm, S4h1) := by kernel_rfl
theorem te4t12 (p : Int) : forgetO [0, 1, 4, 5, 6, 7, 8] [0, 3, 4, 12, 13, 14, 16, 17, 18, 19, 167, 223, 404, 416, 418, 637, 644, 646, 649, 689, 699, 705, 707] (runs (CW p 2) 100000 79 (L3.take 2) S4h1) = some (.nrm, S4h1) := by kernel_rfl
theorem te4t21 (p : Int) : forgetO [0, 1, 4, 5, 6, 7, 8] [0, 3, 4, 12, 13, 14, 16, 17, 18, 19, 404, 416, 637, 733, 789, 795, 1014, 1021, 1023, 1026, 1066, 1076, 1082, 1084] (runs (CW p 1) 100000 79 (L3.take 2) S4h2) = some (.ex 0, S4h2) := by kernel_rfl
theorem te4t22 (p : Int) : forgetO [0, 1, 4, 5, 6, 7, 8] [0, 3, 4, 12, 13, 14, 16, 17, 18, 19, 404, 416, 637, 733, 789, 795, 1014, 1021, 1023, 1026, 1066, 1076, 1082, 1084] (runs (CW p 2) 100000 79 (L3.take 2) S4h2) = some (.nrm, S4h2) := by kernel_rfl
theorem te4t32 (p : Int) : forgetO [0, 1, 4, 5, 6, 7, 8] [0, 3, 4, 12, 13, 14, 16, 17, 18, 19, 404, 416, 637, 1014, 1110, 1166, 1172, 1391, 1398, 1400, 1403, 1443, 1453, 1459, 1461] (runs (CW p 2) 100000 79 (L3.take 2) S4h3) = some (.ex 0, S4h3) := by kernel_rfl
theorem te4h0 (q : Int) : forgetO [0, 1, 4, 5, 6, 7] [0, 3, 4, 12, 13, 14, 15, 16, 17, 18, 19, 51, 96, 98, 101, 130] (runs (CW 4 q) 100000 79 (I3.take 10) ⟨mkT 0 [.sym 0, .sym 1] .e, H1, []⟩) = some (.nrm, S4h0) := by kernel_rfl
theorem te4b0 : forgetO [0, 1, 4, 5, 6, 7, 8] [0, 3, 4, 12, 13, 14, 16, 17, 18, 19, 167, 223, 404, 416, 418, 637, 644, 646, 649, 689, 699, 705, 707] (runs C1 100000 79 (L3.drop 2) S4h0) = some (.nrm, S4h1) := by kernel_rfl
end Go.Ae
