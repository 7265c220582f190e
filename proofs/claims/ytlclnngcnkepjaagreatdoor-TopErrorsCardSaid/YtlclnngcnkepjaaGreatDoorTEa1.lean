/- A part of the proof of the four laws of the top: TEa1. -/
import Derived.Test.YtlclnngcnkepjaaGreatDoorS
namespace Go.Ae
open Go Go.Proofs
set_option maxRecDepth 1000000
theorem te1t00 (p : Int) : forgetO [0, 1, 4, 5, 6, 7] [0, 3, 4, 12, 13, 14, 15, 16, 17, 18, 19, 51, 96, 98, 101, 130] (runs (CW p 0) 100000 79 (L3.take 2) S1h0) = some (.nrm, S1h0) := by kernel_rfl
theorem te1t01 (p : Int) : forgetO [0, 1, 4, 5, 6, 7] [0, 3, 4, 12, 13, 14, 15, 16, 17, 18, 19, 51, 96, 98, 101, 130] (runs (CW p 1) 100000 79 (L3.take 2) S1h0) = some (.nrm, S1h0) := by kernel_rfl
theorem te1t02 (p : Int) : forgetO [0, 1, 4, 5, 6, 7] [0, 3, 4, 12, 13, 14, 15, 16, 17, 18, 19, 51, 96, 98, 101, 130] (runs (CW p 2) 100000 79 (L3.take 2) S1h0) = some (.nrm, S1h0) := by kernel_rfl
theorem te1t10 (p : Int) : forgetO [0, 1, 4, 5, 6, 7, 8] [0, 3, 4, 12, 13, 14, 16, 17, 18, 19, 167, 223, 403, 408, 410, 624, 631, 633, 636, 676, 686, 692, 694] (runs (CW p 0) 100000 79 (L3.take 2) S1h1) = some (.ex 0, S1h1) := by kernel_rfl
theorem te1t11 (p : Int) : forgetO [0, 1, 4, 5, 6, 7, 8] [0, 3, 4, 12, 13, 14, 16, 17, 18, 19, 167, 223, 403, 408, 410, 624, 631, 633, 636, 676, 686, 692, 694] (runs (CW p 1) 100000 79 (L3.take 2) S1h1) = some (.nrm, S1h1) := by kernel_rfl
theorem te1t12 (p : Int) : forgetO [0, 1, 4, 5, 6, 7, 8] [0, 3, 4, 12, 13, 14, 16, 17, 18, 19, 167, 223, 403, 408, 410, 624, 631, 633, 636, 676, 686, 692, 694] (runs (CW p 2) 100000 79 (L3.take 2) S1h1) = some (.nrm, S1h1) := by kernel_rfl
theorem te1t21 (p : Int) : forgetO [0, 1, 4, 5, 6, 7, 8] [0, 3, 4, 12, 13, 14, 16, 17, 18, 19, 403, 408, 624, 720, 776, 782, 996, 1003, 1005, 1008, 1048, 1058, 1064, 1066] (runs (CW p 1) 100000 79 (L3.take 2) S1h2) = some (.ex 0, S1h2) := by kernel_rfl
theorem te1t22 (p : Int) : forgetO [0, 1, 4, 5, 6, 7, 8] [0, 3, 4, 12, 13, 14, 16, 17, 18, 19, 403, 408, 624, 720, 776, 782, 996, 1003, 1005, 1008, 1048, 1058, 1064, 1066] (runs (CW p 2) 100000 79 (L3.take 2) S1h2) = some (.nrm, S1h2) := by kernel_rfl
theorem te1t32 (p : Int) : forgetO [0, 1, 4, 5, 6, 7, 8] [0, 3, 4, 12, 13, 14, 16, 17, 18, 19, 403, 408, 624, 996, 1092, 1148, 1154, 1368, 1375, 1377, 1380, 1420, 1430, 1436, 1438] (runs (CW p 2) 100000 79 (L3.take 2) S1h3) = some (.ex 0, S1h3) := by kernel_rfl
theorem te1h0 (q : Int) : forgetO [0, 1, 4, 5, 6, 7] [0, 3, 4, 12, 13, 14, 15, 16, 17, 18, 19, 51, 96, 98, 101, 130] (runs (CW 1 q) 100000 79 (I3.take 10) ⟨mkT 0 [.sym 0, .sym 1] .e, H1, []⟩) = some (.nrm, S1h0) := by kernel_rfl
theorem te1b0 : forgetO [0, 1, 4, 5, 6, 7, 8] [0, 3, 4, 12, 13, 14, 16, 17, 18, 19, 167, 223, 403, 408, 410, 624, 631, 633, 636, 676, 686, 692, 694] (runs C1 100000 79 (L3.drop 2) S1h0) = some (.nrm, S1h1) := by kernel_rfl
end Go.Ae
