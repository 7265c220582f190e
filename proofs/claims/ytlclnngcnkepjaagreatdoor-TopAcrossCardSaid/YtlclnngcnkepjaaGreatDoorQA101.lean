/- A part of the proof of the law of TopAcross: XC101a, XC101c. -/
import Derived.Test.YtlclnngcnkepjaaGreatDoorQ6
namespace Go.Ae
open Go Go.Proofs
set_option maxRecDepth 1000000
theorem ka101_0 : forgetO [0, 1, 4, 5, 6, 7, 8, 9, 10] [0, 3, 4, 12, 13, 14, 15, 16, 17, 18, 19, 307, 356, 358, 360, 362, 365, 394] (runsQ (CA LA101) 100000 114 ((I4.drop 0).take 14) ⟨mkT 0 [.sym 0, .b true] .e, H1, []⟩) = some (.nrm, SA101_0) := by kernel_rfl
end Go.Ae
namespace Go.Ae
open Go Go.Proofs
set_option maxRecDepth 1000000
theorem ka101_2 : forgetO [4] [0, 3, 4] (runsQ (CA LA101) 100000 114 ((I4.drop 15).take 14) SA101_1) = some (.ret, SA101_2) := by kernel_rfl
end Go.Ae
