/- A part of the proof of the law of TopAcross: X7a. -/
import Derived.Test.YtlclnngcnkepjaaGreatDoorQ6
namespace Go.Ae
open Go Go.Proofs
set_option maxRecDepth 1000000
theorem k7_1 : forgetO [0, 1] [0, 3, 4, 12, 13, 14, 15, 16, 17, 18, 19, 50, 95, 97, 100, 129] (runsQ CK 100000 48 ((I7.drop 0).take 6) ⟨mkT 0 [] .e, H1, []⟩) = some (.nrm, S7_1) := by kernel_rfl
end Go.Ae
