/- A part of the proof of the four laws of the top: Kn4. -/
import Derived.Test.YtlclnngcnkepjaaGreatDoorS
namespace Go.Ae
open Go Go.Proofs
set_option maxRecDepth 1000000
theorem k7_4 : forgetO [0] [0, 3, 4] (runs C0 100000 48 ((I7.drop 8).take 2) S7_3) = some (.ret, S7_4) := by kernel_rfl
end Go.Ae
