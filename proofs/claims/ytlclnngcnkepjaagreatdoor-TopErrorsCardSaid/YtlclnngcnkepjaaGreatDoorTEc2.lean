/- A part of the proof of the four laws of the top: TEc2. -/
import Derived.Test.YtlclnngcnkepjaaGreatDoorS
namespace Go.Ae
open Go Go.Proofs
set_option maxRecDepth 1000000
theorem te2p1 : forgetO [0, 1, 4, 5, 6, 7, 8] [0, 3, 4, 12, 13, 14, 16, 17, 18, 19, 223, 407, 412, 414, 622, 684, 690, 692, 724, 763, 765, 768, 797] (runs C1 100000 79 ((I3.drop 11).take 1) S2h1) = some (.nrm, S2p1) := by kernel_rfl
theorem te2e1 : forgetO [4] [0, 3, 4] (runs C1 100000 79 (I3.drop 12) S2p1) = some (.ret, S2e1) := by kernel_rfl
theorem te2p2 : forgetO [0, 1, 4, 5, 6, 7, 8] [0, 3, 4, 12, 13, 14, 16, 17, 18, 19, 407, 412, 622, 774, 780, 988, 1050, 1056, 1058, 1090, 1129, 1131, 1134, 1163] (runs C1 100000 79 ((I3.drop 11).take 1) S2h2) = some (.nrm, S2p2) := by kernel_rfl
end Go.Ae
