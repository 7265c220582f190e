/- A part of the proof of the four laws of the top: TEc5. -/
import Derived.Test.YtlclnngcnkepjaaGreatDoorS
namespace Go.Ae
open Go Go.Proofs
set_option maxRecDepth 1000000
theorem te5p1 : forgetO [0, 1, 4, 5, 6, 7, 8] [0, 3, 4, 12, 13, 14, 16, 17, 18, 19, 223, 407, 428, 430, 661, 723, 729, 731, 763, 802, 804, 807, 836] (runs C1 100000 79 ((I3.drop 11).take 1) S5h1) = some (.nrm, S5p1) := by kernel_rfl
theorem te5e1 : forgetO [4] [0, 3, 4] (runs C1 100000 79 (I3.drop 12) S5p1) = some (.ret, S5e1) := by kernel_rfl
theorem te5p2 : forgetO [0, 1, 4, 5, 6, 7, 8] [0, 3, 4, 12, 13, 14, 16, 17, 18, 19, 407, 428, 661, 813, 819, 1050, 1112, 1118, 1120, 1152, 1191, 1193, 1196, 1225] (runs C1 100000 79 ((I3.drop 11).take 1) S5h2) = some (.nrm, S5p2) := by kernel_rfl
end Go.Ae
