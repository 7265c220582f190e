/- A part of the proof of the law of TopShown: XT09. -/
import Derived.Test.YtlclnngcnkepjaaGreatDoorR1
namespace Go.Ae
open Go Go.Proofs
set_option maxRecDepth 1000000
theorem sh_1_1_9_0 : shown 1 1 9 [0] = true := by kernel_rfl
theorem sh_1_1_10_0 : shown 1 1 10 [0] = true := by kernel_rfl
theorem sh_1_1_11_0 : shown 1 1 11 [0] = true := by kernel_rfl
theorem sh_1_1_12_0 : shown 1 1 12 [0] = true := by kernel_rfl
theorem sh_1_1_13_0 : shown 1 1 13 [0] = true := by kernel_rfl
theorem sh_1_1_14_0 : shown 1 1 14 [0] = true := by kernel_rfl
theorem sh_1_1_14_0_1 : shown 1 1 14 [0, 1] = true := by kernel_rfl
theorem sh_1_1_15_0_1 : shown 1 1 15 [0, 1] = true := by kernel_rfl
end Go.Ae
