/- A part of the proof of the law of TopShown: XT04. -/
import Derived.Test.YtlclnngcnkepjaaGreatDoorR1
namespace Go.Ae
open Go Go.Proofs
set_option maxRecDepth 1000000
theorem sh_0_1_12 : shown 0 1 12 [] = true := by kernel_rfl
theorem sh_0_1_13 : shown 0 1 13 [] = true := by kernel_rfl
theorem sh_0_1_14 : shown 0 1 14 [] = true := by kernel_rfl
theorem sh_0_1_14_0 : shown 0 1 14 [0] = true := by kernel_rfl
theorem sh_0_1_15_0 : shown 0 1 15 [0] = true := by kernel_rfl
theorem sh_0_1_16_0 : shown 0 1 16 [0] = true := by kernel_rfl
theorem sh_0_1_17_0 : shown 0 1 17 [0] = true := by kernel_rfl
theorem sh_0_1_18_0 : shown 0 1 18 [0] = true := by kernel_rfl
end Go.Ae
