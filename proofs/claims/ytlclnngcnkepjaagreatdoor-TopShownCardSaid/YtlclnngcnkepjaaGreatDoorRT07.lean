/- A part of the proof of the law of TopShown: XT07. -/
import Derived.Test.YtlclnngcnkepjaaGreatDoorR1
namespace Go.Ae
open Go Go.Proofs
set_option maxRecDepth 1000000
theorem sh_1_0_14_0 : shown 1 0 14 [0] = true := by kernel_rfl
theorem sh_1_0_15_0 : shown 1 0 15 [0] = true := by kernel_rfl
theorem sh_1_0_16_0 : shown 1 0 16 [0] = true := by kernel_rfl
theorem sh_1_0_17_0 : shown 1 0 17 [0] = true := by kernel_rfl
theorem sh_1_0_18_0 : shown 1 0 18 [0] = true := by kernel_rfl
theorem sh_1_0_19_0 : shown 1 0 19 [0] = true := by kernel_rfl
theorem sh_1_1_0 : shown 1 1 0 [] = true := by kernel_rfl
theorem sh_1_1_1 : shown 1 1 1 [] = true := by kernel_rfl
end Go.Ae
