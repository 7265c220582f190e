/- A part of the proof of the law of TopShown: XT10. -/
import Derived.Test.YtlclnngcnkepjaaGreatDoorR1
namespace Go.Ae
open Go Go.Proofs
set_option maxRecDepth 1000000
theorem sh_1_1_16_0_1 : shown 1 1 16 [0, 1] = true := by kernel_rfl
theorem sh_1_1_17_0_1 : shown 1 1 17 [0, 1] = true := by kernel_rfl
theorem sh_1_1_18_0_1 : shown 1 1 18 [0, 1] = true := by kernel_rfl
theorem sh_1_1_19_0_1 : shown 1 1 19 [0, 1] = true := by kernel_rfl
theorem sh_2_0_7_0 : shown 2 0 7 [0] = true := by kernel_rfl
theorem sh_2_1_7_0 : shown 2 1 7 [0] = true := by kernel_rfl
theorem sh_0_2_14_0 : shown 0 2 14 [0] = true := by kernel_rfl
theorem sh_1_2_14_0_1 : shown 1 2 14 [0, 1] = true := by kernel_rfl
end Go.Ae
