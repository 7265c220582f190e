/- A part of the proof of the law of TopShown: XT06. -/
import Derived.Test.YtlclnngcnkepjaaGreatDoorR1
namespace Go.Ae
open Go Go.Proofs
set_option maxRecDepth 1000000
theorem sh_1_0_7 : shown 1 0 7 [] = true := by kernel_rfl
theorem sh_1_0_7_0 : shown 1 0 7 [0] = true := by kernel_rfl
theorem sh_1_0_8_0 : shown 1 0 8 [0] = true := by kernel_rfl
theorem sh_1_0_9_0 : shown 1 0 9 [0] = true := by kernel_rfl
theorem sh_1_0_10_0 : shown 1 0 10 [0] = true := by kernel_rfl
theorem sh_1_0_11_0 : shown 1 0 11 [0] = true := by kernel_rfl
theorem sh_1_0_12_0 : shown 1 0 12 [0] = true := by kernel_rfl
theorem sh_1_0_13_0 : shown 1 0 13 [0] = true := by kernel_rfl
end Go.Ae
