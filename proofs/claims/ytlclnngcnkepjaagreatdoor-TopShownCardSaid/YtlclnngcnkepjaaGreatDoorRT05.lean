/- A part of the proof of the law of TopShown: XT05. -/
import Derived.Test.YtlclnngcnkepjaaGreatDoorR1
namespace Go.Ae
open Go Go.Proofs
set_option maxRecDepth 1000000
theorem sh_0_1_19_0 : shown 0 1 19 [0] = true := by kernel_rfl
theorem sh_1_0_0 : shown 1 0 0 [] = true := by kernel_rfl
theorem sh_1_0_1 : shown 1 0 1 [] = true := by kernel_rfl
theorem sh_1_0_2 : shown 1 0 2 [] = true := by kernel_rfl
theorem sh_1_0_3 : shown 1 0 3 [] = true := by kernel_rfl
theorem sh_1_0_4 : shown 1 0 4 [] = true := by kernel_rfl
theorem sh_1_0_5 : shown 1 0 5 [] = true := by kernel_rfl
theorem sh_1_0_6 : shown 1 0 6 [] = true := by kernel_rfl
end Go.Ae
