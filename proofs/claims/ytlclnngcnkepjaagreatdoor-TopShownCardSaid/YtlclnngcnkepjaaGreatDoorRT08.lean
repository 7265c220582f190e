/- A part of the proof of the law of TopShown: XT08. -/
import Derived.Test.YtlclnngcnkepjaaGreatDoorR1
namespace Go.Ae
open Go Go.Proofs
set_option maxRecDepth 1000000
theorem sh_1_1_2 : shown 1 1 2 [] = true := by kernel_rfl
theorem sh_1_1_3 : shown 1 1 3 [] = true := by kernel_rfl
theorem sh_1_1_4 : shown 1 1 4 [] = true := by kernel_rfl
theorem sh_1_1_5 : shown 1 1 5 [] = true := by kernel_rfl
theorem sh_1_1_6 : shown 1 1 6 [] = true := by kernel_rfl
theorem sh_1_1_7 : shown 1 1 7 [] = true := by kernel_rfl
theorem sh_1_1_7_0 : shown 1 1 7 [0] = true := by kernel_rfl
theorem sh_1_1_8_0 : shown 1 1 8 [0] = true := by kernel_rfl
end Go.Ae
