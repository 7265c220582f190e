/- A part of the proof of the law of TopShown: XT03. -/
import Derived.Test.YtlclnngcnkepjaaGreatDoorR1
namespace Go.Ae
open Go Go.Proofs
set_option maxRecDepth 1000000
theorem sh_0_1_4 : shown 0 1 4 [] = true := by kernel_rfl
theorem sh_0_1_5 : shown 0 1 5 [] = true := by kernel_rfl
theorem sh_0_1_6 : shown 0 1 6 [] = true := by kernel_rfl
theorem sh_0_1_7 : shown 0 1 7 [] = true := by kernel_rfl
theorem sh_0_1_8 : shown 0 1 8 [] = true := by kernel_rfl
theorem sh_0_1_9 : shown 0 1 9 [] = true := by kernel_rfl
theorem sh_0_1_10 : shown 0 1 10 [] = true := by kernel_rfl
theorem sh_0_1_11 : shown 0 1 11 [] = true := by kernel_rfl
end Go.Ae
