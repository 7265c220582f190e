/- A part of the proof of the law of TopShown: XT02. -/
import Derived.Test.YtlclnngcnkepjaaGreatDoorR1
namespace Go.Ae
open Go Go.Proofs
set_option maxRecDepth 1000000
theorem sh_0_0_16 : shown 0 0 16 [] = true := by kernel_rfl
theorem sh_0_0_17 : shown 0 0 17 [] = true := by kernel_rfl
theorem sh_0_0_18 : shown 0 0 18 [] = true := by kernel_rfl
theorem sh_0_0_19 : shown 0 0 19 [] = true := by kernel_rfl
theorem sh_0_1_0 : shown 0 1 0 [] = true := by kernel_rfl
theorem sh_0_1_1 : shown 0 1 1 [] = true := by kernel_rfl
theorem sh_0_1_2 : shown 0 1 2 [] = true := by kernel_rfl
theorem sh_0_1_3 : shown 0 1 3 [] = true := by kernel_rfl
end Go.Ae
