/- A part of the proof of the law of TopShown: XT00. -/
import Derived.Test.YtlclnngcnkepjaaGreatDoorR1
namespace Go.Ae
open Go Go.Proofs
set_option maxRecDepth 1000000
theorem sh_0_0_0 : shown 0 0 0 [] = true := by kernel_rfl
theorem sh_0_0_1 : shown 0 0 1 [] = true := by kernel_rfl
theorem sh_0_0_2 : shown 0 0 2 [] = true := by kernel_rfl
theorem sh_0_0_3 : shown 0 0 3 [] = true := by kernel_rfl
theorem sh_0_0_4 : shown 0 0 4 [] = true := by kernel_rfl
theorem sh_0_0_5 : shown 0 0 5 [] = true := by kernel_rfl
theorem sh_0_0_6 : shown 0 0 6 [] = true := by kernel_rfl
theorem sh_0_0_7 : shown 0 0 7 [] = true := by kernel_rfl
end Go.Ae
