/- A part of the proof of the law of TopShown: XT01. -/
import Derived.Test.YtlclnngcnkepjaaGreatDoorR1
namespace Go.Ae
open Go Go.Proofs
set_option maxRecDepth 1000000
theorem sh_0_0_8 : shown 0 0 8 [] = true := by kernel_rfl
theorem sh_0_0_9 : shown 0 0 9 [] = true := by kernel_rfl
theorem sh_0_0_10 : shown 0 0 10 [] = true := by kernel_rfl
theorem sh_0_0_11 : shown 0 0 11 [] = true := by kernel_rfl
theorem sh_0_0_12 : shown 0 0 12 [] = true := by kernel_rfl
theorem sh_0_0_13 : shown 0 0 13 [] = true := by kernel_rfl
theorem sh_0_0_14 : shown 0 0 14 [] = true := by kernel_rfl
theorem sh_0_0_15 : shown 0 0 15 [] = true := by kernel_rfl
end Go.Ae
