/- A part of the proof of the law of TopAcross: AeMc. -/
import Derived.Test.YtlclnngcnkepjaaGreatDoorQ5
namespace Go.Ae
open Go Go.Proofs
set_option maxRecDepth 1000000
theorem mem_kinds : forN (fun n => okO 112 [.i .i64 n] (kindsA n)) 0 66 = true := by kernel_rfl
theorem mem_bits : forN (fun n => okO 72 [.i .i64 n, .fn (.func 73) [] []] (bitsA n)) 0 66 = true := by kernel_rfl
theorem mem_find : foundL.all (fun x => okO 241 [.s x.1] (findL x.1 foundL)) = true := by kernel_rfl
end Go.Ae
