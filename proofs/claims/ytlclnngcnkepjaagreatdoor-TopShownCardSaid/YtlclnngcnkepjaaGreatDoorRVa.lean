/- A part of the proof of the law of TopShown: ZVa. -/
import Derived.Test.YtlclnngcnkepjaaGreatDoorR1
import Derived.Test.YtlclnngcnkepjaaGreatDoorRows
import Derived.Deep.DeepHandedRow
import Derived.ProofKit
import Derived.SizedLaws
import Derived.Shelf.Vars
import Derived.Deep.DeepWitnessRowRef
import Derived.Lib.LaidU8
import Derived.Lib.LaidRTab
import Derived.JoinedOf
import Derived.Deep.DeepLaidRun
namespace Go.Ae
open Go Go.Proofs Go.Proofs.YtlclnngcnkepjaaGreatDoor Go.ChangeShapes Go.WideShapes Go.ChangeAt Go.RowKit

noncomputable def low : Nat := (World.holding Tryz.prog default ⟨#[], #[], []⟩).heap.size
def valsOf : DataW Unit → List Value
  | .agg l => l.flatMap fun d => match d with
    | .lit (.int k n) => [Value.int k n]
    | .agg m => m.flatMap fun d => match d with
      | .lit (.int k n) => [Value.int k n]
      | _ => []
    | _ => []
  | _ => []
def whites : DataW Unit → List Value
  | .ptr (.agg (.slice l _ :: _)) => l.flatMap valsOf
  | _ => []
noncomputable def laidWorld (os : Os) : World :=
  let w0 := World.holding Tryz.prog os ⟨#[.cells #[.string ⟨#[118, 97, 108, 117, 101, 32, 111, 117, 116, 32, 111, 102, 32, 114, 97, 110, 103, 101]⟩] 402, .cells #[.string ⟨#[105, 110, 118, 97, 108, 105, 100, 32, 115, 121, 110, 116, 97, 120]⟩] 402,
    .cells (whites Rows.laid_unicode_White_Space).toArray 272, .cells #[.slice (some ⟨low + 2, 0, none⟩) 7 7, .slice none 0 0, .int .i64 2] 269], #[], []⟩
  let put (h : Array Obj) (g : Nat) (cs : Array Value) : Array Obj := h.modify g fun
    | .cells _ t frozen => .cells cs t frozen
    | o => o
  { w0 with heap := put (put (put (put (put (put (put (put (put w0.heap 0 (valsOf Rows.laid_strings_asciiSpace).toArray) 3 (valsOf Rows.laid_internal_strconv_uint64pow10).toArray) 7 (valsOf Rows.laid_math_bits_deBruijn32tab).toArray) 8 (valsOf Rows.laid_math_bits_deBruijn64tab).toArray)
      10 (valsOf Rows.laid_unicode_utf8_acceptRanges).toArray) 9 (valsOf Rows.laid_unicode_utf8_first).toArray) 6 #[.iface 400 (.pointer (some ⟨low, 0, none⟩))]) 5 #[.iface 400 (.pointer (some ⟨low + 1, 0, none⟩))]) 1 #[.pointer (some ⟨low + 3, 0, none⟩)] }
set_option maxRecDepth 100000
theorem laid_met (os : Os) (args : Array Value) : laidMet Tryz.prog Rows.topShownRow.laid ((laidWorld os).forCall (fun _ _ => 0) ⟨#[], args, []⟩).memory :=
  laidMet_of_run3 12 (by kernel_rfl) (by kernel_rfl) (by kernel_rfl)
end Go.Ae
