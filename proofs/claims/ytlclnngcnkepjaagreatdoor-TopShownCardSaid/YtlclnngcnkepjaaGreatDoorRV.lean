/- A part of the proof of the law of TopShown: ZV. -/
import Derived.Test.YtlclnngcnkepjaaGreatDoorR2
import Derived.Test.YtlclnngcnkepjaaGreatDoorRVa
namespace Go.Ae
open Go Go.Proofs Go.Proofs.YtlclnngcnkepjaaGreatDoor Go.ChangeShapes Go.WideShapes Go.ChangeAt Go.RowKit
set_option maxRecDepth 100000
theorem witness_row (os : Os) {H : Type} (enc : TypeId × Value → H) :
    (OpenSpec.ofChange Rows.topShownSpec).preRow enc Tryz.prog Tryz.f5 Rows.topShownRow.domain false Rows.topShownRow.laid ((laidWorld os).forCall (fun _ _ => 0) ⟨#[], #[.string ⟨#[]⟩, .string ⟨#[]⟩, .int .i64 0], []⟩).memory #[.string ⟨#[]⟩, .string ⟨#[]⟩, .int .i64 0] := by
  have hw : (DataW.whole enc Tryz.prog ((laidWorld os).forCall (fun _ _ => 0) ⟨#[], #[.string ⟨#[]⟩, .string ⟨#[]⟩, .int .i64 0], []⟩).memory Tryz.f5.params.toList (OpenSpec.ofChange Rows.topShownSpec).vars false #[Value.string ⟨#[]⟩, Value.string ⟨#[]⟩, Value.int .i64 0].toList 8).map (fun x => (x.1, x.2.1)) =
      some ([.lit (.string []), .lit (.string []), .lit (.int .i64 0)], []) := by kernel_rfl
  obtain ⟨⟨x1, x2, x3⟩, hx, hx1⟩ := Option.map_eq_some_iff.1 hw
  simp only [Prod.mk.injEq] at hx1
  obtain ⟨rfl, rfl⟩ := hx1
  exact OpenSpec.preRow_of_cond 8 hx (by kernel_rfl) (fun k hk => by cases hk) (by kernel_rfl) (laid_met os _)
theorem row_lifted (os : Os) (started : os.Started) (H : Type) (enc : TypeId × Value → H) (F : Stop.Interp) :
    ReturnsInHanded {} Tryz.checked os 5 .any ((OpenSpec.ofChange Rows.topShownSpec).preRow enc Tryz.prog Tryz.f5 Rows.topShownRow.domain false Rows.topShownRow.laid) (((OpenSpec.ofChange Rows.topShownSpec).at F).post enc Tryz.prog Tryz.f5 false true false false) :=
  lifted os started H enc F (witness_row_atRef (enc := enc) (C := Tryz.checked) false (laidWorld os) #[.string ⟨#[]⟩, .string ⟨#[]⟩, .int .i64 0] rfl (by kernel_rfl) (by kernel_rfl) (by kernel_rfl) (witness_row os enc))
end Go.Ae
