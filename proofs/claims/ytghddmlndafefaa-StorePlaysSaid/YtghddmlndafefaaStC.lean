/-
  slices.Clone of versions: a new row with the same versions.
-/
import Derived.Test.YtghddmlndafefaaStB
import Derived.Deep.RegionHeld3
namespace Go.Proofs.Ytghddmlndafefaa
open Go.RowKit Go.Maps

theorem info70 : (Try.prog.info? 70).map (fun i => (i.zero, i.size, i.bytes)) = some (some (.agg #[.string ⟨#[]⟩, .string ⟨#[]⟩, .bool false, .int .i64 0]), 4, 48) := by kernel_rfl

theorem oneCell_cellsOf (l : List Ver) : ∀ u ∈ cellsOf l, u.oneCell' = true := by
  intro u hu
  obtain ⟨v, _, hv⟩ := List.mem_flatMap.1 hu
  simp [Ver.cells] at hv
  rcases hv with rfl | rfl | rfl | rfl <;> rfl

/-- A new row of versions. -/
def NewRow (l : List Ver) (w : World) (e : Ending) (w' : World) : Prop := ∃ v, e = .returned v ∧ w'.ownsRow w.heap.size 70 4 v l.length (cellsOf l) ∧ Below w.heap.size w w' ∧ w.heap.size < w'.heap.size

set_option maxRecDepth 100000 in
set_option maxHeartbeats 400000 in
theorem clone_some (a : Addr) (c : Nat) (l : List Ver) (w : World) (hl : l.length ≤ 10000)
    (hc : ∀ j u, (cellsOf l)[j]? = some u → w.cell? (a.add j) = some u) :
    Calls Try.prog 36 #[.slice (some a) l.length c] w (NewRow l w) := by
  obtain ⟨i0, hi0, hz0, hz1, hz2⟩ := info_parts info70
  have hrun := fun w => Lib.run_eql_slice_nil (P := Try.prog) w 67 70 (some a) l.length c 0 0 Try.underlying67
  have hown : (w.alloc (.cells #[] 70)).ownsRow w.heap.size 70 4 (.slice (some ⟨w.heap.size, 0, none⟩) 0 0) 0 [] := World.ownsRow_made w #[] 0 (Nat.le_refl _) (Nat.zero_le _) rfl
  have hnews : ∀ j u, (cellsOf l)[j]? = some u → (w.alloc (.cells #[] 70)).cell? (a.add j) = some u := fun j u h => by
    have h1 := hc j u h
    rw [← h1]
    exact World.cell?_of_block (Below.heap_alloc _ _ _ (World.block_lt_of_cell? w _ h1))
  have HC := Lib.hid hc
  clear hc
  go_enter Try.func36, Try.ntmps36
  go_wp2_with (at_builtin; refine wpList_append_own _ rfl _ _ 67 rfl w.heap.size 70 i0 _ 4 48 Try.underlying67 hi0 hz0 hz1 hz2 rfl (by decide) _ 0 [] rfl hown a l.length c (cellsOf l) rfl (cellsOf_length l) hnews (oneCell_cellsOf l) (by unfold maxLen; omega) (by omega) (by simp) ?_; intro v' w1 hown' hgrow _)
  go_ret
  simp only [Nat.zero_add, List.nil_append] at hown'
  have hs := hgrow.size
  simp at hs
  exact ⟨v', rfl, hown', ((Below.refl w.heap.size w).alloc (Nat.le_refl _) _).grown hgrow (by simp) (by intro k hk; cases hk; exact Nat.le_refl _), by omega⟩

theorem clone_nil (w : World) : Calls Try.prog 36 #[nilS] w fun e w' => e = .returned nilS ∧ w = w' := by
  have hrun := fun w => Lib.run_eql_slice_nil (P := Try.prog) w 67 70 none 0 0 0 0 Try.underlying67
  unfold nilS
  go_enter Try.func36, Try.ntmps36
  go_wp2
  go_ret
  exact ⟨rfl, rfl⟩
end Go.Proofs.Ytghddmlndafefaa
