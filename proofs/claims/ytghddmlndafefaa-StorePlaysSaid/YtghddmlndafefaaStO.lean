/-
  The writes of a number, as a row in its block; what Clean leaves may be read as before.
-/
import Derived.Test.YtghddmlndafefaaStN
namespace Go.Proofs.Ytghddmlndafefaa
open Go.RowKit Go.Maps

/-- The writes that a number says, as a row. -/
def WnRow (k : Nat) (w : World) (e : Ending) (w' : World) : Prop := ∃ g cap vb, e = .returned (.tuple #[.slice (some ⟨g, 0, none⟩) (wn k).length cap, vb]) ∧ w.heap.size ≤ g ∧ (∃ cur, w'.heap[g]? = some (.cells cur 37 (0, 0))) ∧
  WrIs w' (.slice (some ⟨g, 0, none⟩) (wn k).length cap) (wn k) ∧
  (∀ i u, (wn k)[i]? = some u → w'.cell? ⟨g, i * 3, none⟩ = some (.string u.key) ∧ w'.cell? ⟨g, i * 3 + 1, none⟩ = some (.string u.val) ∧ w'.cell? ⟨g, i * 3 + 2, none⟩ = some (.bool u.gone)) ∧ Below w.heap.size w w'
theorem wn_pos (k : Nat) : 1 ≤ (wn k).length := by simp [wn, wrs_length]
theorem writes_row (z : Int) (w : World) : Calls Try.prog 17 #[.int .i64 (z % 1073741824)] w (WnRow (z % 1073741824).toNat w) := by
  have hm0 : 0 ≤ z % 1073741824 := Int.emod_nonneg _ (by omega)
  have hm1 : z % 1073741824 < 1073741824 := Int.emod_lt_of_pos _ (by omega)
  refine (writes_int _ hm0 (by omega) w).mono ?_
  rintro e w' ⟨va, vb, he, ha, hb, h⟩
  have ha' : w'.ownsRow w.heap.size 37 3 va (wn (z % 1073741824).toNat).length (wcells (wn (z % 1073741824).toNat)) := ha
  have hp := wn_pos (z % 1073741824).toNat
  unfold WnRow
  generalize wn (z % 1073741824).toNat = ws at *
  have hw := wrIs_of_owns ha'
  rcases ha'.2 with ⟨_, h0⟩ | ⟨g, cap, cur, rfl, hg, hbl, _⟩
  · omega
  · refine ⟨g, cap, vb, he, hg, ⟨cur, hbl⟩, hw, fun i u hu => ?_, h⟩
    rcases hw with ⟨h1, _⟩ | ⟨g', off', cap', e', hc⟩
    · simp [nilS] at h1
    · simp at e'
      obtain ⟨⟨rfl, rfl⟩, rfl⟩ := e'
      simpa using hc i u hu
end Go.Proofs.Ytghddmlndafefaa
