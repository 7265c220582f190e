/-
  The statements' own first look: 'known' answers true.
-/
import Derived.Test.YtghddmlndafefaaStF
namespace Go.Proofs.Ytghddmlndafefaa
open Go.RowKit Go.Maps

def TrueEnd (w : World) (e : Ending) (w' : World) : Prop := e = .returned (.bool true) ∧ Below w.heap.size w w'

/-- A block of writes. -/
theorem wrIs_block {w : World} {B : Nat} {ws : List Wr} {t : TypeId} (h : w.heap[B]? = some (.cells (wcells ws).toArray t (0, 0))) (c : Nat) : WrIs w (.slice (some ⟨B, 0, none⟩) ws.length c) ws := by
  refine .inr ⟨B, 0, c, rfl, fun i u hu => ?_⟩
  have hc := fun j (hj : j < 3) => (cell_of_row w B (i * 3 + j) _ _ _ h).trans ((by simp : (wcells ws).toArray[i * 3 + j]? = (wcells ws)[i * 3 + j]?).trans (wcells_get ws i j u hu hj))
  simp only [Nat.zero_add]
  exact ⟨hc 0 (by omega), hc 1 (by omega), hc 2 (by omega)⟩

def sA : ByteArray := ⟨#[97]⟩
def sX : ByteArray := ⟨#[120]⟩

theorem below_step {w a b : World} (h : Below w.heap.size w a) (h' : Below a.heap.size a b) : Below w.heap.size w b := h.trans (h'.mono h.size)
theorem below_turn {w a b : World} {S : Nat → Prop} (h : Below w.heap.size w a) (h' : Turn S a b) (hs : ∀ k, S k → w.heap.size ≤ k) : Below w.heap.size w b := h.trans (h'.to_below h.size hs)

set_option maxRecDepth 100000 in
set_option maxHeartbeats 1600000 in
theorem known_any (w : World) : Calls Try.prog 15 #[] w (TrueEnd w) := by
  go_enter Try.func15, Try.ntmps15
  go_wp2_with fail
  refine (new_any 5 w (by omega)).mono ?_
  rintro e w1 ⟨rfl, h1, b1, z1⟩
  go_wp2_with fail
  refine (count_any h1).mono ?_
  rintro e w2 ⟨he, b2⟩
  obtain rfl : e = .returned (.int .i64 0) := he
  have h2 := h1.below b2
  go_wp2_with fail
  refine (now_any h2).mono ?_
  rintro e w2' ⟨he, rfl⟩
  obtain rfl : e = .returned (.int .i64 0) := he
  go_wp2_with fail
  obtain ⟨W2, hW2⟩ : ∃ W2, W2 = w2.alloc (.cells #[.string ⟨#[97]⟩, .string ⟨#[120]⟩, .bool false] 37) := ⟨_, rfl⟩
  have b3 : Below w2.heap.size w2 W2 := by rw [hW2]; exact (Below.refl _ _).alloc (Nat.le_refl _) _
  have hws : WrIs W2 (.slice (some ⟨w2.heap.size, 0, none⟩) 1 1) [⟨sA, sX, false⟩] := by rw [hW2]; exact wrIs_block (ws := [⟨sA, sX, false⟩]) (heap_alloc_new w2 _) 1
  rw [← hW2]
  clear hW2
  have h3 := h2.below b3
  refine (commit_any h3 hws (by simp; decide) (by simp [newSto]) (by simp [newSto])).mono ?_
  rintro e w3 ⟨he, ⟨D3, h4⟩, t3⟩
  obtain rfl : e = .returned (.tuple #[.int .i64 1, .int .i64 0]) := he
  have b4 : Below w.heap.size w w3 := below_turn (below_step (below_step b1 b2) b3) t3 (by rintro k (rfl | rfl) <;> simp [newSto])
  clear hws h1 h2 h3 b1 b2 b3 t3 z1
  go_wp2_with fail
  refine (read_any h4 ⟨#[97]⟩ (by decide) 1).mono ?_
  rintro e w3' ⟨he, rfl⟩
  obtain rfl : e = .returned (.tuple #[.string ⟨#[120]⟩, .bool true]) := he
  go_wp2_with fail
  refine (read_any h4 ⟨#[97]⟩ (by decide) 0).mono ?_
  rintro e w3' ⟨he, rfl⟩
  obtain rfl : e = .returned (.tuple #[.string ⟨#[]⟩, .bool false]) := he
  go_wp2_with fail
  refine (changed_any h4 ⟨#[97]⟩ (by decide) 0).mono ?_
  rintro e w3' ⟨he, rfl⟩
  obtain rfl : e = .returned (.bool true) := he
  go_wp2_with fail
  refine (count_any h4).mono ?_
  rintro e w4 ⟨he, b5⟩
  obtain rfl : e = .returned (.int .i64 1) := he
  go_wp2_with fail
  go_ret
  exact ⟨rfl, below_step b4 b5⟩
end Go.Proofs.Ytghddmlndafefaa
