/-
  store.New: a store without versions.
-/
import Derived.Test.YtghddmlndafefaaStC
namespace Go.Proofs.Ytghddmlndafefaa
open Go.RowKit Go.Maps

/-- The store that New makes in the world w. -/
def newSto (w : World) (lim : Nat) : Sto := ⟨w.heap.size + 2, w.heap.size, w.heap.size + 1, lim, 0, [], []⟩
def NewEnd (lim : Nat) (w : World) (e : Ending) (w' : World) : Prop := e = .returned (.pointer (some ⟨w.heap.size + 2, 0, none⟩)) ∧ Holds w' w.heap.size (newSto w lim) (.map []) (.map []) ∧ Below w.heap.size w w' ∧ w'.heap.size = w.heap.size + 3

theorem new_holds (w : World) (lim : Nat) (hl : lim ≤ 10000) :
    Holds (((w.alloc (.map #[] 0)).alloc (.map #[] 0)).alloc (.cells #[.map (some w.heap.size), .int .i64 lim, .int .i64 0, .map (some (w.heap.size + 1))] 65)) w.heap.size (newSto w lim) (.map []) (.map []) := by
  have h1 := World.ownsMap_made w Try.prog 3 (plainElem (H := Value) Try.prog 3)
  have h2 := World.ownsMap_made (w.alloc (.map #[] 0)) Try.prog 9 RV
  simp only [World.size_alloc] at h2
  refine ⟨?_, ?_, ?_, ?_, ?_, h2.alloc _, ?_, ?_, Nat.zero_le _, hl, ?_, (h1.alloc _).alloc _, ?_⟩
  · have := heap_alloc_new ((w.alloc (.map #[] 0)).alloc (.map #[] 0)) (.cells #[.map (some w.heap.size), .int .i64 lim, .int .i64 0, .map (some (w.heap.size + 1))] 65)
    simpa [newSto] using this
  · simp [newSto]
  · simp [newSto]
  · simp [newSto]
  · simp [newSto]
  · intro key hk
    exact ⟨nilS, rfl, World.ownsRow_nil _ _ _ _, by simp [newSto, ofKey, Maps.has]⟩
  · simp [newSto]
  · simp [newSto]
  · intro t ht
    exact ⟨rfl, by simp [newSto, Maps.has]⟩

theorem new_any (lim : Nat) (w : World) (hl : lim ≤ 10000) : Calls Try.prog 16 #[.int .i64 lim] w (NewEnd lim w) := by
  have hmm := @run_makeMap Try.prog
  go_enter Try.func16, Try.ntmps16
  go_wp2
  go_ret
  refine ⟨rfl, new_holds w lim hl, (((Below.refl _ _).alloc (Nat.le_refl _) _).alloc (by simp) _).alloc (by simp; omega) _, by simp⟩
end Go.Proofs.Ytghddmlndafefaa
