/-
  slices.Clone of diagnostics; frame.ReadResponse.
-/
import Derived.Test.YtifdkkkcecpjoaaFrJ
namespace Go.Proofs.Ytifdkkkcecpjoaa
open Go.RowKit
attribute [local go_sem ↓] Go.wp_at_zero Go.wp_at_succ

theorem info57 : (Try.prog.info? 57).map (fun i => (i.zero, i.size, i.bytes)) = some (some (.agg #[.string ⟨#[]⟩, .int .i64 0, .int .i64 0]), 3, 32) := by kernel_rfl

def DiagsEnd (l : List Dg) (w : World) (e : Ending) (w' : World) : Prop := ∃ A c, e = .returned (.slice A l.length c) ∧ w'.ownsRow w.heap.size 57 3 (.slice A l.length c) l.length (dcells l) ∧ Below w.heap.size w w'

theorem own_slice {w : World} {base n size : Nat} {e : TypeId} {v : Value} {xs : List Value} (h : w.ownsRow base e size v n xs) : ∃ A c, v = .slice A n c := by
  rcases h.2 with ⟨rfl, h0⟩ | ⟨g, cap, cur, rfl, _⟩
  · subst h0; exact ⟨_, _, rfl⟩
  · exact ⟨_, _, rfl⟩

set_option maxRecDepth 100000 in
set_option maxHeartbeats 400000 in
theorem dclone_any {w : World} {base N : Nat} {v : Value} {l : List Dg} (hN : N = l.length) (h : w.ownsRow base 57 3 v N (dcells l)) (hl : l.length ≤ 100000) :
    Calls Try.prog 48 #[v] w (DiagsEnd l w) := by
  obtain ⟨i57, hi, hz, hy, hx⟩ := info_parts info57
  rcases h.2 with ⟨rfl, h0⟩ | ⟨g, cap, cur, rfl, _⟩
  · subst h0
    obtain rfl : l = [] := List.eq_nil_of_length_eq_zero hN.symm
    clear hN h hl
    have hrun := fun w => Lib.run_eql_slice_nil (P := Try.prog) w 40 57 none 0 0 0 0 Try.underlying40
    go_enter Try.func48, Try.ntmps48
    go_wp2_with fail
    go_ret
    exact ⟨_, _, rfl, World.ownsRow_nil _ _ _ _, Below.refl _ _⟩
  · have hrun := fun w => Lib.run_eql_slice_nil (P := Try.prog) w 40 57 (some ⟨g, 0, none⟩) N cap 0 0 Try.underlying40
    have hown : (w.alloc (.cells #[] 57)).ownsRow w.heap.size 57 3 (.slice (some ⟨w.heap.size, 0, none⟩) 0 0) 0 [] := World.ownsRow_made w #[] 0 (Nat.le_refl _) (Nat.zero_le _) rfl
    have hlt : g < w.heap.size := by
      rcases h.2 with ⟨h1, _⟩ | ⟨g', cap', cur', h1, _, hh, _⟩
      · cases h1
      · cases h1; exact (Array.getElem?_eq_some_iff.1 hh).1
    have hnews : ∀ j u, (dcells l)[j]? = some u → (w.alloc (.cells #[] 57)).cell? ((⟨g, 0, none⟩ : Addr).add j) = some u := fun j u hu => by
      have h1 := h.cells (g := g) rfl j u hu
      rw [← h1]
      exact World.cell?_of_block (by rw [Addr.add_lit]; exact Below.heap_alloc _ _ _ hlt)
    have HN := Lib.hid hN
    have HH := Lib.hid h
    have hcl : (dcells l).length = N * 3 := h.1
    have HCL := Lib.hid hcl
    have hN' : N ≤ 100000 := by omega
    clear hN h hcl
    go_enter Try.func48, Try.ntmps48
    go_wp2_with (at_builtin; refine wpList_append_own _ rfl _ _ 40 rfl w.heap.size 57 i57 _ 3 32 Try.underlying40 hi hz hy hx rfl (by decide) _ 0 [] rfl hown ⟨g, 0, none⟩ N cap (dcells l) rfl HCL.out hnews (dcells_one l) (by unfold maxLen; omega) (by omega) (by simp) ?_; intro v' w1 hown' hgrow _)
    go_ret
    rw [Nat.zero_add, List.nil_append] at hown'
    have e := HN.out
    subst e
    obtain ⟨A', c', rfl⟩ := own_slice hown'
    exact ⟨A', c', rfl, hown', ((Below.refl w.heap.size w).alloc (Nat.le_refl _) _).grown hgrow (by simp) (by intro k hk; cases hk; exact Nat.le_refl _)⟩
end Go.Proofs.Ytifdkkkcecpjoaa
