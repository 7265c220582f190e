/-
  Whether two responses are the same.
-/
import Derived.Test.YtifdkkkcecpjoaaFrR
namespace Go.Proofs.Ytifdkkkcecpjoaa
open Go.RowKit
attribute [local go_sem ↓] Go.wp_at_zero Go.wp_at_succ

def RSameEnd (b : Bool) (w : World) (e : Ending) (w' : World) : Prop := e = .returned (.bool b) ∧ Below w.heap.size w w'

set_option maxRecDepth 100000 in
set_option maxHeartbeats 1600000 in
theorem same_any {w : World} {B B' iN iC dN dC jN jC eN eC : Nat} {iA dA jA eA : Option Addr} {img jmg : List UInt8} {ds es : List Dg} (x y : Int) (t u : ByteArray)
    (hi : Sl w B iA iN iC img) (hd : Sd w B dA dN ds) (hj : Sl w B' jA jN jC jmg) (he : Sd w B' eA eN es) (hB : B ≤ w.heap.size) (hB' : B' ≤ w.heap.size) (hdn : dN ≤ 100000) (hen : eN ≤ 100000) :
    Calls Try.prog 24 #[rsv x t iA iN iC dA dN dC, rsv y u jA jN jC eA eN eC] w (RSameEnd (decide ((⟨x, bl t, img, ds⟩ : Rs) = ⟨y, bl u, jmg, es⟩)) w) := by
  unfold rsv
  obtain ⟨W2, hW2⟩ : ∃ W2, W2 = (w.alloc (.cells #[.int .i64 x, .string t, .slice iA iN iC, .slice dA dN dC] 42)).alloc (.cells #[.int .i64 y, .string u, .slice jA jN jC, .slice eA eN eC] 42) := ⟨_, rfl⟩
  have b2 : Below w.heap.size w W2 := by rw [hW2]; exact ((Below.refl _ _).alloc (Nat.le_refl _) _).alloc (by simp) _
  have hi2 := hi.below (b2.mono hB)
  have hj2 := hj.below (b2.mono hB')
  have hd2 := hd.below (b2.mono hB)
  have he2 := he.below (b2.mono hB')
  have cv1 := sl_string hi2
  have cv2 := sl_string hj2
  rw [hW2] at cv1 cv2
  have HW2 := Lib.hid hW2
  clear hW2 hi hj hd he hi2 hj2
  by_cases hx : x = y
  · subst hx
    by_cases ht : t = u
    · subst ht
      by_cases hi : img = jmg
      · subst hi
        have HE : Hid (decide ((⟨x, bl t, img, ds⟩ : Rs) = ⟨x, bl t, img, es⟩) = decide (ds = es)) := by show _ = _; simp
        go_enter Try.func24, Try.ntmps24
        go_wp2_with fail
        rw [← HW2.out]
        refine (diags_any hd2 he2 hdn hen).mono ?_
        rintro e w3 ⟨rfl, k, rfl⟩
        go_wp2_with fail
        go_ret
        exact ⟨ret_bool HE.out.symm, below_drewN b2 _⟩
      · have HE : Hid (decide ((⟨x, bl t, img, ds⟩ : Rs) = ⟨x, bl t, jmg, es⟩) = false) := by show _ = _; simp [hi]
        have h1 : ((ba img).toList == (ba jmg).toList) = false := by
          simp only [beq_eq_false_iff_ne]
          exact fun e' => hi (ba_inj (ByteArray.ext (by rw [Go.ByteArray.toList_eq, Go.ByteArray.toList_eq] at e'; exact Array.ext' e')))
        clear hi
        go_enter Try.func24, Try.ntmps24
        go_wp2_with fail
        rw [← HW2.out]
        go_ret
        exact ⟨ret_bool HE.out.symm, b2⟩
    · have HE : Hid (decide ((⟨x, bl t, img, ds⟩ : Rs) = ⟨x, bl u, jmg, es⟩) = false) := by
        show _ = _
        have : bl t ≠ bl u := fun e => ht (by rw [← ba_bl t, ← ba_bl u, e])
        simp [this]
      have h1 : (t.toList == u.toList) = false := by
        simp only [beq_eq_false_iff_ne]
        exact fun e' => ht (ByteArray.ext (by rw [Go.ByteArray.toList_eq, Go.ByteArray.toList_eq] at e'; exact Array.ext' e'))
      clear ht
      go_enter Try.func24, Try.ntmps24
      go_wp2_with fail
      rw [← HW2.out]
      go_ret
      exact ⟨ret_bool HE.out.symm, b2⟩
  · have HE : Hid (decide ((⟨x, bl t, img, ds⟩ : Rs) = ⟨y, bl u, jmg, es⟩) = false) := by show _ = _; simp [hx]
    have h1 : (x == y) = false := by simpa using hx
    clear hx
    go_enter Try.func24, Try.ntmps24
    go_wp2_with fail
    rw [← HW2.out]
    go_ret
    exact ⟨ret_bool HE.out.symm, b2⟩
end Go.Proofs.Ytifdkkkcecpjoaa
