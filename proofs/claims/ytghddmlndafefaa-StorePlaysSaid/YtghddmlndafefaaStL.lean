/-
  store.gone and store.Clean: contracts.
-/
import Derived.Test.YtghddmlndafefaaStK
import Derived.Test.YtghddmlndafefaaIter
namespace Go.Proofs.Ytghddmlndafefaa
open Go.RowKit Go.Maps
attribute [local go_sem ↓] Go.wp_at_zero Go.wp_at_succ

theorem leadN_at {l : List Ver} {low k : Nat} (hk : k ≤ leadN l low) {u : Ver} (hu : l[k]? = some u) : (u.at_ ≤ low ↔ k < leadN l low) := by
  induction l generalizing k with
  | nil => simp at hu
  | cons v l ih =>
    by_cases hv : v.at_ ≤ low
    · rw [leadN_cons_pos hv] at hk ⊢
      cases k with
      | zero => simp at hu; subst hu; simp [hv]
      | succ k => simp at hu; rw [ih (by omega) hu]; omega
    · rw [leadN_cons_neg hv] at hk ⊢
      obtain rfl : k = 0 := by omega
      simp at hu; subst hu; simp; omega

set_option maxRecDepth 100000 in
set_option maxHeartbeats 800000 in
theorem gone_row (g cap : Nat) (low : Nat) (l : List Ver) (w : World) (hl : l.length ≤ 10000)
    (hc : ∀ i u, l[i]? = some u → w.cell? ⟨g, i * 4 + 2, none⟩ = some (.bool u.gone) ∧ w.cell? ⟨g, i * 4 + 3, none⟩ = some (.int .i64 u.at_)) :
    Calls Try.prog 43 #[.slice (some ⟨g, 0, none⟩) l.length cap, .int .i64 low] w (RetI (goneN l low : Nat) w) := by
  have hle := leadN_le l low
  go_enter Try.func43, Try.ntmps43
  go_wp2
  go_loop [5] (fun i => ∃ j : Nat, j ≤ leadN l low ∧ i = .int .i64 j) (fun i => l.length - (intOf i).toNat)
  case atStart => exact ⟨0, Nat.zero_le _, rfl⟩
  case round =>
    obtain ⟨j, hj, rfl⟩ := hrel
    by_cases hlt : j < l.length
    · obtain ⟨u, hu⟩ : ∃ u, l[j]? = some u := ⟨l[j], List.getElem?_eq_getElem hlt⟩
      have c3 := (hc j u hu).2
      have hit := leadN_at hj hu
      by_cases hat : u.at_ ≤ low
      · have hj2 := hit.1 hat
        have hat' : (u.at_ : Int) ≤ (low : Int) := by omega
        clear hc hu hit
        go_wp2
        go_round
        case rel => exact ⟨j + 1, by omega, by go_num⟩
        case measure => simp [intOf]; omega
      · have hj2 : j = leadN l low := by have := fun h => hat (hit.2 h); omega
        have hat' : ¬ (u.at_ : Int) ≤ (low : Int) := by omega
        by_cases h0 : j = 0
        · subst h0
          have HG : Hid (goneN l low = 0) := goneN_zero hj2.symm
          clear hc hu hit hj2
          go_wp2
          go_ret
          exact ⟨ret_int (by rw [HG.out]; rfl), rfl⟩
        · obtain ⟨u', hu'⟩ : ∃ u', l[j - 1]? = some u' := ⟨l[j - 1], List.getElem?_eq_getElem (by omega)⟩
          have c2 := (hc (j - 1) u' hu').1
          have HG : Hid (goneN l low = if u'.gone = false then j - 1 else j) := by
            show goneN l low = _
            unfold goneN
            rw [← hj2, hu']
            by_cases hg : u'.gone = false <;> simp [hg]; omega
          have hjp : 0 < j := by omega
          obtain ⟨i, rfl⟩ : ∃ i, j = i + 1 := ⟨j - 1, by omega⟩
          simp only [Nat.add_sub_cancel] at c2 HG
          clear hc hu hit hj2 hu' h0
          cases hg : u'.gone
          · rw [hg] at c2
            go_wp2
            go_ret
            exact ⟨ret_int (by rw [HG.out, if_pos hg]), rfl⟩
          · rw [hg] at c2
            go_wp2
            go_ret
            exact ⟨ret_int (by rw [HG.out, if_neg (by simp [hg])]; simp), rfl⟩
    · have hj2 : j = leadN l low := by omega
      by_cases h0 : j = 0
      · subst h0
        have HG : Hid (goneN l low = 0) := goneN_zero hj2.symm
        clear hc hj2
        go_wp2
        go_ret
        exact ⟨ret_int (by rw [HG.out]; rfl), rfl⟩
      · obtain ⟨u', hu'⟩ : ∃ u', l[j - 1]? = some u' := ⟨l[j - 1], List.getElem?_eq_getElem (by omega)⟩
        have c2 := (hc (j - 1) u' hu').1
        have HG : Hid (goneN l low = if u'.gone = false then j - 1 else j) := by
          show goneN l low = _
          unfold goneN
          rw [← hj2, hu']
          by_cases hg : u'.gone = false <;> simp [hg]; omega
        have hjp : 0 < j := by omega
        obtain ⟨i, rfl⟩ : ∃ i, j = i + 1 := ⟨j - 1, by omega⟩
        simp only [Nat.add_sub_cancel] at c2 HG
        clear hc hj2 hu' h0
        cases hg : u'.gone
        · rw [hg] at c2
          go_wp2
          go_ret
          exact ⟨ret_int (by rw [HG.out, if_pos hg]), rfl⟩
        · rw [hg] at c2
          go_wp2
          go_ret
          exact ⟨ret_int (by rw [HG.out, if_neg (by simp [hg])]; simp), rfl⟩

theorem gone_nil (low : Nat) (w : World) : Calls Try.prog 43 #[nilS, .int .i64 low] w (RetI (goneN [] low : Nat) w) := by
  unfold nilS
  go_enter Try.func43, Try.ntmps43
  go_wp2
  refine wp_loop_rounds 1 ?_; rw [rounds_succ]
  go_wp2
  go_ret
  exact ⟨rfl, rfl⟩

theorem gone_any {w : World} {v : Value} {l : List Ver} (h : RowIs w v l) (low : Nat) (hl : l.length ≤ 10000) : Calls Try.prog 43 #[v, .int .i64 low] w (RetI (goneN l low : Nat) w) := by
  rcases h with ⟨rfl, rfl⟩ | ⟨g, cap, rfl, hc⟩
  · exact gone_nil low w
  · exact gone_row g cap low l w hl (fun i u hu => ⟨(hc i u hu).2.2.1, (hc i u hu).2.2.2⟩)
end Go.Proofs.Ytghddmlndafefaa
