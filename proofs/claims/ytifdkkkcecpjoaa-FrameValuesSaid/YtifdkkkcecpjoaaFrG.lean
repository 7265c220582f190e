/-
  work.Right: which requests may be.
-/
import Derived.Test.YtifdkkkcecpjoaaFrF
namespace Go.Proofs.Ytifdkkkcecpjoaa
open Go.RowKit
attribute [local go_sem ↓] Go.wp_at_zero Go.wp_at_succ

theorem wwrites_any (k : Int) (w : World) : Calls Try.prog 55 #[.int .i64 k] w fun e w' => e = .returned (.bool (writesB k)) ∧ w = w' := by
  by_cases h1 : k = 1
  · subst h1
    go_enter Try.func55, Try.ntmps55
    go_wp2_with fail
    go_ret
    exact ⟨rfl, rfl⟩
  · have e1 : (k == 1) = false := by simpa using h1
    have e2 : writesB k = decide (k = 3) := by simp [writesB, h1]
    rw [e2]
    go_enter Try.func55, Try.ntmps55
    go_wp2_with fail
    go_ret
    exact ⟨by by_cases h : k = 3 <;> simp [h], rfl⟩
theorem value_cases (x k : Int) : (x < -1099511627776 ∧ (decide (-1099511627776 ≤ x) && decide (x ≤ 1099511627776) && (decide (x = 0) || decide (k = 5))) = false) ∨
    (-1099511627776 ≤ x ∧ 1099511627776 < x ∧ (decide (-1099511627776 ≤ x) && decide (x ≤ 1099511627776) && (decide (x = 0) || decide (k = 5))) = false) ∨
    (x = 0 ∧ (decide (-1099511627776 ≤ x) && decide (x ≤ 1099511627776) && (decide (x = 0) || decide (k = 5))) = true) ∨
    (-1099511627776 ≤ x ∧ x ≤ 1099511627776 ∧ (x == 0) = false ∧ (decide (-1099511627776 ≤ x) && decide (x ≤ 1099511627776) && (decide (x = 0) || decide (k = 5))) = decide (k = 5)) := by
  by_cases h1 : x < -1099511627776
  · left; exact ⟨h1, by simp; omega⟩
  · by_cases h2 : 1099511627776 < x
    · right; left; exact ⟨by omega, h2, by simp; omega⟩
    · by_cases h3 : x = 0
      · right; right; left; exact ⟨h3, by subst h3; simp⟩
      · right; right; right; exact ⟨by omega, by omega, by simpa using h3, by
          have a : decide (-1099511627776 ≤ x) = true := by simp; omega
          have b : decide (x ≤ 1099511627776) = true := by simp; omega
          rw [a, b]; simp [h3]⟩
theorem wdefines_any (k : Int) (w : World) : Calls Try.prog 56 #[.int .i64 k] w fun e w' => e = .returned (.bool (decide (k = 5))) ∧ w = w' := by
  go_enter Try.func56, Try.ntmps56
  go_wp2_with fail
  go_ret
  exact ⟨by by_cases h : k = 5 <;> simp [h], rfl⟩

def RightEnd (b : Bool) (w : World) (e : Ending) (w' : World) : Prop := e = .returned (.bool b) ∧ Below w.heap.size w w'

set_option maxRecDepth 100000 in
set_option maxHeartbeats 1600000 in
theorem right_any (k : Int) (nm t : ByteArray) (x : Int) (w : World) (h1 : nm.size ≤ maxLen) :
    Calls Try.prog 37 #[rqv k nm t x] w (RightEnd (rqOfV k nm t x).right w) := by
  unfold rqv
  by_cases hk : k < 1
  · have HE : Hid ((rqOfV k nm t x).right = false) := by show _ = _; unfold Rq.right; rw [if_pos (.inl hk)]
    go_enter Try.func37, Try.ntmps37
    go_wp2_with fail
    go_ret
    exact ⟨ret_bool HE.out.symm, (Below.refl _ _).alloc (Nat.le_refl _) _⟩
  · by_cases hk7 : 7 < k
    · have HE : Hid ((rqOfV k nm t x).right = false) := by show _ = _; unfold Rq.right; rw [if_pos (.inr hk7)]
      go_enter Try.func37, Try.ntmps37
      go_wp2_with fail
      go_ret
      exact ⟨ret_bool HE.out.symm, (Below.refl _ _).alloc (Nat.le_refl _) _⟩
    · by_cases hb : k = 7
      · subst hb
        have HE : Hid ((rqOfV 7 nm t x).right = (decide (nm.toList = []) && decide (t.toList = []) && decide (x = 0))) := by
          show _ = _
          unfold Rq.right
          rw [if_neg (by simp [rqOfV]), if_pos (show (rqOfV 7 nm t x).kind = 7 from rfl), Go.ByteArray.toList_eq, Go.ByteArray.toList_eq, Bool.eq_iff_iff]
          simp [rqOfV, bl, and_assoc]
        go_enter Try.func37, Try.ntmps37
        go_wp2_with fail
        all_goals
          go_ret
          exact ⟨ret_bool (by first | (rw [HE.out]; simp [*]; done) | (rename_i hx0; rw [hx0] at HE; rw [HE.out]; simp [*])), (Below.refl _ _).alloc (Nat.le_refl _) _⟩
      · have hb' : (k == 7) = false := by simpa using hb
        have HE : Hid ((rqOfV k nm t x).right = (isWord (bl nm) && decide (t.size ≤ 600) && (t.toList.isEmpty || writesB k) && decide (-1099511627776 ≤ x) && decide (x ≤ 1099511627776) && (decide (x = 0) || decide (k = 5)))) := by
          show _ = _
          unfold Rq.right
          rw [if_neg (by simp [rqOfV]; omega), if_neg (show ¬ (rqOfV k nm t x).kind = 7 from hb), Go.ByteArray.toList_eq]
          simp only [rqOfV, bl_length]
          rfl
        have hb := ((Below.refl w.heap.size w).alloc (Nat.le_refl _) (.cells #[.int .i64 k, .string nm, .string t, .int .i64 x] 27))
        cases hw : isWord (bl nm) with
        | false =>
          have HR : Hid ((rqOfV k nm t x).right = false) := by show _ = _; rw [HE.out, hw]; rfl
          have HW := Lib.hid hw
          clear hw HE
          go_enter Try.func37, Try.ntmps37
          go_wp2_with (go_at_call 54; (with_reducible refine (word_any nm _ h1).mono ?_); rintro e w' ⟨rfl, rfl⟩; rw [HW.out])
          go_ret
          exact ⟨ret_bool HR.out.symm, hb⟩
        | true =>
          have HW := Lib.hid hw
          by_cases h6 : 600 < t.size
          · have HR : Hid ((rqOfV k nm t x).right = false) := by show _ = _; rw [HE.out]; simp; omega
            have h6' : (600 : Int) < (t.size : Int) := by omega
            clear hw HE
            go_enter Try.func37, Try.ntmps37
            go_wp2_with (go_at_call 54; (with_reducible refine (word_any nm _ h1).mono ?_); rintro e w' ⟨rfl, rfl⟩; rw [HW.out])
            go_ret
            exact ⟨ret_bool HR.out.symm, hb⟩
          · have h6' : (t.size : Int) ≤ 600 := by omega
            have h6d : decide (t.size ≤ 600) = true := by simpa using h6
            cases he : t.toList.isEmpty with
            | false =>
              have HK := Lib.hid (wwrites_any k)
              cases hwk : writesB k with
              | false =>
                have HR : Hid ((rqOfV k nm t x).right = false) := by show _ = _; rw [HE.out, he, hwk]; simp
                have HV := Lib.hid hwk
                clear hw HE hwk h6d
                go_enter Try.func37, Try.ntmps37
                go_wp2_with (first | (go_at_call 54; (with_reducible refine (word_any nm _ h1).mono ?_); rintro e w' ⟨rfl, rfl⟩; rw [HW.out]) | (go_at_call 55; (with_reducible refine (wwrites_any k _).mono ?_); rintro e w' ⟨rfl, rfl⟩; rw [HV.out]))
                go_ret
                exact ⟨ret_bool HR.out.symm, hb⟩
              | true =>
                have HR : Hid ((rqOfV k nm t x).right = (decide (-1099511627776 ≤ x) && decide (x ≤ 1099511627776) && (decide (x = 0) || decide (k = 5)))) := by show _ = _; rw [HE.out, he, hwk, hw, h6d]; rfl
                have HV := Lib.hid hwk
                clear hw HE hwk h6d
                rcases value_cases x k with ⟨d1, hv⟩ | ⟨d1, d2, hv⟩ | ⟨rfl, hv⟩ | ⟨d1, d2, d3, hv⟩
                all_goals
                  rw [hv] at HR
                  clear hv
                  go_enter Try.func37, Try.ntmps37
                  go_wp2_with (first | (go_at_call 54; (with_reducible refine (word_any nm _ h1).mono ?_); rintro e w' ⟨rfl, rfl⟩; rw [HW.out]) | (go_at_call 55; (with_reducible refine (wwrites_any k _).mono ?_); rintro e w' ⟨rfl, rfl⟩; rw [HV.out]) | (go_at_call 56; (with_reducible refine (wdefines_any k _).mono ?_); rintro e w' ⟨rfl, rfl⟩))
                  go_ret
                  exact ⟨ret_bool HR.out.symm, hb⟩
            | true =>
              have HR : Hid ((rqOfV k nm t x).right = (decide (-1099511627776 ≤ x) && decide (x ≤ 1099511627776) && (decide (x = 0) || decide (k = 5)))) := by show _ = _; rw [HE.out, he, hw, h6d]; rfl
              clear hw HE h6d
              rcases value_cases x k with ⟨d1, hv⟩ | ⟨d1, d2, hv⟩ | ⟨rfl, hv⟩ | ⟨d1, d2, d3, hv⟩
              all_goals
                rw [hv] at HR
                clear hv
                go_enter Try.func37, Try.ntmps37
                go_wp2_with (first | (go_at_call 54; (with_reducible refine (word_any nm _ h1).mono ?_); rintro e w' ⟨rfl, rfl⟩; rw [HW.out]) | (go_at_call 56; (with_reducible refine (wdefines_any k _).mono ?_); rintro e w' ⟨rfl, rfl⟩))
                go_ret
                exact ⟨ret_bool HR.out.symm, hb⟩
end Go.Proofs.Ytifdkkkcecpjoaa
