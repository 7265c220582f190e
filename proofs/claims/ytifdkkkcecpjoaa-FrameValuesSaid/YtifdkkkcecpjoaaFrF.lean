/-
  line.Word: which words may be.
-/
import Derived.Test.YtifdkkkcecpjoaaFrE
namespace Go.Proofs.Ytifdkkkcecpjoaa
open Go.RowKit
attribute [local go_sem ↓] Go.wp_at_zero Go.wp_at_succ

theorem bl_cons {s : ByteArray} (h : 0 < s.size) : ∃ l, bl s = s[0] :: l ∧ l.length = s.size - 1 ∧ bl (s.extract 1 s.size) = l := by
  have hl := bl_length s
  have e : (bl s)[0]? = some s[0] := by simp [bl, h]; rfl
  cases hb : bl s with
  | nil => rw [hb] at hl; simp at hl; omega
  | cons c l =>
    rw [hb] at e hl
    simp at e hl
    refine ⟨l, by rw [e], by omega, ?_⟩
    have : bl (s.extract 1 s.size) = (bl s).drop 1 := by
      simp [bl]
      rw [List.take_of_length_le (by simp)]
    rw [this, hb]; rfl

theorem ne_dec (q n : Nat) (h : 0 < n) : ((q : Int) != (n : Int) - 1) = !decide (q = n - 1) := by
  rw [Bool.eq_iff_iff]; simp; omega
theorem ret_bool {a b : Bool} (h : a = b) : Ending.returned (.bool a) = .returned (.bool b) := by rw [h]

set_option maxHeartbeats 800000 in
set_option maxRecDepth 100000 in
theorem word_any (s : ByteArray) (w : World) (hs : s.size ≤ maxLen) :
    Calls Try.prog 54 #[.string s] w fun e w' => e = .returned (.bool (isWord (bl s))) ∧ w = w' := by
  have HS := Lib.hid hs
  unfold maxLen at hs
  by_cases h0 : s.size = 0
  · obtain rfl : s = ⟨#[]⟩ := ByteArray.ext (Array.eq_empty_of_size_eq_zero h0)
    go_enter Try.func54, Try.ntmps54
    go_wp2_with fail
    go_ret
    exact ⟨rfl, rfl⟩
  · have hp : 0 < s.size := by omega
    have he : s.toList.isEmpty = false := by
      rw [Go.ByteArray.toList_eq]; cases hb : s.data.toList with
      | nil => exfalso; have := bl_length s; rw [bl, hb] at this; simp at this; omega
      | cons _ _ => rfl
    obtain ⟨l, hl, hll, hx⟩ := bl_cons hp
    have HL := Lib.hid hl
    have HX := Lib.hid hx
    have HLL := Lib.hid hll
    clear hl hx hll
    by_cases h12 : 12 < s.size
    · have h12' : (12 : Int) < (s.size : Int) := by omega
      have HE : Hid (isWord (bl s) = false) := by
        show _ = _
        have := HLL.out
        have h' : ¬ l.length ≤ 11 := by omega
        rw [HL.out]; simp [isWord, h']
      go_enter Try.func54, Try.ntmps54
      go_wp2_with fail
      go_ret
      exact ⟨ret_bool HE.out.symm, rfl⟩
    · have h12' : (s.size : Int) ≤ 12 := by omega
      cases hd : isDigit s[0] with
      | true =>
        have HE : Hid (isWord (bl s) = false) := by
          show _ = _
          rw [HL.out]; simp [isWord, hd]
        have HD := Lib.hid hd
        clear hd
        go_enter Try.func54, Try.ntmps54
        go_wp2_with (go_at_call 68; (with_reducible refine (digit_any _ _).mono ?_); rintro e w' ⟨rfl, rfl⟩; rw [HD.out])
        go_ret
        exact ⟨ret_bool HE.out.symm, rfl⟩
      | false =>
        have HD := Lib.hid hd
        clear hd
        have hfl := frontOf_le isInner (bl s)
        rw [bl_length] at hfl
        by_cases hin : frontOf isInner (bl s) = s.size
        · have hall : (bl s).all isInner = true := (frontOf_all _ _).1 (by rw [hin, bl_length])
          have hin' : isInner s[0] = true ∧ l.all isInner = true := by
            rw [HL.out, List.all_cons, Bool.and_eq_true] at hall; exact hall
          have HW : Hid (isWord (bl s) = (decide (s[0].toNat ≠ 114) || decide (s.size = 1) || !(l.all isDigit))) := by
            show _ = _
            have h1 := HLL.out
            have h2 : l.length ≤ 11 := by omega
            have h3 : l.isEmpty = decide (s.size = 1) := by
              cases l with
              | nil => simp at h1; simp; omega
              | cons _ _ => simp at h1; simp; omega
            rw [HL.out, isWord, HD.out, hin'.1, hin'.2, h3]; simp [h2]
          have HIN := Lib.hid hin
          clear hin hall hin'
          by_cases hr : s[0].toNat = 114
          · have hr' : ((s[0].toNat : Int) != 114) = false := by simp; omega
            by_cases h1 : s.size = 1
            · have HR : Hid (isWord (bl s) = true) := by show _ = _; rw [HW.out]; simp [h1]
              clear hr
              have h1' : ((s.size : Int) == 1) = true := by simp; omega
              have H1 := Lib.hid h1
              clear h1
              go_enter Try.func54, Try.ntmps54
              go_wp2_with (first | (go_at_call 68; (with_reducible refine (digit_any _ _).mono ?_); rintro e w' ⟨rfl, rfl⟩; rw [HD.out]) | (go_at_call 69; (with_reducible refine (front70 s _ HS.out).mono ?_); rintro e w' ⟨rfl, rfl⟩; rw [HIN.out]))
              go_ret
              exact ⟨ret_bool HR.out.symm, rfl⟩
            · have h1' : ((s.size : Int) == 1) = false := by simp; omega
              have HR : Hid (isWord (bl s) = !(l.all isDigit)) := by show _ = _; rw [HW.out]; simp [h1, hr]
              have HF : Hid (decide (frontOf isDigit (bl (s.extract 1 s.size)) = s.size - 1) = l.all isDigit) := by
                show _ = _
                have := frontOf_all isDigit l
                rw [HLL.out] at this
                rw [HX.out, Bool.eq_iff_iff, decide_eq_true_iff]
                exact this
              have hs2 : (s.extract 1 s.size).size ≤ maxLen := by have := HS.out; simp; omega
              have hfl2 := frontOf_le isDigit (bl (s.extract 1 s.size))
              clear hr
              go_enter Try.func54, Try.ntmps54
              go_wp2_with (first | (go_at_call 68; (with_reducible refine (digit_any _ _).mono ?_); rintro e w' ⟨rfl, rfl⟩; rw [HD.out]) | (go_at_call 69; (with_reducible refine (front70 s _ HS.out).mono ?_); rintro e w' ⟨rfl, rfl⟩; rw [HIN.out]) | (go_at_call 69; (with_reducible refine (front68 (s.extract 1 s.size) _ hs2).mono ?_); rintro e w' ⟨rfl, rfl⟩))
              go_ret
              refine ⟨ret_bool ?_, rfl⟩
              rw [HR.out, ← HF.out]
              exact ne_dec _ _ hp
          · have hr' : ((s[0].toNat : Int) != 114) = true := by simp; omega
            have HR : Hid (isWord (bl s) = true) := by show _ = _; rw [HW.out]; simp [hr]
            clear hr
            go_enter Try.func54, Try.ntmps54
            go_wp2_with (first | (go_at_call 68; (with_reducible refine (digit_any _ _).mono ?_); rintro e w' ⟨rfl, rfl⟩; rw [HD.out]) | (go_at_call 69; (with_reducible refine (front70 s _ HS.out).mono ?_); rintro e w' ⟨rfl, rfl⟩; rw [HIN.out]))
            go_ret
            exact ⟨ret_bool HR.out.symm, rfl⟩
        · have HE : Hid (isWord (bl s) = false) := by
            show _ = _
            cases hw : isWord (bl s) with
            | false => rfl
            | true =>
              exfalso
              apply hin
              rw [← bl_length s]
              refine (frontOf_all _ _).2 ?_
              rw [HL.out] at hw ⊢
              simp only [isWord, Bool.and_eq_true] at hw
              rw [List.all_cons, hw.1.1.2, hw.1.2]; rfl
          have hlt : ((frontOf isInner (bl s) : Int) != (s.size : Int)) = true := by simp; omega
          clear hfl hin
          go_enter Try.func54, Try.ntmps54
          go_wp2_with (first | (go_at_call 68; (with_reducible refine (digit_any _ _).mono ?_); rintro e w' ⟨rfl, rfl⟩; rw [HD.out]) | (go_at_call 69; (with_reducible refine (front70 s _ HS.out).mono ?_); rintro e w' ⟨rfl, rfl⟩))
          go_ret
          exact ⟨ret_bool HE.out.symm, rfl⟩
end Go.Proofs.Ytifdkkkcecpjoaa
