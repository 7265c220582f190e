/-
  line.Word and work.Right: which words may be, which requests may be.
-/
import Derived.Test.YtifdkkkcecpjoaaFrD
namespace Go.Proofs.Ytifdkkkcecpjoaa
open Go.RowKit
attribute [local go_sem ↓] Go.wp_at_zero Go.wp_at_succ

theorem digit_any (c : UInt8) (w : World) : Calls Try.prog 68 #[.int .u8 (c.toNat : Int)] w fun e w' => e = .returned (.bool (isDigit c)) ∧ w = w' := by
  by_cases h1 : 48 ≤ c.toNat
  · have e : isDigit c = decide (c.toNat ≤ 57) := by simp [isDigit, h1]
    rw [e]
    have h1' : (48 : Int) ≤ (c.toNat : Int) := by omega
    clear e
    go_enter Try.func68, Try.ntmps68
    go_wp2_with fail
    go_ret
    exact ⟨by congr 2; simp; omega, rfl⟩
  · have e : isDigit c = false := by simp [isDigit, h1]
    rw [e]
    clear e
    have h1' : (c.toNat : Int) < 48 := by omega
    go_enter Try.func68, Try.ntmps68
    go_wp2_with fail
    go_ret
    exact ⟨rfl, rfl⟩

theorem inner_any (c : UInt8) (w : World) : Calls Try.prog 70 #[.int .u8 (c.toNat : Int)] w fun e w' => e = .returned (.bool (isInner c)) ∧ w = w' := by
  by_cases h1 : 97 ≤ c.toNat ∧ c.toNat ≤ 122
  · obtain ⟨h1, h2⟩ := h1
    have e : isInner c = true := by simp [isInner, h1, h2]
    rw [e]
    clear e
    have h1' : (97 : Int) ≤ (c.toNat : Int) := by omega
    have h2' : (c.toNat : Int) ≤ 122 := by omega
    go_enter Try.func70, Try.ntmps70
    go_wp2_with fail
    go_ret
    exact ⟨rfl, rfl⟩
  · by_cases h3 : c.toNat = 95
    · have e : isInner c = true := by simp [isInner, h3]
      rw [e]
      clear e
      have h3' : (c.toNat : Int) = 95 := by omega
      rw [h3']
      clear h3' h3 h1
      go_enter Try.func70, Try.ntmps70
      go_wp2_with fail
      go_ret
      exact ⟨rfl, rfl⟩
    · have e : isInner c = isDigit c := by
        unfold isInner
        have : (decide (97 ≤ c.toNat) && decide (c.toNat ≤ 122)) = false := by simpa using h1
        rw [this]; simp [h3]
      rw [e]
      clear e
      have h3' : ((c.toNat : Int) == 95) = false := by simp; omega
      by_cases h4 : 97 ≤ c.toNat
      · have h5 : decide ((c.toNat : Int) ≤ 122) = false := by simp; omega
        have h4' : (97 : Int) ≤ (c.toNat : Int) := by omega
        clear h1
        go_enter Try.func70, Try.ntmps70
        go_wp2_with (go_at_call 68; refine (digit_any c _).mono ?_; rintro e w' ⟨rfl, rfl⟩)
        go_ret
        exact ⟨rfl, rfl⟩
      · have h4' : (c.toNat : Int) < 97 := by omega
        clear h1
        go_enter Try.func70, Try.ntmps70
        go_wp2_with (go_at_call 68; refine (digit_any c _).mono ?_; rintro e w' ⟨rfl, rfl⟩)
        go_ret
        exact ⟨rfl, rfl⟩

theorem takeWhile_all {f : UInt8 → Bool} : ∀ {l : List UInt8}, l.all f = true → l.takeWhile f = l
  | [], _ => rfl
  | c :: l, h => by
    simp only [List.all_cons, Bool.and_eq_true] at h
    rw [List.takeWhile_cons, h.1, takeWhile_all h.2]; rfl
/-- How many at the begin are of a kind. -/
def frontOf (f : UInt8 → Bool) (l : List UInt8) : Nat := (l.takeWhile f).length

set_option maxHeartbeats 400000 in
theorem front70 (s : ByteArray) (w : World) (hs : s.size ≤ maxLen) :
    Calls Try.prog 69 #[.string s, .func (.func 70) #[] #[]] w fun e w' => e = .returned (.int .i64 (frontOf isInner (bl s))) ∧ w = w' := by
  unfold maxLen at hs
  go_enter Try.func69, Try.ntmps69
  go_wp2_with fail
  go_loop [5] (fun i => ∃ j : Nat, j ≤ s.size ∧ i = .int .i64 j ∧ Hid (((bl s).take j).all isInner = true)) (fun i => s.size - (intOf i).toNat)
  case atStart => exact ⟨0, Nat.zero_le _, rfl, by simp [Hid]⟩
  case round =>
    obtain ⟨j, hj, rfl, hall⟩ := hrel
    by_cases hlt : j < s.size
    · have hg : (bl s)[j]? = some s[j] := by simp [bl, hlt]; rfl
      cases hfx : isInner s[j] with
      | true =>
        have HX : Hid (((bl s).take (j + 1)).all isInner = true) := by
          show _ = _
          rw [List.take_add_one, hg, List.all_append, hall.out]
          simpa using hfx
        have HF := Lib.hid hfx
        clear hfx hg
        go_wp2_with (go_at_call 70; refine (inner_any s[j] _).mono ?_; rintro e w' ⟨rfl, rfl⟩; rw [HF.out])
        go_round
        case rel => exact ⟨j + 1, by omega, by go_num, HX⟩
        case measure => simp [intOf]; omega
      | false =>
        have HX : Hid (frontOf isInner (bl s) = j) := by
          show _ = _
          have e : bl s = (bl s).take j ++ s[j] :: (bl s).drop (j + 1) := by
            conv => lhs; rw [← List.take_append_drop j (bl s), List.drop_eq_getElem_cons (by simpa [bl] using hlt)]
            rfl
          unfold frontOf
          conv => lhs; rw [e]
          rw [List.takeWhile_append_of_pos (by simpa using hall.out), List.takeWhile_cons, hfx]
          simp [bl]; omega
        have HF := Lib.hid hfx
        clear hfx hg
        go_wp2_with (go_at_call 70; refine (inner_any s[j] _).mono ?_; rintro e w' ⟨rfl, rfl⟩; rw [HF.out])
        go_ret
        exact ⟨ret_int (by rw [HX.out]), rfl⟩
    · obtain rfl : j = s.size := by omega
      have HX : Hid (frontOf isInner (bl s) = s.size) := by
        show _ = _
        have e := hall.out
        rw [List.take_of_length_le (by simp [bl])] at e
        unfold frontOf
        rw [takeWhile_all e]
        simp [bl]
      go_wp2_with fail
      go_ret
      exact ⟨ret_int (by rw [HX.out]), rfl⟩

set_option maxHeartbeats 400000 in
theorem front68 (s : ByteArray) (w : World) (hs : s.size ≤ maxLen) :
    Calls Try.prog 69 #[.string s, .func (.func 68) #[] #[]] w fun e w' => e = .returned (.int .i64 (frontOf isDigit (bl s))) ∧ w = w' := by
  unfold maxLen at hs
  go_enter Try.func69, Try.ntmps69
  go_wp2_with fail
  go_loop [5] (fun i => ∃ j : Nat, j ≤ s.size ∧ i = .int .i64 j ∧ Hid (((bl s).take j).all isDigit = true)) (fun i => s.size - (intOf i).toNat)
  case atStart => exact ⟨0, Nat.zero_le _, rfl, by simp [Hid]⟩
  case round =>
    obtain ⟨j, hj, rfl, hall⟩ := hrel
    by_cases hlt : j < s.size
    · have hg : (bl s)[j]? = some s[j] := by simp [bl, hlt]; rfl
      cases hfx : isDigit s[j] with
      | true =>
        have HX : Hid (((bl s).take (j + 1)).all isDigit = true) := by
          show _ = _
          rw [List.take_add_one, hg, List.all_append, hall.out]
          simpa using hfx
        have HF := Lib.hid hfx
        clear hfx hg
        go_wp2_with (go_at_call 68; refine (digit_any s[j] _).mono ?_; rintro e w' ⟨rfl, rfl⟩; rw [HF.out])
        go_round
        case rel => exact ⟨j + 1, by omega, by go_num, HX⟩
        case measure => simp [intOf]; omega
      | false =>
        have HX : Hid (frontOf isDigit (bl s) = j) := by
          show _ = _
          have e : bl s = (bl s).take j ++ s[j] :: (bl s).drop (j + 1) := by
            conv => lhs; rw [← List.take_append_drop j (bl s), List.drop_eq_getElem_cons (by simpa [bl] using hlt)]
            rfl
          unfold frontOf
          conv => lhs; rw [e]
          rw [List.takeWhile_append_of_pos (by simpa using hall.out), List.takeWhile_cons, hfx]
          simp [bl]; omega
        have HF := Lib.hid hfx
        clear hfx hg
        go_wp2_with (go_at_call 68; refine (digit_any s[j] _).mono ?_; rintro e w' ⟨rfl, rfl⟩; rw [HF.out])
        go_ret
        exact ⟨ret_int (by rw [HX.out]), rfl⟩
    · obtain rfl : j = s.size := by omega
      have HX : Hid (frontOf isDigit (bl s) = s.size) := by
        show _ = _
        have e := hall.out
        rw [List.take_of_length_le (by simp [bl])] at e
        unfold frontOf
        rw [takeWhile_all e]
        simp [bl]
      go_wp2_with fail
      go_ret
      exact ⟨ret_int (by rw [HX.out]), rfl⟩

theorem frontOf_all (f : UInt8 → Bool) (l : List UInt8) : (frontOf f l = l.length) ↔ l.all f = true := by
  unfold frontOf
  constructor
  · intro h
    have e : l.takeWhile f = l := by
      have := List.takeWhile_prefix (p := f) (l := l)
      exact this.eq_of_length h
    rw [← e]
    exact List.all_takeWhile
  · intro h
    rw [takeWhile_all h]
theorem frontOf_le (f : UInt8 → Bool) (l : List UInt8) : frontOf f l ≤ l.length := (List.takeWhile_prefix _).length_le
end Go.Proofs.Ytifdkkkcecpjoaa
