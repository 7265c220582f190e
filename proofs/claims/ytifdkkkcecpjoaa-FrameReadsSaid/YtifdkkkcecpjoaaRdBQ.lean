/-
  The reference's right: which requests may be.
-/
import Derived.Test.YtifdkkkcecpjoaaRdAQ
import Derived.Deep.QuietTactic
import Derived.BigQuiet
namespace Go.Proofs.Ytifdkkkcecpjoaa
set_option linter.unusedVariables false
set_option linter.unusedSimpArgs false
open Go.RowKit Go.Proofs.YtifdkkkcecpjoaaW Go.Proofs.YtifdkkkcecpjoaaW.PrintWords Tx
attribute [local go_sem ↓] Go.wp_at_zero Go.wp_at_succ
theorem right_no {k : Int} {nm t : ByteArray} {x : Int} (h : k < 1 ∨ 7 < k) : (rqOfV k nm t x).right = false := by
  unfold Rq.right; rw [if_pos (show (rqOfV k nm t x).kind < 1 ∨ 7 < (rqOfV k nm t x).kind from h)]
theorem right_7 (nm t : ByteArray) (x : Int) : (rqOfV 7 nm t x).right = (nm.toList.isEmpty && t.toList.isEmpty && (x == 0)) := by
  unfold Rq.right
  rw [if_neg (by show ¬ ((7 : Int) < 1 ∨ (7 : Int) < 7); omega), if_pos (show (rqOfV 7 nm t x).kind = 7 from rfl)]
  rw [Bool.eq_iff_iff]
  simp [rqOfV, bl, Go.ByteArray.toList_eq, and_assoc]
theorem right_w {k : Int} {nm t : ByteArray} {x : Int} (h1 : 1 ≤ k) (h7 : k ≤ 6) (hw : isWord (bl nm) = false) : (rqOfV k nm t x).right = false := by
  unfold Rq.right
  rw [if_neg (by show ¬ (k < 1 ∨ 7 < k); omega), if_neg (by show ¬ k = 7; omega)]
  show (isWord (bl nm) && _ && _ && _ && _ && _) = false
  rw [hw]; rfl
theorem right_k {k : Int} {nm t : ByteArray} {x : Int} (h1 : 1 ≤ k) (h7 : k ≤ 6) (hw : isWord (bl nm) = true) :
    (rqOfV k nm t x).right = (decide (t.size ≤ 600) && (t.toList.isEmpty || writesB k) && (if k = 5 then (decide (-1099511627776 ≤ x) && decide (x ≤ 1099511627776)) else (x == 0))) := by
  unfold Rq.right
  rw [if_neg (by show ¬ (k < 1 ∨ 7 < k); omega), if_neg (by show ¬ k = 7; omega)]
  show (isWord (bl nm) && decide ((bl t).length ≤ 600) && ((bl t).isEmpty || writesB k) && decide (-1099511627776 ≤ x) && decide (x ≤ 1099511627776) && (decide (x = 0) || decide (k = 5))) = _
  have e1 : (bl t).isEmpty = t.toList.isEmpty := by rw [Go.ByteArray.toList_eq]; rfl
  rw [hw, bl_length, e1]
  by_cases h5 : k = 5
  · subst h5
    simp [Bool.and_assoc]
  · by_cases hx : x = 0
    · subst hx; simp [h5]
    · simp [h5, hx]
set_option maxRecDepth 100000 in
set_option maxHeartbeats 3200000 in
theorem right42 (k : Int) (nm t : ByteArray) (x : Int) (w : World) (hs : nm.size ≤ 9000000000000000000) (ht : t.size ≤ 9000000000000000000) :
    Calls Try.prog 42 #[rqv k nm t x] w (RightEnd (rqOfV k nm t x).right w) := by
  unfold rqv
  obtain ⟨W1, hW1⟩ : ∃ W1, W1 = w.alloc (.cells #[.int .i64 k, .string nm, .string t, .int .i64 x] 27) := ⟨_, rfl⟩
  have b1 : Below w.heap.size w W1 := by rw [hW1]; exact below_alloc (Below.refl _ _) _
  have hq : W1.heap[w.heap.size]? = some (.cells #[.int .i64 k, .string nm, .string t, .int .i64 x] 27 (0, 0)) := by rw [hW1]; exact heap_alloc_new w _
  obtain ⟨c0, c1, c2, c3⟩ := box4 hq
  have HB := Lib.hid b1
  have HW1 := Lib.hid hW1
  have HS := Lib.hid hs
  clear hW1 hq b1 hs
  have hwd := fun W => word57 nm W HS.out
  by_cases hk : k < 1
  · have HE : Hid ((rqOfV k nm t x).right = false) := Lib.hid (right_no (.inl hk))
    go_enter Try.func42, Try.ntmps42
    go_upto_region 1 with fail
    rw [← HW1.out]
    go_quiet (fail)
    go_wp2_with fail
    go_ret
    exact ⟨ret_bool HE.out.symm, below_drewN HB.out _⟩
  · by_cases hk7 : 7 < k
    · have HE : Hid ((rqOfV k nm t x).right = false) := Lib.hid (right_no (.inr hk7))
      go_enter Try.func42, Try.ntmps42
      go_upto_region 1 with fail
      rw [← HW1.out]
      go_quiet (fail)
      go_wp2_with fail
      go_ret
      exact ⟨ret_bool HE.out.symm, below_drewN HB.out _⟩
    · by_cases h7 : k = 7
      · subst h7
        have HE := Lib.hid (right_7 nm t x)
        cases hb : isWord (bl nm) with
        | true =>
          have hne : nm.toList.isEmpty = false := by
            rw [Go.ByteArray.toList_eq]
            cases hl : nm.data.toList with
            | nil => rw [show bl nm = [] from hl] at hb; cases hb
            | cons _ _ => rfl
          have HNE := Lib.hid hne
          clear hne
          go_enter Try.func42, Try.ntmps42
          go_upto_region 1 with fail
          rw [← HW1.out]
          go_quiet ((go_at_call 57; (with_reducible refine (hwd _).mono ?_); rintro e w' ⟨rfl, ⟨nd, rfl⟩⟩; rw [hb]; (try first | exact ⟨rfl, _, World.drewN_drewN _ _ _⟩ | exact ⟨rfl, _, Eq.trans (World.drewN_drewN _ _ _) (congrArg (World.drewN _) (Nat.add_assoc _ _ _))⟩)))
          go_wp2_with fail
          go_ret
          exact ⟨ret_bool (by rw [HE.out, HNE.out]; rfl), below_drewN HB.out _⟩
        | false =>
          cases hne : nm.toList.isEmpty with
          | false =>
            have HNE := Lib.hid hne
            have hne2 : (nm.toList == ([] : List UInt8)) = false := by
              rw [Bool.eq_false_iff]; intro h; rw [beq_iff_eq] at h; rw [h] at hne; cases hne
            go_enter Try.func42, Try.ntmps42
            go_upto_region 1 with fail
            rw [← HW1.out]
            go_quiet ((go_at_call 57; (with_reducible refine (hwd _).mono ?_); rintro e w' ⟨rfl, ⟨nd, rfl⟩⟩; rw [hb]; (try first | exact ⟨rfl, _, World.drewN_drewN _ _ _⟩ | exact ⟨rfl, _, Eq.trans (World.drewN_drewN _ _ _) (congrArg (World.drewN _) (Nat.add_assoc _ _ _))⟩)))
            go_wp2_with fail
            go_ret
            exact ⟨ret_bool (by rw [HE.out, HNE.out]; rfl), below_drewN HB.out _⟩
          | true =>
            have HNE := Lib.hid hne
            have hne2 : (nm.toList == ([] : List UInt8)) = true := by
              rw [beq_iff_eq]; exact List.isEmpty_iff.1 hne
            go_enter Try.func42, Try.ntmps42
            go_upto_region 1 with fail
            rw [← HW1.out]
            go_quiet ((go_at_call 57; (with_reducible refine (hwd _).mono ?_); rintro e w' ⟨rfl, ⟨nd, rfl⟩⟩; rw [hb]; (try first | exact ⟨rfl, _, World.drewN_drewN _ _ _⟩ | exact ⟨rfl, _, Eq.trans (World.drewN_drewN _ _ _) (congrArg (World.drewN _) (Nat.add_assoc _ _ _))⟩)))
            by_cases h6 : (600 : Int) < (t.size : Int)
            · have hte : t.toList.isEmpty = false := by
                rw [Go.ByteArray.toList_eq]
                cases hl : t.data.toList with
                | nil => exfalso; have := bl_length t; rw [show bl t = [] from hl] at this; simp at this; omega
                | cons _ _ => rfl
              have HTE := Lib.hid hte
              clear hte
              go_wp2_with fail
              go_ret
              exact ⟨ret_bool (by rw [HE.out, HNE.out, HTE.out]; rfl), below_drewN HB.out _⟩
            · cases hte : t.toList.isEmpty with
              | false =>
                have HTE := Lib.hid hte
                go_wp2_with fail
                go_ret
                exact ⟨ret_bool (by rw [HE.out, HNE.out, HTE.out]; rfl), below_drewN HB.out _⟩
              | true =>
                have HTE := Lib.hid hte
                go_wp2_with fail
                go_ret
                exact ⟨ret_bool (by rw [HE.out, HNE.out, HTE.out]; by_cases h : x = 0 <;> simp [h]), below_drewN HB.out _⟩
      · have hk6 : k ≤ 6 := by omega
        have k7 : (k == 7) = false := by simp [h7]
        have k7' : (k != 7) = true := by simp [h7]
        cases hb : isWord (bl nm) with
        | false =>
          have HE : Hid ((rqOfV k nm t x).right = false) := Lib.hid (right_w (by omega) hk6 hb)
          go_enter Try.func42, Try.ntmps42
          go_upto_region 1 with fail
          rw [← HW1.out]
          go_quiet ((go_at_call 57; (with_reducible refine (hwd _).mono ?_); rintro e w' ⟨rfl, ⟨nd, rfl⟩⟩; rw [hb]; (try first | exact ⟨rfl, _, World.drewN_drewN _ _ _⟩ | exact ⟨rfl, _, Eq.trans (World.drewN_drewN _ _ _) (congrArg (World.drewN _) (Nat.add_assoc _ _ _))⟩)))
          go_wp2_with fail
          go_ret
          exact ⟨ret_bool HE.out.symm, below_drewN HB.out _⟩
        | true =>
          have HE := Lib.hid (right_k (t := t) (x := x) (by omega) hk6 hb)
          go_enter Try.func42, Try.ntmps42
          go_upto_region 1 with fail
          rw [← HW1.out]
          go_quiet ((go_at_call 57; (with_reducible refine (hwd _).mono ?_); rintro e w' ⟨rfl, ⟨nd, rfl⟩⟩; rw [hb]; (try first | exact ⟨rfl, _, World.drewN_drewN _ _ _⟩ | exact ⟨rfl, _, Eq.trans (World.drewN_drewN _ _ _) (congrArg (World.drewN _) (Nat.add_assoc _ _ _))⟩)))
          by_cases h6 : (600 : Int) < (t.size : Int)
          · have HT6 : Hid (decide (t.size ≤ 600) = false) := Lib.hid (decide_eq_false (by omega))
            by_cases k1 : k = 1
            · subst k1
              go_wp2_with fail
              go_ret
              exact ⟨ret_bool (by rw [HE.out, HT6.out]; rfl), below_drewN HB.out _⟩
            · have k1' : (k == 1) = false := by simp [k1]
              go_wp2_with fail
              go_ret
              exact ⟨ret_bool (by rw [HE.out, HT6.out]; rfl), below_drewN HB.out _⟩
          · have HT6 : Hid (decide (t.size ≤ 600) = true) := Lib.hid (decide_eq_true (by omega))
            rcases (show k = 1 ∨ k = 3 ∨ k = 5 ∨ (k ≠ 1 ∧ k ≠ 3 ∧ k ≠ 5) by omega) with rfl | rfl | rfl | ⟨k1, k3, k5⟩
            · go_wp2_with fail
              go_ret
              exact ⟨ret_bool (by rw [HE.out, HT6.out]; by_cases h : x = 0 <;> simp [h, writesB]), below_drewN HB.out _⟩
            · go_wp2_with fail
              go_ret
              exact ⟨ret_bool (by rw [HE.out, HT6.out]; by_cases h : x = 0 <;> simp [h, writesB]), below_drewN HB.out _⟩
            · cases hte : t.toList.isEmpty with
              | false =>
                have HTE := Lib.hid hte
                go_wp2_with fail
                go_ret
                exact ⟨ret_bool (by rw [HE.out, HT6.out, HTE.out]; rfl), below_drewN HB.out _⟩
              | true =>
                have HTE := Lib.hid hte
                by_cases hx1 : -1099511627776 ≤ x
                · go_wp2_with fail
                  go_ret
                  exact ⟨ret_bool (by rw [HE.out, HT6.out, HTE.out]; simp [hx1]), below_drewN HB.out _⟩
                · go_wp2_with fail
                  go_ret
                  exact ⟨ret_bool (by rw [HE.out, HT6.out, HTE.out]; simp; intro h; omega), below_drewN HB.out _⟩
            · have k1' : (k == 1) = false := by simp [k1]
              have k3' : (k == 3) = false := by simp [k3]
              have k5' : (k != 5) = true := by simp [k5]
              have k5'' : (k == 5) = false := by simp [k5]
              have HW : Hid (writesB k = false) := Lib.hid (by simp [writesB, k1, k3])
              have HK5 := Lib.hid k5
              cases hte : t.toList.isEmpty with
              | false =>
                have HTE := Lib.hid hte
                go_wp2_with fail
                go_ret
                exact ⟨ret_bool (by rw [HE.out, HT6.out, HTE.out, HW.out]; rfl), below_drewN HB.out _⟩
              | true =>
                have HTE := Lib.hid hte
                go_wp2_with fail
                go_ret
                exact ⟨ret_bool (by rw [HE.out, HT6.out, HTE.out, if_neg HK5.out]; by_cases h : x = 0 <;> simp [h]), below_drewN HB.out _⟩
end Go.Proofs.Ytifdkkkcecpjoaa
