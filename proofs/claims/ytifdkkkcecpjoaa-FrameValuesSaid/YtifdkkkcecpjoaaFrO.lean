/-
  Requests that are drawn by a number: each of them may be.
-/
import Derived.Test.YtifdkkkcecpjoaaFrN
namespace Go.Proofs.Ytifdkkkcecpjoaa
open Go.RowKit
attribute [local go_sem ↓] Go.wp_at_zero Go.wp_at_succ

def MakeEnd (w : World) (e : Ending) (w' : World) : Prop := ∃ (k : Int) (s t : ByteArray) (v : Int), e = .returned (rqv k s t v) ∧ (rqOfV k s t v).right = true ∧ s.size ≤ 12 ∧ t.size ≤ 600 ∧ Below w.heap.size w w'

theorem right_mk {k v : Int} {s t : ByteArray} (hw : isWord (bl s) = true) (h1 : 1 ≤ k) (h6 : k ≤ 6) (ht : t.size ≤ 600) (htk : t = ⟨#[]⟩ ∨ writesB k = true) (hv : v = 0 ∨ k = 5 ∧ -1099511627776 ≤ v ∧ v ≤ 1099511627776) : (rqOfV k s t v).right = true := by
  have h2 : ((bl t).isEmpty || writesB k) = true := by
    rcases htk with e | h
    · subst e; rfl
    · rw [h]; simp
  have h3 : (decide (-1099511627776 ≤ v) && decide (v ≤ 1099511627776) && (decide (v = 0) || decide (k = 5))) = true := by
    rcases hv with rfl | ⟨rfl, h, h'⟩
    · simp
    · simp [h, h']
  have h4 : decide ((bl t).length ≤ 600) = true := by rw [bl_length]; simpa using ht
  unfold Rq.right rqOfV
  rw [if_neg (by simp; omega), if_neg (by simp; omega)]
  show (isWord (bl s) && decide ((bl t).length ≤ 600) && ((bl t).isEmpty || writesB k) && decide (-1099511627776 ≤ v) && decide (v ≤ 1099511627776) && (decide (v = 0) || decide (k = 5))) = true
  rw [hw, h4, h2]
  simpa [Bool.and_assoc] using h3
theorem right_build : (rqOfV 7 ⟨#[]⟩ ⟨#[]⟩ 0).right = true := by decide

def vals : Array Value := #[.int .i64 0, .int .i64 1, .int .i64 7, .int .i64 300, .int .i64 (-1), .int .i64 1099511627776, .int .i64 (-1099511627776)]
theorem vals_at : ∀ k : Nat, k < 7 → ∃ v : Int, vals[k]? = some (.int .i64 v) ∧ -1099511627776 ≤ v ∧ v ≤ 1099511627776
  | 0, _ => ⟨_, rfl, by decide, by decide⟩
  | 1, _ => ⟨_, rfl, by decide, by decide⟩
  | 2, _ => ⟨_, rfl, by decide, by decide⟩
  | 3, _ => ⟨_, rfl, by decide, by decide⟩
  | 4, _ => ⟨_, rfl, by decide, by decide⟩
  | 5, _ => ⟨_, rfl, by decide, by decide⟩
  | 6, _ => ⟨_, rfl, by decide, by decide⟩
  | k + 7, h => absurd h (by omega)

set_option maxRecDepth 100000 in
set_option maxHeartbeats 1600000 in
theorem make_nil {w : World} {n : Int} (h0 : 0 ≤ n) (h1 : n ≤ 1073741824) : Calls Try.prog 14 #[.int .i64 n, .slice none 0 0] w (MakeEnd w) := by
  obtain ⟨W1, hW1⟩ : ∃ W1, W1 = w.alloc (.cells #[.int .i64 0, .string ⟨#[]⟩, .string ⟨#[]⟩, .int .i64 0] 27) := ⟨_, rfl⟩
  have b1 : Below w.heap.size w W1 := by rw [hW1]; exact (Below.refl _ _).alloc (Nat.le_refl _) _
  have hq1 : W1.heap[w.heap.size]? = some (.cells #[.int .i64 0, .string ⟨#[]⟩, .string ⟨#[]⟩, .int .i64 0] 27 (0, 0)) := by rw [hW1]; exact heap_alloc_new _ _
  have hz1 : w.heap.size < W1.heap.size := by rw [hW1]; simp
  have HW1 := Lib.hid hW1
  have HQ1 := Lib.hid hq1
  clear hW1 hq1
  go_enter Try.func14, Try.ntmps14
  go_wp2_with fail
  rw [← HW1.out]
  refine (name_any (n / 16) W1 (by omega) (by omega)).mono ?_
  rintro e w2 ⟨s, rfl, hw, hsz, b2⟩
  have b02 : Below w.heap.size w w2 := b1.trans (b2.mono b1.size)
  have HQ2 := Lib.hid ((b2.block _ hz1).trans HQ1.out)
  have hz2 : w.heap.size < w2.heap.size := Nat.lt_of_lt_of_le hz1 b2.size
  clear b2 b1 HQ1 hz1
  go_wp2_with fail
  obtain ⟨W3, hW3⟩ : ∃ W3, W3 = w2.alloc (.cells #[.int .i64 0, .string s, .string ⟨#[]⟩, .int .i64 0] 27) := ⟨_, rfl⟩
  have b03 : Below w.heap.size w W3 := by rw [hW3]; exact b02.alloc (Nat.le_of_lt hz2) _
  have hq3 : W3.heap[w2.heap.size]? = some (.cells #[.int .i64 0, .string s, .string ⟨#[]⟩, .int .i64 0] 27 (0, 0)) := by rw [hW3]; exact heap_alloc_new _ _
  have hz3 : W3.heap.size = w2.heap.size + 1 := by rw [hW3]; simp
  have HQ3 := Lib.hid (show W3.heap[w.heap.size]? = some (.cells #[.int .i64 0, .string ⟨#[]⟩, .string ⟨#[]⟩, .int .i64 0] 27 (0, 0)) by rw [hW3]; exact (Below.heap_alloc _ _ _ hz2).trans HQ2.out)
  rw [← hW3]
  clear hW3 b02 HQ2
  have hne : w.heap.size ≠ w2.heap.size := by omega
  have hle : w.heap.size ≤ w2.heap.size := Nat.le_of_lt hz2
  obtain ⟨r0, r1, r2, r3⟩ := box4 hq3
  obtain ⟨z0, z1, z2, z3⟩ := box4 HQ3.out
  have fr : ∀ o, W3.frozen? ⟨w2.heap.size, o, none⟩ = false := fun o => by simp [World.frozen?, hq3]
  have fz : ∀ o, W3.frozen? ⟨w.heap.size, o, none⟩ = false := fun o => by have := HQ3.out; simp [World.frozen?, this]
  have fr0 := fr 0
  have fr1 := fr 1
  have fr2 := fr 2
  have fr3 := fr 3
  have fz0 := fz 0
  have fz1 := fz 1
  have fz2 := fz 2
  have fz3 := fz 3
  have HZ3 := Lib.hid hz3
  have HQR := Lib.hid hq3
  have hw2W : w2.heap.size < W3.heap.size := by omega
  clear fr fz hz3 hq3
  have e0 := Int.emod_nonneg n (show (16 : Int) ≠ 0 by omega)
  have e1 := Int.emod_lt_of_pos n (show (0 : Int) < 16 by omega)
  obtain ⟨j, hj⟩ : ∃ j : Nat, n % 16 = (j : Int) := ⟨(n % 16).toNat, by omega⟩
  have HJ := Lib.hid hj
  have hj16 : j < 16 := by omega
  clear hj e0 e1
  refine (within27 n 16 _ (by omega) (by omega) (by omega) (by omega)).mono ?_
  rintro e w4 ⟨rfl, rfl⟩
  rw [HJ.out]
  by_cases h4 : j < 4
  · have h4' : (j : Int) < 4 := by omega
    go_wp2_with fail
    obtain ⟨q0, q1, q2, q3⟩ := box4 (put4 ((Below.heap_setCell (W3.setCell ⟨w2.heap.size, 0, none⟩ (.int .i64 1)) ⟨w2.heap.size, 2, none⟩ (.string ⟨#[]⟩) w.heap.size hne).trans ((Below.heap_setCell W3 ⟨w2.heap.size, 0, none⟩ (.int .i64 1) w.heap.size hne).trans HQ3.out)) (.int .i64 (1)) (.string (s)) (.string (⟨#[]⟩)) (.int .i64 (0)))
    refine bodyPost_ret (v := rqv (1) (s) (⟨#[]⟩) (0)) (by simp [results, Try.results14, go_sem, q0, q1, q2, q3]; rfl) rfl ⟨1, s, ⟨#[]⟩, 0, rfl, right_mk hw (by omega) (by omega) (by decide) (.inl rfl) (.inl rfl), hsz, by decide, put4_below ((b03.setCell (p := ⟨w2.heap.size, 0, none⟩) hle (.int .i64 1)).setCell (p := ⟨w2.heap.size, 2, none⟩) hle (.string ⟨#[]⟩)) (Nat.le_refl _) _ _ _ _⟩
  · by_cases h5 : j < 5
    · have h5' : (4 : Int) ≤ (j : Int) ∧ (j : Int) < 5 := by omega
      obtain ⟨h5a, h5b⟩ := h5'
      go_wp2_with fail
      obtain ⟨q0, q1, q2, q3⟩ := box4 (put4 ((Below.heap_setCell W3 ⟨w2.heap.size, 0, none⟩ (.int .i64 2) w.heap.size hne).trans HQ3.out) (.int .i64 (2)) (.string (s)) (.string (⟨#[]⟩)) (.int .i64 (0)))
      refine bodyPost_ret (v := rqv (2) (s) (⟨#[]⟩) (0)) (by simp [results, Try.results14, go_sem, q0, q1, q2, q3]; rfl) rfl ⟨2, s, ⟨#[]⟩, 0, rfl, right_mk hw (by omega) (by omega) (by decide) (.inl rfl) (.inl rfl), hsz, by decide, put4_below (b03.setCell (p := ⟨w2.heap.size, 0, none⟩) hle (.int .i64 2)) (Nat.le_refl _) _ _ _ _⟩
    · by_cases h8 : j < 8
      · have h8a : (5 : Int) ≤ (j : Int) := by omega
        have h8b : (j : Int) < 8 := by omega
        go_wp2_with fail
        obtain ⟨q0, q1, q2, q3⟩ := box4 (put4 ((Below.heap_setCell (W3.setCell ⟨w2.heap.size, 0, none⟩ (.int .i64 3)) ⟨w2.heap.size, 2, none⟩ (.string ⟨#[]⟩) w.heap.size hne).trans ((Below.heap_setCell W3 ⟨w2.heap.size, 0, none⟩ (.int .i64 3) w.heap.size hne).trans HQ3.out)) (.int .i64 (3)) (.string (s)) (.string (⟨#[]⟩)) (.int .i64 (0)))
        refine bodyPost_ret (v := rqv (3) (s) (⟨#[]⟩) (0)) (by simp [results, Try.results14, go_sem, q0, q1, q2, q3]; rfl) rfl ⟨3, s, ⟨#[]⟩, 0, rfl, right_mk hw (by omega) (by omega) (by decide) (.inl rfl) (.inl rfl), hsz, by decide, put4_below ((b03.setCell (p := ⟨w2.heap.size, 0, none⟩) hle (.int .i64 3)).setCell (p := ⟨w2.heap.size, 2, none⟩) hle (.string ⟨#[]⟩)) (Nat.le_refl _) _ _ _ _⟩
      · by_cases h9 : j < 9
        · have h9a : (8 : Int) ≤ (j : Int) := by omega
          have h9b : (j : Int) < 9 := by omega
          go_wp2_with fail
          obtain ⟨q0, q1, q2, q3⟩ := box4 (put4 ((Below.heap_setCell W3 ⟨w2.heap.size, 0, none⟩ (.int .i64 4) w.heap.size hne).trans HQ3.out) (.int .i64 (4)) (.string (s)) (.string (⟨#[]⟩)) (.int .i64 (0)))
          refine bodyPost_ret (v := rqv (4) (s) (⟨#[]⟩) (0)) (by simp [results, Try.results14, go_sem, q0, q1, q2, q3]; rfl) rfl ⟨4, s, ⟨#[]⟩, 0, rfl, right_mk hw (by omega) (by omega) (by decide) (.inl rfl) (.inl rfl), hsz, by decide, put4_below (b03.setCell (p := ⟨w2.heap.size, 0, none⟩) hle (.int .i64 4)) (Nat.le_refl _) _ _ _ _⟩
        · by_cases h12 : j < 12
          · have h12a : (9 : Int) ≤ (j : Int) := by omega
            have h12b : (j : Int) < 12 := by omega
            have i0 := Int.emod_nonneg (n / 16 / 12) (show (7 : Int) ≠ 0 by omega)
            have i1 := Int.emod_lt_of_pos (n / 16 / 12) (show (0 : Int) < 7 by omega)
            obtain ⟨i, hi⟩ : ∃ i : Nat, n / 16 / 12 % 7 = (i : Int) := ⟨(n / 16 / 12 % 7).toNat, by omega⟩
            have HI := Lib.hid hi
            have hi7 : i < 7 := by omega
            obtain ⟨v, hv, hv0, hv1⟩ := vals_at i hi7
            have hcv : (W3.alloc (.cells vals 3)).cell? ⟨W3.heap.size, i, none⟩ = some (.int .i64 v) := (cell_of_row _ W3.heap.size i vals 3 (0, 0) (heap_alloc_new W3 _)).trans hv
            clear hi i0 i1
            have hvl : ([.int .i64 0, .int .i64 1, .int .i64 7, .int .i64 300, .int .i64 (-1), .int .i64 1099511627776, .int .i64 (-1099511627776)] : List Value)[i]? = some (.int .i64 v) := by simpa [vals] using hv
            have hgi : ([.int .i64 0, .int .i64 1, .int .i64 7, .int .i64 300, .int .i64 (-1), .int .i64 1099511627776, .int .i64 (-1099511627776)] : List Value)[i]'(by simp; omega) = .int .i64 v := (List.getElem?_eq_some_iff.1 hvl).2
            clear hvl
            unfold vals at hv hcv
            have hqd : IntKind.i64.wrap ((n / 16).tdiv 12) = n / 16 / 12 := by
              rw [Int.tdiv_eq_ediv_of_nonneg (by omega), IntWalk.i64_in _ (by omega)]
            have hqn : (0 : Int) ≤ n / 16 / 12 := by omega
            have hwW : w.heap.size < W3.heap.size := by omega
            have hi7' : (i : Int) < 7 := by omega
            have hi0' : (0 : Int) ≤ (i : Int) := by omega
            go_wp2_with fail
            go_region_law (first | (go_simp; go_at_call 27; (with_reducible refine (within27 (n / 16 / 12) 7 _ (by omega) (by omega) (by omega) (by omega)).mono ?_); rintro e w5 ⟨rfl, rfl⟩; rw [HI.out]))
            all_goals
              go_wp2_with fail
              have hqx := put4 ((Below.heap_setCell (W3.setCell ⟨w2.heap.size, 0, none⟩ (.int .i64 5)) ⟨w2.heap.size, 3, none⟩ (.int .i64 v) w.heap.size hne).trans ((Below.heap_setCell W3 ⟨w2.heap.size, 0, none⟩ (.int .i64 5) w.heap.size hne).trans HQ3.out)) (.int .i64 5) (.string s) (.string ⟨#[]⟩) (.int .i64 v)
              have hbx := put4_below ((b03.setCell (p := ⟨w2.heap.size, 0, none⟩) hle (.int .i64 5)).setCell (p := ⟨w2.heap.size, 3, none⟩) hle (.int .i64 v)) (Nat.le_refl _) (.int .i64 5) (.string s) (.string ⟨#[]⟩) (.int .i64 v)
              have hqy := (Below.heap_alloc _ (.cells #[.int .i64 0, .int .i64 1, .int .i64 7, .int .i64 300, .int .i64 (-1), .int .i64 1099511627776, .int .i64 (-1099511627776)] 3) w.heap.size (by simp [World.setCell]; exact hwW)).trans hqx
              have hby := (hbx.alloc (by simp [World.setCell]; exact Nat.le_of_lt hwW) (.cells #[.int .i64 0, .int .i64 1, .int .i64 7, .int .i64 300, .int .i64 (-1), .int .i64 1099511627776, .int .i64 (-1099511627776)] 3)).drew
              obtain ⟨q0, q1, q2, q3⟩ := box4 hqy
              refine bodyPost_ret (v := rqv 5 s ⟨#[]⟩ v) (by simp [results, Try.results14, go_sem, q0, q1, q2, q3]; rfl) rfl ⟨5, s, ⟨#[]⟩, v, rfl, right_mk hw (by omega) (by omega) (by decide) (.inl rfl) (.inr ⟨rfl, hv0, hv1⟩), hsz, by decide, hby⟩
          · by_cases h13 : j < 13
            · have h13a : (12 : Int) ≤ (j : Int) := by omega
              have h13b : (j : Int) < 13 := by omega
              go_wp2_with fail
              obtain ⟨q0, q1, q2, q3⟩ := box4 (put4 ((Below.heap_setCell W3 ⟨w2.heap.size, 0, none⟩ (.int .i64 6) w.heap.size hne).trans HQ3.out) (.int .i64 (6)) (.string (s)) (.string (⟨#[]⟩)) (.int .i64 (0)))
              refine bodyPost_ret (v := rqv (6) (s) (⟨#[]⟩) (0)) (by simp [results, Try.results14, go_sem, q0, q1, q2, q3]; rfl) rfl ⟨6, s, ⟨#[]⟩, 0, rfl, right_mk hw (by omega) (by omega) (by decide) (.inl rfl) (.inl rfl), hsz, by decide, put4_below (b03.setCell (p := ⟨w2.heap.size, 0, none⟩) hle (.int .i64 6)) (Nat.le_refl _) _ _ _ _⟩
            · have h14a : (13 : Int) ≤ (j : Int) := by omega
              go_wp2_with fail
              obtain ⟨q0, q1, q2, q3⟩ := box4 (put4 ((Below.heap_setCell (W3.setCell ⟨w2.heap.size, 0, none⟩ (.int .i64 7)) ⟨w2.heap.size, 1, none⟩ (.string ⟨#[]⟩) w.heap.size hne).trans ((Below.heap_setCell W3 ⟨w2.heap.size, 0, none⟩ (.int .i64 7) w.heap.size hne).trans HQ3.out)) (.int .i64 (7)) (.string (⟨#[]⟩)) (.string (⟨#[]⟩)) (.int .i64 (0)))
              refine bodyPost_ret (v := rqv (7) (⟨#[]⟩) (⟨#[]⟩) (0)) (by simp [results, Try.results14, go_sem, q0, q1, q2, q3]; rfl) rfl ⟨7, ⟨#[]⟩, ⟨#[]⟩, 0, rfl, right_build, by decide, by decide, put4_below ((b03.setCell (p := ⟨w2.heap.size, 0, none⟩) hle (.int .i64 7)).setCell (p := ⟨w2.heap.size, 1, none⟩) hle (.string ⟨#[]⟩)) (Nat.le_refl _) _ _ _ _⟩
end Go.Proofs.Ytifdkkkcecpjoaa
