/-
  The reference's Request: the bytes of any request.
-/
import Derived.Test.YtifdkkkcecpjoaaFrU
namespace Go.Proofs.Ytifdkkkcecpjoaa
open Go.RowKit Go.Proofs.YtifdkkkcecpjoaaW
attribute [local go_sem ↓] Go.wp_at_zero Go.wp_at_succ
set_option linter.unusedSimpArgs false

set_option maxRecDepth 100000 in
set_option maxHeartbeats 3200000 in
theorem rreq_any (k : Int) (nm t : ByteArray) (x : Int) (w : World) (h1 : nm.size ≤ 100000) (h2 : t.size ≤ 100000) :
    Calls Try.prog 18 #[rqv k nm t x] w (BytesEnd (rqOfV k nm t x).enc w) := by
  unfold rqv
  obtain ⟨i5, hi5, hz5', hy5, hx5⟩ := info_parts info5
  obtain ⟨W1, hW1⟩ : ∃ W1, W1 = w.alloc (.cells #[.int .i64 k, .string nm, .string t, .int .i64 x] 27) := ⟨_, rfl⟩
  have b01 : Below w.heap.size w W1 := by rw [hW1]; exact (Below.refl _ _).alloc (Nat.le_refl _) _
  have hq : W1.heap[w.heap.size]? = some (.cells #[.int .i64 k, .string nm, .string t, .int .i64 x] 27 (0, 0)) := by rw [hW1]; exact heap_alloc_new w _
  have hz1 : W1.heap.size = w.heap.size + 1 := by rw [hW1]; simp
  have hS : ∀ y : World, Below (w.heap.size + 1) W1 y → y.cell? ⟨w.heap.size, 0, none⟩ = some (.int .i64 k) ∧ y.cell? ⟨w.heap.size, 1, none⟩ = some (.string nm) := fun y hb => by
    obtain ⟨a0, a1, a2, a3⟩ := box4 ((hb.block _ (by omega)).trans hq)
    exact ⟨a0, a1⟩
  have hS2 : ∀ y : World, Below (w.heap.size + 1) W1 y → y.cell? ⟨w.heap.size, 2, none⟩ = some (.string t) ∧ y.cell? ⟨w.heap.size, 3, none⟩ = some (.int .i64 x) := fun y hb => by
    obtain ⟨a0, a1, a2, a3⟩ := box4 ((hb.block _ (by omega)).trans hq)
    exact ⟨a2, a3⟩
  have c1 : ∀ y : World, Below (w.heap.size + 1) W1 y → Calls Try.prog 39 #[.slice none 0 0, .int .i64 k, .int .i64 1] y (RefEnd (w.heap.size + 1) (be 1 k) y) := fun y hb => by
    have := rnum_any (w := y) (base := w.heap.size + 1) (n := 1) (v := .slice none 0 0) (l := []) (World.ownsRow_nil _ _ _ _) (by have := hb.size; omega) k (by omega) (by omega) (by simp)
    rw [List.nil_append] at this
    exact this
  have c2 : ∀ (y : World) (v : Value), Below (w.heap.size + 1) W1 y → y.ownsRow (w.heap.size + 1) 5 1 v (be 1 k).length (bv (be 1 k)) → Calls Try.prog 38 #[v, .string nm, .int .i64 1] y (RefEnd (w.heap.size + 1) (be 1 k ++ tx 1 (bl nm)) y) := fun y v hb ho =>
    rtext_any (n := 1) ho (by have := hb.size; omega) nm (by omega) (by omega) (by rw [be_length]; omega) (by omega)
  have HS := Lib.hid hS
  have HS2 := Lib.hid hS2
  have C1 := Lib.hid c1
  have C2 := Lib.hid (fun y v => c2 y v)
  have HW1 := Lib.hid hW1
  have HZ1 := Lib.hid hz1
  have HB01 := Lib.hid b01
  clear hS hS2 c1 c2 hW1 hz1 hq b01
  have hl0 : (be 1 k ++ tx 1 (bl nm)).length ≤ 100002 := by rw [List.length_append, be_length, tx_length, bl_length]; omega
  go_enter Try.func18, Try.ntmps18
  go_upto_region 1 with fail
  rw [← HW1.out]
  have B0 : Below (w.heap.size + 1) W1 W1.drew := (Below.refl _ _).drew
  obtain ⟨s0_, s1_⟩ := HS.out _ B0
  refine PrintLast.start_ (n := 7) (S := fun w' => w'.cell? ⟨w.heap.size, 0, none⟩ = some (.int .i64 k) ∧ w'.cell? ⟨w.heap.size, 1, none⟩ = some (.string nm)) (ds := []) #[false, false, false, false, false, false, false] (by kernel_rfl) rfl rfl ⟨s0_, s1_⟩ (fun hHeld => ?_)
  refine PrintLast.pure_ (i := 0) (N := some 4) (v := ?_) (a' := ?_) #[true, false, false, false, false, false, false] rfl rfl (by kernel_rfl) (fun _ _ _ h => h) (Or.inl ⟨by rfl, ?_⟩) ?_ ?_
  rotate_left
  · intro w'
    go_simp
    with_reducible rfl
  rotate_left
  · simp only [Act.put, List.setIfInBounds_toArray, List.set_cons_zero, List.set_cons_succ]
    rfl
  refine PrintLast.pure_ (i := 3) (N := some 7) (v := ?_) (a' := ?_) #[true, false, false, true, false, false, false] rfl rfl (by kernel_rfl) (fun _ _ _ h => h) (Or.inl ⟨by rfl, ?_⟩) ?_ ?_
  rotate_left
  · intro w'
    go_simp
    with_reducible rfl
  rotate_left
  · simp only [Act.put, List.setIfInBounds_toArray, List.set_cons_zero, List.set_cons_succ]
    rfl
  refine PrintLast.take_ (i := 1) (N := some 5) (v := ?_) (a' := ?_) #[true, true, false, true, false, false, false] rfl rfl (by kernel_rfl) (fun _ _ _ h => h) (Or.inl ⟨by rfl, ?_⟩) hHeld ?_ ?_
  rotate_left
  · rintro w' ⟨s0, s1⟩
    go_simp
    with_reducible rfl
  rotate_left
  · simp only [Act.put, List.setIfInBounds_toArray, List.set_cons_zero, List.set_cons_succ]
    rfl
  refine PrintLast.take_ (i := 4) (N := some 8) (v := ?_) (a' := ?_) #[true, true, false, true, true, false, false] rfl rfl (by kernel_rfl) (fun _ _ _ h => h) (Or.inl ⟨by rfl, ?_⟩) hHeld ?_ ?_
  rotate_left
  · rintro w' ⟨s0, s1⟩
    go_simp
    with_reducible rfl
  rotate_left
  · simp only [Act.put, List.setIfInBounds_toArray, List.set_cons_zero, List.set_cons_succ]
    rfl
  refine PrintLast.one_ (i := 2) (N := some 6) #[true, true, true, true, true, false, false] rfl rfl (by kernel_rfl) (by decide) (fun K hK => ?_)
  refine PrintLast.goes_ Try.func39 (by kernel_rfl) rfl #[.slice none 0 0, .int .i64 k, .int .i64 1] (by rfl) rfl rfl (by simp only [List.map_toArray, List.map_cons, List.map_nil]; rfl) ?_
  with_reducible refine (C1.out _ B0).mono ?_
  rintro e u1 ⟨v1, rfl, ho1, bb1, -⟩
  have B1 : Below (w.heap.size + 1) W1 u1 := B0.trans bb1
  obtain ⟨p1, q1, r1, rfl⟩ := own_form ho1
  refine ⟨_, rfl, ?_⟩
  refine hK.out _ _ (HS.out _ B1) (fun hHeld => ?_)
  clear hK K
  refine PrintLast.norm_ (a' := ?_) ?_ ?_
  rotate_left
  · show Act.put _ (some 6) _ = _
    simp only [Act.put, List.setIfInBounds_toArray, List.set_cons_zero, List.set_cons_succ]
    rfl
  refine PrintLast.one_ (i := 5) (N := some 9) #[true, true, true, true, true, true, false] rfl rfl (by kernel_rfl) (by decide) (fun K hK => ?_)
  refine PrintLast.goes_ Try.func38 (by kernel_rfl) rfl #[.slice p1 q1 r1, .string nm, .int .i64 1] (by rfl) rfl rfl (by simp only [List.map_toArray, List.map_cons, List.map_nil]; rfl) ?_
  with_reducible refine (C2.out _ _ B1 ho1).mono ?_
  rintro e u2 ⟨v2, rfl, ho2, bb2, -⟩
  have B2 : Below (w.heap.size + 1) W1 u2 := B1.trans bb2
  obtain ⟨p2, q2, r2, rfl⟩ := own_form ho2
  refine ⟨_, rfl, ?_⟩
  refine hK.out _ _ (HS.out _ B2) (fun hHeld => ?_)
  clear hK K
  refine PrintLast.norm_ (a' := ?_) ?_ ?_
  rotate_left
  · show Act.put _ (some 9) _ = _
    simp only [Act.put, List.setIfInBounds_toArray, List.set_cons_zero, List.set_cons_succ]
    rfl
  refine PrintLast.pure_ (i := 6) (N := some 3) (v := ?_) (a' := ?_) #[true, true, true, true, true, true, true] rfl rfl (by kernel_rfl) (fun _ _ _ h => h) (Or.inl ⟨by rfl, ?_⟩) ?_ ?_
  rotate_left
  · intro w'
    go_simp
    with_reducible rfl
  rotate_left
  · simp only [Act.put, List.setIfInBounds_toArray, List.set_cons_zero, List.set_cons_succ]
    rfl
  refine PrintLast.done_ (by kernel_rfl) ?_
  skip
  obtain ⟨k0, -⟩ := HS.out _ B2
  obtain ⟨k2, k3⟩ := HS2.out _ B2
  have hszu : w.heap.size + 1 ≤ u2.heap.size := by have := B2.size; have := HZ1.out; omega
  clear hHeld ho1 bb1 bb2 B1 B0 s0_ s1_
  have hkind : (k = 1 ∨ ((k == 1) = false ∧ k = 3)) ∨ ((k == 1) = false ∧ (k == 3) = false ∧ k = 5) ∨ ((k == 1) = false ∧ (k == 3) = false ∧ (k == 5) = false) := by
    by_cases e1 : k = 1
    · exact .inl (.inl e1)
    · by_cases e3 : k = 3
      · exact .inl (.inr ⟨by simpa using e1, e3⟩)
      · by_cases e5 : k = 5
        · exact .inr (.inl ⟨by simpa using e1, by simpa using e3, e5⟩)
        · exact .inr (.inr ⟨by simpa using e1, by simpa using e3, by simpa using e5⟩)
  rcases hkind with hk13 | ⟨c1, c3, rfl⟩ | ⟨c1, c3, c5⟩
  · rcases hk13 with rfl | ⟨c1, rfl⟩
    · go_wp2_with fail
      refine (rtext_any (n := 2) ho2 hszu t (by omega) (by omega) (by omega) h2).mono ?_
      rintro e u3 ⟨v3, rfl, ho3, bb3, -⟩
      obtain ⟨p3, q3, r3, rfl⟩ := own_form ho3
      have B3 := B2.trans bb3
      clear k0 k2 k3
      have hml := own_len ho3
      have HML := Lib.hid hml
      have hmn : ((be 1 1 ++ tx 1 (bl nm)) ++ tx 2 (bl t)).length ≤ 600000 := by rw [List.length_append, tx_length, bl_length]; omega
      obtain ⟨LL, hLL⟩ : ∃ LL, LL = ((be 1 1 ++ tx 1 (bl nm)) ++ tx 2 (bl t)) := ⟨_, rfl⟩
      rw [← hLL] at ho3 hml hmn
      have HLL := Lib.hid hLL
      obtain ⟨mm, hmm⟩ : ∃ mm, mm = LL.length := ⟨_, rfl⟩
      have HMM := Lib.hid hmm
      have hown9 := ho3
      have hb9 := B3
      have hrd : Reads u3 u3.heap.size 1 p3 q3 (bv LL) := by rw [hml]; rw [hml] at hown9; exact Reads.of_own hown9
      have cc : Calls Try.prog 39 #[.slice none 0 0, .int .i64 (q3 : Int), .int .i64 2] u3 (RefEnd u3.heap.size (be 2 (q3 : Int)) u3) := by
        have := rnum_any (w := u3) (base := u3.heap.size) (n := 2) (v := .slice none 0 0) (l := []) (World.ownsRow_nil _ _ _ _) (Nat.le_refl _) (q3 : Int) (by omega) (by omega) (by simp)
        rw [List.nil_append] at this
        exact this
      have hqq : q3 ≤ 600000 := by omega
      clear hml hown9 ho3 hLL hmm
      go_wp2_with fail
      refine cc.mono ?_
      rintro e v5 ⟨u5_, rfl, ho5, bb5, -⟩
      obtain ⟨p5, q5, r5, rfl⟩ := own_form ho5
      have hrd5 := hrd.below bb5
      rw [be_length] at ho5
      have hz5 := bb5.size
      clear hrd cc
      go_wp2_with (at_builtin; refine wpList_append_any _ rfl _ _ 23 rfl u3.heap.size 5 i5 _ 1 1 Try.underlying23 hi5 hz5' hy5 hx5 rfl (by decide) _ 2 _ rfl ho5 u3.heap.size p3 q3 r3 (bv LL) rfl hrd5 (bv_one _) (by unfold maxLen; omega) (by omega) hz5 ?_; intro v6 w6 hown6 hgrow6 _; obtain ⟨p6, q6, r6, rfl⟩ := own_form hown6)
      go_ret
      have hb1 : Below w.heap.size w u3 := HB01.out.trans (hb9.mono (by omega))
      have hb6 : Below w.heap.size w w6 := (hb1.trans (bb5.mono hb1.size)).grown hgrow6 (hb1.trans (bb5.mono hb1.size)).size (fun k hk => by have := own_base ho5 k hk; have := hb1.size; omega)
      have hE : (rqOfV 1 nm t x).enc = tx 2 LL := by
        rw [HLL.out]
        simp [Rq.enc, Rq.body, Rq.tail, rqOfV, writesB]
      refine ⟨_, rfl, ?_, hb6⟩
      have hf := ownsRow_lower hown6 hb1.size
      rw [hE, tx, bv_append, List.length_append, be_length]
      have e1 : LL.length = q3 := by have := HML.out; rw [HLL.out]; omega
      rw [e1]
      exact hf
    · go_wp2_with fail
      refine (rtext_any (n := 2) ho2 hszu t (by omega) (by omega) (by omega) h2).mono ?_
      rintro e u3 ⟨v3, rfl, ho3, bb3, -⟩
      obtain ⟨p3, q3, r3, rfl⟩ := own_form ho3
      have B3 := B2.trans bb3
      clear k0 k2 k3
      have hml := own_len ho3
      have HML := Lib.hid hml
      have hmn : ((be 1 3 ++ tx 1 (bl nm)) ++ tx 2 (bl t)).length ≤ 600000 := by rw [List.length_append, tx_length, bl_length]; omega
      obtain ⟨LL, hLL⟩ : ∃ LL, LL = ((be 1 3 ++ tx 1 (bl nm)) ++ tx 2 (bl t)) := ⟨_, rfl⟩
      rw [← hLL] at ho3 hml hmn
      have HLL := Lib.hid hLL
      obtain ⟨mm, hmm⟩ : ∃ mm, mm = LL.length := ⟨_, rfl⟩
      have HMM := Lib.hid hmm
      have hown9 := ho3
      have hb9 := B3
      have hrd : Reads u3 u3.heap.size 1 p3 q3 (bv LL) := by rw [hml]; rw [hml] at hown9; exact Reads.of_own hown9
      have cc : Calls Try.prog 39 #[.slice none 0 0, .int .i64 (q3 : Int), .int .i64 2] u3 (RefEnd u3.heap.size (be 2 (q3 : Int)) u3) := by
        have := rnum_any (w := u3) (base := u3.heap.size) (n := 2) (v := .slice none 0 0) (l := []) (World.ownsRow_nil _ _ _ _) (Nat.le_refl _) (q3 : Int) (by omega) (by omega) (by simp)
        rw [List.nil_append] at this
        exact this
      have hqq : q3 ≤ 600000 := by omega
      clear hml hown9 ho3 hLL hmm
      go_wp2_with fail
      refine cc.mono ?_
      rintro e v5 ⟨u5_, rfl, ho5, bb5, -⟩
      obtain ⟨p5, q5, r5, rfl⟩ := own_form ho5
      have hrd5 := hrd.below bb5
      rw [be_length] at ho5
      have hz5 := bb5.size
      clear hrd cc
      go_wp2_with (at_builtin; refine wpList_append_any _ rfl _ _ 23 rfl u3.heap.size 5 i5 _ 1 1 Try.underlying23 hi5 hz5' hy5 hx5 rfl (by decide) _ 2 _ rfl ho5 u3.heap.size p3 q3 r3 (bv LL) rfl hrd5 (bv_one _) (by unfold maxLen; omega) (by omega) hz5 ?_; intro v6 w6 hown6 hgrow6 _; obtain ⟨p6, q6, r6, rfl⟩ := own_form hown6)
      go_ret
      have hb1 : Below w.heap.size w u3 := HB01.out.trans (hb9.mono (by omega))
      have hb6 : Below w.heap.size w w6 := (hb1.trans (bb5.mono hb1.size)).grown hgrow6 (hb1.trans (bb5.mono hb1.size)).size (fun k hk => by have := own_base ho5 k hk; have := hb1.size; omega)
      have hE : (rqOfV 3 nm t x).enc = tx 2 LL := by
        rw [HLL.out]
        simp [Rq.enc, Rq.body, Rq.tail, rqOfV, writesB]
      refine ⟨_, rfl, ?_, hb6⟩
      have hf := ownsRow_lower hown6 hb1.size
      rw [hE, tx, bv_append, List.length_append, be_length]
      have e1 : LL.length = q3 := by have := HML.out; rw [HLL.out]; omega
      rw [e1]
      exact hf
  · go_wp2_with fail
    refine (rnum_any (n := 8) ho2 hszu x (by omega) (by omega) (by omega)).mono ?_
    rintro e u3 ⟨v3, rfl, ho3, bb3, -⟩
    obtain ⟨p3, q3, r3, rfl⟩ := own_form ho3
    have B3 := B2.trans bb3
    clear k0 k2 k3
    have hml := own_len ho3
    have HML := Lib.hid hml
    have hmn : ((be 1 5 ++ tx 1 (bl nm)) ++ be 8 x).length ≤ 600000 := by rw [List.length_append, be_length]; omega
    obtain ⟨LL, hLL⟩ : ∃ LL, LL = ((be 1 5 ++ tx 1 (bl nm)) ++ be 8 x) := ⟨_, rfl⟩
    rw [← hLL] at ho3 hml hmn
    have HLL := Lib.hid hLL
    obtain ⟨mm, hmm⟩ : ∃ mm, mm = LL.length := ⟨_, rfl⟩
    have HMM := Lib.hid hmm
    have hown9 := ho3
    have hb9 := B3
    have hrd : Reads u3 u3.heap.size 1 p3 q3 (bv LL) := by rw [hml]; rw [hml] at hown9; exact Reads.of_own hown9
    have cc : Calls Try.prog 39 #[.slice none 0 0, .int .i64 (q3 : Int), .int .i64 2] u3 (RefEnd u3.heap.size (be 2 (q3 : Int)) u3) := by
      have := rnum_any (w := u3) (base := u3.heap.size) (n := 2) (v := .slice none 0 0) (l := []) (World.ownsRow_nil _ _ _ _) (Nat.le_refl _) (q3 : Int) (by omega) (by omega) (by simp)
      rw [List.nil_append] at this
      exact this
    have hqq : q3 ≤ 600000 := by omega
    clear hml hown9 ho3 hLL hmm
    go_wp2_with fail
    refine cc.mono ?_
    rintro e v5 ⟨u5_, rfl, ho5, bb5, -⟩
    obtain ⟨p5, q5, r5, rfl⟩ := own_form ho5
    have hrd5 := hrd.below bb5
    rw [be_length] at ho5
    have hz5 := bb5.size
    clear hrd cc
    go_wp2_with (at_builtin; refine wpList_append_any _ rfl _ _ 23 rfl u3.heap.size 5 i5 _ 1 1 Try.underlying23 hi5 hz5' hy5 hx5 rfl (by decide) _ 2 _ rfl ho5 u3.heap.size p3 q3 r3 (bv LL) rfl hrd5 (bv_one _) (by unfold maxLen; omega) (by omega) hz5 ?_; intro v6 w6 hown6 hgrow6 _; obtain ⟨p6, q6, r6, rfl⟩ := own_form hown6)
    go_ret
    have hb1 : Below w.heap.size w u3 := HB01.out.trans (hb9.mono (by omega))
    have hb6 : Below w.heap.size w w6 := (hb1.trans (bb5.mono hb1.size)).grown hgrow6 (hb1.trans (bb5.mono hb1.size)).size (fun k hk => by have := own_base ho5 k hk; have := hb1.size; omega)
    have hE : (rqOfV 5 nm t x).enc = tx 2 LL := by
      rw [HLL.out]
      simp [Rq.enc, Rq.body, Rq.tail, rqOfV, writesB]
    refine ⟨_, rfl, ?_, hb6⟩
    have hf := ownsRow_lower hown6 hb1.size
    rw [hE, tx, bv_append, List.length_append, be_length]
    have e1 : LL.length = q3 := by have := HML.out; rw [HLL.out]; omega
    rw [e1]
    exact hf
  · have n1 : ¬ k = 1 := by simpa using c1
    have n3 : ¬ k = 3 := by simpa using c3
    have n5 : ¬ k = 5 := by simpa using c5
    have NN := Lib.hid (And.intro n1 (And.intro n3 n5))
    clear n1 n3 n5
    have hml := own_len ho2
    have HML := Lib.hid hml
    have hmn : (be 1 k ++ tx 1 (bl nm)).length ≤ 600000 := by omega
    obtain ⟨LL, hLL⟩ : ∃ LL, LL = (be 1 k ++ tx 1 (bl nm)) := ⟨_, rfl⟩
    rw [← hLL] at ho2 hml hmn
    have HLL := Lib.hid hLL
    obtain ⟨mm, hmm⟩ : ∃ mm, mm = LL.length := ⟨_, rfl⟩
    have HMM := Lib.hid hmm
    have hown9 := ho2
    have hb9 := B2
    have hrd : Reads u2 u2.heap.size 1 p2 q2 (bv LL) := by rw [hml]; rw [hml] at hown9; exact Reads.of_own hown9
    have cc : Calls Try.prog 39 #[.slice none 0 0, .int .i64 (q2 : Int), .int .i64 2] u2 (RefEnd u2.heap.size (be 2 (q2 : Int)) u2) := by
      have := rnum_any (w := u2) (base := u2.heap.size) (n := 2) (v := .slice none 0 0) (l := []) (World.ownsRow_nil _ _ _ _) (Nat.le_refl _) (q2 : Int) (by omega) (by omega) (by simp)
      rw [List.nil_append] at this
      exact this
    have hqq : q2 ≤ 600000 := by omega
    clear hml hown9 ho2 hLL hmm
    go_wp2_with fail
    refine cc.mono ?_
    rintro e v5 ⟨u5_, rfl, ho5, bb5, -⟩
    obtain ⟨p5, q5, r5, rfl⟩ := own_form ho5
    have hrd5 := hrd.below bb5
    rw [be_length] at ho5
    have hz5 := bb5.size
    clear hrd cc
    go_wp2_with (at_builtin; refine wpList_append_any _ rfl _ _ 23 rfl u2.heap.size 5 i5 _ 1 1 Try.underlying23 hi5 hz5' hy5 hx5 rfl (by decide) _ 2 _ rfl ho5 u2.heap.size p2 q2 r2 (bv LL) rfl hrd5 (bv_one _) (by unfold maxLen; omega) (by omega) hz5 ?_; intro v6 w6 hown6 hgrow6 _; obtain ⟨p6, q6, r6, rfl⟩ := own_form hown6)
    go_ret
    have hb1 : Below w.heap.size w u2 := HB01.out.trans (hb9.mono (by omega))
    have hb6 : Below w.heap.size w w6 := (hb1.trans (bb5.mono hb1.size)).grown hgrow6 (hb1.trans (bb5.mono hb1.size)).size (fun k hk => by have := own_base ho5 k hk; have := hb1.size; omega)
    have hE : (rqOfV k nm t x).enc = tx 2 LL := by
      rw [HLL.out]
      simp [Rq.enc, Rq.body, Rq.tail, rqOfV, writesB, NN.out.1, NN.out.2.1, NN.out.2.2]
    refine ⟨_, rfl, ?_, hb6⟩
    have hf := ownsRow_lower hown6 hb1.size
    rw [hE, tx, bv_append, List.length_append, be_length]
    have e1 : LL.length = q2 := by have := HML.out; rw [HLL.out]; omega
    rw [e1]
    exact hf
end Go.Proofs.Ytifdkkkcecpjoaa
