/-
  Texts behind the laws of frame, joined: FxTg, FxV, FxW, FxX, FxY, FxZ. (What began as words and functions that the kit prints is cut down to what is named here.)
-/
import Derived.ChangeArms
import Derived.Deep.Slices
import Derived.ProofKit
import Derived.OpenShut
import Derived.SizedLaws
import Derived.Test.YtifdkkkcecpjoaaQ4
section
/-
  A raw statement, made.
-/
namespace Go.Proofs.Ytifdkkkcecpjoaa
set_option linter.unusedVariables false
set_option linter.unusedSimpArgs false
open Go.RowKit Go.Proofs.YtifdkkkcecpjoaaW Go.Proofs.YtifdkkkcecpjoaaW.PrintWords Tx
attribute [local go_sem ↓] Go.wp_at_zero Go.wp_at_succ
set_option maxRecDepth 100000 in
set_option maxHeartbeats 3200000 in
theorem make_g {x : S63} {A3 A4 : Option Addr} {c3 c4 : Nat} {w : World} (h : Lies w x A3 A4 c3 c4) (hkk : x.f0 % 16 = 15) :
    Calls Try.prog 53 #[sAgg x A3 A4 c3 c4] w (StE okL w) := by
  obtain ⟨W1, hW1⟩ : ∃ W1, W1 = (w.alloc (.cells (rawC x A3 A4 c3 c4) 63)).alloc (.cells (stC 0 ⟨#[]⟩ 0 0 ⟨#[]⟩ (.slice none 0 0)) 95) := ⟨_, rfl⟩
  have b1 : Below w.heap.size w W1 := by rw [hW1]; exact ((Below.refl _ _).alloc (Nat.le_refl _) _).alloc (by simp) _
  have g0 : W1.heap[w.heap.size]? = some (.cells (rawC x A3 A4 c3 c4) 63 (0, 0)) := by rw [hW1]; exact (Below.heap_alloc _ _ _ (by simp)).trans (heap_alloc_new w _)
  have g1 : W1.heap[w.heap.size + 1]? = some (.cells (stC 0 ⟨#[]⟩ 0 0 ⟨#[]⟩ (.slice none 0 0)) 95 (0, 0)) := by
    rw [hW1]
    have := heap_alloc_new (w.alloc (.cells (rawC x A3 A4 c3 c4) 63)) (.cells (stC 0 ⟨#[]⟩ 0 0 ⟨#[]⟩ (.slice none 0 0)) 95)
    simpa using this
  have g2 : W1.heap.size = w.heap.size + 2 := by rw [hW1]; simp
  obtain ⟨W2, hW2⟩ : ∃ W2, W2 = W1.alloc (.cells (stC 1 ⟨#[]⟩ 0 0 ⟨#[]⟩ (.slice none 0 0)) 95) := ⟨_, rfl⟩
  have hS : mkS x A3 A4 c3 c4 w W2 0 0 ⟨#[]⟩ [] (.slice none 0 0) := by
    refine ⟨HasA.nil _ _, by rw [hW2]; exact below_alloc b1 _, ?_, ?_, ?_⟩
    · rw [hW2]; exact (Below.heap_alloc _ _ _ (by omega)).trans g0
    · rw [hW2]; exact (Below.heap_alloc _ _ _ (by omega)).trans g1
    · rw [hW2, ← g2]; exact heap_alloc_new W1 _
  have HS := Lib.hid hS
  have HL := Lib.hid h
  have HW1 := Lib.hid hW1
  have HW2 := Lib.hid hW2
  have HR1 := Lib.hid g2
  obtain ⟨k0, -, -, -, -, -⟩ := hS.raw
  clear hS h hW1 hW2 g0 g1 g2 b1
  unfold rawC stC at HW1 HW2
  unfold sAgg
  go_enter Try.func53, Try.ntmps53
  go_upto_region 1 with fail
  rw [← HW1.out]
  go_upto_region 2 with fail
  rw [HR1.out, ← HW2.out]
  go_wp2_with fail
  refine (within51 x.f0 16 W2 (by omega) (by omega)).mono ?_
  rintro e W3 ⟨rfl, hb3⟩
  have HS3 := Lib.hid (HS.out.below hb3)
  have m0 := Int.emod_nonneg x.f0 (show (16 : Int) ≠ 0 by omega)
  have m1 := Int.emod_lt_of_pos x.f0 (show (0 : Int) < 16 by omega)
  have HKK := Lib.hid hkk
  clear hkk
  generalize x.f0 % 16 = k at *
  clear k0 hb3
  go_upto_block 0 with fail
  go_cut [] (fun wc => MkC x A3 A4 c3 c4 w wc)
  case first =>
    have hk : k = 15 := HKK.out
    have h12 : ¬ k < 12 := by omega
    have t12 : (k == 12) = false := by simp [hk]
    have t13 : (k == 13) = false := by simp [hk]
    have t14 : (k == 14) = false := by simp [hk]
    have HK := Lib.hid hk
    clear hk
    obtain ⟨j, hj⟩ : ∃ j : Nat, x.f1 % 3 = j := ⟨(x.f1 % 3).toNat, by have := Int.emod_nonneg x.f1 (show (3 : Int) ≠ 0 by omega); omega⟩
    have hj4 : j < 3 := by have := Int.emod_lt_of_pos x.f1 (show (0 : Int) < 3 by omega); omega
    have HJ := Lib.hid hj
    have j0 : (0 : Int) ≤ (j : Int) := by omega
    have j1 : (j : Int) < 3 := by omega
    have HVJ := Lib.hid (tab3_at j hj4)
    obtain ⟨v, hvj, hv0⟩ := HVJ.out
    have HMd0 := Lib.hid (HS3.out.below ((Below.refl W3.heap.size W3).drew))
    clear hj hj4 HVJ
    go_upto_region 3 with fail
    refine PrintLast.start_ (n := 17) (S := fun w' => w'.cell? ⟨w.heap.size, 1, none⟩ = some (.int .i64 x.f1) ∧ w'.cell? ⟨w.heap.size, 4, none⟩ = some (.slice A4 x.f4.length c4)) (ds := []) #[false, false, false, false, false, false, false, false, false, false, false, false, false, false, false, false, false] (by kernel_rfl) rfl rfl ⟨(HMd0.out).raw.2.1, (HMd0.out).raw.2.2.2.2.1⟩ (fun hHeld => ?_)
    generalize hz : W3.drew = WD at hHeld ⊢
    have HMd := Lib.hid (HMd0.out.to hz)
    clear hz
    refine PrintLast.pure_ (i := 1) (N := some 12) (v := ?_) (a' := ?_) #[false, true, false, false, false, false, false, false, false, false, false, false, false, false, false, false, false] rfl rfl (by kernel_rfl) (fun _ _ _ h => h) (Or.inl ⟨by rfl, ?_⟩) ?_ ?_
    rotate_left
    · intro w'
      go_simp
      with_reducible rfl
    rotate_left
    · simp only [Act.put, List.setIfInBounds_toArray, List.set_cons_zero, List.set_cons_succ]
      rfl
    refine PrintLast.pure_ (i := 6) (N := some 17) (v := ?_) (a' := ?_) #[false, true, false, false, false, false, true, false, false, false, false, false, false, false, false, false, false] rfl rfl (by kernel_rfl) (fun _ _ _ h => h) (Or.inl ⟨by rfl, ?_⟩) ?_ ?_
    rotate_left
    · intro w'
      go_simp
      with_reducible rfl
    rotate_left
    · simp only [Act.put, List.setIfInBounds_toArray, List.set_cons_zero, List.set_cons_succ]
      rfl
    refine PrintLast.pure_ (i := 11) (N := some 22) (v := ?_) (a' := ?_) #[false, true, false, false, false, false, true, false, false, false, false, true, false, false, false, false, false] rfl rfl (by kernel_rfl) (fun _ _ _ h => h) (Or.inl ⟨by rfl, ?_⟩) ?_ ?_
    rotate_left
    · intro w'
      go_simp
      with_reducible rfl
    rotate_left
    · simp only [Act.put, List.setIfInBounds_toArray, List.set_cons_zero, List.set_cons_succ]
      rfl
    refine PrintLast.take_ (i := 2) (N := some 13) (v := ?_) (a' := ?_) #[false, true, true, false, false, false, true, false, false, false, false, true, false, false, false, false, false] rfl rfl (by kernel_rfl) (fun _ _ _ h => h) (Or.inl ⟨by rfl, ?_⟩) hHeld ?_ ?_
    rotate_left
    · rintro w' ⟨s0, s1⟩
      go_simp
      with_reducible rfl
    rotate_left
    · simp only [Act.put, List.setIfInBounds_toArray, List.set_cons_zero, List.set_cons_succ]
      rfl
    refine PrintLast.take_ (i := 7) (N := some 18) (v := ?_) (a' := ?_) #[false, true, true, false, false, false, true, true, false, false, false, true, false, false, false, false, false] rfl rfl (by kernel_rfl) (fun _ _ _ h => h) (Or.inl ⟨by rfl, ?_⟩) hHeld ?_ ?_
    rotate_left
    · rintro w' ⟨s0, s1⟩
      go_simp
      with_reducible rfl
    rotate_left
    · simp only [Act.put, List.setIfInBounds_toArray, List.set_cons_zero, List.set_cons_succ]
      rfl
    refine PrintLast.two_ (i := 0) (j := 3) (Ni := some 11) (Nj := some 14) #[true, true, true, false, false, false, true, true, false, false, false, true, false, false, false, false, false] #[false, true, true, true, false, false, true, true, false, false, false, true, false, false, false, false, false] rfl rfl rfl rfl (by kernel_rfl) (by decide) (by decide) (fun K hK => ?_) (fun K hK => ?_)
    · skip
      refine PrintLast.value_ (w1 := ?_) (v := ?_) (by rfl) rfl ?_ ?_
      rotate_left 2
      · go_simp
        constructor
        · rfl
        · rfl
      refine hK.out _ _ ⟨(HMd.out.below (below_alloc (Below.refl _ _) _)).raw.2.1, (HMd.out.below (below_alloc (Below.refl _ _) _)).raw.2.2.2.2.1⟩ (fun hHeld => ?_)
      clear hK K
      refine PrintLast.norm_ (a' := ?_) ?_ ?_
      rotate_left
      · show Act.put _ (some 11) _ = _
        simp only [Act.put, List.setIfInBounds_toArray, List.set_cons_zero, List.set_cons_succ]
        rfl
      generalize hz : World.alloc WD _ = za0 at hHeld ⊢
      have HMza0 := Lib.hid (HMd.out.al hz)
      have HAza0 : Hid (asS w za0 _ tab3 9) := Lib.hid (asS.new HMd.out hz)
      clear hz
      refine PrintLast.one_ (i := 3) (N := some 14) #[true, true, true, true, false, false, true, true, false, false, false, true, false, false, false, false, false] rfl rfl (by kernel_rfl) (by decide) (fun K hK => ?_)
      refine PrintLast.goes_ Try.func51 (by kernel_rfl) rfl #[.int .i64 x.f1, .int .i64 3] (by rfl) rfl rfl (by simp only [List.map_toArray, List.map_cons, List.map_nil]; rfl) ?_
      with_reducible refine ((within51 x.f1 3 za0 (by omega) (by omega))).mono ?_
      rintro e zc1 ⟨rfl, hbc⟩
      refine ⟨_, rfl, ?_⟩
      rw [HJ.out]
      have HMzc1 := Lib.hid (HMza0.out.below hbc)
      have HAzc1 := Lib.hid (HAza0.out.below hbc)
      clear hbc
      refine hK.out _ _ ⟨(HMzc1.out).raw.2.1, (HMzc1.out).raw.2.2.2.2.1⟩ (fun hHeld => ?_)
      clear hK K
      refine PrintLast.norm_ (a' := ?_) ?_ ?_
      rotate_left
      · show Act.put _ (some 14) _ = _
        simp only [Act.put, List.setIfInBounds_toArray, List.set_cons_zero, List.set_cons_succ]
        rfl
      replace hHeld := (⟨hHeld.1, hHeld.2, HAzc1.out.at hvj⟩ : _ ∧ _ ∧ _)
      refine more_ (S' := fun w' => w'.cell? ⟨w.heap.size, 1, none⟩ = some (.int .i64 x.f1) ∧ w'.cell? ⟨w.heap.size, 4, none⟩ = some (.slice A4 x.f4.length c4) ∧ w'.cell? ⟨WD.heap.size, j, none⟩ = some (.string v)) (fun _ h => ⟨h.1, h.2.1⟩) hHeld ?_
      refine PrintLast.pure_ (i := 4) (N := some 15) (v := ?_) (a' := ?_) #[true, true, true, true, true, false, true, true, false, false, false, true, false, false, false, false, false] rfl rfl (by kernel_rfl) (fun _ _ _ h => h) (Or.inl ⟨by rfl, ?_⟩) ?_ ?_
      rotate_left
      · intro w'
        go_simp
        with_reducible rfl
      rotate_left
      · simp only [Act.put, List.setIfInBounds_toArray, List.set_cons_zero, List.set_cons_succ]
        rfl
      refine PrintLast.take_ (i := 5) (N := some 16) (v := ?_) (a' := ?_) #[true, true, true, true, true, true, true, true, false, false, false, true, false, false, false, false, false] rfl rfl (by kernel_rfl) (fun _ _ _ h => h) (Or.inl ⟨by rfl, ?_⟩) hHeld ?_ ?_
      rotate_left
      · rintro w' ⟨s0, s1, s2⟩
        go_simp
        with_reducible rfl
      rotate_left
      · simp only [Act.put, List.setIfInBounds_toArray, List.set_cons_zero, List.set_cons_succ]
        rfl
      refine PrintLast.one_ (i := 8) (N := some 19) #[true, true, true, true, true, true, true, true, true, false, false, true, false, false, false, false, false] rfl rfl (by kernel_rfl) (by decide) (fun K hK => ?_)
      refine PrintLast.goes_ Try.func67 (by kernel_rfl) rfl #[.slice A4 x.f4.length c4] (by rfl) rfl rfl (by simp only [List.map_toArray, List.map_cons, List.map_nil]; rfl) ?_
      with_reducible refine ((one_any (c := c4) (Kd.C_below HL.out.g4 HMzc1.out.bel) HL.out.deep HL.out.few)).mono ?_
      rintro e zo2 ⟨ye, ve, rfl, hge, hze, hbc⟩
      refine ⟨_, rfl, ?_⟩
      have HMzo2 := Lib.hid (HMzc1.out.below hbc)
      obtain ⟨Ae, ce, rfl, -⟩ := hze.form
      have HZzo2 := Lib.hid (hze.lower (base' := w.heap.size) HMzc1.out.bel.size)
      have HG := Lib.hid hge
      have HAzo2 := Lib.hid (HAzc1.out.below hbc)
      unfold eAgg
      clear hbc hze hge
      refine hK.out _ _ ⟨(HMzo2.out).raw.2.1, (HMzo2.out).raw.2.2.2.2.1, (HAzo2.out.at hvj)⟩ (fun hHeld => ?_)
      clear hK K
      refine PrintLast.norm_ (a' := ?_) ?_ ?_
      rotate_left
      · show Act.put _ (some 19) _ = _
        simp only [Act.put, List.setIfInBounds_toArray, List.set_cons_zero, List.set_cons_succ]
        rfl
      refine PrintLast.pure_ (i := 9) (N := some 20) (v := ?_) (a' := ?_) #[true, true, true, true, true, true, true, true, true, true, false, true, false, false, false, false, false] rfl rfl (by kernel_rfl) (fun _ _ _ h => h) (Or.inl ⟨by rfl, ?_⟩) ?_ ?_
      rotate_left
      · intro w'
        go_simp
        with_reducible rfl
      rotate_left
      · simp only [Act.put, List.setIfInBounds_toArray, List.set_cons_zero, List.set_cons_succ]
        rfl
      refine PrintLast.two_ (i := 10) (j := 12) (Ni := some 21) (Nj := none) #[true, true, true, true, true, true, true, true, true, true, true, true, false, false, false, false, false] #[true, true, true, true, true, true, true, true, true, true, false, true, true, false, false, false, false] rfl rfl rfl rfl (by kernel_rfl) (by decide) (by decide) (fun K hK => ?_) (fun K hK => ?_)
      · skip
        refine PrintLast.value_ (w1 := ?_) (v := ?_) (by rfl) rfl ?_ ?_
        rotate_left 2
        · go_simp
          constructor
          · rfl
          · rfl
        refine hK.out _ _ ⟨(HMzo2.out.below (below_alloc (Below.refl _ _) _)).raw.2.1, (HMzo2.out.below (below_alloc (Below.refl _ _) _)).raw.2.2.2.2.1, ((HAzo2.out.below (below_alloc (Below.refl _ _) _)).at hvj)⟩ (fun hHeld => ?_)
        clear hK K
        refine PrintLast.norm_ (a' := ?_) ?_ ?_
        rotate_left
        · show Act.put _ (some 21) _ = _
          simp only [Act.put, List.setIfInBounds_toArray, List.set_cons_zero, List.set_cons_succ]
          rfl
        generalize hz : World.alloc zo2 _ = zb3 at hHeld ⊢
        have HMzb3 := Lib.hid (HMzo2.out.al hz)
        have HAzb3 := Lib.hid (HAzo2.out.al hz)
        have HRzb3 : Hid (HasA zb3 w.heap.size [⟨-1, ye⟩] (.slice (some ⟨zo2.heap.size, 0, none⟩) 1 1)) := Lib.hid (rowA_one' hz HMzo2.out.bel.size HZzo2.out (.inr ⟨rfl, HG.out⟩))
        clear hz
        refine PrintLast.one_ (i := 12) (N := none) #[true, true, true, true, true, true, true, true, true, true, true, true, true, false, false, false, false] rfl rfl (by kernel_rfl) (by decide) (fun K hK => ?_)
        have y2 := HMzb3.out.st.2.2.1
        have fz2 := HMzb3.out.fz.2.2.1
        refine PrintLast.skip_ (w1 := ?_) (by rfl) rfl ?_ ?_
        rotate_left
        · go_simp
          rfl
        refine hK.out _ _ ⟨(HMzb3.out.kind _).raw.2.1, (HMzb3.out.kind _).raw.2.2.2.2.1, ((HAzb3.out.set rfl).at hvj)⟩ (fun hHeld => ?_)
        clear hK K
        clear y2 fz2
        generalize hz : World.setCell zb3 _ _ = zs2_4 at hHeld ⊢
        have HMzs2_4 := Lib.hid (HMzb3.out.kind' hz)
        have HAzs2_4 := Lib.hid (HAzb3.out.set hz)
        have HRzs2_4 := Lib.hid (HMzb3.out.carry HRzb3.out hz)
        clear hz
        refine PrintLast.pure_ (i := 13) (N := some 23) (v := ?_) (a' := ?_) #[true, true, true, true, true, true, true, true, true, true, true, true, true, true, false, false, false] rfl rfl (by kernel_rfl) (fun _ _ _ h => h) (Or.inl ⟨by rfl, ?_⟩) ?_ ?_
        rotate_left
        · intro w'
          go_simp
          with_reducible rfl
        rotate_left
        · simp only [Act.put, List.setIfInBounds_toArray, List.set_cons_zero, List.set_cons_succ]
          rfl
        refine PrintLast.one_ (i := 14) (N := none) #[true, true, true, true, true, true, true, true, true, true, true, true, true, true, true, false, false] rfl rfl (by kernel_rfl) (by decide) (fun K hK => ?_)
        have y4 := HMzs2_4.out.st.2.2.2.2.1
        have fz4 := HMzs2_4.out.fz.2.2.2.2.1
        refine PrintLast.skip_ (w1 := ?_) (by rfl) rfl ?_ ?_
        rotate_left
        · go_simp
          rfl
        refine hK.out _ _ ⟨(HMzs2_4.out.text _).raw.2.1, (HMzs2_4.out.text _).raw.2.2.2.2.1, ((HAzs2_4.out.set rfl).at hvj)⟩ (fun hHeld => ?_)
        clear hK K
        clear y4 fz4
        generalize hz : World.setCell zs2_4 _ _ = zs4_5 at hHeld ⊢
        have HMzs4_5 := Lib.hid (HMzs2_4.out.text' hz)
        have HAzs4_5 := Lib.hid (HAzs2_4.out.set hz)
        have HRzs4_5 := Lib.hid (HMzs2_4.out.carry HRzs2_4.out hz)
        clear hz
        refine PrintLast.pure_ (i := 15) (N := some 24) (v := ?_) (a' := ?_) #[true, true, true, true, true, true, true, true, true, true, true, true, true, true, true, true, false] rfl rfl (by kernel_rfl) (fun _ _ _ h => h) (Or.inl ⟨by rfl, ?_⟩) ?_ ?_
        rotate_left
        · intro w'
          go_simp
          with_reducible rfl
        rotate_left
        · simp only [Act.put, List.setIfInBounds_toArray, List.set_cons_zero, List.set_cons_succ]
          rfl
        refine PrintLast.one_ (i := 16) (N := none) #[true, true, true, true, true, true, true, true, true, true, true, true, true, true, true, true, true] rfl rfl (by kernel_rfl) (by decide) (fun K hK => ?_)
        have y5 := HMzs4_5.out.st.2.2.2.2.2
        have fz5 := HMzs4_5.out.fz.2.2.2.2.2
        refine PrintLast.skip_ (w1 := ?_) (by rfl) rfl ?_ ?_
        rotate_left
        · go_simp
          rfl
        refine hK.out _ _ ⟨(HMzs4_5.out.args HRzs4_5.out).raw.2.1, (HMzs4_5.out.args HRzs4_5.out).raw.2.2.2.2.1, ((HAzs4_5.out.set rfl).at hvj)⟩ (fun hHeld => ?_)
        clear hK K
        clear y5 fz5
        generalize hz : World.setCell zs4_5 _ _ = zs5_6 at hHeld ⊢
        have HMzs5_6 := Lib.hid (HMzs4_5.out.args' HRzs4_5.out hz)
        have HAzs5_6 := Lib.hid (HAzs4_5.out.set hz)
        have HRzs5_6 := Lib.hid (HMzs4_5.out.carry HRzs4_5.out hz)
        clear hz
        refine PrintLast.done_ (by kernel_rfl) ?_
        clear hHeld
        go_wp2_with fail
        go_meet
        case rel => exact ⟨_, _, _, _, _, ⟨by omega, by omega, fun h => absurd h (by omega), fun h => absurd h (by omega), hv0, (by show 1 ≤ 5; decide)⟩, HMzs5_6.out⟩
      · skip
        have y2 := HMzo2.out.st.2.2.1
        have fz2 := HMzo2.out.fz.2.2.1
        refine PrintLast.skip_ (w1 := ?_) (by rfl) rfl ?_ ?_
        rotate_left
        · go_simp
          rfl
        refine hK.out _ _ ⟨(HMzo2.out.kind _).raw.2.1, (HMzo2.out.kind _).raw.2.2.2.2.1, ((HAzo2.out.set rfl).at hvj)⟩ (fun hHeld => ?_)
        clear hK K
        clear y2 fz2
        generalize hz : World.setCell zo2 _ _ = zs2_3 at hHeld ⊢
        have HMzs2_3 := Lib.hid (HMzo2.out.kind' hz)
        have HAzs2_3 := Lib.hid (HAzo2.out.set hz)
        have HZzs2_3 := Lib.hid (HMzo2.out.carryE HZzo2.out hz)
        clear hz
        refine PrintLast.pure_ (i := 13) (N := some 23) (v := ?_) (a' := ?_) #[true, true, true, true, true, true, true, true, true, true, false, true, true, true, false, false, false] rfl rfl (by kernel_rfl) (fun _ _ _ h => h) (Or.inl ⟨by rfl, ?_⟩) ?_ ?_
        rotate_left
        · intro w'
          go_simp
          with_reducible rfl
        rotate_left
        · simp only [Act.put, List.setIfInBounds_toArray, List.set_cons_zero, List.set_cons_succ]
          rfl
        refine PrintLast.two_ (i := 10) (j := 14) (Ni := some 21) (Nj := none) #[true, true, true, true, true, true, true, true, true, true, true, true, true, true, false, false, false] #[true, true, true, true, true, true, true, true, true, true, false, true, true, true, true, false, false] rfl rfl rfl rfl (by kernel_rfl) (by decide) (by decide) (fun K hK => ?_) (fun K hK => ?_)
        · skip
          refine PrintLast.value_ (w1 := ?_) (v := ?_) (by rfl) rfl ?_ ?_
          rotate_left 2
          · go_simp
            constructor
            · rfl
            · rfl
          refine hK.out _ _ ⟨(HMzs2_3.out.below (below_alloc (Below.refl _ _) _)).raw.2.1, (HMzs2_3.out.below (below_alloc (Below.refl _ _) _)).raw.2.2.2.2.1, ((HAzs2_3.out.below (below_alloc (Below.refl _ _) _)).at hvj)⟩ (fun hHeld => ?_)
          clear hK K
          refine PrintLast.norm_ (a' := ?_) ?_ ?_
          rotate_left
          · show Act.put _ (some 21) _ = _
            simp only [Act.put, List.setIfInBounds_toArray, List.set_cons_zero, List.set_cons_succ]
            rfl
          generalize hz : World.alloc zs2_3 _ = zb4 at hHeld ⊢
          have HMzb4 := Lib.hid (HMzs2_3.out.al hz)
          have HAzb4 := Lib.hid (HAzs2_3.out.al hz)
          have HRzb4 : Hid (HasA zb4 w.heap.size [⟨-1, ye⟩] (.slice (some ⟨zs2_3.heap.size, 0, none⟩) 1 1)) := Lib.hid (rowA_one' hz HMzs2_3.out.bel.size HZzs2_3.out (.inr ⟨rfl, HG.out⟩))
          clear hz
          refine PrintLast.one_ (i := 14) (N := none) #[true, true, true, true, true, true, true, true, true, true, true, true, true, true, true, false, false] rfl rfl (by kernel_rfl) (by decide) (fun K hK => ?_)
          have y4 := HMzb4.out.st.2.2.2.2.1
          have fz4 := HMzb4.out.fz.2.2.2.2.1
          refine PrintLast.skip_ (w1 := ?_) (by rfl) rfl ?_ ?_
          rotate_left
          · go_simp
            rfl
          refine hK.out _ _ ⟨(HMzb4.out.text _).raw.2.1, (HMzb4.out.text _).raw.2.2.2.2.1, ((HAzb4.out.set rfl).at hvj)⟩ (fun hHeld => ?_)
          clear hK K
          clear y4 fz4
          generalize hz : World.setCell zb4 _ _ = zs4_5 at hHeld ⊢
          have HMzs4_5 := Lib.hid (HMzb4.out.text' hz)
          have HAzs4_5 := Lib.hid (HAzb4.out.set hz)
          have HRzs4_5 := Lib.hid (HMzb4.out.carry HRzb4.out hz)
          clear hz
          refine PrintLast.pure_ (i := 15) (N := some 24) (v := ?_) (a' := ?_) #[true, true, true, true, true, true, true, true, true, true, true, true, true, true, true, true, false] rfl rfl (by kernel_rfl) (fun _ _ _ h => h) (Or.inl ⟨by rfl, ?_⟩) ?_ ?_
          rotate_left
          · intro w'
            go_simp
            with_reducible rfl
          rotate_left
          · simp only [Act.put, List.setIfInBounds_toArray, List.set_cons_zero, List.set_cons_succ]
            rfl
          refine PrintLast.one_ (i := 16) (N := none) #[true, true, true, true, true, true, true, true, true, true, true, true, true, true, true, true, true] rfl rfl (by kernel_rfl) (by decide) (fun K hK => ?_)
          have y5 := HMzs4_5.out.st.2.2.2.2.2
          have fz5 := HMzs4_5.out.fz.2.2.2.2.2
          refine PrintLast.skip_ (w1 := ?_) (by rfl) rfl ?_ ?_
          rotate_left
          · go_simp
            rfl
          refine hK.out _ _ ⟨(HMzs4_5.out.args HRzs4_5.out).raw.2.1, (HMzs4_5.out.args HRzs4_5.out).raw.2.2.2.2.1, ((HAzs4_5.out.set rfl).at hvj)⟩ (fun hHeld => ?_)
          clear hK K
          clear y5 fz5
          generalize hz : World.setCell zs4_5 _ _ = zs5_6 at hHeld ⊢
          have HMzs5_6 := Lib.hid (HMzs4_5.out.args' HRzs4_5.out hz)
          have HAzs5_6 := Lib.hid (HAzs4_5.out.set hz)
          have HRzs5_6 := Lib.hid (HMzs4_5.out.carry HRzs4_5.out hz)
          clear hz
          refine PrintLast.done_ (by kernel_rfl) ?_
          clear hHeld
          go_wp2_with fail
          go_meet
          case rel => exact ⟨_, _, _, _, _, ⟨by omega, by omega, fun h => absurd h (by omega), fun h => absurd h (by omega), hv0, (by show 1 ≤ 5; decide)⟩, HMzs5_6.out⟩
        · skip
          have y4 := HMzs2_3.out.st.2.2.2.2.1
          have fz4 := HMzs2_3.out.fz.2.2.2.2.1
          refine PrintLast.skip_ (w1 := ?_) (by rfl) rfl ?_ ?_
          rotate_left
          · go_simp
            rfl
          refine hK.out _ _ ⟨(HMzs2_3.out.text _).raw.2.1, (HMzs2_3.out.text _).raw.2.2.2.2.1, ((HAzs2_3.out.set rfl).at hvj)⟩ (fun hHeld => ?_)
          clear hK K
          clear y4 fz4
          generalize hz : World.setCell zs2_3 _ _ = zs4_4 at hHeld ⊢
          have HMzs4_4 := Lib.hid (HMzs2_3.out.text' hz)
          have HAzs4_4 := Lib.hid (HAzs2_3.out.set hz)
          have HZzs4_4 := Lib.hid (HMzs2_3.out.carryE HZzs2_3.out hz)
          clear hz
          refine PrintLast.one_ (i := 10) (N := some 21) #[true, true, true, true, true, true, true, true, true, true, true, true, true, true, true, false, false] rfl rfl (by kernel_rfl) (by decide) (fun K hK => ?_)
          refine PrintLast.value_ (w1 := ?_) (v := ?_) (by rfl) rfl ?_ ?_
          rotate_left 2
          · go_simp
            constructor
            · rfl
            · rfl
          refine hK.out _ _ ⟨(HMzs4_4.out.below (below_alloc (Below.refl _ _) _)).raw.2.1, (HMzs4_4.out.below (below_alloc (Below.refl _ _) _)).raw.2.2.2.2.1, ((HAzs4_4.out.below (below_alloc (Below.refl _ _) _)).at hvj)⟩ (fun hHeld => ?_)
          clear hK K
          refine PrintLast.norm_ (a' := ?_) ?_ ?_
          rotate_left
          · show Act.put _ (some 21) _ = _
            simp only [Act.put, List.setIfInBounds_toArray, List.set_cons_zero, List.set_cons_succ]
            rfl
          generalize hz : World.alloc zs4_4 _ = zb5 at hHeld ⊢
          have HMzb5 := Lib.hid (HMzs4_4.out.al hz)
          have HAzb5 := Lib.hid (HAzs4_4.out.al hz)
          have HRzb5 : Hid (HasA zb5 w.heap.size [⟨-1, ye⟩] (.slice (some ⟨zs4_4.heap.size, 0, none⟩) 1 1)) := Lib.hid (rowA_one' hz HMzs4_4.out.bel.size HZzs4_4.out (.inr ⟨rfl, HG.out⟩))
          clear hz
          refine PrintLast.pure_ (i := 15) (N := some 24) (v := ?_) (a' := ?_) #[true, true, true, true, true, true, true, true, true, true, true, true, true, true, true, true, false] rfl rfl (by kernel_rfl) (fun _ _ _ h => h) (Or.inl ⟨by rfl, ?_⟩) ?_ ?_
          rotate_left
          · intro w'
            go_simp
            with_reducible rfl
          rotate_left
          · simp only [Act.put, List.setIfInBounds_toArray, List.set_cons_zero, List.set_cons_succ]
            rfl
          refine PrintLast.one_ (i := 16) (N := none) #[true, true, true, true, true, true, true, true, true, true, true, true, true, true, true, true, true] rfl rfl (by kernel_rfl) (by decide) (fun K hK => ?_)
          have y5 := HMzb5.out.st.2.2.2.2.2
          have fz5 := HMzb5.out.fz.2.2.2.2.2
          refine PrintLast.skip_ (w1 := ?_) (by rfl) rfl ?_ ?_
          rotate_left
          · go_simp
            rfl
          refine hK.out _ _ ⟨(HMzb5.out.args HRzb5.out).raw.2.1, (HMzb5.out.args HRzb5.out).raw.2.2.2.2.1, ((HAzb5.out.set rfl).at hvj)⟩ (fun hHeld => ?_)
          clear hK K
          clear y5 fz5
          generalize hz : World.setCell zb5 _ _ = zs5_6 at hHeld ⊢
          have HMzs5_6 := Lib.hid (HMzb5.out.args' HRzb5.out hz)
          have HAzs5_6 := Lib.hid (HAzb5.out.set hz)
          have HRzs5_6 := Lib.hid (HMzb5.out.carry HRzb5.out hz)
          clear hz
          refine PrintLast.done_ (by kernel_rfl) ?_
          clear hHeld
          go_wp2_with fail
          go_meet
          case rel => exact ⟨_, _, _, _, _, ⟨by omega, by omega, fun h => absurd h (by omega), fun h => absurd h (by omega), hv0, (by show 1 ≤ 5; decide)⟩, HMzs5_6.out⟩
    · skip
      refine PrintLast.goes_ Try.func51 (by kernel_rfl) rfl #[.int .i64 x.f1, .int .i64 3] (by rfl) rfl rfl (by simp only [List.map_toArray, List.map_cons, List.map_nil]; rfl) ?_
      with_reducible refine ((within51 x.f1 3 WD (by omega) (by omega))).mono ?_
      rintro e zc0 ⟨rfl, hbc⟩
      refine ⟨_, rfl, ?_⟩
      rw [HJ.out]
      have HMzc0 := Lib.hid (HMd.out.below hbc)
      clear hbc
      refine hK.out _ _ ⟨(HMzc0.out).raw.2.1, (HMzc0.out).raw.2.2.2.2.1⟩ (fun hHeld => ?_)
      clear hK K
      refine PrintLast.norm_ (a' := ?_) ?_ ?_
      rotate_left
      · show Act.put _ (some 14) _ = _
        simp only [Act.put, List.setIfInBounds_toArray, List.set_cons_zero, List.set_cons_succ]
        rfl
      refine PrintLast.two_ (i := 0) (j := 8) (Ni := some 11) (Nj := some 19) #[true, true, true, true, false, false, true, true, false, false, false, true, false, false, false, false, false] #[false, true, true, true, false, false, true, true, true, false, false, true, false, false, false, false, false] rfl rfl rfl rfl (by kernel_rfl) (by decide) (by decide) (fun K hK => ?_) (fun K hK => ?_)
      · skip
        refine PrintLast.value_ (w1 := ?_) (v := ?_) (by rfl) rfl ?_ ?_
        rotate_left 2
        · go_simp
          constructor
          · rfl
          · rfl
        refine hK.out _ _ ⟨(HMzc0.out.below (below_alloc (Below.refl _ _) _)).raw.2.1, (HMzc0.out.below (below_alloc (Below.refl _ _) _)).raw.2.2.2.2.1⟩ (fun hHeld => ?_)
        clear hK K
        refine PrintLast.norm_ (a' := ?_) ?_ ?_
        rotate_left
        · show Act.put _ (some 11) _ = _
          simp only [Act.put, List.setIfInBounds_toArray, List.set_cons_zero, List.set_cons_succ]
          rfl
        generalize hz : World.alloc zc0 _ = za1 at hHeld ⊢
        have HMza1 := Lib.hid (HMzc0.out.al hz)
        have HAza1 : Hid (asS w za1 _ tab3 9) := Lib.hid (asS.new HMzc0.out hz)
        clear hz
        replace hHeld := (⟨hHeld.1, hHeld.2, HAza1.out.at hvj⟩ : _ ∧ _ ∧ _)
        refine more_ (S' := fun w' => w'.cell? ⟨w.heap.size, 1, none⟩ = some (.int .i64 x.f1) ∧ w'.cell? ⟨w.heap.size, 4, none⟩ = some (.slice A4 x.f4.length c4) ∧ w'.cell? ⟨zc0.heap.size, j, none⟩ = some (.string v)) (fun _ h => ⟨h.1, h.2.1⟩) hHeld ?_
        refine PrintLast.pure_ (i := 4) (N := some 15) (v := ?_) (a' := ?_) #[true, true, true, true, true, false, true, true, false, false, false, true, false, false, false, false, false] rfl rfl (by kernel_rfl) (fun _ _ _ h => h) (Or.inl ⟨by rfl, ?_⟩) ?_ ?_
        rotate_left
        · intro w'
          go_simp
          with_reducible rfl
        rotate_left
        · simp only [Act.put, List.setIfInBounds_toArray, List.set_cons_zero, List.set_cons_succ]
          rfl
        refine PrintLast.take_ (i := 5) (N := some 16) (v := ?_) (a' := ?_) #[true, true, true, true, true, true, true, true, false, false, false, true, false, false, false, false, false] rfl rfl (by kernel_rfl) (fun _ _ _ h => h) (Or.inl ⟨by rfl, ?_⟩) hHeld ?_ ?_
        rotate_left
        · rintro w' ⟨s0, s1, s2⟩
          go_simp
          with_reducible rfl
        rotate_left
        · simp only [Act.put, List.setIfInBounds_toArray, List.set_cons_zero, List.set_cons_succ]
          rfl
        refine PrintLast.one_ (i := 8) (N := some 19) #[true, true, true, true, true, true, true, true, true, false, false, true, false, false, false, false, false] rfl rfl (by kernel_rfl) (by decide) (fun K hK => ?_)
        refine PrintLast.goes_ Try.func67 (by kernel_rfl) rfl #[.slice A4 x.f4.length c4] (by rfl) rfl rfl (by simp only [List.map_toArray, List.map_cons, List.map_nil]; rfl) ?_
        with_reducible refine ((one_any (c := c4) (Kd.C_below HL.out.g4 HMza1.out.bel) HL.out.deep HL.out.few)).mono ?_
        rintro e zo2 ⟨ye, ve, rfl, hge, hze, hbc⟩
        refine ⟨_, rfl, ?_⟩
        have HMzo2 := Lib.hid (HMza1.out.below hbc)
        obtain ⟨Ae, ce, rfl, -⟩ := hze.form
        have HZzo2 := Lib.hid (hze.lower (base' := w.heap.size) HMza1.out.bel.size)
        have HG := Lib.hid hge
        have HAzo2 := Lib.hid (HAza1.out.below hbc)
        unfold eAgg
        clear hbc hze hge
        refine hK.out _ _ ⟨(HMzo2.out).raw.2.1, (HMzo2.out).raw.2.2.2.2.1, (HAzo2.out.at hvj)⟩ (fun hHeld => ?_)
        clear hK K
        refine PrintLast.norm_ (a' := ?_) ?_ ?_
        rotate_left
        · show Act.put _ (some 19) _ = _
          simp only [Act.put, List.setIfInBounds_toArray, List.set_cons_zero, List.set_cons_succ]
          rfl
        refine PrintLast.pure_ (i := 9) (N := some 20) (v := ?_) (a' := ?_) #[true, true, true, true, true, true, true, true, true, true, false, true, false, false, false, false, false] rfl rfl (by kernel_rfl) (fun _ _ _ h => h) (Or.inl ⟨by rfl, ?_⟩) ?_ ?_
        rotate_left
        · intro w'
          go_simp
          with_reducible rfl
        rotate_left
        · simp only [Act.put, List.setIfInBounds_toArray, List.set_cons_zero, List.set_cons_succ]
          rfl
        refine PrintLast.two_ (i := 10) (j := 12) (Ni := some 21) (Nj := none) #[true, true, true, true, true, true, true, true, true, true, true, true, false, false, false, false, false] #[true, true, true, true, true, true, true, true, true, true, false, true, true, false, false, false, false] rfl rfl rfl rfl (by kernel_rfl) (by decide) (by decide) (fun K hK => ?_) (fun K hK => ?_)
        · skip
          refine PrintLast.value_ (w1 := ?_) (v := ?_) (by rfl) rfl ?_ ?_
          rotate_left 2
          · go_simp
            constructor
            · rfl
            · rfl
          refine hK.out _ _ ⟨(HMzo2.out.below (below_alloc (Below.refl _ _) _)).raw.2.1, (HMzo2.out.below (below_alloc (Below.refl _ _) _)).raw.2.2.2.2.1, ((HAzo2.out.below (below_alloc (Below.refl _ _) _)).at hvj)⟩ (fun hHeld => ?_)
          clear hK K
          refine PrintLast.norm_ (a' := ?_) ?_ ?_
          rotate_left
          · show Act.put _ (some 21) _ = _
            simp only [Act.put, List.setIfInBounds_toArray, List.set_cons_zero, List.set_cons_succ]
            rfl
          generalize hz : World.alloc zo2 _ = zb3 at hHeld ⊢
          have HMzb3 := Lib.hid (HMzo2.out.al hz)
          have HAzb3 := Lib.hid (HAzo2.out.al hz)
          have HRzb3 : Hid (HasA zb3 w.heap.size [⟨-1, ye⟩] (.slice (some ⟨zo2.heap.size, 0, none⟩) 1 1)) := Lib.hid (rowA_one' hz HMzo2.out.bel.size HZzo2.out (.inr ⟨rfl, HG.out⟩))
          clear hz
          refine PrintLast.one_ (i := 12) (N := none) #[true, true, true, true, true, true, true, true, true, true, true, true, true, false, false, false, false] rfl rfl (by kernel_rfl) (by decide) (fun K hK => ?_)
          have y2 := HMzb3.out.st.2.2.1
          have fz2 := HMzb3.out.fz.2.2.1
          refine PrintLast.skip_ (w1 := ?_) (by rfl) rfl ?_ ?_
          rotate_left
          · go_simp
            rfl
          refine hK.out _ _ ⟨(HMzb3.out.kind _).raw.2.1, (HMzb3.out.kind _).raw.2.2.2.2.1, ((HAzb3.out.set rfl).at hvj)⟩ (fun hHeld => ?_)
          clear hK K
          clear y2 fz2
          generalize hz : World.setCell zb3 _ _ = zs2_4 at hHeld ⊢
          have HMzs2_4 := Lib.hid (HMzb3.out.kind' hz)
          have HAzs2_4 := Lib.hid (HAzb3.out.set hz)
          have HRzs2_4 := Lib.hid (HMzb3.out.carry HRzb3.out hz)
          clear hz
          refine PrintLast.pure_ (i := 13) (N := some 23) (v := ?_) (a' := ?_) #[true, true, true, true, true, true, true, true, true, true, true, true, true, true, false, false, false] rfl rfl (by kernel_rfl) (fun _ _ _ h => h) (Or.inl ⟨by rfl, ?_⟩) ?_ ?_
          rotate_left
          · intro w'
            go_simp
            with_reducible rfl
          rotate_left
          · simp only [Act.put, List.setIfInBounds_toArray, List.set_cons_zero, List.set_cons_succ]
            rfl
          refine PrintLast.one_ (i := 14) (N := none) #[true, true, true, true, true, true, true, true, true, true, true, true, true, true, true, false, false] rfl rfl (by kernel_rfl) (by decide) (fun K hK => ?_)
          have y4 := HMzs2_4.out.st.2.2.2.2.1
          have fz4 := HMzs2_4.out.fz.2.2.2.2.1
          refine PrintLast.skip_ (w1 := ?_) (by rfl) rfl ?_ ?_
          rotate_left
          · go_simp
            rfl
          refine hK.out _ _ ⟨(HMzs2_4.out.text _).raw.2.1, (HMzs2_4.out.text _).raw.2.2.2.2.1, ((HAzs2_4.out.set rfl).at hvj)⟩ (fun hHeld => ?_)
          clear hK K
          clear y4 fz4
          generalize hz : World.setCell zs2_4 _ _ = zs4_5 at hHeld ⊢
          have HMzs4_5 := Lib.hid (HMzs2_4.out.text' hz)
          have HAzs4_5 := Lib.hid (HAzs2_4.out.set hz)
          have HRzs4_5 := Lib.hid (HMzs2_4.out.carry HRzs2_4.out hz)
          clear hz
          refine PrintLast.pure_ (i := 15) (N := some 24) (v := ?_) (a' := ?_) #[true, true, true, true, true, true, true, true, true, true, true, true, true, true, true, true, false] rfl rfl (by kernel_rfl) (fun _ _ _ h => h) (Or.inl ⟨by rfl, ?_⟩) ?_ ?_
          rotate_left
          · intro w'
            go_simp
            with_reducible rfl
          rotate_left
          · simp only [Act.put, List.setIfInBounds_toArray, List.set_cons_zero, List.set_cons_succ]
            rfl
          refine PrintLast.one_ (i := 16) (N := none) #[true, true, true, true, true, true, true, true, true, true, true, true, true, true, true, true, true] rfl rfl (by kernel_rfl) (by decide) (fun K hK => ?_)
          have y5 := HMzs4_5.out.st.2.2.2.2.2
          have fz5 := HMzs4_5.out.fz.2.2.2.2.2
          refine PrintLast.skip_ (w1 := ?_) (by rfl) rfl ?_ ?_
          rotate_left
          · go_simp
            rfl
          refine hK.out _ _ ⟨(HMzs4_5.out.args HRzs4_5.out).raw.2.1, (HMzs4_5.out.args HRzs4_5.out).raw.2.2.2.2.1, ((HAzs4_5.out.set rfl).at hvj)⟩ (fun hHeld => ?_)
          clear hK K
          clear y5 fz5
          generalize hz : World.setCell zs4_5 _ _ = zs5_6 at hHeld ⊢
          have HMzs5_6 := Lib.hid (HMzs4_5.out.args' HRzs4_5.out hz)
          have HAzs5_6 := Lib.hid (HAzs4_5.out.set hz)
          have HRzs5_6 := Lib.hid (HMzs4_5.out.carry HRzs4_5.out hz)
          clear hz
          refine PrintLast.done_ (by kernel_rfl) ?_
          clear hHeld
          go_wp2_with fail
          go_meet
          case rel => exact ⟨_, _, _, _, _, ⟨by omega, by omega, fun h => absurd h (by omega), fun h => absurd h (by omega), hv0, (by show 1 ≤ 5; decide)⟩, HMzs5_6.out⟩
        · skip
          have y2 := HMzo2.out.st.2.2.1
          have fz2 := HMzo2.out.fz.2.2.1
          refine PrintLast.skip_ (w1 := ?_) (by rfl) rfl ?_ ?_
          rotate_left
          · go_simp
            rfl
          refine hK.out _ _ ⟨(HMzo2.out.kind _).raw.2.1, (HMzo2.out.kind _).raw.2.2.2.2.1, ((HAzo2.out.set rfl).at hvj)⟩ (fun hHeld => ?_)
          clear hK K
          clear y2 fz2
          generalize hz : World.setCell zo2 _ _ = zs2_3 at hHeld ⊢
          have HMzs2_3 := Lib.hid (HMzo2.out.kind' hz)
          have HAzs2_3 := Lib.hid (HAzo2.out.set hz)
          have HZzs2_3 := Lib.hid (HMzo2.out.carryE HZzo2.out hz)
          clear hz
          refine PrintLast.pure_ (i := 13) (N := some 23) (v := ?_) (a' := ?_) #[true, true, true, true, true, true, true, true, true, true, false, true, true, true, false, false, false] rfl rfl (by kernel_rfl) (fun _ _ _ h => h) (Or.inl ⟨by rfl, ?_⟩) ?_ ?_
          rotate_left
          · intro w'
            go_simp
            with_reducible rfl
          rotate_left
          · simp only [Act.put, List.setIfInBounds_toArray, List.set_cons_zero, List.set_cons_succ]
            rfl
          refine PrintLast.two_ (i := 10) (j := 14) (Ni := some 21) (Nj := none) #[true, true, true, true, true, true, true, true, true, true, true, true, true, true, false, false, false] #[true, true, true, true, true, true, true, true, true, true, false, true, true, true, true, false, false] rfl rfl rfl rfl (by kernel_rfl) (by decide) (by decide) (fun K hK => ?_) (fun K hK => ?_)
          · skip
            refine PrintLast.value_ (w1 := ?_) (v := ?_) (by rfl) rfl ?_ ?_
            rotate_left 2
            · go_simp
              constructor
              · rfl
              · rfl
            refine hK.out _ _ ⟨(HMzs2_3.out.below (below_alloc (Below.refl _ _) _)).raw.2.1, (HMzs2_3.out.below (below_alloc (Below.refl _ _) _)).raw.2.2.2.2.1, ((HAzs2_3.out.below (below_alloc (Below.refl _ _) _)).at hvj)⟩ (fun hHeld => ?_)
            clear hK K
            refine PrintLast.norm_ (a' := ?_) ?_ ?_
            rotate_left
            · show Act.put _ (some 21) _ = _
              simp only [Act.put, List.setIfInBounds_toArray, List.set_cons_zero, List.set_cons_succ]
              rfl
            generalize hz : World.alloc zs2_3 _ = zb4 at hHeld ⊢
            have HMzb4 := Lib.hid (HMzs2_3.out.al hz)
            have HAzb4 := Lib.hid (HAzs2_3.out.al hz)
            have HRzb4 : Hid (HasA zb4 w.heap.size [⟨-1, ye⟩] (.slice (some ⟨zs2_3.heap.size, 0, none⟩) 1 1)) := Lib.hid (rowA_one' hz HMzs2_3.out.bel.size HZzs2_3.out (.inr ⟨rfl, HG.out⟩))
            clear hz
            refine PrintLast.one_ (i := 14) (N := none) #[true, true, true, true, true, true, true, true, true, true, true, true, true, true, true, false, false] rfl rfl (by kernel_rfl) (by decide) (fun K hK => ?_)
            have y4 := HMzb4.out.st.2.2.2.2.1
            have fz4 := HMzb4.out.fz.2.2.2.2.1
            refine PrintLast.skip_ (w1 := ?_) (by rfl) rfl ?_ ?_
            rotate_left
            · go_simp
              rfl
            refine hK.out _ _ ⟨(HMzb4.out.text _).raw.2.1, (HMzb4.out.text _).raw.2.2.2.2.1, ((HAzb4.out.set rfl).at hvj)⟩ (fun hHeld => ?_)
            clear hK K
            clear y4 fz4
            generalize hz : World.setCell zb4 _ _ = zs4_5 at hHeld ⊢
            have HMzs4_5 := Lib.hid (HMzb4.out.text' hz)
            have HAzs4_5 := Lib.hid (HAzb4.out.set hz)
            have HRzs4_5 := Lib.hid (HMzb4.out.carry HRzb4.out hz)
            clear hz
            refine PrintLast.pure_ (i := 15) (N := some 24) (v := ?_) (a' := ?_) #[true, true, true, true, true, true, true, true, true, true, true, true, true, true, true, true, false] rfl rfl (by kernel_rfl) (fun _ _ _ h => h) (Or.inl ⟨by rfl, ?_⟩) ?_ ?_
            rotate_left
            · intro w'
              go_simp
              with_reducible rfl
            rotate_left
            · simp only [Act.put, List.setIfInBounds_toArray, List.set_cons_zero, List.set_cons_succ]
              rfl
            refine PrintLast.one_ (i := 16) (N := none) #[true, true, true, true, true, true, true, true, true, true, true, true, true, true, true, true, true] rfl rfl (by kernel_rfl) (by decide) (fun K hK => ?_)
            have y5 := HMzs4_5.out.st.2.2.2.2.2
            have fz5 := HMzs4_5.out.fz.2.2.2.2.2
            refine PrintLast.skip_ (w1 := ?_) (by rfl) rfl ?_ ?_
            rotate_left
            · go_simp
              rfl
            refine hK.out _ _ ⟨(HMzs4_5.out.args HRzs4_5.out).raw.2.1, (HMzs4_5.out.args HRzs4_5.out).raw.2.2.2.2.1, ((HAzs4_5.out.set rfl).at hvj)⟩ (fun hHeld => ?_)
            clear hK K
            clear y5 fz5
            generalize hz : World.setCell zs4_5 _ _ = zs5_6 at hHeld ⊢
            have HMzs5_6 := Lib.hid (HMzs4_5.out.args' HRzs4_5.out hz)
            have HAzs5_6 := Lib.hid (HAzs4_5.out.set hz)
            have HRzs5_6 := Lib.hid (HMzs4_5.out.carry HRzs4_5.out hz)
            clear hz
            refine PrintLast.done_ (by kernel_rfl) ?_
            clear hHeld
            go_wp2_with fail
            go_meet
            case rel => exact ⟨_, _, _, _, _, ⟨by omega, by omega, fun h => absurd h (by omega), fun h => absurd h (by omega), hv0, (by show 1 ≤ 5; decide)⟩, HMzs5_6.out⟩
          · skip
            have y4 := HMzs2_3.out.st.2.2.2.2.1
            have fz4 := HMzs2_3.out.fz.2.2.2.2.1
            refine PrintLast.skip_ (w1 := ?_) (by rfl) rfl ?_ ?_
            rotate_left
            · go_simp
              rfl
            refine hK.out _ _ ⟨(HMzs2_3.out.text _).raw.2.1, (HMzs2_3.out.text _).raw.2.2.2.2.1, ((HAzs2_3.out.set rfl).at hvj)⟩ (fun hHeld => ?_)
            clear hK K
            clear y4 fz4
            generalize hz : World.setCell zs2_3 _ _ = zs4_4 at hHeld ⊢
            have HMzs4_4 := Lib.hid (HMzs2_3.out.text' hz)
            have HAzs4_4 := Lib.hid (HAzs2_3.out.set hz)
            have HZzs4_4 := Lib.hid (HMzs2_3.out.carryE HZzs2_3.out hz)
            clear hz
            refine PrintLast.one_ (i := 10) (N := some 21) #[true, true, true, true, true, true, true, true, true, true, true, true, true, true, true, false, false] rfl rfl (by kernel_rfl) (by decide) (fun K hK => ?_)
            refine PrintLast.value_ (w1 := ?_) (v := ?_) (by rfl) rfl ?_ ?_
            rotate_left 2
            · go_simp
              constructor
              · rfl
              · rfl
            refine hK.out _ _ ⟨(HMzs4_4.out.below (below_alloc (Below.refl _ _) _)).raw.2.1, (HMzs4_4.out.below (below_alloc (Below.refl _ _) _)).raw.2.2.2.2.1, ((HAzs4_4.out.below (below_alloc (Below.refl _ _) _)).at hvj)⟩ (fun hHeld => ?_)
            clear hK K
            refine PrintLast.norm_ (a' := ?_) ?_ ?_
            rotate_left
            · show Act.put _ (some 21) _ = _
              simp only [Act.put, List.setIfInBounds_toArray, List.set_cons_zero, List.set_cons_succ]
              rfl
            generalize hz : World.alloc zs4_4 _ = zb5 at hHeld ⊢
            have HMzb5 := Lib.hid (HMzs4_4.out.al hz)
            have HAzb5 := Lib.hid (HAzs4_4.out.al hz)
            have HRzb5 : Hid (HasA zb5 w.heap.size [⟨-1, ye⟩] (.slice (some ⟨zs4_4.heap.size, 0, none⟩) 1 1)) := Lib.hid (rowA_one' hz HMzs4_4.out.bel.size HZzs4_4.out (.inr ⟨rfl, HG.out⟩))
            clear hz
            refine PrintLast.pure_ (i := 15) (N := some 24) (v := ?_) (a' := ?_) #[true, true, true, true, true, true, true, true, true, true, true, true, true, true, true, true, false] rfl rfl (by kernel_rfl) (fun _ _ _ h => h) (Or.inl ⟨by rfl, ?_⟩) ?_ ?_
            rotate_left
            · intro w'
              go_simp
              with_reducible rfl
            rotate_left
            · simp only [Act.put, List.setIfInBounds_toArray, List.set_cons_zero, List.set_cons_succ]
              rfl
            refine PrintLast.one_ (i := 16) (N := none) #[true, true, true, true, true, true, true, true, true, true, true, true, true, true, true, true, true] rfl rfl (by kernel_rfl) (by decide) (fun K hK => ?_)
            have y5 := HMzb5.out.st.2.2.2.2.2
            have fz5 := HMzb5.out.fz.2.2.2.2.2
            refine PrintLast.skip_ (w1 := ?_) (by rfl) rfl ?_ ?_
            rotate_left
            · go_simp
              rfl
            refine hK.out _ _ ⟨(HMzb5.out.args HRzb5.out).raw.2.1, (HMzb5.out.args HRzb5.out).raw.2.2.2.2.1, ((HAzb5.out.set rfl).at hvj)⟩ (fun hHeld => ?_)
            clear hK K
            clear y5 fz5
            generalize hz : World.setCell zb5 _ _ = zs5_6 at hHeld ⊢
            have HMzs5_6 := Lib.hid (HMzb5.out.args' HRzb5.out hz)
            have HAzs5_6 := Lib.hid (HAzb5.out.set hz)
            have HRzs5_6 := Lib.hid (HMzb5.out.carry HRzb5.out hz)
            clear hz
            refine PrintLast.done_ (by kernel_rfl) ?_
            clear hHeld
            go_wp2_with fail
            go_meet
            case rel => exact ⟨_, _, _, _, _, ⟨by omega, by omega, fun h => absurd h (by omega), fun h => absurd h (by omega), hv0, (by show 1 ≤ 5; decide)⟩, HMzs5_6.out⟩
      · skip
        refine PrintLast.goes_ Try.func67 (by kernel_rfl) rfl #[.slice A4 x.f4.length c4] (by rfl) rfl rfl (by simp only [List.map_toArray, List.map_cons, List.map_nil]; rfl) ?_
        with_reducible refine ((one_any (c := c4) (Kd.C_below HL.out.g4 HMzc0.out.bel) HL.out.deep HL.out.few)).mono ?_
        rintro e zo1 ⟨ye, ve, rfl, hge, hze, hbc⟩
        refine ⟨_, rfl, ?_⟩
        have HMzo1 := Lib.hid (HMzc0.out.below hbc)
        obtain ⟨Ae, ce, rfl, -⟩ := hze.form
        have HZzo1 := Lib.hid (hze.lower (base' := w.heap.size) HMzc0.out.bel.size)
        have HG := Lib.hid hge
        unfold eAgg
        clear hbc hze hge
        refine hK.out _ _ ⟨(HMzo1.out).raw.2.1, (HMzo1.out).raw.2.2.2.2.1⟩ (fun hHeld => ?_)
        clear hK K
        refine PrintLast.norm_ (a' := ?_) ?_ ?_
        rotate_left
        · show Act.put _ (some 19) _ = _
          simp only [Act.put, List.setIfInBounds_toArray, List.set_cons_zero, List.set_cons_succ]
          rfl
        refine PrintLast.pure_ (i := 9) (N := some 20) (v := ?_) (a' := ?_) #[false, true, true, true, false, false, true, true, true, true, false, true, false, false, false, false, false] rfl rfl (by kernel_rfl) (fun _ _ _ h => h) (Or.inl ⟨by rfl, ?_⟩) ?_ ?_
        rotate_left
        · intro w'
          go_simp
          with_reducible rfl
        rotate_left
        · simp only [Act.put, List.setIfInBounds_toArray, List.set_cons_zero, List.set_cons_succ]
          rfl
        refine PrintLast.three_ (i := 0) (j := 10) (k := 12) (Ni := some 11) (Nj := some 21) (Nk := none) #[true, true, true, true, false, false, true, true, true, true, false, true, false, false, false, false, false] #[false, true, true, true, false, false, true, true, true, true, true, true, false, false, false, false, false] #[false, true, true, true, false, false, true, true, true, true, false, true, true, false, false, false, false] rfl rfl rfl rfl rfl rfl (by kernel_rfl) (by decide) (by decide) (by decide) (fun K hK => ?_) (fun K hK => ?_) (fun K hK => ?_)
        · skip
          refine PrintLast.value_ (w1 := ?_) (v := ?_) (by rfl) rfl ?_ ?_
          rotate_left 2
          · go_simp
            constructor
            · rfl
            · rfl
          refine hK.out _ _ ⟨(HMzo1.out.below (below_alloc (Below.refl _ _) _)).raw.2.1, (HMzo1.out.below (below_alloc (Below.refl _ _) _)).raw.2.2.2.2.1⟩ (fun hHeld => ?_)
          clear hK K
          refine PrintLast.norm_ (a' := ?_) ?_ ?_
          rotate_left
          · show Act.put _ (some 11) _ = _
            simp only [Act.put, List.setIfInBounds_toArray, List.set_cons_zero, List.set_cons_succ]
            rfl
          generalize hz : World.alloc zo1 _ = za2 at hHeld ⊢
          have HMza2 := Lib.hid (HMzo1.out.al hz)
          have HAza2 : Hid (asS w za2 _ tab3 9) := Lib.hid (asS.new HMzo1.out hz)
          have HZza2 := Lib.hid (hz ▸ HZzo1.out.below (below_alloc (Below.refl _ _) _))
          clear hz
          replace hHeld := (⟨hHeld.1, hHeld.2, HAza2.out.at hvj⟩ : _ ∧ _ ∧ _)
          refine more_ (S' := fun w' => w'.cell? ⟨w.heap.size, 1, none⟩ = some (.int .i64 x.f1) ∧ w'.cell? ⟨w.heap.size, 4, none⟩ = some (.slice A4 x.f4.length c4) ∧ w'.cell? ⟨zo1.heap.size, j, none⟩ = some (.string v)) (fun _ h => ⟨h.1, h.2.1⟩) hHeld ?_
          refine PrintLast.pure_ (i := 4) (N := some 15) (v := ?_) (a' := ?_) #[true, true, true, true, true, false, true, true, true, true, false, true, false, false, false, false, false] rfl rfl (by kernel_rfl) (fun _ _ _ h => h) (Or.inl ⟨by rfl, ?_⟩) ?_ ?_
          rotate_left
          · intro w'
            go_simp
            with_reducible rfl
          rotate_left
          · simp only [Act.put, List.setIfInBounds_toArray, List.set_cons_zero, List.set_cons_succ]
            rfl
          refine PrintLast.take_ (i := 5) (N := some 16) (v := ?_) (a' := ?_) #[true, true, true, true, true, true, true, true, true, true, false, true, false, false, false, false, false] rfl rfl (by kernel_rfl) (fun _ _ _ h => h) (Or.inl ⟨by rfl, ?_⟩) hHeld ?_ ?_
          rotate_left
          · rintro w' ⟨s0, s1, s2⟩
            go_simp
            with_reducible rfl
          rotate_left
          · simp only [Act.put, List.setIfInBounds_toArray, List.set_cons_zero, List.set_cons_succ]
            rfl
          refine PrintLast.two_ (i := 10) (j := 12) (Ni := some 21) (Nj := none) #[true, true, true, true, true, true, true, true, true, true, true, true, false, false, false, false, false] #[true, true, true, true, true, true, true, true, true, true, false, true, true, false, false, false, false] rfl rfl rfl rfl (by kernel_rfl) (by decide) (by decide) (fun K hK => ?_) (fun K hK => ?_)
          · skip
            refine PrintLast.value_ (w1 := ?_) (v := ?_) (by rfl) rfl ?_ ?_
            rotate_left 2
            · go_simp
              constructor
              · rfl
              · rfl
            refine hK.out _ _ ⟨(HMza2.out.below (below_alloc (Below.refl _ _) _)).raw.2.1, (HMza2.out.below (below_alloc (Below.refl _ _) _)).raw.2.2.2.2.1, ((HAza2.out.below (below_alloc (Below.refl _ _) _)).at hvj)⟩ (fun hHeld => ?_)
            clear hK K
            refine PrintLast.norm_ (a' := ?_) ?_ ?_
            rotate_left
            · show Act.put _ (some 21) _ = _
              simp only [Act.put, List.setIfInBounds_toArray, List.set_cons_zero, List.set_cons_succ]
              rfl
            generalize hz : World.alloc za2 _ = zb3 at hHeld ⊢
            have HMzb3 := Lib.hid (HMza2.out.al hz)
            have HAzb3 := Lib.hid (HAza2.out.al hz)
            have HRzb3 : Hid (HasA zb3 w.heap.size [⟨-1, ye⟩] (.slice (some ⟨za2.heap.size, 0, none⟩) 1 1)) := Lib.hid (rowA_one' hz HMza2.out.bel.size HZza2.out (.inr ⟨rfl, HG.out⟩))
            clear hz
            refine PrintLast.one_ (i := 12) (N := none) #[true, true, true, true, true, true, true, true, true, true, true, true, true, false, false, false, false] rfl rfl (by kernel_rfl) (by decide) (fun K hK => ?_)
            have y2 := HMzb3.out.st.2.2.1
            have fz2 := HMzb3.out.fz.2.2.1
            refine PrintLast.skip_ (w1 := ?_) (by rfl) rfl ?_ ?_
            rotate_left
            · go_simp
              rfl
            refine hK.out _ _ ⟨(HMzb3.out.kind _).raw.2.1, (HMzb3.out.kind _).raw.2.2.2.2.1, ((HAzb3.out.set rfl).at hvj)⟩ (fun hHeld => ?_)
            clear hK K
            clear y2 fz2
            generalize hz : World.setCell zb3 _ _ = zs2_4 at hHeld ⊢
            have HMzs2_4 := Lib.hid (HMzb3.out.kind' hz)
            have HAzs2_4 := Lib.hid (HAzb3.out.set hz)
            have HRzs2_4 := Lib.hid (HMzb3.out.carry HRzb3.out hz)
            clear hz
            refine PrintLast.pure_ (i := 13) (N := some 23) (v := ?_) (a' := ?_) #[true, true, true, true, true, true, true, true, true, true, true, true, true, true, false, false, false] rfl rfl (by kernel_rfl) (fun _ _ _ h => h) (Or.inl ⟨by rfl, ?_⟩) ?_ ?_
            rotate_left
            · intro w'
              go_simp
              with_reducible rfl
            rotate_left
            · simp only [Act.put, List.setIfInBounds_toArray, List.set_cons_zero, List.set_cons_succ]
              rfl
            refine PrintLast.one_ (i := 14) (N := none) #[true, true, true, true, true, true, true, true, true, true, true, true, true, true, true, false, false] rfl rfl (by kernel_rfl) (by decide) (fun K hK => ?_)
            have y4 := HMzs2_4.out.st.2.2.2.2.1
            have fz4 := HMzs2_4.out.fz.2.2.2.2.1
            refine PrintLast.skip_ (w1 := ?_) (by rfl) rfl ?_ ?_
            rotate_left
            · go_simp
              rfl
            refine hK.out _ _ ⟨(HMzs2_4.out.text _).raw.2.1, (HMzs2_4.out.text _).raw.2.2.2.2.1, ((HAzs2_4.out.set rfl).at hvj)⟩ (fun hHeld => ?_)
            clear hK K
            clear y4 fz4
            generalize hz : World.setCell zs2_4 _ _ = zs4_5 at hHeld ⊢
            have HMzs4_5 := Lib.hid (HMzs2_4.out.text' hz)
            have HAzs4_5 := Lib.hid (HAzs2_4.out.set hz)
            have HRzs4_5 := Lib.hid (HMzs2_4.out.carry HRzs2_4.out hz)
            clear hz
            refine PrintLast.pure_ (i := 15) (N := some 24) (v := ?_) (a' := ?_) #[true, true, true, true, true, true, true, true, true, true, true, true, true, true, true, true, false] rfl rfl (by kernel_rfl) (fun _ _ _ h => h) (Or.inl ⟨by rfl, ?_⟩) ?_ ?_
            rotate_left
            · intro w'
              go_simp
              with_reducible rfl
            rotate_left
            · simp only [Act.put, List.setIfInBounds_toArray, List.set_cons_zero, List.set_cons_succ]
              rfl
            refine PrintLast.one_ (i := 16) (N := none) #[true, true, true, true, true, true, true, true, true, true, true, true, true, true, true, true, true] rfl rfl (by kernel_rfl) (by decide) (fun K hK => ?_)
            have y5 := HMzs4_5.out.st.2.2.2.2.2
            have fz5 := HMzs4_5.out.fz.2.2.2.2.2
            refine PrintLast.skip_ (w1 := ?_) (by rfl) rfl ?_ ?_
            rotate_left
            · go_simp
              rfl
            refine hK.out _ _ ⟨(HMzs4_5.out.args HRzs4_5.out).raw.2.1, (HMzs4_5.out.args HRzs4_5.out).raw.2.2.2.2.1, ((HAzs4_5.out.set rfl).at hvj)⟩ (fun hHeld => ?_)
            clear hK K
            clear y5 fz5
            generalize hz : World.setCell zs4_5 _ _ = zs5_6 at hHeld ⊢
            have HMzs5_6 := Lib.hid (HMzs4_5.out.args' HRzs4_5.out hz)
            have HAzs5_6 := Lib.hid (HAzs4_5.out.set hz)
            have HRzs5_6 := Lib.hid (HMzs4_5.out.carry HRzs4_5.out hz)
            clear hz
            refine PrintLast.done_ (by kernel_rfl) ?_
            clear hHeld
            go_wp2_with fail
            go_meet
            case rel => exact ⟨_, _, _, _, _, ⟨by omega, by omega, fun h => absurd h (by omega), fun h => absurd h (by omega), hv0, (by show 1 ≤ 5; decide)⟩, HMzs5_6.out⟩
          · skip
            have y2 := HMza2.out.st.2.2.1
            have fz2 := HMza2.out.fz.2.2.1
            refine PrintLast.skip_ (w1 := ?_) (by rfl) rfl ?_ ?_
            rotate_left
            · go_simp
              rfl
            refine hK.out _ _ ⟨(HMza2.out.kind _).raw.2.1, (HMza2.out.kind _).raw.2.2.2.2.1, ((HAza2.out.set rfl).at hvj)⟩ (fun hHeld => ?_)
            clear hK K
            clear y2 fz2
            generalize hz : World.setCell za2 _ _ = zs2_3 at hHeld ⊢
            have HMzs2_3 := Lib.hid (HMza2.out.kind' hz)
            have HAzs2_3 := Lib.hid (HAza2.out.set hz)
            have HZzs2_3 := Lib.hid (HMza2.out.carryE HZza2.out hz)
            clear hz
            refine PrintLast.pure_ (i := 13) (N := some 23) (v := ?_) (a' := ?_) #[true, true, true, true, true, true, true, true, true, true, false, true, true, true, false, false, false] rfl rfl (by kernel_rfl) (fun _ _ _ h => h) (Or.inl ⟨by rfl, ?_⟩) ?_ ?_
            rotate_left
            · intro w'
              go_simp
              with_reducible rfl
            rotate_left
            · simp only [Act.put, List.setIfInBounds_toArray, List.set_cons_zero, List.set_cons_succ]
              rfl
            refine PrintLast.two_ (i := 10) (j := 14) (Ni := some 21) (Nj := none) #[true, true, true, true, true, true, true, true, true, true, true, true, true, true, false, false, false] #[true, true, true, true, true, true, true, true, true, true, false, true, true, true, true, false, false] rfl rfl rfl rfl (by kernel_rfl) (by decide) (by decide) (fun K hK => ?_) (fun K hK => ?_)
            · skip
              refine PrintLast.value_ (w1 := ?_) (v := ?_) (by rfl) rfl ?_ ?_
              rotate_left 2
              · go_simp
                constructor
                · rfl
                · rfl
              refine hK.out _ _ ⟨(HMzs2_3.out.below (below_alloc (Below.refl _ _) _)).raw.2.1, (HMzs2_3.out.below (below_alloc (Below.refl _ _) _)).raw.2.2.2.2.1, ((HAzs2_3.out.below (below_alloc (Below.refl _ _) _)).at hvj)⟩ (fun hHeld => ?_)
              clear hK K
              refine PrintLast.norm_ (a' := ?_) ?_ ?_
              rotate_left
              · show Act.put _ (some 21) _ = _
                simp only [Act.put, List.setIfInBounds_toArray, List.set_cons_zero, List.set_cons_succ]
                rfl
              generalize hz : World.alloc zs2_3 _ = zb4 at hHeld ⊢
              have HMzb4 := Lib.hid (HMzs2_3.out.al hz)
              have HAzb4 := Lib.hid (HAzs2_3.out.al hz)
              have HRzb4 : Hid (HasA zb4 w.heap.size [⟨-1, ye⟩] (.slice (some ⟨zs2_3.heap.size, 0, none⟩) 1 1)) := Lib.hid (rowA_one' hz HMzs2_3.out.bel.size HZzs2_3.out (.inr ⟨rfl, HG.out⟩))
              clear hz
              refine PrintLast.one_ (i := 14) (N := none) #[true, true, true, true, true, true, true, true, true, true, true, true, true, true, true, false, false] rfl rfl (by kernel_rfl) (by decide) (fun K hK => ?_)
              have y4 := HMzb4.out.st.2.2.2.2.1
              have fz4 := HMzb4.out.fz.2.2.2.2.1
              refine PrintLast.skip_ (w1 := ?_) (by rfl) rfl ?_ ?_
              rotate_left
              · go_simp
                rfl
              refine hK.out _ _ ⟨(HMzb4.out.text _).raw.2.1, (HMzb4.out.text _).raw.2.2.2.2.1, ((HAzb4.out.set rfl).at hvj)⟩ (fun hHeld => ?_)
              clear hK K
              clear y4 fz4
              generalize hz : World.setCell zb4 _ _ = zs4_5 at hHeld ⊢
              have HMzs4_5 := Lib.hid (HMzb4.out.text' hz)
              have HAzs4_5 := Lib.hid (HAzb4.out.set hz)
              have HRzs4_5 := Lib.hid (HMzb4.out.carry HRzb4.out hz)
              clear hz
              refine PrintLast.pure_ (i := 15) (N := some 24) (v := ?_) (a' := ?_) #[true, true, true, true, true, true, true, true, true, true, true, true, true, true, true, true, false] rfl rfl (by kernel_rfl) (fun _ _ _ h => h) (Or.inl ⟨by rfl, ?_⟩) ?_ ?_
              rotate_left
              · intro w'
                go_simp
                with_reducible rfl
              rotate_left
              · simp only [Act.put, List.setIfInBounds_toArray, List.set_cons_zero, List.set_cons_succ]
                rfl
              refine PrintLast.one_ (i := 16) (N := none) #[true, true, true, true, true, true, true, true, true, true, true, true, true, true, true, true, true] rfl rfl (by kernel_rfl) (by decide) (fun K hK => ?_)
              have y5 := HMzs4_5.out.st.2.2.2.2.2
              have fz5 := HMzs4_5.out.fz.2.2.2.2.2
              refine PrintLast.skip_ (w1 := ?_) (by rfl) rfl ?_ ?_
              rotate_left
              · go_simp
                rfl
              refine hK.out _ _ ⟨(HMzs4_5.out.args HRzs4_5.out).raw.2.1, (HMzs4_5.out.args HRzs4_5.out).raw.2.2.2.2.1, ((HAzs4_5.out.set rfl).at hvj)⟩ (fun hHeld => ?_)
              clear hK K
              clear y5 fz5
              generalize hz : World.setCell zs4_5 _ _ = zs5_6 at hHeld ⊢
              have HMzs5_6 := Lib.hid (HMzs4_5.out.args' HRzs4_5.out hz)
              have HAzs5_6 := Lib.hid (HAzs4_5.out.set hz)
              have HRzs5_6 := Lib.hid (HMzs4_5.out.carry HRzs4_5.out hz)
              clear hz
              refine PrintLast.done_ (by kernel_rfl) ?_
              clear hHeld
              go_wp2_with fail
              go_meet
              case rel => exact ⟨_, _, _, _, _, ⟨by omega, by omega, fun h => absurd h (by omega), fun h => absurd h (by omega), hv0, (by show 1 ≤ 5; decide)⟩, HMzs5_6.out⟩
            · skip
              have y4 := HMzs2_3.out.st.2.2.2.2.1
              have fz4 := HMzs2_3.out.fz.2.2.2.2.1
              refine PrintLast.skip_ (w1 := ?_) (by rfl) rfl ?_ ?_
              rotate_left
              · go_simp
                rfl
              refine hK.out _ _ ⟨(HMzs2_3.out.text _).raw.2.1, (HMzs2_3.out.text _).raw.2.2.2.2.1, ((HAzs2_3.out.set rfl).at hvj)⟩ (fun hHeld => ?_)
              clear hK K
              clear y4 fz4
              generalize hz : World.setCell zs2_3 _ _ = zs4_4 at hHeld ⊢
              have HMzs4_4 := Lib.hid (HMzs2_3.out.text' hz)
              have HAzs4_4 := Lib.hid (HAzs2_3.out.set hz)
              have HZzs4_4 := Lib.hid (HMzs2_3.out.carryE HZzs2_3.out hz)
              clear hz
              refine PrintLast.one_ (i := 10) (N := some 21) #[true, true, true, true, true, true, true, true, true, true, true, true, true, true, true, false, false] rfl rfl (by kernel_rfl) (by decide) (fun K hK => ?_)
              refine PrintLast.value_ (w1 := ?_) (v := ?_) (by rfl) rfl ?_ ?_
              rotate_left 2
              · go_simp
                constructor
                · rfl
                · rfl
              refine hK.out _ _ ⟨(HMzs4_4.out.below (below_alloc (Below.refl _ _) _)).raw.2.1, (HMzs4_4.out.below (below_alloc (Below.refl _ _) _)).raw.2.2.2.2.1, ((HAzs4_4.out.below (below_alloc (Below.refl _ _) _)).at hvj)⟩ (fun hHeld => ?_)
              clear hK K
              refine PrintLast.norm_ (a' := ?_) ?_ ?_
              rotate_left
              · show Act.put _ (some 21) _ = _
                simp only [Act.put, List.setIfInBounds_toArray, List.set_cons_zero, List.set_cons_succ]
                rfl
              generalize hz : World.alloc zs4_4 _ = zb5 at hHeld ⊢
              have HMzb5 := Lib.hid (HMzs4_4.out.al hz)
              have HAzb5 := Lib.hid (HAzs4_4.out.al hz)
              have HRzb5 : Hid (HasA zb5 w.heap.size [⟨-1, ye⟩] (.slice (some ⟨zs4_4.heap.size, 0, none⟩) 1 1)) := Lib.hid (rowA_one' hz HMzs4_4.out.bel.size HZzs4_4.out (.inr ⟨rfl, HG.out⟩))
              clear hz
              refine PrintLast.pure_ (i := 15) (N := some 24) (v := ?_) (a' := ?_) #[true, true, true, true, true, true, true, true, true, true, true, true, true, true, true, true, false] rfl rfl (by kernel_rfl) (fun _ _ _ h => h) (Or.inl ⟨by rfl, ?_⟩) ?_ ?_
              rotate_left
              · intro w'
                go_simp
                with_reducible rfl
              rotate_left
              · simp only [Act.put, List.setIfInBounds_toArray, List.set_cons_zero, List.set_cons_succ]
                rfl
              refine PrintLast.one_ (i := 16) (N := none) #[true, true, true, true, true, true, true, true, true, true, true, true, true, true, true, true, true] rfl rfl (by kernel_rfl) (by decide) (fun K hK => ?_)
              have y5 := HMzb5.out.st.2.2.2.2.2
              have fz5 := HMzb5.out.fz.2.2.2.2.2
              refine PrintLast.skip_ (w1 := ?_) (by rfl) rfl ?_ ?_
              rotate_left
              · go_simp
                rfl
              refine hK.out _ _ ⟨(HMzb5.out.args HRzb5.out).raw.2.1, (HMzb5.out.args HRzb5.out).raw.2.2.2.2.1, ((HAzb5.out.set rfl).at hvj)⟩ (fun hHeld => ?_)
              clear hK K
              clear y5 fz5
              generalize hz : World.setCell zb5 _ _ = zs5_6 at hHeld ⊢
              have HMzs5_6 := Lib.hid (HMzb5.out.args' HRzb5.out hz)
              have HAzs5_6 := Lib.hid (HAzb5.out.set hz)
              have HRzs5_6 := Lib.hid (HMzb5.out.carry HRzb5.out hz)
              clear hz
              refine PrintLast.done_ (by kernel_rfl) ?_
              clear hHeld
              go_wp2_with fail
              go_meet
              case rel => exact ⟨_, _, _, _, _, ⟨by omega, by omega, fun h => absurd h (by omega), fun h => absurd h (by omega), hv0, (by show 1 ≤ 5; decide)⟩, HMzs5_6.out⟩
        · skip
          refine PrintLast.value_ (w1 := ?_) (v := ?_) (by rfl) rfl ?_ ?_
          rotate_left 2
          · go_simp
            constructor
            · rfl
            · rfl
          refine hK.out _ _ ⟨(HMzo1.out.below (below_alloc (Below.refl _ _) _)).raw.2.1, (HMzo1.out.below (below_alloc (Below.refl _ _) _)).raw.2.2.2.2.1⟩ (fun hHeld => ?_)
          clear hK K
          refine PrintLast.norm_ (a' := ?_) ?_ ?_
          rotate_left
          · show Act.put _ (some 21) _ = _
            simp only [Act.put, List.setIfInBounds_toArray, List.set_cons_zero, List.set_cons_succ]
            rfl
          generalize hz : World.alloc zo1 _ = zb2 at hHeld ⊢
          have HMzb2 := Lib.hid (HMzo1.out.al hz)
          have HRzb2 : Hid (HasA zb2 w.heap.size [⟨-1, ye⟩] (.slice (some ⟨zo1.heap.size, 0, none⟩) 1 1)) := Lib.hid (rowA_one' hz HMzo1.out.bel.size HZzo1.out (.inr ⟨rfl, HG.out⟩))
          clear hz
          refine PrintLast.two_ (i := 0) (j := 12) (Ni := some 11) (Nj := none) #[true, true, true, true, false, false, true, true, true, true, true, true, false, false, false, false, false] #[false, true, true, true, false, false, true, true, true, true, true, true, true, false, false, false, false] rfl rfl rfl rfl (by kernel_rfl) (by decide) (by decide) (fun K hK => ?_) (fun K hK => ?_)
          · skip
            refine PrintLast.value_ (w1 := ?_) (v := ?_) (by rfl) rfl ?_ ?_
            rotate_left 2
            · go_simp
              constructor
              · rfl
              · rfl
            refine hK.out _ _ ⟨(HMzb2.out.below (below_alloc (Below.refl _ _) _)).raw.2.1, (HMzb2.out.below (below_alloc (Below.refl _ _) _)).raw.2.2.2.2.1⟩ (fun hHeld => ?_)
            clear hK K
            refine PrintLast.norm_ (a' := ?_) ?_ ?_
            rotate_left
            · show Act.put _ (some 11) _ = _
              simp only [Act.put, List.setIfInBounds_toArray, List.set_cons_zero, List.set_cons_succ]
              rfl
            generalize hz : World.alloc zb2 _ = za3 at hHeld ⊢
            have HMza3 := Lib.hid (HMzb2.out.al hz)
            have HAza3 : Hid (asS w za3 _ tab3 9) := Lib.hid (asS.new HMzb2.out hz)
            have HRza3 := Lib.hid (HRzb2.out.al hz)
            clear hz
            replace hHeld := (⟨hHeld.1, hHeld.2, HAza3.out.at hvj⟩ : _ ∧ _ ∧ _)
            refine more_ (S' := fun w' => w'.cell? ⟨w.heap.size, 1, none⟩ = some (.int .i64 x.f1) ∧ w'.cell? ⟨w.heap.size, 4, none⟩ = some (.slice A4 x.f4.length c4) ∧ w'.cell? ⟨zb2.heap.size, j, none⟩ = some (.string v)) (fun _ h => ⟨h.1, h.2.1⟩) hHeld ?_
            refine PrintLast.pure_ (i := 4) (N := some 15) (v := ?_) (a' := ?_) #[true, true, true, true, true, false, true, true, true, true, true, true, false, false, false, false, false] rfl rfl (by kernel_rfl) (fun _ _ _ h => h) (Or.inl ⟨by rfl, ?_⟩) ?_ ?_
            rotate_left
            · intro w'
              go_simp
              with_reducible rfl
            rotate_left
            · simp only [Act.put, List.setIfInBounds_toArray, List.set_cons_zero, List.set_cons_succ]
              rfl
            refine PrintLast.take_ (i := 5) (N := some 16) (v := ?_) (a' := ?_) #[true, true, true, true, true, true, true, true, true, true, true, true, false, false, false, false, false] rfl rfl (by kernel_rfl) (fun _ _ _ h => h) (Or.inl ⟨by rfl, ?_⟩) hHeld ?_ ?_
            rotate_left
            · rintro w' ⟨s0, s1, s2⟩
              go_simp
              with_reducible rfl
            rotate_left
            · simp only [Act.put, List.setIfInBounds_toArray, List.set_cons_zero, List.set_cons_succ]
              rfl
            refine PrintLast.one_ (i := 12) (N := none) #[true, true, true, true, true, true, true, true, true, true, true, true, true, false, false, false, false] rfl rfl (by kernel_rfl) (by decide) (fun K hK => ?_)
            have y2 := HMza3.out.st.2.2.1
            have fz2 := HMza3.out.fz.2.2.1
            refine PrintLast.skip_ (w1 := ?_) (by rfl) rfl ?_ ?_
            rotate_left
            · go_simp
              rfl
            refine hK.out _ _ ⟨(HMza3.out.kind _).raw.2.1, (HMza3.out.kind _).raw.2.2.2.2.1, ((HAza3.out.set rfl).at hvj)⟩ (fun hHeld => ?_)
            clear hK K
            clear y2 fz2
            generalize hz : World.setCell za3 _ _ = zs2_4 at hHeld ⊢
            have HMzs2_4 := Lib.hid (HMza3.out.kind' hz)
            have HAzs2_4 := Lib.hid (HAza3.out.set hz)
            have HRzs2_4 := Lib.hid (HMza3.out.carry HRza3.out hz)
            clear hz
            refine PrintLast.pure_ (i := 13) (N := some 23) (v := ?_) (a' := ?_) #[true, true, true, true, true, true, true, true, true, true, true, true, true, true, false, false, false] rfl rfl (by kernel_rfl) (fun _ _ _ h => h) (Or.inl ⟨by rfl, ?_⟩) ?_ ?_
            rotate_left
            · intro w'
              go_simp
              with_reducible rfl
            rotate_left
            · simp only [Act.put, List.setIfInBounds_toArray, List.set_cons_zero, List.set_cons_succ]
              rfl
            refine PrintLast.one_ (i := 14) (N := none) #[true, true, true, true, true, true, true, true, true, true, true, true, true, true, true, false, false] rfl rfl (by kernel_rfl) (by decide) (fun K hK => ?_)
            have y4 := HMzs2_4.out.st.2.2.2.2.1
            have fz4 := HMzs2_4.out.fz.2.2.2.2.1
            refine PrintLast.skip_ (w1 := ?_) (by rfl) rfl ?_ ?_
            rotate_left
            · go_simp
              rfl
            refine hK.out _ _ ⟨(HMzs2_4.out.text _).raw.2.1, (HMzs2_4.out.text _).raw.2.2.2.2.1, ((HAzs2_4.out.set rfl).at hvj)⟩ (fun hHeld => ?_)
            clear hK K
            clear y4 fz4
            generalize hz : World.setCell zs2_4 _ _ = zs4_5 at hHeld ⊢
            have HMzs4_5 := Lib.hid (HMzs2_4.out.text' hz)
            have HAzs4_5 := Lib.hid (HAzs2_4.out.set hz)
            have HRzs4_5 := Lib.hid (HMzs2_4.out.carry HRzs2_4.out hz)
            clear hz
            refine PrintLast.pure_ (i := 15) (N := some 24) (v := ?_) (a' := ?_) #[true, true, true, true, true, true, true, true, true, true, true, true, true, true, true, true, false] rfl rfl (by kernel_rfl) (fun _ _ _ h => h) (Or.inl ⟨by rfl, ?_⟩) ?_ ?_
            rotate_left
            · intro w'
              go_simp
              with_reducible rfl
            rotate_left
            · simp only [Act.put, List.setIfInBounds_toArray, List.set_cons_zero, List.set_cons_succ]
              rfl
            refine PrintLast.one_ (i := 16) (N := none) #[true, true, true, true, true, true, true, true, true, true, true, true, true, true, true, true, true] rfl rfl (by kernel_rfl) (by decide) (fun K hK => ?_)
            have y5 := HMzs4_5.out.st.2.2.2.2.2
            have fz5 := HMzs4_5.out.fz.2.2.2.2.2
            refine PrintLast.skip_ (w1 := ?_) (by rfl) rfl ?_ ?_
            rotate_left
            · go_simp
              rfl
            refine hK.out _ _ ⟨(HMzs4_5.out.args HRzs4_5.out).raw.2.1, (HMzs4_5.out.args HRzs4_5.out).raw.2.2.2.2.1, ((HAzs4_5.out.set rfl).at hvj)⟩ (fun hHeld => ?_)
            clear hK K
            clear y5 fz5
            generalize hz : World.setCell zs4_5 _ _ = zs5_6 at hHeld ⊢
            have HMzs5_6 := Lib.hid (HMzs4_5.out.args' HRzs4_5.out hz)
            have HAzs5_6 := Lib.hid (HAzs4_5.out.set hz)
            have HRzs5_6 := Lib.hid (HMzs4_5.out.carry HRzs4_5.out hz)
            clear hz
            refine PrintLast.done_ (by kernel_rfl) ?_
            clear hHeld
            go_wp2_with fail
            go_meet
            case rel => exact ⟨_, _, _, _, _, ⟨by omega, by omega, fun h => absurd h (by omega), fun h => absurd h (by omega), hv0, (by show 1 ≤ 5; decide)⟩, HMzs5_6.out⟩
          · skip
            have y2 := HMzb2.out.st.2.2.1
            have fz2 := HMzb2.out.fz.2.2.1
            refine PrintLast.skip_ (w1 := ?_) (by rfl) rfl ?_ ?_
            rotate_left
            · go_simp
              rfl
            refine hK.out _ _ ⟨(HMzb2.out.kind _).raw.2.1, (HMzb2.out.kind _).raw.2.2.2.2.1⟩ (fun hHeld => ?_)
            clear hK K
            clear y2 fz2
            generalize hz : World.setCell zb2 _ _ = zs2_3 at hHeld ⊢
            have HMzs2_3 := Lib.hid (HMzb2.out.kind' hz)
            have HRzs2_3 := Lib.hid (HMzb2.out.carry HRzb2.out hz)
            clear hz
            refine PrintLast.one_ (i := 0) (N := some 11) #[true, true, true, true, false, false, true, true, true, true, true, true, true, false, false, false, false] rfl rfl (by kernel_rfl) (by decide) (fun K hK => ?_)
            refine PrintLast.value_ (w1 := ?_) (v := ?_) (by rfl) rfl ?_ ?_
            rotate_left 2
            · go_simp
              constructor
              · rfl
              · rfl
            refine hK.out _ _ ⟨(HMzs2_3.out.below (below_alloc (Below.refl _ _) _)).raw.2.1, (HMzs2_3.out.below (below_alloc (Below.refl _ _) _)).raw.2.2.2.2.1⟩ (fun hHeld => ?_)
            clear hK K
            refine PrintLast.norm_ (a' := ?_) ?_ ?_
            rotate_left
            · show Act.put _ (some 11) _ = _
              simp only [Act.put, List.setIfInBounds_toArray, List.set_cons_zero, List.set_cons_succ]
              rfl
            generalize hz : World.alloc zs2_3 _ = za4 at hHeld ⊢
            have HMza4 := Lib.hid (HMzs2_3.out.al hz)
            have HAza4 : Hid (asS w za4 _ tab3 9) := Lib.hid (asS.new HMzs2_3.out hz)
            have HRza4 := Lib.hid (HRzs2_3.out.al hz)
            clear hz
            replace hHeld := (⟨hHeld.1, hHeld.2, HAza4.out.at hvj⟩ : _ ∧ _ ∧ _)
            refine more_ (S' := fun w' => w'.cell? ⟨w.heap.size, 1, none⟩ = some (.int .i64 x.f1) ∧ w'.cell? ⟨w.heap.size, 4, none⟩ = some (.slice A4 x.f4.length c4) ∧ w'.cell? ⟨zs2_3.heap.size, j, none⟩ = some (.string v)) (fun _ h => ⟨h.1, h.2.1⟩) hHeld ?_
            refine PrintLast.pure_ (i := 4) (N := some 15) (v := ?_) (a' := ?_) #[true, true, true, true, true, false, true, true, true, true, true, true, true, false, false, false, false] rfl rfl (by kernel_rfl) (fun _ _ _ h => h) (Or.inl ⟨by rfl, ?_⟩) ?_ ?_
            rotate_left
            · intro w'
              go_simp
              with_reducible rfl
            rotate_left
            · simp only [Act.put, List.setIfInBounds_toArray, List.set_cons_zero, List.set_cons_succ]
              rfl
            refine PrintLast.take_ (i := 5) (N := some 16) (v := ?_) (a' := ?_) #[true, true, true, true, true, true, true, true, true, true, true, true, true, false, false, false, false] rfl rfl (by kernel_rfl) (fun _ _ _ h => h) (Or.inl ⟨by rfl, ?_⟩) hHeld ?_ ?_
            rotate_left
            · rintro w' ⟨s0, s1, s2⟩
              go_simp
              with_reducible rfl
            rotate_left
            · simp only [Act.put, List.setIfInBounds_toArray, List.set_cons_zero, List.set_cons_succ]
              rfl
            refine PrintLast.pure_ (i := 13) (N := some 23) (v := ?_) (a' := ?_) #[true, true, true, true, true, true, true, true, true, true, true, true, true, true, false, false, false] rfl rfl (by kernel_rfl) (fun _ _ _ h => h) (Or.inl ⟨by rfl, ?_⟩) ?_ ?_
            rotate_left
            · intro w'
              go_simp
              with_reducible rfl
            rotate_left
            · simp only [Act.put, List.setIfInBounds_toArray, List.set_cons_zero, List.set_cons_succ]
              rfl
            refine PrintLast.one_ (i := 14) (N := none) #[true, true, true, true, true, true, true, true, true, true, true, true, true, true, true, false, false] rfl rfl (by kernel_rfl) (by decide) (fun K hK => ?_)
            have y4 := HMza4.out.st.2.2.2.2.1
            have fz4 := HMza4.out.fz.2.2.2.2.1
            refine PrintLast.skip_ (w1 := ?_) (by rfl) rfl ?_ ?_
            rotate_left
            · go_simp
              rfl
            refine hK.out _ _ ⟨(HMza4.out.text _).raw.2.1, (HMza4.out.text _).raw.2.2.2.2.1, ((HAza4.out.set rfl).at hvj)⟩ (fun hHeld => ?_)
            clear hK K
            clear y4 fz4
            generalize hz : World.setCell za4 _ _ = zs4_5 at hHeld ⊢
            have HMzs4_5 := Lib.hid (HMza4.out.text' hz)
            have HAzs4_5 := Lib.hid (HAza4.out.set hz)
            have HRzs4_5 := Lib.hid (HMza4.out.carry HRza4.out hz)
            clear hz
            refine PrintLast.pure_ (i := 15) (N := some 24) (v := ?_) (a' := ?_) #[true, true, true, true, true, true, true, true, true, true, true, true, true, true, true, true, false] rfl rfl (by kernel_rfl) (fun _ _ _ h => h) (Or.inl ⟨by rfl, ?_⟩) ?_ ?_
            rotate_left
            · intro w'
              go_simp
              with_reducible rfl
            rotate_left
            · simp only [Act.put, List.setIfInBounds_toArray, List.set_cons_zero, List.set_cons_succ]
              rfl
            refine PrintLast.one_ (i := 16) (N := none) #[true, true, true, true, true, true, true, true, true, true, true, true, true, true, true, true, true] rfl rfl (by kernel_rfl) (by decide) (fun K hK => ?_)
            have y5 := HMzs4_5.out.st.2.2.2.2.2
            have fz5 := HMzs4_5.out.fz.2.2.2.2.2
            refine PrintLast.skip_ (w1 := ?_) (by rfl) rfl ?_ ?_
            rotate_left
            · go_simp
              rfl
            refine hK.out _ _ ⟨(HMzs4_5.out.args HRzs4_5.out).raw.2.1, (HMzs4_5.out.args HRzs4_5.out).raw.2.2.2.2.1, ((HAzs4_5.out.set rfl).at hvj)⟩ (fun hHeld => ?_)
            clear hK K
            clear y5 fz5
            generalize hz : World.setCell zs4_5 _ _ = zs5_6 at hHeld ⊢
            have HMzs5_6 := Lib.hid (HMzs4_5.out.args' HRzs4_5.out hz)
            have HAzs5_6 := Lib.hid (HAzs4_5.out.set hz)
            have HRzs5_6 := Lib.hid (HMzs4_5.out.carry HRzs4_5.out hz)
            clear hz
            refine PrintLast.done_ (by kernel_rfl) ?_
            clear hHeld
            go_wp2_with fail
            go_meet
            case rel => exact ⟨_, _, _, _, _, ⟨by omega, by omega, fun h => absurd h (by omega), fun h => absurd h (by omega), hv0, (by show 1 ≤ 5; decide)⟩, HMzs5_6.out⟩
        · skip
          have y2 := HMzo1.out.st.2.2.1
          have fz2 := HMzo1.out.fz.2.2.1
          refine PrintLast.skip_ (w1 := ?_) (by rfl) rfl ?_ ?_
          rotate_left
          · go_simp
            rfl
          refine hK.out _ _ ⟨(HMzo1.out.kind _).raw.2.1, (HMzo1.out.kind _).raw.2.2.2.2.1⟩ (fun hHeld => ?_)
          clear hK K
          clear y2 fz2
          generalize hz : World.setCell zo1 _ _ = zs2_2 at hHeld ⊢
          have HMzs2_2 := Lib.hid (HMzo1.out.kind' hz)
          have HZzs2_2 := Lib.hid (HMzo1.out.carryE HZzo1.out hz)
          clear hz
          refine PrintLast.two_ (i := 0) (j := 10) (Ni := some 11) (Nj := some 21) #[true, true, true, true, false, false, true, true, true, true, false, true, true, false, false, false, false] #[false, true, true, true, false, false, true, true, true, true, true, true, true, false, false, false, false] rfl rfl rfl rfl (by kernel_rfl) (by decide) (by decide) (fun K hK => ?_) (fun K hK => ?_)
          · skip
            refine PrintLast.value_ (w1 := ?_) (v := ?_) (by rfl) rfl ?_ ?_
            rotate_left 2
            · go_simp
              constructor
              · rfl
              · rfl
            refine hK.out _ _ ⟨(HMzs2_2.out.below (below_alloc (Below.refl _ _) _)).raw.2.1, (HMzs2_2.out.below (below_alloc (Below.refl _ _) _)).raw.2.2.2.2.1⟩ (fun hHeld => ?_)
            clear hK K
            refine PrintLast.norm_ (a' := ?_) ?_ ?_
            rotate_left
            · show Act.put _ (some 11) _ = _
              simp only [Act.put, List.setIfInBounds_toArray, List.set_cons_zero, List.set_cons_succ]
              rfl
            generalize hz : World.alloc zs2_2 _ = za3 at hHeld ⊢
            have HMza3 := Lib.hid (HMzs2_2.out.al hz)
            have HAza3 : Hid (asS w za3 _ tab3 9) := Lib.hid (asS.new HMzs2_2.out hz)
            have HZza3 := Lib.hid (hz ▸ HZzs2_2.out.below (below_alloc (Below.refl _ _) _))
            clear hz
            replace hHeld := (⟨hHeld.1, hHeld.2, HAza3.out.at hvj⟩ : _ ∧ _ ∧ _)
            refine more_ (S' := fun w' => w'.cell? ⟨w.heap.size, 1, none⟩ = some (.int .i64 x.f1) ∧ w'.cell? ⟨w.heap.size, 4, none⟩ = some (.slice A4 x.f4.length c4) ∧ w'.cell? ⟨zs2_2.heap.size, j, none⟩ = some (.string v)) (fun _ h => ⟨h.1, h.2.1⟩) hHeld ?_
            refine PrintLast.pure_ (i := 4) (N := some 15) (v := ?_) (a' := ?_) #[true, true, true, true, true, false, true, true, true, true, false, true, true, false, false, false, false] rfl rfl (by kernel_rfl) (fun _ _ _ h => h) (Or.inl ⟨by rfl, ?_⟩) ?_ ?_
            rotate_left
            · intro w'
              go_simp
              with_reducible rfl
            rotate_left
            · simp only [Act.put, List.setIfInBounds_toArray, List.set_cons_zero, List.set_cons_succ]
              rfl
            refine PrintLast.take_ (i := 5) (N := some 16) (v := ?_) (a' := ?_) #[true, true, true, true, true, true, true, true, true, true, false, true, true, false, false, false, false] rfl rfl (by kernel_rfl) (fun _ _ _ h => h) (Or.inl ⟨by rfl, ?_⟩) hHeld ?_ ?_
            rotate_left
            · rintro w' ⟨s0, s1, s2⟩
              go_simp
              with_reducible rfl
            rotate_left
            · simp only [Act.put, List.setIfInBounds_toArray, List.set_cons_zero, List.set_cons_succ]
              rfl
            refine PrintLast.pure_ (i := 13) (N := some 23) (v := ?_) (a' := ?_) #[true, true, true, true, true, true, true, true, true, true, false, true, true, true, false, false, false] rfl rfl (by kernel_rfl) (fun _ _ _ h => h) (Or.inl ⟨by rfl, ?_⟩) ?_ ?_
            rotate_left
            · intro w'
              go_simp
              with_reducible rfl
            rotate_left
            · simp only [Act.put, List.setIfInBounds_toArray, List.set_cons_zero, List.set_cons_succ]
              rfl
            refine PrintLast.two_ (i := 10) (j := 14) (Ni := some 21) (Nj := none) #[true, true, true, true, true, true, true, true, true, true, true, true, true, true, false, false, false] #[true, true, true, true, true, true, true, true, true, true, false, true, true, true, true, false, false] rfl rfl rfl rfl (by kernel_rfl) (by decide) (by decide) (fun K hK => ?_) (fun K hK => ?_)
            · skip
              refine PrintLast.value_ (w1 := ?_) (v := ?_) (by rfl) rfl ?_ ?_
              rotate_left 2
              · go_simp
                constructor
                · rfl
                · rfl
              refine hK.out _ _ ⟨(HMza3.out.below (below_alloc (Below.refl _ _) _)).raw.2.1, (HMza3.out.below (below_alloc (Below.refl _ _) _)).raw.2.2.2.2.1, ((HAza3.out.below (below_alloc (Below.refl _ _) _)).at hvj)⟩ (fun hHeld => ?_)
              clear hK K
              refine PrintLast.norm_ (a' := ?_) ?_ ?_
              rotate_left
              · show Act.put _ (some 21) _ = _
                simp only [Act.put, List.setIfInBounds_toArray, List.set_cons_zero, List.set_cons_succ]
                rfl
              generalize hz : World.alloc za3 _ = zb4 at hHeld ⊢
              have HMzb4 := Lib.hid (HMza3.out.al hz)
              have HAzb4 := Lib.hid (HAza3.out.al hz)
              have HRzb4 : Hid (HasA zb4 w.heap.size [⟨-1, ye⟩] (.slice (some ⟨za3.heap.size, 0, none⟩) 1 1)) := Lib.hid (rowA_one' hz HMza3.out.bel.size HZza3.out (.inr ⟨rfl, HG.out⟩))
              clear hz
              refine PrintLast.one_ (i := 14) (N := none) #[true, true, true, true, true, true, true, true, true, true, true, true, true, true, true, false, false] rfl rfl (by kernel_rfl) (by decide) (fun K hK => ?_)
              have y4 := HMzb4.out.st.2.2.2.2.1
              have fz4 := HMzb4.out.fz.2.2.2.2.1
              refine PrintLast.skip_ (w1 := ?_) (by rfl) rfl ?_ ?_
              rotate_left
              · go_simp
                rfl
              refine hK.out _ _ ⟨(HMzb4.out.text _).raw.2.1, (HMzb4.out.text _).raw.2.2.2.2.1, ((HAzb4.out.set rfl).at hvj)⟩ (fun hHeld => ?_)
              clear hK K
              clear y4 fz4
              generalize hz : World.setCell zb4 _ _ = zs4_5 at hHeld ⊢
              have HMzs4_5 := Lib.hid (HMzb4.out.text' hz)
              have HAzs4_5 := Lib.hid (HAzb4.out.set hz)
              have HRzs4_5 := Lib.hid (HMzb4.out.carry HRzb4.out hz)
              clear hz
              refine PrintLast.pure_ (i := 15) (N := some 24) (v := ?_) (a' := ?_) #[true, true, true, true, true, true, true, true, true, true, true, true, true, true, true, true, false] rfl rfl (by kernel_rfl) (fun _ _ _ h => h) (Or.inl ⟨by rfl, ?_⟩) ?_ ?_
              rotate_left
              · intro w'
                go_simp
                with_reducible rfl
              rotate_left
              · simp only [Act.put, List.setIfInBounds_toArray, List.set_cons_zero, List.set_cons_succ]
                rfl
              refine PrintLast.one_ (i := 16) (N := none) #[true, true, true, true, true, true, true, true, true, true, true, true, true, true, true, true, true] rfl rfl (by kernel_rfl) (by decide) (fun K hK => ?_)
              have y5 := HMzs4_5.out.st.2.2.2.2.2
              have fz5 := HMzs4_5.out.fz.2.2.2.2.2
              refine PrintLast.skip_ (w1 := ?_) (by rfl) rfl ?_ ?_
              rotate_left
              · go_simp
                rfl
              refine hK.out _ _ ⟨(HMzs4_5.out.args HRzs4_5.out).raw.2.1, (HMzs4_5.out.args HRzs4_5.out).raw.2.2.2.2.1, ((HAzs4_5.out.set rfl).at hvj)⟩ (fun hHeld => ?_)
              clear hK K
              clear y5 fz5
              generalize hz : World.setCell zs4_5 _ _ = zs5_6 at hHeld ⊢
              have HMzs5_6 := Lib.hid (HMzs4_5.out.args' HRzs4_5.out hz)
              have HAzs5_6 := Lib.hid (HAzs4_5.out.set hz)
              have HRzs5_6 := Lib.hid (HMzs4_5.out.carry HRzs4_5.out hz)
              clear hz
              refine PrintLast.done_ (by kernel_rfl) ?_
              clear hHeld
              go_wp2_with fail
              go_meet
              case rel => exact ⟨_, _, _, _, _, ⟨by omega, by omega, fun h => absurd h (by omega), fun h => absurd h (by omega), hv0, (by show 1 ≤ 5; decide)⟩, HMzs5_6.out⟩
            · skip
              have y4 := HMza3.out.st.2.2.2.2.1
              have fz4 := HMza3.out.fz.2.2.2.2.1
              refine PrintLast.skip_ (w1 := ?_) (by rfl) rfl ?_ ?_
              rotate_left
              · go_simp
                rfl
              refine hK.out _ _ ⟨(HMza3.out.text _).raw.2.1, (HMza3.out.text _).raw.2.2.2.2.1, ((HAza3.out.set rfl).at hvj)⟩ (fun hHeld => ?_)
              clear hK K
              clear y4 fz4
              generalize hz : World.setCell za3 _ _ = zs4_4 at hHeld ⊢
              have HMzs4_4 := Lib.hid (HMza3.out.text' hz)
              have HAzs4_4 := Lib.hid (HAza3.out.set hz)
              have HZzs4_4 := Lib.hid (HMza3.out.carryE HZza3.out hz)
              clear hz
              refine PrintLast.one_ (i := 10) (N := some 21) #[true, true, true, true, true, true, true, true, true, true, true, true, true, true, true, false, false] rfl rfl (by kernel_rfl) (by decide) (fun K hK => ?_)
              refine PrintLast.value_ (w1 := ?_) (v := ?_) (by rfl) rfl ?_ ?_
              rotate_left 2
              · go_simp
                constructor
                · rfl
                · rfl
              refine hK.out _ _ ⟨(HMzs4_4.out.below (below_alloc (Below.refl _ _) _)).raw.2.1, (HMzs4_4.out.below (below_alloc (Below.refl _ _) _)).raw.2.2.2.2.1, ((HAzs4_4.out.below (below_alloc (Below.refl _ _) _)).at hvj)⟩ (fun hHeld => ?_)
              clear hK K
              refine PrintLast.norm_ (a' := ?_) ?_ ?_
              rotate_left
              · show Act.put _ (some 21) _ = _
                simp only [Act.put, List.setIfInBounds_toArray, List.set_cons_zero, List.set_cons_succ]
                rfl
              generalize hz : World.alloc zs4_4 _ = zb5 at hHeld ⊢
              have HMzb5 := Lib.hid (HMzs4_4.out.al hz)
              have HAzb5 := Lib.hid (HAzs4_4.out.al hz)
              have HRzb5 : Hid (HasA zb5 w.heap.size [⟨-1, ye⟩] (.slice (some ⟨zs4_4.heap.size, 0, none⟩) 1 1)) := Lib.hid (rowA_one' hz HMzs4_4.out.bel.size HZzs4_4.out (.inr ⟨rfl, HG.out⟩))
              clear hz
              refine PrintLast.pure_ (i := 15) (N := some 24) (v := ?_) (a' := ?_) #[true, true, true, true, true, true, true, true, true, true, true, true, true, true, true, true, false] rfl rfl (by kernel_rfl) (fun _ _ _ h => h) (Or.inl ⟨by rfl, ?_⟩) ?_ ?_
              rotate_left
              · intro w'
                go_simp
                with_reducible rfl
              rotate_left
              · simp only [Act.put, List.setIfInBounds_toArray, List.set_cons_zero, List.set_cons_succ]
                rfl
              refine PrintLast.one_ (i := 16) (N := none) #[true, true, true, true, true, true, true, true, true, true, true, true, true, true, true, true, true] rfl rfl (by kernel_rfl) (by decide) (fun K hK => ?_)
              have y5 := HMzb5.out.st.2.2.2.2.2
              have fz5 := HMzb5.out.fz.2.2.2.2.2
              refine PrintLast.skip_ (w1 := ?_) (by rfl) rfl ?_ ?_
              rotate_left
              · go_simp
                rfl
              refine hK.out _ _ ⟨(HMzb5.out.args HRzb5.out).raw.2.1, (HMzb5.out.args HRzb5.out).raw.2.2.2.2.1, ((HAzb5.out.set rfl).at hvj)⟩ (fun hHeld => ?_)
              clear hK K
              clear y5 fz5
              generalize hz : World.setCell zb5 _ _ = zs5_6 at hHeld ⊢
              have HMzs5_6 := Lib.hid (HMzb5.out.args' HRzb5.out hz)
              have HAzs5_6 := Lib.hid (HAzb5.out.set hz)
              have HRzs5_6 := Lib.hid (HMzb5.out.carry HRzb5.out hz)
              clear hz
              refine PrintLast.done_ (by kernel_rfl) ?_
              clear hHeld
              go_wp2_with fail
              go_meet
              case rel => exact ⟨_, _, _, _, _, ⟨by omega, by omega, fun h => absurd h (by omega), fun h => absurd h (by omega), hv0, (by show 1 ≤ 5; decide)⟩, HMzs5_6.out⟩
          · skip
            refine PrintLast.value_ (w1 := ?_) (v := ?_) (by rfl) rfl ?_ ?_
            rotate_left 2
            · go_simp
              constructor
              · rfl
              · rfl
            refine hK.out _ _ ⟨(HMzs2_2.out.below (below_alloc (Below.refl _ _) _)).raw.2.1, (HMzs2_2.out.below (below_alloc (Below.refl _ _) _)).raw.2.2.2.2.1⟩ (fun hHeld => ?_)
            clear hK K
            refine PrintLast.norm_ (a' := ?_) ?_ ?_
            rotate_left
            · show Act.put _ (some 21) _ = _
              simp only [Act.put, List.setIfInBounds_toArray, List.set_cons_zero, List.set_cons_succ]
              rfl
            generalize hz : World.alloc zs2_2 _ = zb3 at hHeld ⊢
            have HMzb3 := Lib.hid (HMzs2_2.out.al hz)
            have HRzb3 : Hid (HasA zb3 w.heap.size [⟨-1, ye⟩] (.slice (some ⟨zs2_2.heap.size, 0, none⟩) 1 1)) := Lib.hid (rowA_one' hz HMzs2_2.out.bel.size HZzs2_2.out (.inr ⟨rfl, HG.out⟩))
            clear hz
            refine PrintLast.one_ (i := 0) (N := some 11) #[true, true, true, true, false, false, true, true, true, true, true, true, true, false, false, false, false] rfl rfl (by kernel_rfl) (by decide) (fun K hK => ?_)
            refine PrintLast.value_ (w1 := ?_) (v := ?_) (by rfl) rfl ?_ ?_
            rotate_left 2
            · go_simp
              constructor
              · rfl
              · rfl
            refine hK.out _ _ ⟨(HMzb3.out.below (below_alloc (Below.refl _ _) _)).raw.2.1, (HMzb3.out.below (below_alloc (Below.refl _ _) _)).raw.2.2.2.2.1⟩ (fun hHeld => ?_)
            clear hK K
            refine PrintLast.norm_ (a' := ?_) ?_ ?_
            rotate_left
            · show Act.put _ (some 11) _ = _
              simp only [Act.put, List.setIfInBounds_toArray, List.set_cons_zero, List.set_cons_succ]
              rfl
            generalize hz : World.alloc zb3 _ = za4 at hHeld ⊢
            have HMza4 := Lib.hid (HMzb3.out.al hz)
            have HAza4 : Hid (asS w za4 _ tab3 9) := Lib.hid (asS.new HMzb3.out hz)
            have HRza4 := Lib.hid (HRzb3.out.al hz)
            clear hz
            replace hHeld := (⟨hHeld.1, hHeld.2, HAza4.out.at hvj⟩ : _ ∧ _ ∧ _)
            refine more_ (S' := fun w' => w'.cell? ⟨w.heap.size, 1, none⟩ = some (.int .i64 x.f1) ∧ w'.cell? ⟨w.heap.size, 4, none⟩ = some (.slice A4 x.f4.length c4) ∧ w'.cell? ⟨zb3.heap.size, j, none⟩ = some (.string v)) (fun _ h => ⟨h.1, h.2.1⟩) hHeld ?_
            refine PrintLast.pure_ (i := 4) (N := some 15) (v := ?_) (a' := ?_) #[true, true, true, true, true, false, true, true, true, true, true, true, true, false, false, false, false] rfl rfl (by kernel_rfl) (fun _ _ _ h => h) (Or.inl ⟨by rfl, ?_⟩) ?_ ?_
            rotate_left
            · intro w'
              go_simp
              with_reducible rfl
            rotate_left
            · simp only [Act.put, List.setIfInBounds_toArray, List.set_cons_zero, List.set_cons_succ]
              rfl
            refine PrintLast.take_ (i := 5) (N := some 16) (v := ?_) (a' := ?_) #[true, true, true, true, true, true, true, true, true, true, true, true, true, false, false, false, false] rfl rfl (by kernel_rfl) (fun _ _ _ h => h) (Or.inl ⟨by rfl, ?_⟩) hHeld ?_ ?_
            rotate_left
            · rintro w' ⟨s0, s1, s2⟩
              go_simp
              with_reducible rfl
            rotate_left
            · simp only [Act.put, List.setIfInBounds_toArray, List.set_cons_zero, List.set_cons_succ]
              rfl
            refine PrintLast.pure_ (i := 13) (N := some 23) (v := ?_) (a' := ?_) #[true, true, true, true, true, true, true, true, true, true, true, true, true, true, false, false, false] rfl rfl (by kernel_rfl) (fun _ _ _ h => h) (Or.inl ⟨by rfl, ?_⟩) ?_ ?_
            rotate_left
            · intro w'
              go_simp
              with_reducible rfl
            rotate_left
            · simp only [Act.put, List.setIfInBounds_toArray, List.set_cons_zero, List.set_cons_succ]
              rfl
            refine PrintLast.one_ (i := 14) (N := none) #[true, true, true, true, true, true, true, true, true, true, true, true, true, true, true, false, false] rfl rfl (by kernel_rfl) (by decide) (fun K hK => ?_)
            have y4 := HMza4.out.st.2.2.2.2.1
            have fz4 := HMza4.out.fz.2.2.2.2.1
            refine PrintLast.skip_ (w1 := ?_) (by rfl) rfl ?_ ?_
            rotate_left
            · go_simp
              rfl
            refine hK.out _ _ ⟨(HMza4.out.text _).raw.2.1, (HMza4.out.text _).raw.2.2.2.2.1, ((HAza4.out.set rfl).at hvj)⟩ (fun hHeld => ?_)
            clear hK K
            clear y4 fz4
            generalize hz : World.setCell za4 _ _ = zs4_5 at hHeld ⊢
            have HMzs4_5 := Lib.hid (HMza4.out.text' hz)
            have HAzs4_5 := Lib.hid (HAza4.out.set hz)
            have HRzs4_5 := Lib.hid (HMza4.out.carry HRza4.out hz)
            clear hz
            refine PrintLast.pure_ (i := 15) (N := some 24) (v := ?_) (a' := ?_) #[true, true, true, true, true, true, true, true, true, true, true, true, true, true, true, true, false] rfl rfl (by kernel_rfl) (fun _ _ _ h => h) (Or.inl ⟨by rfl, ?_⟩) ?_ ?_
            rotate_left
            · intro w'
              go_simp
              with_reducible rfl
            rotate_left
            · simp only [Act.put, List.setIfInBounds_toArray, List.set_cons_zero, List.set_cons_succ]
              rfl
            refine PrintLast.one_ (i := 16) (N := none) #[true, true, true, true, true, true, true, true, true, true, true, true, true, true, true, true, true] rfl rfl (by kernel_rfl) (by decide) (fun K hK => ?_)
            have y5 := HMzs4_5.out.st.2.2.2.2.2
            have fz5 := HMzs4_5.out.fz.2.2.2.2.2
            refine PrintLast.skip_ (w1 := ?_) (by rfl) rfl ?_ ?_
            rotate_left
            · go_simp
              rfl
            refine hK.out _ _ ⟨(HMzs4_5.out.args HRzs4_5.out).raw.2.1, (HMzs4_5.out.args HRzs4_5.out).raw.2.2.2.2.1, ((HAzs4_5.out.set rfl).at hvj)⟩ (fun hHeld => ?_)
            clear hK K
            clear y5 fz5
            generalize hz : World.setCell zs4_5 _ _ = zs5_6 at hHeld ⊢
            have HMzs5_6 := Lib.hid (HMzs4_5.out.args' HRzs4_5.out hz)
            have HAzs5_6 := Lib.hid (HAzs4_5.out.set hz)
            have HRzs5_6 := Lib.hid (HMzs4_5.out.carry HRzs4_5.out hz)
            clear hz
            refine PrintLast.done_ (by kernel_rfl) ?_
            clear hHeld
            go_wp2_with fail
            go_meet
            case rel => exact ⟨_, _, _, _, _, ⟨by omega, by omega, fun h => absurd h (by omega), fun h => absurd h (by omega), hv0, (by show 1 ≤ 5; decide)⟩, HMzs5_6.out⟩
  case rest =>
    obtain ⟨kd, op, tx, xs, u, hok, hm⟩ := hcut
    have tk : (kd == 0) = false := by have := hok.1; simp; omega
    obtain ⟨-, -, r2, -, -, r5⟩ := hm.raw
    obtain ⟨-, -, s2, -, -, -⟩ := hm.st
    have HM := Lib.hid hm
    have HOK := Lib.hid hok
    clear hok m0 m1 HKK HS HS3 HW1 HW2 HR1 HL hm
    cases h5 : x.f5 with
    | false =>
      rw [h5] at r5
      clear h5 r2
      go_upto_region 26 with fail
      clear s2 tk r5
      have hm := HM.out.bare
      have HLB := Lib.hid (show (ByteArray.mk #[]).size ≤ 6 from Nat.zero_le _)
      obtain ⟨A', c', rfl, -, -⟩ := hm.row.form
      have p1 := hm.q1
      have p2 := hm.q2
      unfold stC at p1 p2
      obtain ⟨a0, a1, a2, a3, a4, a5, -⟩ := box6 p2
      obtain ⟨y0, y1, y2, y3, y4, y5, fz⟩ := box6 p1
      have fz0 := fz 0
      have fz1 := fz 1
      have fz2 := fz 2
      have fz3 := fz 3
      have fz4 := fz 4
      have fz5 := fz 5
      obtain ⟨f1, f2, f3⟩ := put6_end 1 ⟨#[]⟩ kd op tx p1 (Nat.le_succ _) hm.bel hm.row
      obtain ⟨z0, z1, z2, z3, z4, z5, -⟩ := box6 f1
      have HF2 := Lib.hid f2
      have HF3 := Lib.hid f3
      clear p1 p2 fz f1 f2 f3 hm
      go_wp2_with fail
      refine bodyPost_ret (v := .agg (stC 1 ⟨#[]⟩ kd op tx (.slice A' xs.length c'))) (by simp only [put6S] at z0 z1 z2 z3 z4 z5; simp [results, Try.results53, go_sem, z0, z1, z2, z3, z4, z5, stC]) rfl ⟨⟨#[]⟩, kd, op, tx, xs, _, rfl, ⟨HLB.out, HOK.out⟩, HF2.out, HF3.out⟩
    | true =>
      rw [h5] at r5
      clear h5
      have HLT := Lib.hid (show w.heap.size < wc.heap.size from Nat.lt_trans (Nat.lt_add_of_pos_right (by decide)) HM.out.lt)
      have HBd := Lib.hid ((Below.refl wc.heap.size wc).drew)
      obtain ⟨j, hj⟩ : ∃ j : Nat, x.f2 % 4 = j := ⟨(x.f2 % 4).toNat, by have := Int.emod_nonneg x.f2 (show (4 : Int) ≠ 0 by omega); omega⟩
      have hj4 : j < 4 := by have := Int.emod_lt_of_pos x.f2 (show (0 : Int) < 4 by omega); omega
      have HJ := Lib.hid hj
      have HJ4 := Lib.hid hj4
      have j0 : (0 : Int) ≤ (j : Int) := by omega
      have j1 : (j : Int) < 4 := by omega
      clear hj hj4
      go_upto_region 25 with fail
      clear s2 tk r5
      refine PrintLast.start_ (n := 8) (S := fun w' => w'.cell? ⟨w.heap.size, 2, none⟩ = some (.int .i64 x.f2)) (ds := [7]) #[false, false, false, false, false, false, false, false] (by kernel_rfl) rfl rfl (r2) (fun hHeld => ?_)
      refine PrintLast.pure_ (i := 1) (N := some 149) (v := ?_) (a' := ?_) #[false, true, false, false, false, false, false, false] rfl rfl (by kernel_rfl) (fun _ _ _ h => h) (Or.inl ⟨by rfl, ?_⟩) ?_ ?_
      rotate_left
      · intro w'
        go_simp
        with_reducible rfl
      rotate_left
      · simp only [Act.put, List.setIfInBounds_toArray, List.set_cons_zero, List.set_cons_succ]
        rfl
      refine PrintLast.take_ (i := 2) (N := some 150) (v := ?_) (a' := ?_) #[false, true, true, false, false, false, false, false] rfl rfl (by kernel_rfl) (fun _ _ _ h => h) (Or.inl ⟨by rfl, ?_⟩) hHeld ?_ ?_
      rotate_left
      · intro w' s0
        go_simp
        with_reducible rfl
      rotate_left
      · simp only [Act.put, List.setIfInBounds_toArray, List.set_cons_zero, List.set_cons_succ]
        rfl
      refine PrintLast.one_ (i := 0) (N := some 148) #[true, true, true, false, false, false, false, false] rfl rfl (by kernel_rfl) (by decide) (fun K hK => ?_)
      refine PrintLast.goes_ Try.func65 (by kernel_rfl) rfl #[] (by rfl) rfl rfl (by simp only [List.map_toArray, List.map_nil]) ?_
      with_reducible refine ((labels_call wc.drew)).mono ?_
      rintro e wx ⟨ad, cc, rfl, hnm, hbx⟩
      refine ⟨_, rfl, ?_⟩
      have HBx := Lib.hid (HBd.out.trans (hbx.mono HBd.out.size))
      clear hbx
      refine hK.out _ _ ((HBx.out.cell (p := ⟨w.heap.size, 2, none⟩) HLT.out).trans r2) (fun hHeld => ?_)
      clear hK K
      refine PrintLast.norm_ (a' := ?_) ?_ ?_
      rotate_left
      · show Act.put _ (some 148) _ = _
        simp only [Act.put, List.setIfInBounds_toArray, List.set_cons_zero, List.set_cons_succ]
        rfl
      refine PrintLast.one_ (i := 3) (N := some 151) #[true, true, true, true, false, false, false, false] rfl rfl (by kernel_rfl) (by decide) (fun K hK => ?_)
      refine PrintLast.goes_ Try.func51 (by kernel_rfl) rfl #[.int .i64 x.f2, .int .i64 4] (by rfl) rfl rfl (by simp only [List.map_toArray, List.map_cons, List.map_nil]; rfl) ?_
      with_reducible refine ((within51 x.f2 4 wx (by omega) (by omega))).mono ?_
      rintro e wy ⟨rfl, hby⟩
      refine ⟨_, rfl, ?_⟩
      rw [HJ.out]
      have HBy := Lib.hid (HBx.out.trans (hby.mono HBx.out.size))
      obtain ⟨sn, hsn, hcn⟩ := hnm j HJ4.out
      have hcy : wy.cell? (ad.add j) = some (.string sn) := (hby.cell (World.block_lt_of_cell? _ _ hcn)).trans hcn
      have HSn := Lib.hid hsn
      have hmy := HM.out.below HBy.out
      obtain ⟨-, y1, -, -, -, -⟩ := hmy.st
      obtain ⟨-, fz1, -, -, -, -⟩ := hmy.fz
      have HMy := Lib.hid hmy
      clear hby hnm hcn hmy hsn
      refine hK.out _ _ ((HBy.out.cell (p := ⟨w.heap.size, 2, none⟩) HLT.out).trans r2) (fun hHeld => ?_)
      clear hK K
      refine PrintLast.norm_ (a' := ?_) ?_ ?_
      rotate_left
      · show Act.put _ (some 151) _ = _
        simp only [Act.put, List.setIfInBounds_toArray, List.set_cons_zero, List.set_cons_succ]
        rfl
      refine PrintLast.pure_ (i := 4) (N := some 152) (v := ?_) (a' := ?_) #[true, true, true, true, true, false, false, false] rfl rfl (by kernel_rfl) (fun _ _ _ h => h) (Or.inl ⟨by rfl, ?_⟩) ?_ ?_
      rotate_left
      · intro w'
        go_simp
        with_reducible rfl
      rotate_left
      · simp only [Act.put, List.setIfInBounds_toArray, List.set_cons_zero, List.set_cons_succ]
        rfl
      refine PrintLast.one_ (i := 5) (N := some 153) #[true, true, true, true, true, true, false, false] rfl rfl (by kernel_rfl) (by decide) (fun K hK => ?_)
      refine PrintLast.value_ (w1 := ?_) (v := ?_) (by rfl) rfl ?_ ?_
      rotate_left 2
      · go_simp
        constructor
        · rfl
        · rfl
      refine hK.out _ _ ((HBy.out.cell (p := ⟨w.heap.size, 2, none⟩) HLT.out).trans r2) (fun hHeld => ?_)
      clear hK K
      refine PrintLast.norm_ (a' := ?_) ?_ ?_
      rotate_left
      · show Act.put _ (some 153) _ = _
        simp only [Act.put, List.setIfInBounds_toArray, List.set_cons_zero, List.set_cons_succ]
        rfl
      refine PrintLast.pure_ (i := 6) (N := some 154) (v := ?_) (a' := ?_) #[true, true, true, true, true, true, true, false] rfl rfl (by kernel_rfl) (fun _ _ _ h => h) (Or.inl ⟨by rfl, ?_⟩) ?_ ?_
      rotate_left
      · intro w'
        go_simp
        with_reducible rfl
      rotate_left
      · simp only [Act.put, List.setIfInBounds_toArray, List.set_cons_zero, List.set_cons_succ]
        rfl
      refine PrintLast.last_ (i := 7) (N := none) #[true, true, true, true, true, true, true, true] rfl rfl (by kernel_rfl) (by decide) (fun K hK => ?_)
      refine PrintLast.skip_ (w1 := ?_) (by rfl) rfl ?_ ?_
      rotate_left
      · go_simp
        rfl
      refine hK.out _ _ ?_
      clear hK K
      refine PrintLast.done_ (by kernel_rfl) ?_
      clear hHeld
      have hm := HMy.out.label sn
      have HLB := HSn
      generalize hP : wy.setCell ⟨w.heap.size + 2, 1, none⟩ (.string sn) = P at hm ⊢
      clear hP
      obtain ⟨A', c', rfl, -, -⟩ := hm.row.form
      have p1 := hm.q1
      have p2 := hm.q2
      unfold stC at p1 p2
      obtain ⟨a0, a1, a2, a3, a4, a5, -⟩ := box6 p2
      obtain ⟨y0, y1, y2, y3, y4, y5, fz⟩ := box6 p1
      have fz0 := fz 0
      have fz1 := fz 1
      have fz2 := fz 2
      have fz3 := fz 3
      have fz4 := fz 4
      have fz5 := fz 5
      obtain ⟨f1, f2, f3⟩ := put6_end 1 sn kd op tx p1 (Nat.le_succ _) hm.bel hm.row
      obtain ⟨z0, z1, z2, z3, z4, z5, -⟩ := box6 f1
      have HF2 := Lib.hid f2
      have HF3 := Lib.hid f3
      clear p1 p2 fz f1 f2 f3 hm
      go_wp2_with fail
      refine bodyPost_ret (v := .agg (stC 1 sn kd op tx (.slice A' xs.length c'))) (by simp only [put6S] at z0 z1 z2 z3 z4 z5; simp [results, Try.results53, go_sem, z0, z1, z2, z3, z4, z5, stC]) rfl ⟨sn, kd, op, tx, xs, _, rfl, ⟨HLB.out, HOK.out⟩, HF2.out, HF3.out⟩
end Go.Proofs.Ytifdkkkcecpjoaa
end
section
/-
  Any raw statement is made.
-/
namespace Go.Proofs.Ytifdkkkcecpjoaa
open Go.RowKit Go.Proofs.YtifdkkkcecpjoaaW Go.Proofs.YtifdkkkcecpjoaaW.PrintWords Tx
theorem make_st {x : S63} {A3 A4 : Option Addr} {c3 c4 : Nat} {w : World} (h : Lies w x A3 A4 c3 c4) : Calls Try.prog 53 #[sAgg x A3 A4 c3 c4] w (StE okL w) := by
  have m0 := Int.emod_nonneg x.f0 (show (16 : Int) ≠ 0 by omega)
  have m1 := Int.emod_lt_of_pos x.f0 (show (0 : Int) < 16 by omega)
  rcases (show x.f0 % 16 < 6 ∨ (6 ≤ x.f0 % 16 ∧ x.f0 % 16 < 9) ∨ (9 ≤ x.f0 % 16 ∧ x.f0 % 16 < 12) ∨ x.f0 % 16 = 12 ∨ x.f0 % 16 = 13 ∨ x.f0 % 16 = 14 ∨ x.f0 % 16 = 15 by omega) with hk | hk | hk | hk | hk | hk | hk
  · exact make_a h hk
  · exact make_b h hk
  · exact make_c h hk
  · exact make_d h hk
  · exact make_e h hk
  · exact make_f h hk
  · exact make_g h hk
end Go.Proofs.Ytifdkkkcecpjoaa
end
section
/-
  A statement's text ends, and is of a bounded size.
-/
namespace Go.Proofs.Ytifdkkkcecpjoaa
set_option linter.unusedVariables false
set_option linter.unusedSimpArgs false
open Go.RowKit Go.Proofs.YtifdkkkcecpjoaaW Go.Proofs.YtifdkkkcecpjoaaW.PrintWords Tx
attribute [local go_sem ↓] Go.wp_at_zero Go.wp_at_succ
/-- What a statement must be for its text. -/
def okT (lb : ByteArray) (kd op : Int) (tx : ByteArray) (xs : List S104) : Prop := lb.size ≤ 6 ∧ 1 ≤ kd ∧ kd ≤ 9 ∧ (kd = 1 → 0 ≤ op ∧ op < 66) ∧ (kd = 2 → 0 ≤ op ∧ op < 3) ∧ tx.size ≤ 60 ∧ xs.length ≤ 5
theorem name_ok {lb tx : ByteArray} {kd op : Int} {xs : List S104} (h : okT lb kd op tx xs) : ∃ s, letterpressref4_name.f 5 1 lb kd op tx xs = some s ∧ s.size ≤ 12 := by
  obtain ⟨-, h1, h2, h3, h4, -, -⟩ := h
  unfold letterpressref4_name.f
  by_cases k1 : kd = 1
  · obtain ⟨o0, o1⟩ := h3 k1
    obtain ⟨o, rfl⟩ : ∃ o : Nat, op = o := ⟨op.toNat, by omega⟩
    obtain ⟨s, hs, hz⟩ := name_op (show o < 66 by omega)
    rw [if_pos k1, hs]
    exact ⟨s, rfl, hz⟩
  rw [if_neg k1]
  by_cases k2 : kd = 2
  · obtain ⟨o0, o1⟩ := h4 k2
    rw [if_pos k2]
    rcases (show op = 0 ∨ op = 1 ∨ op = 2 by omega) with rfl | rfl | rfl
    · exact ⟨_, rfl, by decide⟩
    · exact ⟨_, rfl, by decide⟩
    · exact ⟨_, rfl, by decide⟩
  rw [if_neg k2]
  rcases (show kd = 3 ∨ kd = 4 ∨ kd = 5 ∨ kd = 6 ∨ kd = 7 ∨ kd = 8 ∨ kd = 9 by omega) with rfl | rfl | rfl | rfl | rfl | rfl | rfl
  all_goals exact ⟨_, rfl, by decide⟩
structure TxS (cs : Array Value) (w W : World) (l : Value) (strs : List ByteArray) (n : Nat) : Prop where
  len : strs.length ≤ n
  sz : ∀ s ∈ strs, s.size ≤ 16777400
  r : Kd.R Kd.string 9 W w.heap.size (fun _ => True) l strs
  bel : Below w.heap.size w W
  q : W.heap[w.heap.size]? = some (.cells cs 95 (0, 0))
variable {cs : Array Value} {w W W' : World} {l : Value} {strs : List ByteArray} {n : Nat}
theorem TxS.below (h : TxS cs w W l strs n) (hb : Below W.heap.size W W') : TxS cs w W' l strs n :=
  ⟨h.len, h.sz, Kd.R_below h.r hb, h.bel.trans (hb.mono h.bel.size), (hb.block _ (Array.getElem?_eq_some_iff.1 h.q).1).trans h.q⟩
theorem TxS.snoc (h : TxS cs w W l strs n) {v : Value} {s : ByteArray} (hs : s.size ≤ 16777400) (ho : Kd.R Kd.string 9 W' w.heap.size (fun _ => True) v (strs ++ [s])) (hb : Below w.heap.size w W') (hg : W.grownBy W' l.ownBlock) : TxS cs w W' v (strs ++ [s]) (n + 1) :=
  ⟨by rw [List.length_append]; have := h.len; simp; omega, fun z hz => by
    rcases List.mem_append.1 hz with hz | hz
    · exact h.sz z hz
    · rw [List.mem_singleton.1 hz]; exact hs, ho, hb, blk_grown h.q hg (Kd.R_ne h.r h.q (by decide))⟩
theorem TxS.mono (h : TxS cs w W l strs n) {m : Nat} (hm : n ≤ m) : TxS cs w W l strs m := ⟨Nat.le_trans h.len hm, h.sz, h.r, h.bel, h.q⟩
theorem rd104 {l : List S104} {j : Nat} {y : S104} (h : l[j]? = some y) : rd_T104 l (j : Int) = y := by
  unfold rd_T104
  rw [Int.toNat_natCast, List.getD_eq_getElem?_getD, h]; rfl
theorem at_str {A : Option Addr} {m : Nat} {zs : List ByteArray} (h : Kd.C Kd.string W A m zs) {j : Nat} {s : ByteArray} (hs : zs[j]? = some s) (hm : 0 < m) : ∃ ad, A = some ad ∧ W.cell? (ad.add j) = some (.string s) := by
  obtain ⟨ad, rfl, hc⟩ := h.2.2 hm
  obtain ⟨cs, _, hk, hcell⟩ := hc j s hs
  have hk' : cs = [.string s] := hk
  subst hk'
  have := hcell 0 _ rfl
  exact ⟨ad, rfl, by rwa [show Kd.string.sz = 1 from rfl, Nat.mul_one, Nat.add_zero] at this⟩
def TxC (cs : Array Value) (w : World) (n : Nat) (l : Value) (W : World) : Prop := ∃ strs, TxS cs w W l strs n
set_option maxRecDepth 100000 in
set_option maxHeartbeats 3200000 in
theorem stext_any {lb tx : ByteArray} {kd op : Int} {xs : List S104} {A : Option Addr} {c : Nat} {w : World} (hok : okT lb kd op tx xs) (hx : ∀ x ∈ xs, goodA x) (hC : Kd.C k104 w A xs.length xs) (hc : xs.length ≤ c) :
    Calls Try.prog 52 #[.agg #[.int .i64 1, .string lb, .int .i64 kd, .int .i64 op, .string tx, .slice A xs.length c]] w (StrEnd 200000000 w) := by
  obtain ⟨nm, hnm, hnz⟩ := name_ok hok
  obtain ⟨W1, hW1⟩ : ∃ W1, W1 = w.alloc (.cells #[.int .i64 1, .string lb, .int .i64 kd, .int .i64 op, .string tx, .slice A xs.length c] 95) := ⟨_, rfl⟩
  have b1 : Below w.heap.size w W1 := by rw [hW1]; exact below_alloc (Below.refl _ _) _
  have q1 : W1.heap[w.heap.size]? = some (.cells #[.int .i64 1, .string lb, .int .i64 kd, .int .i64 op, .string tx, .slice A xs.length c] 95 (0, 0)) := by rw [hW1]; exact heap_alloc_new w _
  have HB1 := Lib.hid b1
  have HQ1 := Lib.hid q1
  have HN := Lib.hid hnm
  have HNz := Lib.hid hnz
  have HW1 := Lib.hid hW1
  have HC := Lib.hid hC
  have HX := Lib.hid hx
  have HOK := Lib.hid hok
  obtain ⟨-, k1, k2, -, -, k5, -⟩ := box6 q1
  have tk : (kd == 0) = false := by have := hok.2.1; simp; omega
  have hlb := hok.1
  clear b1 q1 hnm hnz hW1 hC hx hok
  go_enter Try.func52, Try.ntmps52
  go_upto_region 2 with fail
  rw [← HW1.out]
  go_upto_if 9 with fail
  go_cut [3] (fun s wc => Hid (wc = W1) ∧ ∃ t : ByteArray, s = .string t ∧ t.size ≤ 7)
  case first =>
    go_wp2_with fail
    all_goals
      go_meet
      case rel => exact ⟨Lib.hid rfl, _, rfl, by first | (rw [ByteArray.size_append]; show lb.size + 1 ≤ 7; omega) | exact Nat.zero_le _⟩
  case rest =>
    obtain ⟨hwc, t, rfl, ht⟩ := hcut
    obtain rfl := hwc.out
    go_upto_if 18 with fail
    go_cut [3] (fun s w' => Hid (w' = wc) ∧ ∃ t : ByteArray, s = .string t ∧ t.size ≤ 8)
    case first =>
      go_wp2_with fail
      all_goals
        go_meet
        case rel => exact ⟨Lib.hid rfl, _, rfl, by first | (rw [ByteArray.size_append]; show t.size + 1 ≤ 8; omega) | omega⟩
    case rest =>
      obtain ⟨hwc, t2, rfl, ht2⟩ := hcut
      obtain rfl := hwc.out
      clear hwc ht
      obtain ⟨k0, -, -, k3, k4, -, -⟩ := box6 HQ1.out
      go_wp2_with fail
      refine (letterpressref4_name.calls 5 1 lb kd op tx A c xs nm wc (Kd.C_below HC.out HB1.out) hc HN.out).mono ?_
      rintro e W2 ⟨rfl, hb2⟩
      have hT : TxS #[.int .i64 1, .string lb, .int .i64 kd, .int .i64 op, .string tx, .slice A xs.length c] w W2 (.slice none 0 0) [] 0 := ⟨Nat.le_refl _, by simp, Kd.R_nil _ _ _ _ _, HB1.out.trans (hb2.mono HB1.out.size), (hb2.block _ (Array.getElem?_eq_some_iff.1 HQ1.out).1).trans HQ1.out⟩
      have HT := Lib.hid hT
      have htx := HOK.out.2.2.2.2.2.1
      obtain ⟨-, -, j2, -, j4, -, -⟩ := box6 hT.q
      obtain ⟨s3, hs3⟩ : ∃ s3, t2 ++ nm = s3 := ⟨_, rfl⟩
      have HS3 := Lib.hid (show s3.size ≤ 20 by have := HNz.out; rw [← hs3, ByteArray.size_append]; omega)
      have HS3e := Lib.hid hs3
      have hnz := HNz.out
      clear k0 k1 k2 k3 k4 k5 hb2 hT hs3 tk HB1 HQ1 HW1
      go_upto_if 27 with fail
      rw [HS3e.out]
      clear hnz ht2
      go_cut [4] (fun l wd => TxC #[.int .i64 1, .string lb, .int .i64 kd, .int .i64 op, .string tx, .slice A xs.length c] w 1 l wd)
      case first =>
        go_wp2_with ((with_reducible refine gate_builtin (b := .append) (xs := #[.tmp 28, .tmp 33]) rfl ?_); at_builtin; refine Kd.R_append Kd.string (w0 := w) w.heap.size rfl (.tmp 28) (.tmp 33) 84 9 (.string ⟨#[]⟩) 16 rfl Try.underlying84 info9 rfl (by decide) (by omega) (.slice none 0 0) [] (ByteArray.mk #[34] ++ tx ++ ByteArray.mk #[34]) [.string (ByteArray.mk #[34] ++ tx ++ ByteArray.mk #[34])] (fun _ => True) (fun _ => False) rfl rfl (by exact rfl) (fun _ hk => hk.elim) (fun _ _ => trivial) HT.out.r HT.out.bel HT.out.bel.size (by have := HT.out.len; omega) ?_; intro v1 w1 ho hb1 hg1 hat; have HT2 := Lib.hid (HT.out.snoc (by rw [ByteArray.size_append, ByteArray.size_append]; show 1 + tx.size + 1 ≤ 16777400; omega) ho hb1 hg1); clear ho hb1 hg1 hat)
        all_goals
          go_meet
          case rel => first | exact ⟨_, HT2.out⟩ | exact ⟨_, HT.out.mono (by omega)⟩
      case rest =>
        clear HT j2 j4
        obtain ⟨strs, hT⟩ := hcut
        have HT := Lib.hid hT
        obtain ⟨-, -, j2, -, j4, -, -⟩ := box6 hT.q
        clear hT
        go_upto_if 37 with fail
        go_cut [4] (fun l wd => TxC #[.int .i64 1, .string lb, .int .i64 kd, .int .i64 op, .string tx, .slice A xs.length c] w 2 l wd)
        case first =>
          go_wp2_with ((with_reducible refine gate_builtin (b := .append) (xs := #[.tmp 38, .tmp 41]) rfl ?_); at_builtin; refine Kd.R_append Kd.string (w0 := w) w.heap.size rfl (.tmp 38) (.tmp 41) 84 9 (.string ⟨#[]⟩) 16 rfl Try.underlying84 info9 rfl (by decide) (by omega) u4 strs tx [.string tx] (fun _ => True) (fun _ => False) rfl rfl (by exact rfl) (fun _ hk => hk.elim) (fun _ _ => trivial) HT.out.r HT.out.bel HT.out.bel.size (by have := HT.out.len; omega) ?_; intro v1 w1 ho hb1 hg1 hat; have HT2 := Lib.hid (HT.out.snoc (by omega) ho hb1 hg1); clear ho hb1 hg1 hat)
          all_goals
            go_meet
            case rel => first | exact ⟨_, HT2.out⟩ | exact ⟨_, HT.out.mono (by omega)⟩
        case rest =>
          clear HT j2 j4
          obtain ⟨strs, hT⟩ := hcut
          have H0 := Lib.hid hT
          clear hT
          go_wp2_with fail
          go_loopw [4, 5] (fun l vi wr => ∃ i : Nat, vi = .int .i64 i ∧ i ≤ xs.length ∧ Hid (TxC #[.int .i64 1, .string lb, .int .i64 kd, .int .i64 op, .string tx, .slice A xs.length c] w (i + 2) l wr)) (fun _ vi _ => xs.length + 1 - (intOf vi).toNat)
          case atStart => exact ⟨0, rfl, Nat.zero_le _, Lib.hid ⟨strs, H0.out⟩⟩
          case round =>
            clear H0
            obtain ⟨i, rfl, hi, HSi⟩ := hrel
            have hx5 := HOK.out.2.2.2.2.2.2
            by_cases hlt : i < xs.length
            · have t8 : decide (i < xs.length) = true := decide_eq_true hlt
              obtain ⟨strs, hT⟩ := HSi.out
              have HT := Lib.hid hT
              obtain ⟨-, -, -, -, -, k5, -⟩ := box6 hT.q
              obtain ⟨y, hy⟩ : ∃ y, xs[i]? = some y := ⟨xs[i], List.getElem?_eq_getElem hlt⟩
              obtain ⟨ad, A4, c4, hA, e0, e1, e2, e3, e4, hl4, hC4⟩ := at_T104 (Kd.C_below HC.out hT.bel) (i : Int) (by omega) (by omega)
              rw [rd104 hy] at e0 e1 e2 e3 e4 hl4 hC4
              rw [Int.toNat_natCast] at e0 e1 e2 e3 e4
              have HC4 := Lib.hid hC4
              have HGd := Lib.hid (HX.out y (List.mem_of_getElem? hy))
              have HI := Lib.hid hlt
              have HI5 := Lib.hid (show i < 5 by omega)
              have i0 : (0 : Int) ≤ (i : Int) := by omega
              have i1 : (i : Int) < (xs.length : Int) := by omega
              subst hA
              clear hC4 hT hy HSi hi hlt hx5 hl4
              rcases HGd.out with ⟨g0, g1⟩ | ⟨g0, g1⟩
              · have t9 : decide (y.f0 ≥ 0) = true := decide_eq_true g0
                clear e1 e2 e3 e4
                go_wp2_with fail
                refine (dig_call (a := y.f0) (by omega) (by omega) _).mono ?_
                rintro e W3 ⟨rfl, hb3⟩
                have hsz := (sigN_len (a := y.f0) (by omega) (by omega)).1
                obtain ⟨dg, hdg⟩ : ∃ dg, ofN (sigN y.f0) = dg := ⟨_, rfl⟩
                have hdz : dg.size ≤ 20 := by rw [← hdg, ofN_size]; exact hsz
                rw [hdg]
                have HT3 := Lib.hid (HT.out.below hb3)
                clear hsz hdg hb3 HT e0 k5
                go_wp2_with ((with_reducible refine gate_builtin (b := .append) (xs := #[.tmp 57, .tmp 66]) rfl ?_); at_builtin; refine Kd.R_append Kd.string (w0 := w) w.heap.size rfl (.tmp 57) (.tmp 66) 84 9 (.string ⟨#[]⟩) 16 rfl Try.underlying84 info9 rfl (by decide) (by omega) u4 strs (ByteArray.mk #[114] ++ dg) [.string (ByteArray.mk #[114] ++ dg)] (fun _ => True) (fun _ => False) rfl rfl (by exact rfl) (fun _ hk => hk.elim) (fun _ _ => trivial) HT3.out.r HT3.out.bel HT3.out.bel.size (by have := HT3.out.len; have := HI5.out; omega) ?_; intro v1 w1 ho hb1 hg1 hat; have HT4 := Lib.hid (HT3.out.snoc (by rw [ByteArray.size_append]; show 1 + dg.size ≤ 16777400; omega) ho hb1 hg1); clear ho hb1 hg1 hat)
                go_roundw
                case rel =>
                  have hi := HI.out
                  have hi5 := HI5.out
                  have hw : wrap64 ((i : Int) + 1) = ((i + 1 : Nat) : Int) := by unfold wrap64; omega
                  exact ⟨i + 1, by rw [hw], by omega, Lib.hid ⟨_, HT4.out⟩⟩
                case measure =>
                  have hi := HI.out
                  have hi5 := HI5.out
                  have hw : wrap64 ((i : Int) + 1) = ((i + 1 : Nat) : Int) := by unfold wrap64; omega
                  rw [hw]
                  simp [intOf]
                  omega
              · have hg := Lib.hid g1
                have t9 : decide (y.f0 ≥ 0) = false := decide_eq_false (by omega)
                have hcall := fun W (hb : Below wr.heap.size wr W) => txt_all 9 (by omega) y.f1 A4 c4 W hg.out (Kd.C_below HC4.out hb)
                unfold eVal at hcall
                go_wp2_with fail
                refine (hcall _ (Below.refl _ _)).mono ?_
                rintro e W3 ⟨tt, rfl, htz, hb3⟩
                have HT3 := Lib.hid (HT.out.below hb3)
                have HZ := Lib.hid (show tt.size ≤ 16777400 from Nat.le_trans htz (by decide))
                clear hb3 HT e0 e1 e2 e3 e4 k5 hcall htz g0 g1
                go_wp2_with ((with_reducible refine gate_builtin (b := .append) (xs := #[.tmp 68, .tmp 76]) rfl ?_); at_builtin; refine Kd.R_append Kd.string (w0 := w) w.heap.size rfl (.tmp 68) (.tmp 76) 84 9 (.string ⟨#[]⟩) 16 rfl Try.underlying84 info9 rfl (by decide) (by omega) u4 strs tt [.string tt] (fun _ => True) (fun _ => False) rfl rfl (by exact rfl) (fun _ hk => hk.elim) (fun _ _ => trivial) HT3.out.r HT3.out.bel HT3.out.bel.size (by have := HT3.out.len; have := HI5.out; omega) ?_; intro v1 w1 ho hb1 hg1 hat; have HT4 := Lib.hid (HT3.out.snoc (HZ.out) ho hb1 hg1); clear ho hb1 hg1 hat)
                go_roundw
                case rel =>
                  have hi := HI.out
                  have hi5 := HI5.out
                  have hw : wrap64 ((i : Int) + 1) = ((i + 1 : Nat) : Int) := by unfold wrap64; omega
                  exact ⟨i + 1, by rw [hw], by omega, Lib.hid ⟨_, HT4.out⟩⟩
                case measure =>
                  have hi := HI.out
                  have hi5 := HI5.out
                  have hw : wrap64 ((i : Int) + 1) = ((i + 1 : Nat) : Int) := by unfold wrap64; omega
                  rw [hw]
                  simp [intOf]
                  omega
            · have t8 : decide (i < xs.length) = false := decide_eq_false hlt
              obtain ⟨strs, hT⟩ := HSi.out
              obtain ⟨-, -, -, -, -, k5, -⟩ := box6 hT.q
              obtain ⟨Al, cl, rfl, hll, hCl⟩ := Kd.R_reads hT.r
              have HCl := Lib.hid hCl
              have HSz := Lib.hid hT.sz
              have HLe := Lib.hid (show strs.length ≤ 7 by have := hT.len; omega)
              have HB := Lib.hid hT.bel
              have HS20 := HS3
              clear hCl hT HSi hi hx5 hll
              go_wp2_with fail
              go_loop [3, 6] (fun s vj => ∃ (j : Nat) (t : ByteArray), vj = .int .i64 j ∧ s = .string t ∧ j ≤ strs.length ∧ t.size ≤ 20 + j * 16777402) (fun _ vj => strs.length + 1 - (intOf vj).toNat)
              case atStart => exact ⟨0, s3, rfl, rfl, Nat.zero_le _, by have := HS3.out; omega⟩
              case round =>
                obtain ⟨j, t, rfl, rfl, hj, ht⟩ := hrel
                by_cases hjl : j < strs.length
                · have t10 : decide (j < strs.length) = true := decide_eq_true hjl
                  obtain ⟨s, hs⟩ : ∃ s, strs[j]? = some s := ⟨strs[j], List.getElem?_eq_getElem hjl⟩
                  obtain ⟨ad, hA, hcy⟩ := at_str HCl.out hs (by omega)
                  have hsz := HSz.out s (List.mem_of_getElem? hs)
                  have hle := HLe.out
                  have j0 : (0 : Int) ≤ (j : Int) := by omega
                  have j1 : (j : Int) < (strs.length : Int) := by omega
                  have ht2 : t.size ≤ 200000000 := by omega
                  have HJ := Lib.hid hjl
                  have HTz := Lib.hid ht
                  subst hA
                  clear hs hj ht hjl hle
                  by_cases hj0 : j = 0
                  · have t11 : ((j : Int) == 0) = true := by simp [hj0]
                    have HJ0 := Lib.hid hj0
                    clear hj0
                    go_wp2_with fail
                    go_round
                    case rel =>
                      have hj := HJ.out
                      have hle := HLe.out
                      have ht := HTz.out
                      have hw : wrap64 ((j : Int) + 1) = ((j + 1 : Nat) : Int) := by unfold wrap64; omega
                      exact ⟨j + 1, _, by rw [hw], rfl, by omega, by rw [ByteArray.size_append, ByteArray.size_append]; show t.size + 1 + s.size ≤ _; omega⟩
                    case measure =>
                      have hj := HJ.out
                      have hle := HLe.out
                      have hw : wrap64 ((j : Int) + 1) = ((j + 1 : Nat) : Int) := by unfold wrap64; omega
                      rw [hw]
                      simp [intOf]
                      omega
                  · have t11 : ((j : Int) == 0) = false := by simp [hj0]
                    go_wp2_with fail
                    go_round
                    case rel =>
                      have hj := HJ.out
                      have hle := HLe.out
                      have ht := HTz.out
                      have hw : wrap64 ((j : Int) + 1) = ((j + 1 : Nat) : Int) := by unfold wrap64; omega
                      exact ⟨j + 1, _, by rw [hw], rfl, by omega, by rw [ByteArray.size_append, ByteArray.size_append]; show t.size + 2 + s.size ≤ _; omega⟩
                    case measure =>
                      have hj := HJ.out
                      have hle := HLe.out
                      have hw : wrap64 ((j : Int) + 1) = ((j + 1 : Nat) : Int) := by unfold wrap64; omega
                      rw [hw]
                      simp [intOf]
                      omega
                · have t10 : decide (j < strs.length) = false := decide_eq_false hjl
                  go_wp2_with fail
                  have hle := HLe.out
                  go_ret
                  exact ⟨t, rfl, by omega, HB.out⟩
end Go.Proofs.Ytifdkkkcecpjoaa
end
section
/-
  Lines of raw statements: a text of three hundred bytes at most.
-/
namespace Go.Proofs.Ytifdkkkcecpjoaa
set_option linter.unusedVariables false
set_option linter.unusedSimpArgs false
open Go.RowKit Go.Proofs.YtifdkkkcecpjoaaW Go.Proofs.YtifdkkkcecpjoaaW.PrintWords Tx
attribute [local go_sem ↓] Go.wp_at_zero Go.wp_at_succ
/-- What a raw statement must be. -/
def goodR (x : S63) : Prop := (∀ y ∈ x.f4, deepR 8 y) ∧ x.f4.length ≤ 1000000000000000
theorem at_int {W : World} {A : Option Addr} {m : Nat} {zs : List Int} (h : (Kd.int .i64).C W A m zs) {j : Nat} {s : Int} (hs : zs[j]? = some s) (hm : 0 < m) : ∃ ad, A = some ad ∧ W.cell? (ad.add j) = some (.int .i64 s) := by
  obtain ⟨ad, rfl, hc⟩ := h.2.2 hm
  obtain ⟨cs, _, hk, hcell⟩ := hc j s hs
  have hk' : cs = [.int .i64 s] := hk
  subst hk'
  have := hcell 0 _ rfl
  exact ⟨ad, rfl, by rwa [show (Kd.int .i64).sz = 1 from rfl, Nat.mul_one, Nat.add_zero] at this⟩
/-- A raw statement's line. -/
theorem line_any {x : S63} {A3 A4 : Option Addr} {c3 c4 : Nat} {w : World} (h : Lies w x A3 A4 c3 c4) {R : Ending → World → Prop}
    (hr : ∀ (lb : ByteArray) (kd op : Int) (tx : ByteArray) (n c : Nat) (A : Option Addr) (w' : World), Below w.heap.size w w' → Calls Try.prog 52 #[.agg #[.int .i64 1, .string lb, .int .i64 kd, .int .i64 op, .string tx, .slice A n c]] w' (StrEnd 200000000 w') → R (.returned (.agg #[.int .i64 1, .string lb, .int .i64 kd, .int .i64 op, .string tx, .slice A n c])) w') :
    Calls Try.prog 53 #[sAgg x A3 A4 c3 c4] w R := by
  refine (make_st h).mono ?_
  rintro e w' ⟨lb, kd, op, tx, xs, u, rfl, ⟨hl, ho1, ho2, ho3, ho4, ho5, ho6⟩, hA, hb⟩
  obtain ⟨A, c, rfl, hc, hC⟩ := hA.form
  exact hr lb kd op tx _ c A w' hb (stext_any ⟨hl, ho1, ho2, ho3, ho4, ho5, ho6⟩ hA.good hC hc)
set_option maxRecDepth 100000 in
set_option maxHeartbeats 3200000 in
theorem lines_any {l : List S63} {A B : Option Addr} {c cB : Nat} {ns : List Int} {w : World} (hC : Kd.C k63 w A l.length l) (hB : (Kd.int .i64).C w B ns.length ns) (hg : ∀ x ∈ l, goodR x) (hl : l.length ≤ 1000000000000000) (hn : ns.length ≤ 1000) :
    Calls Try.prog 28 #[.slice A l.length c, .slice B ns.length cB, .int .i64 300] w (StrEnd 300 w) := by
  have HC := Lib.hid hC
  have HB := Lib.hid hB
  have HG := Lib.hid hg
  have H0 := Lib.hid (Below.refl w.heap.size w)
  clear hC hB hg
  go_enter Try.func28, Try.ntmps28
  go_wp2_with fail
  go_loopw [7, 8] (fun s vi wr => ∃ (i : Nat) (t : ByteArray), s = .string t ∧ vi = .int .i64 i ∧ i ≤ l.length ∧ t.size ≤ 300 ∧ Hid (Below w.heap.size w wr)) (fun _ vi _ => l.length + 1 - (intOf vi).toNat)
  case atStart => exact ⟨0, ⟨#[]⟩, rfl, rfl, Nat.zero_le _, Nat.zero_le _, H0⟩
  case round =>
    obtain ⟨i, t, rfl, rfl, hi, ht, HBl⟩ := hrel
    clear H0
    by_cases hlt : i < l.length
    · have t8 : decide (i < l.length) = true := decide_eq_true hlt
      go_upto_if 20 with fail
      go_cut [9] (fun v wc => ∃ kv : Int, v = .int .i64 kv ∧ Hid (Below wr.heap.size wr wc))
      case first =>
        by_cases hin : i < ns.length
        · have t9 : decide (i < ns.length) = true := decide_eq_true hin
          obtain ⟨s, hs⟩ : ∃ s, ns[i]? = some s := ⟨ns[i], List.getElem?_eq_getElem hin⟩
          obtain ⟨ad, hA, hcy⟩ := at_int HB.out hs (by omega)
          have hcw : wr.cell? (ad.add i) = some (.int .i64 s) := (HBl.out.cell (World.block_lt_of_cell? _ _ hcy)).trans hcy
          have i0 : (0 : Int) ≤ (i : Int) := by omega
          have i1 : (i : Int) < (ns.length : Int) := by omega
          subst hA
          clear hcy hs
          go_wp2_with fail
          refine (within51 s 24 wr (by omega) (by omega)).mono ?_
          rintro e W3 ⟨rfl, hb3⟩
          have HB3 := Lib.hid hb3
          clear hb3
          go_wp2_with fail
          go_meet
          case rel => exact ⟨_, rfl, HB3⟩
        · have t9 : decide (i < ns.length) = false := decide_eq_false hin
          go_wp2_with fail
          go_meet
          case rel => exact ⟨_, rfl, Lib.hid (Below.refl _ _)⟩
      case rest =>
        obtain ⟨kv, rfl, hbc⟩ := hcut
        have HBc := Lib.hid (HBl.out.trans (hbc.out.mono HBl.out.size))
        obtain ⟨x, hx⟩ : ∃ x, l[i]? = some x := ⟨l[i], List.getElem?_eq_getElem hlt⟩
        obtain ⟨ad, A3, c3, A4, c4, hA, e0, e1, e2, e3, e4, e5, hl3, g3, hl4, g4⟩ := at_T63 (Kd.C_below HC.out HBc.out) (i : Int) (by omega) (by omega)
        rw [rd63 hx] at e0 e1 e2 e3 e4 e5 hl3 g3 hl4 g4
        rw [Int.toNat_natCast] at e0 e1 e2 e3 e4 e5
        have hgx := HG.out x (List.mem_of_getElem? hx)
        have hmk := fun (R : Ending → World → Prop) hr => line_any (R := R) (w := wc) (x := x) ⟨hl3, g3, hl4, g4, hgx.1, hgx.2⟩ hr
        unfold sAgg at hmk
        have i0 : (0 : Int) ≤ (i : Int) := by omega
        have i1 : (i : Int) < (l.length : Int) := by omega
        have HI := Lib.hid hlt
        subst hA
        clear hbc hx hl3 g3 hl4 g4 hgx hi hlt
        go_wp2_with fail
        refine hmk _ ?_
        intro lb kd op tx n cc AA W3 hb3 hcall
        clear hmk e0 e1 e2 e3 e4 e5
        have HB3 := Lib.hid (HBc.out.trans (hb3.mono HBc.out.size))
        clear hb3
        go_wp2_with fail
        refine hcall.mono ?_
        rintro e W4 ⟨tt, rfl, htz, hb4⟩
        have HB4 := Lib.hid (HB3.out.trans (hb4.mono HB3.out.size))
        clear hb4 hcall HB3 HBc HBl
        go_upto_block 2 with fail
        go_cut [10] (fun s wd => Hid (wd = W4) ∧ ∃ t : ByteArray, s = .string t ∧ t.size ≤ 200000020)
        case first =>
          go_wp2_with fail
          all_goals
            go_meet
            case rel => exact ⟨Lib.hid rfl, _, rfl, by first | exact Nat.zero_le _ | (rw [ByteArray.size_append, ByteArray.size_append]; show 2 + tt.size + 7 ≤ 200000020; omega) | (rw [ByteArray.size_append]; show 2 + tt.size ≤ 200000020; omega) | omega⟩
        case rest =>
          obtain ⟨hwd, t4, rfl, ht4⟩ := hcut
          obtain rfl := hwd.out
          clear hwd htz
          by_cases hbig : (t.size : Int) + t4.size + 1 > 300
          · have t12 : decide ((t.size : Int) + t4.size + 1 > 300) = true := decide_eq_true hbig
            go_wp2_with fail
            go_ret
            exact ⟨t, rfl, ht, HB4.out⟩
          · have t12 : decide ((t.size : Int) + t4.size + 1 > 300) = false := decide_eq_false hbig
            go_wp2_with fail
            go_roundw
            case rel =>
              have hi := HI.out
              have hw : wrap64 ((i : Int) + 1) = ((i + 1 : Nat) : Int) := by unfold wrap64; omega
              exact ⟨i + 1, _, rfl, by go_num, by omega, by rw [ByteArray.size_append, ByteArray.size_append]; show t.size + t4.size + 1 ≤ 300; omega, HB4⟩
            case measure =>
              have hi := HI.out
              have hw : wrap64 ((i : Int) + 1) = ((i + 1 : Nat) : Int) := by unfold wrap64; omega
              skip
              simp [intOf]
              omega
    · have t8 : decide (i < l.length) = false := decide_eq_false hlt
      go_wp2_with fail
      go_ret
      exact ⟨t, rfl, ht, HBl.out⟩
end Go.Proofs.Ytifdkkkcecpjoaa
end
section
/-
  Requests that are drawn by a number, their text of raw statements: each of them may be.
-/
namespace Go.Proofs.Ytifdkkkcecpjoaa
set_option linter.unusedVariables false
set_option linter.unusedSimpArgs false
open Go.RowKit Go.Proofs.YtifdkkkcecpjoaaW Go.Proofs.YtifdkkkcecpjoaaW.PrintWords Tx
attribute [local go_sem ↓] Go.wp_at_zero Go.wp_at_succ
theorem three_ints (W : World) (p q r : Int) : (Kd.int .i64).C (W.alloc (.cells #[.int .i64 p, .int .i64 q, .int .i64 r] 3)) (some ⟨W.heap.size, 0, none⟩) 3 [p, q, r] := by
  have hq := heap_alloc_new W (.cells #[.int .i64 p, .int .i64 q, .int .i64 r] 3)
  have hc : ∀ j : Nat, (W.alloc (.cells #[.int .i64 p, .int .i64 q, .int .i64 r] 3)).cell? ⟨W.heap.size, j, none⟩ = (#[.int .i64 p, .int .i64 q, .int .i64 r] : Array Value)[j]? := fun j => cell_of_row _ _ j _ 3 (0, 0) hq
  refine ⟨rfl, by omega, fun _ => ⟨_, rfl, fun j x hx => ⟨[.int .i64 x], rfl, rfl, fun i u hu => ?_⟩⟩⟩
  have h1 : (Kd.int .i64).sz = 1 := rfl
  rw [h1, Nat.mul_one]
  have hi : i = 0 := by
    rcases i with _ | i
    · rfl
    · simp at hu
  subst hi
  have hu' : u = .int .i64 x := by simpa using hu.symm
  subst hu'
  rw [Nat.add_zero]
  have hj : j < 3 := (List.getElem?_eq_some_iff.1 hx).1
  have had : Addr.add ⟨W.heap.size, 0, none⟩ j = ⟨W.heap.size, j, none⟩ := by
    unfold Addr.add
    split
    · rename_i h; rw [h]
    · simp
  rw [had, hc j]
  rcases (show j = 0 ∨ j = 1 ∨ j = 2 by omega) with rfl | rfl | rfl
  · injection hx with hx; subst hx; rfl
  · injection hx with hx; subst hx; rfl
  · injection hx with hx; subst hx; rfl
/-- The request while it is made. -/
structure mkR (w : World) (g : Nat) (s : ByteArray) (W : World) : Prop where
  lt : w.heap.size < g
  ltW : g < W.heap.size
  bel : Below w.heap.size w W
  q0 : W.heap[w.heap.size]? = some (.cells #[.int .i64 0, .string ⟨#[]⟩, .string ⟨#[]⟩, .int .i64 0] 27 (0, 0))
  q1 : W.heap[g]? = some (.cells #[.int .i64 0, .string s, .string ⟨#[]⟩, .int .i64 0] 27 (0, 0))
theorem mkR.below {w W W' : World} {g : Nat} {s : ByteArray} (h : mkR w g s W) (hb : Below W.heap.size W W') : mkR w g s W' :=
  ⟨h.lt, Nat.lt_of_lt_of_le h.ltW hb.size, h.bel.trans (hb.mono h.bel.size), (hb.block _ (Array.getElem?_eq_some_iff.1 h.q0).1).trans h.q0, (hb.block _ (Array.getElem?_eq_some_iff.1 h.q1).1).trans h.q1⟩
def TtC (w : World) (g : Nat) (s : ByteArray) (v : Value) (W : World) : Prop := ∃ tt : ByteArray, v = .string tt ∧ tt.size ≤ 300 ∧ mkR w g s W
set_option maxRecDepth 100000 in
set_option maxHeartbeats 3200000 in
theorem make_list {w : World} {n : Int} {l : List S63} {A : Option Addr} {c : Nat} (h0 : 0 ≤ n) (h1 : n ≤ 1073741824) (hC : Kd.C k63 w A l.length l) (hc : l.length ≤ c) (hg : ∀ x ∈ l, goodR x) (hl : l.length ≤ 1000000000000000) (hcm : c ≤ 1000000000000000) : Calls Try.prog 14 #[.int .i64 n, .slice A l.length c] w (MakeEnd w) := by
  have HC := Lib.hid hC
  have HG := Lib.hid hg
  have HLc := Lib.hid hc
  clear hC hg hc
  obtain ⟨W1, hW1⟩ : ∃ W1, W1 = w.alloc (.cells #[.int .i64 0, .string ⟨#[]⟩, .string ⟨#[]⟩, .int .i64 0] 27) := ⟨_, rfl⟩
  have b1 : Below w.heap.size w W1 := by rw [hW1]; exact (Below.refl _ _).alloc (Nat.le_refl _) _
  have hq1 : W1.heap[w.heap.size]? = some (.cells #[.int .i64 0, .string ⟨#[]⟩, .string ⟨#[]⟩, .int .i64 0] 27 (0, 0)) := by rw [hW1]; exact heap_alloc_new _ _
  have hz1 : w.heap.size < W1.heap.size := by rw [hW1]; simp
  have HW1 := Lib.hid hW1
  have HQ1 := Lib.hid hq1
  clear hW1 hq1
  go_enter Try.func14, Try.ntmps14
  go_wp2_with fail
  rw [← HW1.out]
  refine (name_any (n / 16) W1 (by omega) (by omega)).mono ?_
  rintro e w2 ⟨s, rfl, hw, hsz, b2⟩
  have b02 : Below w.heap.size w w2 := b1.trans (b2.mono b1.size)
  have HQ2 := Lib.hid ((b2.block _ hz1).trans HQ1.out)
  have hz2 : w.heap.size < w2.heap.size := Nat.lt_of_lt_of_le hz1 b2.size
  clear b2 b1 HQ1 hz1
  go_upto_if 17 with fail
  obtain ⟨W3, hW3⟩ : ∃ W3, W3 = w2.alloc (.cells #[.int .i64 0, .string s, .string ⟨#[]⟩, .int .i64 0] 27) := ⟨_, rfl⟩
  have b03 : Below w.heap.size w W3 := by rw [hW3]; exact b02.alloc (Nat.le_of_lt hz2) _
  have hq3 : W3.heap[w2.heap.size]? = some (.cells #[.int .i64 0, .string s, .string ⟨#[]⟩, .int .i64 0] 27 (0, 0)) := by rw [hW3]; exact heap_alloc_new _ _
  have hz3 : W3.heap.size = w2.heap.size + 1 := by rw [hW3]; simp
  have HQ3 := Lib.hid (show W3.heap[w.heap.size]? = some (.cells #[.int .i64 0, .string ⟨#[]⟩, .string ⟨#[]⟩, .int .i64 0] 27 (0, 0)) by rw [hW3]; exact (Below.heap_alloc _ _ _ hz2).trans HQ2.out)
  rw [← hW3]
  clear hW3 b02 HQ2
  have HR3 := Lib.hid (show mkR w w2.heap.size s W3 from ⟨hz2, by omega, b03, HQ3.out, hq3⟩)
  clear hz3 b03 HQ3 hq3 hz2
  obtain ⟨g, hg⟩ : ∃ g, g = w2.heap.size := ⟨_, rfl⟩
  rw [← hg] at HR3 ⊢
  clear hg
  go_cut [7] (fun v wc => TtC w g s v wc)
  case first =>
    by_cases hn0 : l.length = 0
    · have t17 : decide ((l.length : Int) > 0) = false := decide_eq_false (by omega)
      have t18 : decide (0 < l.length) = false := decide_eq_false (by omega)
      go_wp2_with fail
      go_meet
      case rel => exact ⟨⟨#[]⟩, rfl, Nat.zero_le _, HR3.out⟩
    · have t17 : decide ((l.length : Int) > 0) = true := decide_eq_true (by omega)
      have t18 : decide (0 < l.length) = true := decide_eq_true (by omega)
      have i0 := Int.emod_nonneg (n / 16 / 12) (show (l.length : Int) ≠ 0 by omega)
      have i1 := Int.emod_lt_of_pos (n / 16 / 12) (show (0 : Int) < l.length by omega)
      obtain ⟨i, hi⟩ : ∃ i : Nat, n / 16 / 12 % (l.length : Int) = (i : Int) := ⟨(n / 16 / 12 % (l.length : Int)).toNat, by omega⟩
      have HI := Lib.hid hi
      have hil : i < l.length := by omega
      have HIL := Lib.hid hil
      have hw' : IntKind.i64.wrap ((n / 16).tdiv 12) = n / 16 / 12 := by
        rw [Int.tdiv_eq_ediv_of_nonneg (by omega), IntWalk.i64_in _ (by omega)]
      obtain ⟨ad, hA, -⟩ := HC.out.2.2 (by omega)
      subst hA
      clear i0 i1 hi hn0 hw'
      go_wp2_with fail
      refine (within27 (n / 16 / 12) l.length W3 (by omega) (by omega) (by omega) (by omega)).mono ?_
      rintro e w5 ⟨rfl, rfl⟩
      rw [HI.out]
      have hci : i < c := by have := HLc.out; omega
      have hcl := HLc.out
      have j0 : (0 : Int) ≤ (i : Int) := by omega
      have j1 : (i : Int) ≤ (l.length : Int) := by omega
      go_wp2_with fail
      have hcall := lines_any (l := l.drop i) (A := some (ad.add (i * 6))) (c := c - i) (B := some ⟨W3.heap.size, 0, none⟩) (cB := 3) (ns := [n / 16, n / 16 / 5, n / 16 / 7]) (w := W3.alloc (.cells #[.int .i64 (n / 16), .int .i64 (n / 16 / 5), .int .i64 (n / 16 / 7)] 3))
        (by
          have h := Kd.C_drop (Kd.C_below HC.out (HR3.out.bel.trans ((below_alloc (Below.refl _ _) (.cells #[.int .i64 (n / 16), .int .i64 (n / 16 / 5), .int .i64 (n / 16 / 7)] 3)).mono HR3.out.bel.size))) (Nat.le_of_lt HIL.out) HLc.out
          rw [if_neg (by omega)] at h
          exact h) (three_ints W3 _ _ _) (fun x hx => HG.out x (List.mem_of_mem_drop hx)) (by rw [List.length_drop]; omega) (by show 3 ≤ 1000; omega)
      rw [List.length_drop] at hcall
      refine hcall.mono ?_
      rintro e w6 ⟨tt, rfl, htt, hb6⟩
      have HR6 := Lib.hid (HR3.out.below ((below_alloc (Below.refl _ _) (.cells #[.int .i64 (n / 16), .int .i64 (n / 16 / 5), .int .i64 (n / 16 / 7)] 3)).trans (hb6.mono (below_alloc (Below.refl _ _) (.cells #[.int .i64 (n / 16), .int .i64 (n / 16 / 5), .int .i64 (n / 16 / 7)] 3)).size)))
      have HT6 := Lib.hid htt
      clear hcall hb6 htt
      go_wp2_with fail
      go_meet
      case rel => exact ⟨tt, rfl, HT6.out, HR6.out⟩
  case rest =>
    obtain ⟨tt, rfl, htt, hmr⟩ := hcut
    have HTt := Lib.hid htt
    clear htt
    obtain ⟨r0, r1, r2, r3⟩ := box4 hmr.q1
    obtain ⟨z0, z1, z2, z3⟩ := box4 hmr.q0
    have fr : ∀ o, wc.frozen? ⟨g, o, none⟩ = false := fun o => by simp [World.frozen?, hmr.q1]
    have fz : ∀ o, wc.frozen? ⟨w.heap.size, o, none⟩ = false := fun o => by simp [World.frozen?, hmr.q0]
    have fr0 := fr 0
    have fr1 := fr 1
    have fr2 := fr 2
    have fr3 := fr 3
    have fz0 := fz 0
    have fz1 := fz 1
    have fz2 := fz 2
    have fz3 := fz 3
    have HMR := Lib.hid hmr
    have hne : w.heap.size ≠ g := by have := hmr.lt; omega
    have hle : w.heap.size ≤ g := Nat.le_of_lt hmr.lt
    have hw2W : g < wc.heap.size := hmr.ltW
    clear fr fz hmr
    have e0 := Int.emod_nonneg n (show (16 : Int) ≠ 0 by omega)
    have e1 := Int.emod_lt_of_pos n (show (0 : Int) < 16 by omega)
    obtain ⟨j, hj⟩ : ∃ j : Nat, n % 16 = (j : Int) := ⟨(n % 16).toNat, by omega⟩
    have HJ := Lib.hid hj
    have hj16 : j < 16 := by omega
    clear hj e0 e1
    clear HR3
    go_wp2_with fail
    refine (within27 n 16 _ (by omega) (by omega) (by omega) (by omega)).mono ?_
    rintro e w4 ⟨rfl, rfl⟩
    rw [HJ.out]
    by_cases h4 : j < 4
    · have h4' : (j : Int) < 4 := by omega
      go_wp2_with fail
      obtain ⟨q0, q1, q2, q3⟩ := box4 (put4 ((Below.heap_setCell (wc.setCell ⟨g, 0, none⟩ (.int .i64 1)) ⟨g, 2, none⟩ (.string tt) w.heap.size hne).trans ((Below.heap_setCell wc ⟨g, 0, none⟩ (.int .i64 1) w.heap.size hne).trans HMR.out.q0)) (.int .i64 (1)) (.string (s)) (.string (tt)) (.int .i64 (0)))
      refine bodyPost_ret (v := rqv (1) (s) (tt) (0)) (by simp [results, Try.results14, go_sem, q0, q1, q2, q3]; rfl) rfl ⟨1, s, tt, 0, rfl, right_mk hw (by omega) (by omega) (by have := HTt.out; omega) (.inr rfl) (.inl rfl), hsz, by have := HTt.out; omega, put4_below ((HMR.out.bel.setCell (p := ⟨g, 0, none⟩) hle (.int .i64 1)).setCell (p := ⟨g, 2, none⟩) hle (.string tt)) (Nat.le_refl _) _ _ _ _⟩
    · by_cases h5 : j < 5
      · have h5' : (4 : Int) ≤ (j : Int) ∧ (j : Int) < 5 := by omega
        obtain ⟨h5a, h5b⟩ := h5'
        go_wp2_with fail
        obtain ⟨q0, q1, q2, q3⟩ := box4 (put4 ((Below.heap_setCell wc ⟨g, 0, none⟩ (.int .i64 2) w.heap.size hne).trans HMR.out.q0) (.int .i64 (2)) (.string (s)) (.string (⟨#[]⟩)) (.int .i64 (0)))
        refine bodyPost_ret (v := rqv (2) (s) (⟨#[]⟩) (0)) (by simp [results, Try.results14, go_sem, q0, q1, q2, q3]; rfl) rfl ⟨2, s, ⟨#[]⟩, 0, rfl, right_mk hw (by omega) (by omega) (by decide) (.inl rfl) (.inl rfl), hsz, by decide, put4_below (HMR.out.bel.setCell (p := ⟨g, 0, none⟩) hle (.int .i64 2)) (Nat.le_refl _) _ _ _ _⟩
      · by_cases h8 : j < 8
        · have h8a : (5 : Int) ≤ (j : Int) := by omega
          have h8b : (j : Int) < 8 := by omega
          go_wp2_with fail
          obtain ⟨q0, q1, q2, q3⟩ := box4 (put4 ((Below.heap_setCell (wc.setCell ⟨g, 0, none⟩ (.int .i64 3)) ⟨g, 2, none⟩ (.string tt) w.heap.size hne).trans ((Below.heap_setCell wc ⟨g, 0, none⟩ (.int .i64 3) w.heap.size hne).trans HMR.out.q0)) (.int .i64 (3)) (.string (s)) (.string (tt)) (.int .i64 (0)))
          refine bodyPost_ret (v := rqv (3) (s) (tt) (0)) (by simp [results, Try.results14, go_sem, q0, q1, q2, q3]; rfl) rfl ⟨3, s, tt, 0, rfl, right_mk hw (by omega) (by omega) (by have := HTt.out; omega) (.inr rfl) (.inl rfl), hsz, by have := HTt.out; omega, put4_below ((HMR.out.bel.setCell (p := ⟨g, 0, none⟩) hle (.int .i64 3)).setCell (p := ⟨g, 2, none⟩) hle (.string tt)) (Nat.le_refl _) _ _ _ _⟩
        · by_cases h9 : j < 9
          · have h9a : (8 : Int) ≤ (j : Int) := by omega
            have h9b : (j : Int) < 9 := by omega
            go_wp2_with fail
            obtain ⟨q0, q1, q2, q3⟩ := box4 (put4 ((Below.heap_setCell wc ⟨g, 0, none⟩ (.int .i64 4) w.heap.size hne).trans HMR.out.q0) (.int .i64 (4)) (.string (s)) (.string (⟨#[]⟩)) (.int .i64 (0)))
            refine bodyPost_ret (v := rqv (4) (s) (⟨#[]⟩) (0)) (by simp [results, Try.results14, go_sem, q0, q1, q2, q3]; rfl) rfl ⟨4, s, ⟨#[]⟩, 0, rfl, right_mk hw (by omega) (by omega) (by decide) (.inl rfl) (.inl rfl), hsz, by decide, put4_below (HMR.out.bel.setCell (p := ⟨g, 0, none⟩) hle (.int .i64 4)) (Nat.le_refl _) _ _ _ _⟩
          · by_cases h12 : j < 12
            · have h12a : (9 : Int) ≤ (j : Int) := by omega
              have h12b : (j : Int) < 12 := by omega
              have i0 := Int.emod_nonneg (n / 16 / 12) (show (7 : Int) ≠ 0 by omega)
              have i1 := Int.emod_lt_of_pos (n / 16 / 12) (show (0 : Int) < 7 by omega)
              obtain ⟨i, hi⟩ : ∃ i : Nat, n / 16 / 12 % 7 = (i : Int) := ⟨(n / 16 / 12 % 7).toNat, by omega⟩
              have HI := Lib.hid hi
              have hi7 : i < 7 := by omega
              obtain ⟨v, hv, hv0, hv1⟩ := vals_at i hi7
              have hcv : (wc.alloc (.cells vals 3)).cell? ⟨wc.heap.size, i, none⟩ = some (.int .i64 v) := (cell_of_row _ wc.heap.size i vals 3 (0, 0) (heap_alloc_new wc _)).trans hv
              clear hi i0 i1
              have hvl : ([.int .i64 0, .int .i64 1, .int .i64 7, .int .i64 300, .int .i64 (-1), .int .i64 1099511627776, .int .i64 (-1099511627776)] : List Value)[i]? = some (.int .i64 v) := by simpa [vals] using hv
              have hgi : ([.int .i64 0, .int .i64 1, .int .i64 7, .int .i64 300, .int .i64 (-1), .int .i64 1099511627776, .int .i64 (-1099511627776)] : List Value)[i]'(by simp; omega) = .int .i64 v := (List.getElem?_eq_some_iff.1 hvl).2
              clear hvl
              unfold vals at hv hcv
              have hqd : IntKind.i64.wrap ((n / 16).tdiv 12) = n / 16 / 12 := by
                rw [Int.tdiv_eq_ediv_of_nonneg (by omega), IntWalk.i64_in _ (by omega)]
              have hqn : (0 : Int) ≤ n / 16 / 12 := by omega
              have hwW : w.heap.size < wc.heap.size := Nat.lt_trans HMR.out.lt HMR.out.ltW
              have hi7' : (i : Int) < 7 := by omega
              have hi0' : (0 : Int) ≤ (i : Int) := by omega
              go_wp2_with fail
              go_region_law (first | (go_simp; go_at_call 27; (with_reducible refine (within27 (n / 16 / 12) 7 _ (by omega) (by omega) (by omega) (by omega)).mono ?_); rintro e w5 ⟨rfl, rfl⟩; rw [HI.out]))
              all_goals
                go_wp2_with fail
                have hqx := put4 ((Below.heap_setCell (wc.setCell ⟨g, 0, none⟩ (.int .i64 5)) ⟨g, 3, none⟩ (.int .i64 v) w.heap.size hne).trans ((Below.heap_setCell wc ⟨g, 0, none⟩ (.int .i64 5) w.heap.size hne).trans HMR.out.q0)) (.int .i64 5) (.string s) (.string ⟨#[]⟩) (.int .i64 v)
                have hbx := put4_below ((HMR.out.bel.setCell (p := ⟨g, 0, none⟩) hle (.int .i64 5)).setCell (p := ⟨g, 3, none⟩) hle (.int .i64 v)) (Nat.le_refl _) (.int .i64 5) (.string s) (.string ⟨#[]⟩) (.int .i64 v)
                have hqy := (Below.heap_alloc _ (.cells #[.int .i64 0, .int .i64 1, .int .i64 7, .int .i64 300, .int .i64 (-1), .int .i64 1099511627776, .int .i64 (-1099511627776)] 3) w.heap.size (by simp [World.setCell]; exact hwW)).trans hqx
                have hby := (hbx.alloc (by simp [World.setCell]; exact Nat.le_of_lt hwW) (.cells #[.int .i64 0, .int .i64 1, .int .i64 7, .int .i64 300, .int .i64 (-1), .int .i64 1099511627776, .int .i64 (-1099511627776)] 3)).drew
                obtain ⟨q0, q1, q2, q3⟩ := box4 hqy
                refine bodyPost_ret (v := rqv 5 s ⟨#[]⟩ v) (by simp [results, Try.results14, go_sem, q0, q1, q2, q3]; rfl) rfl ⟨5, s, ⟨#[]⟩, v, rfl, right_mk hw (by omega) (by omega) (by decide) (.inl rfl) (.inr ⟨rfl, hv0, hv1⟩), hsz, by decide, hby⟩
            · by_cases h13 : j < 13
              · have h13a : (12 : Int) ≤ (j : Int) := by omega
                have h13b : (j : Int) < 13 := by omega
                go_wp2_with fail
                obtain ⟨q0, q1, q2, q3⟩ := box4 (put4 ((Below.heap_setCell wc ⟨g, 0, none⟩ (.int .i64 6) w.heap.size hne).trans HMR.out.q0) (.int .i64 (6)) (.string (s)) (.string (⟨#[]⟩)) (.int .i64 (0)))
                refine bodyPost_ret (v := rqv (6) (s) (⟨#[]⟩) (0)) (by simp [results, Try.results14, go_sem, q0, q1, q2, q3]; rfl) rfl ⟨6, s, ⟨#[]⟩, 0, rfl, right_mk hw (by omega) (by omega) (by decide) (.inl rfl) (.inl rfl), hsz, by decide, put4_below (HMR.out.bel.setCell (p := ⟨g, 0, none⟩) hle (.int .i64 6)) (Nat.le_refl _) _ _ _ _⟩
              · have h14a : (13 : Int) ≤ (j : Int) := by omega
                go_wp2_with fail
                obtain ⟨q0, q1, q2, q3⟩ := box4 (put4 ((Below.heap_setCell (wc.setCell ⟨g, 0, none⟩ (.int .i64 7)) ⟨g, 1, none⟩ (.string ⟨#[]⟩) w.heap.size hne).trans ((Below.heap_setCell wc ⟨g, 0, none⟩ (.int .i64 7) w.heap.size hne).trans HMR.out.q0)) (.int .i64 (7)) (.string (⟨#[]⟩)) (.string (⟨#[]⟩)) (.int .i64 (0)))
                refine bodyPost_ret (v := rqv (7) (⟨#[]⟩) (⟨#[]⟩) (0)) (by simp [results, Try.results14, go_sem, q0, q1, q2, q3]; rfl) rfl ⟨7, ⟨#[]⟩, ⟨#[]⟩, 0, rfl, right_build, by decide, by decide, put4_below ((HMR.out.bel.setCell (p := ⟨g, 0, none⟩) hle (.int .i64 7)).setCell (p := ⟨g, 1, none⟩) hle (.string ⟨#[]⟩)) (Nat.le_refl _) _ _ _ _⟩
end Go.Proofs.Ytifdkkkcecpjoaa
end
section
/-
  Raw statements that came in, read as a list.
-/
namespace Go.Proofs.Ytifdkkkcecpjoaa
set_option linter.unusedVariables false
set_option linter.unusedSimpArgs false
open Go.RowKit Go.Proofs.YtifdkkkcecpjoaaW Go.Proofs.YtifdkkkcecpjoaaW.PrintWords Tx
section
variable {H : Type} {enc : TypeId × Value → H} {w : World} {base : Nat} {sp : Nat → Bool} {held : Bool}
theorem slice_in {α : Type} {P : Program} {d : Kd α} {t e : TypeId} {fuel : Nat} {cs : List Value} {x : DataW H × List MemPlace} (ht : P.underlying t = some (.slice e)) (hsz : P.cellsOf e = d.sz)
    (h : DataW.trod enc P w base sp held fuel t cs = some x) (hel : ∀ n cs' y, n < fuel → DataW.trod enc P w base sp held n e cs' = some y → ∃ z : α, d.K w z cs') :
    ∃ (A : Option Addr) (zs : List α) (c : Nat), cs = [.slice A zs.length c] ∧ zs.length ≤ c ∧ c ≤ maxLen ∧ Kd.C d w A zs.length zs := by
  rcases DataW.trod_slice ht h with ⟨rfl, -⟩ | ⟨a, len, cap, elems, rest, n, rfl, rfl, -, -, hl, hm, hlen, hE, -, -⟩
  · exact ⟨none, [], 0, rfl, Nat.le_refl _, by unfold maxLen; omega, rfl, by show 0 ≤ 9223372036854775807; omega, fun h0 => absurd h0 (by show ¬ 0 < 0; omega)⟩
  · have each : ∀ i, i < len → ∃ z : α, ∃ cs', w.cells? base (a.add (i * P.cellsOf e)) (P.cellsOf e) = some cs' ∧ d.K w z cs' := fun i hi => by
      have h1 := hE i hi
      rw [List.getElem?_eq_getElem (by omega)] at h1
      obtain ⟨cs', h2, h3⟩ := Option.bind_eq_some_iff.1 h1
      obtain ⟨z, hz⟩ := hel n cs' _ (Nat.lt_succ_self n) h3
      exact ⟨z, cs', h2, hz⟩
    have hz : ∃ zs : List α, zs.length = len ∧ ∀ i z, zs[i]? = some z → ∃ cs', w.cells? base (a.add (i * P.cellsOf e)) (P.cellsOf e) = some cs' ∧ d.K w z cs' := by
      refine ⟨(List.range len).attach.map (fun i => Classical.choose (each i.1 (List.mem_range.1 i.2))), by simp, fun i z hz => ?_⟩
      have hi : i < len := by
        have := (List.getElem?_eq_some_iff.1 hz).1
        simpa using this
      have h1 := (List.getElem?_eq_some_iff.1 hz).2
      simp at h1
      have h2 := Classical.choose_spec (each i hi)
      rw [h1] at h2
      exact h2
    obtain ⟨zs, rfl, hzs⟩ := hz
    refine ⟨some a, zs, cap, rfl, hl, hm, rfl, Nat.le_trans hl (by unfold maxLen at hm; omega), fun _ => ⟨a, rfl, fun j p hp => ?_⟩⟩
    obtain ⟨cs', h1, h2⟩ := hzs j p hp
    obtain ⟨-, h3, h4⟩ := World.cells?_some h1
    refine ⟨cs', by rw [h3, hsz], h2, fun i u hu => ?_⟩
    have hi := (List.getElem?_eq_some_iff.1 hu).1
    have h5 := h4 i (by omega)
    rw [Deep.add_add, hsz, hu] at h5
    exact h5
theorem cells99 : Try.prog.cellsOf 99 = k99.sz := by kernel_rfl
theorem cells63 : Try.prog.cellsOf 63 = k63.sz := by kernel_rfl
theorem cells3 : Try.prog.cellsOf 3 = (Kd.int .i64).sz := by kernel_rfl
theorem list3 {α : Type} {l : List α} (h : l.length = 3) : ∃ a b c, l = [a, b, c] := by
  match l, h with
  | [a, b, c], _ => exact ⟨a, b, c, rfl⟩
theorem list6 {α : Type} {l : List α} (h : l.length = 6) : ∃ a b c d e f, l = [a, b, c, d, e, f] := by
  match l, h with
  | [a, b, c, d, e, f], _ => exact ⟨a, b, c, d, e, f, rfl⟩
theorem raw_in : ∀ (fuel : Nat) (cs : List Value) (x : DataW H × List MemPlace), DataW.trod enc Try.prog w base sp held fuel 99 cs = some x → ∃ z : S99, k99.K w z cs := by
  intro fuel
  induction fuel using Nat.strongRecOn with
  | ind fuel ih =>
    intro cs x h
    obtain ⟨xs, n, rfl, -, hl, hlen, hf⟩ := DataW.trod_struct Try.underlying99 h
    rw [cells99] at hl
    have hl3 : cs.length = 3 := hl
    have hx3 : xs.length = 3 := hlen
    obtain ⟨a, b, c, rfl⟩ := list3 hl3
    obtain ⟨p, q, r, rfl⟩ := list3 hx3
    have c3 : Try.prog.cellsOf 3 = 1 := cells3
    have h0 : DataW.trod enc Try.prog w base sp held n 3 (List.take (Try.prog.cellsOf 3) (List.drop 0 [a, b, c])) = some p := hf 0 _ rfl
    have h1 : DataW.trod enc Try.prog w base sp held n 3 (List.take (Try.prog.cellsOf 3) (List.drop 1 [a, b, c])) = some q := hf 1 _ rfl
    have h2 : DataW.trod enc Try.prog w base sp held n 61 (List.take (Try.prog.cellsOf 61) (List.drop 2 [a, b, c])) = some r := hf 2 _ rfl
    have c61 : Try.prog.cellsOf 61 = 1 := by kernel_rfl
    rw [c3] at h0 h1
    rw [c61] at h2
    obtain ⟨n0, e0, -⟩ := DataW.trod_int Try.underlying3 h0
    obtain ⟨n1, e1, -⟩ := DataW.trod_int Try.underlying3 h1
    obtain ⟨A, zs, cc, e2, hc, -, hC⟩ := slice_in (d := k99) Try.underlying61 cells99 h2 (fun m cs' y hm hy => ih m (by omega) cs' y hy)
    have g0 : a = .int .i64 n0 := by simpa using e0
    have g1 : b = .int .i64 n1 := by simpa using e1
    have g2 : c = .slice A zs.length cc := by simpa using e2
    subst g0 g1 g2
    exact ⟨⟨n0, n1, zs⟩, k99_mk w ⟨n0, n1, zs⟩ hc hC⟩
theorem row_in {fuel : Nat} {cs : List Value} {x : DataW H × List MemPlace} (h : DataW.trod enc Try.prog w base sp held fuel 63 cs = some x) : ∃ z : S63, k63.K w z cs := by
  obtain ⟨xs, n, rfl, -, hl, hlen, hf⟩ := DataW.trod_struct Try.underlying63 h
  rw [cells63] at hl
  have hl6 : cs.length = 6 := hl
  have hx6 : xs.length = 6 := hlen
  obtain ⟨a, b, c, d, e, f, rfl⟩ := list6 hl6
  obtain ⟨p0, p1, p2, p3, p4, p5, rfl⟩ := list6 hx6
  have c3 : Try.prog.cellsOf 3 = 1 := cells3
  have c61 : Try.prog.cellsOf 61 = 1 := by kernel_rfl
  have c35 : Try.prog.cellsOf 35 = 1 := by kernel_rfl
  have c4 : Try.prog.cellsOf 4 = 1 := by kernel_rfl
  have h0 : DataW.trod enc Try.prog w base sp held n 3 (List.take (Try.prog.cellsOf 3) (List.drop 0 [a, b, c, d, e, f])) = some p0 := hf 0 _ rfl
  have h1 : DataW.trod enc Try.prog w base sp held n 3 (List.take (Try.prog.cellsOf 3) (List.drop 1 [a, b, c, d, e, f])) = some p1 := hf 1 _ rfl
  have h2 : DataW.trod enc Try.prog w base sp held n 3 (List.take (Try.prog.cellsOf 3) (List.drop 2 [a, b, c, d, e, f])) = some p2 := hf 2 _ rfl
  have h3 : DataW.trod enc Try.prog w base sp held n 35 (List.take (Try.prog.cellsOf 35) (List.drop 3 [a, b, c, d, e, f])) = some p3 := hf 3 _ rfl
  have h4 : DataW.trod enc Try.prog w base sp held n 61 (List.take (Try.prog.cellsOf 61) (List.drop 4 [a, b, c, d, e, f])) = some p4 := hf 4 _ rfl
  have h5 : DataW.trod enc Try.prog w base sp held n 4 (List.take (Try.prog.cellsOf 4) (List.drop 5 [a, b, c, d, e, f])) = some p5 := hf 5 _ rfl
  rw [c3] at h0 h1 h2
  rw [c35] at h3
  rw [c61] at h4
  rw [c4] at h5
  obtain ⟨n0, e0, -⟩ := DataW.trod_int Try.underlying3 h0
  obtain ⟨n1, e1, -⟩ := DataW.trod_int Try.underlying3 h1
  obtain ⟨n2, e2, -⟩ := DataW.trod_int Try.underlying3 h2
  obtain ⟨A3, zs, cc3, e3, hc3, -, hC3⟩ := slice_in (d := Kd.int .i64) Try.underlying35 cells3 h3 (fun m cs' y hm hy => by
    obtain ⟨k, hk, -⟩ := DataW.trod_int Try.underlying3 hy
    exact ⟨k, hk⟩)
  obtain ⟨A4, ys, cc4, e4, hc4, -, hC4⟩ := slice_in (d := k99) Try.underlying61 cells99 h4 (fun m cs' y hm hy => raw_in m cs' y hy)
  obtain ⟨bb, e5, -⟩ := DataW.trod_bool Try.underlying4 h5
  have g0 : a = .int .i64 n0 := by simpa using e0
  have g1 : b = .int .i64 n1 := by simpa using e1
  have g2 : c = .int .i64 n2 := by simpa using e2
  have g3 : d = .slice A3 zs.length cc3 := by simpa using e3
  have g4 : e = .slice A4 ys.length cc4 := by simpa using e4
  have g5 : f = .bool bb := by simpa using e5
  subst g0 g1 g2 g3 g4 g5
  exact ⟨⟨n0, n1, n2, zs, ys, bb⟩, k63_mk w ⟨n0, n1, n2, zs, ys, bb⟩ hc3 hC3 hc4 hC4⟩
theorem rows_in {fuel : Nat} {cs : List Value} {x : DataW H × List MemPlace} (h : DataW.trod enc Try.prog w base sp held fuel 22 cs = some x) :
    ∃ (A : Option Addr) (l : List S63) (c : Nat), cs = [.slice A l.length c] ∧ l.length ≤ c ∧ c ≤ maxLen ∧ Kd.C k63 w A l.length l :=
  slice_in (d := k63) Try.underlying22 cells63 h (fun m cs' y hm hy => row_in hy)
theorem rows_open {ts : List TypeId} {ds : List (DataW H)} {j : Nat} {a : Option Addr} {len cap : Nat} {d : DataW H} {ps : List MemPlace} (hsz : (DataW.weightsEach Try.prog ts ds).all (· ≤ reachBytes) = true) (ht : ts[j]? = some 22) (hd : ds[j]? = some d)
    (h : DataW.Trod enc Try.prog w base (fun _ => true) held 22 (.slice a len cap) d ps) : ∃ l : List S63, len = l.length ∧ l.length ≤ cap ∧ cap ≤ 1000000000000000 ∧ Kd.C k63 w a l.length l := by
  obtain ⟨fuel, hf⟩ := h
  obtain ⟨A, l, c, hcs, hl, -, hC⟩ := rows_in hf
  have hcs' : [Value.slice a len cap] = [.slice A l.length c] := hcs
  injection hcs' with hcs' _
  injection hcs' with e1 e2 e3
  subst e1 e2 e3
  refine ⟨l, rfl, hl, ?_, hC⟩
  have hf' : DataW.trod enc Try.prog w base (fun _ => true) held fuel 22 [.slice a l.length cap] = some (d, ps) := hf
  rcases DataW.trod_slice Try.underlying22 hf' with ⟨h0, -⟩ | ⟨x, len, c, elems, rest, n, -, h0, h1, -, -, -, hlen, -, hrest, -⟩
  · injection h0 with h0 _
    injection h0 with _ _ h0
    omega
  · injection h0 with h0 _
    injection h0 with _ e2 e3
    obtain ⟨h1, -⟩ := Prod.mk.inj h1
    subst h1
    have z := sized_slice hsz ht hd Try.underlying22
    have hb : Try.prog.bytesOf 63 = 80 := by kernel_rfl
    rw [hb, List.length_map, List.length_map, hlen, (hrest rfl).1] at z
    have z2 : (len + (c - len)) * 80 ≤ 140737488351232 := z
    omega
end
end Go.Proofs.Ytifdkkkcecpjoaa
end
