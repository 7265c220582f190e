/-
  Texts behind the laws of frame, joined: FxTa, FxTb, FxTc, FxTd, FxTe, FxTf. (What began as words and functions that the kit prints is cut down to what is named here.)
-/
import Derived.Test.YtifdkkkcecpjoaaQ3
section
/-
  A raw statement, made.
-/
namespace Go.Proofs.Ytifdkkkcecpjoaa
set_option linter.unusedVariables false
set_option linter.unusedSimpArgs false
open Go.RowKit Go.Proofs.YtifdkkkcecpjoaaW Go.Proofs.YtifdkkkcecpjoaaW.PrintWords Tx
attribute [local go_sem ↓] Go.wp_at_zero Go.wp_at_succ
set_option maxRecDepth 100000 in
set_option maxHeartbeats 3200000 in
theorem make_a {x : S63} {A3 A4 : Option Addr} {c3 c4 : Nat} {w : World} (h : Lies w x A3 A4 c3 c4) (hkk : x.f0 % 16 < 6) :
    Calls Try.prog 53 #[sAgg x A3 A4 c3 c4] w (StE okL w) := by
  obtain ⟨W1, hW1⟩ : ∃ W1, W1 = (w.alloc (.cells (rawC x A3 A4 c3 c4) 63)).alloc (.cells (stC 0 ⟨#[]⟩ 0 0 ⟨#[]⟩ (.slice none 0 0)) 95) := ⟨_, rfl⟩
  have b1 : Below w.heap.size w W1 := by rw [hW1]; exact ((Below.refl _ _).alloc (Nat.le_refl _) _).alloc (by simp) _
  have g0 : W1.heap[w.heap.size]? = some (.cells (rawC x A3 A4 c3 c4) 63 (0, 0)) := by rw [hW1]; exact (Below.heap_alloc _ _ _ (by simp)).trans (heap_alloc_new w _)
  have g1 : W1.heap[w.heap.size + 1]? = some (.cells (stC 0 ⟨#[]⟩ 0 0 ⟨#[]⟩ (.slice none 0 0)) 95 (0, 0)) := by
    rw [hW1]
    have := heap_alloc_new (w.alloc (.cells (rawC x A3 A4 c3 c4) 63)) (.cells (stC 0 ⟨#[]⟩ 0 0 ⟨#[]⟩ (.slice none 0 0)) 95)
    simpa using this
  have g2 : W1.heap.size = w.heap.size + 2 := by rw [hW1]; simp
  obtain ⟨W2, hW2⟩ : ∃ W2, W2 = W1.alloc (.cells (stC 1 ⟨#[]⟩ 0 0 ⟨#[]⟩ (.slice none 0 0)) 95) := ⟨_, rfl⟩
  have hS : mkS x A3 A4 c3 c4 w W2 0 0 ⟨#[]⟩ [] (.slice none 0 0) := by
    refine ⟨HasA.nil _ _, by rw [hW2]; exact below_alloc b1 _, ?_, ?_, ?_⟩
    · rw [hW2]; exact (Below.heap_alloc _ _ _ (by omega)).trans g0
    · rw [hW2]; exact (Below.heap_alloc _ _ _ (by omega)).trans g1
    · rw [hW2, ← g2]; exact heap_alloc_new W1 _
  have HS := Lib.hid hS
  have HL := Lib.hid h
  have HW1 := Lib.hid hW1
  have HW2 := Lib.hid hW2
  have HR1 := Lib.hid g2
  obtain ⟨k0, -, -, -, -, -⟩ := hS.raw
  clear hS h hW1 hW2 g0 g1 g2 b1
  unfold rawC stC at HW1 HW2
  unfold sAgg
  go_enter Try.func53, Try.ntmps53
  go_upto_region 1 with fail
  rw [← HW1.out]
  go_upto_region 2 with fail
  rw [HR1.out, ← HW2.out]
  go_wp2_with fail
  refine (within51 x.f0 16 W2 (by omega) (by omega)).mono ?_
  rintro e W3 ⟨rfl, hb3⟩
  have HS3 := Lib.hid (HS.out.below hb3)
  have m0 := Int.emod_nonneg x.f0 (show (16 : Int) ≠ 0 by omega)
  have m1 := Int.emod_lt_of_pos x.f0 (show (0 : Int) < 16 by omega)
  have HKK := Lib.hid hkk
  clear hkk
  generalize x.f0 % 16 = k at *
  clear k0 hb3
  go_upto_block 0 with fail
  go_cut [] (fun wc => MkC x A3 A4 c3 c4 w wc)
  case first =>
    have h6 : k < 6 := HKK.out
    have k1 := HS3.out.raw.2.1
    go_wp2_with fail
    refine (within51 x.f1 66 W3 (by omega) (by omega)).mono ?_
    rintro e W4 ⟨rfl, hb4⟩
    have mm0 := Int.emod_nonneg x.f1 (show (66 : Int) ≠ 0 by omega)
    have mm1 := Int.emod_lt_of_pos x.f1 (show (0 : Int) < 66 by omega)
    obtain ⟨op, hop⟩ : ∃ op : Nat, x.f1 % 66 = op := ⟨(x.f1 % 66).toNat, by omega⟩
    rw [hop]
    have HOp := Lib.hid (show op < 66 by omega)
    have hm4 := HS3.out.below hb4
    have y2 := hm4.st.2.2.1
    have y3 := hm4.st.2.2.2.1
    have fz2 := hm4.fz.2.2.1
    have fz3 := hm4.fz.2.2.2.1
    have HM4 := Lib.hid ((hm4.kind 1).oper op)
    clear hb4 hm4 k1 mm0 mm1 hop
    go_upto_region 6 with fail
    clear y2 y3 fz2 fz3
    generalize hz : World.setCell _ _ _ = W5
    have HM5 := Lib.hid (HM4.out.to hz)
    have c3' := HM5.out.st.2.2.2.1
    clear hz HM4
    obtain ⟨kds, strs, hk1, hk2, hk3, hk4⟩ := words_op HOp.out
    have H5 := Lib.hid hk3
    have HKs := Lib.hid hk4
    have HK2 := Lib.hid hk2
    have hc1 := letterpressref2_Kinds.calls 5 (op : Int) kds W5 hk1
    clear hk1 hk2 hk3 hk4
    go_wp2_with fail
    refine hc1.mono ?_
    rintro e W6 ⟨rfl, hb6⟩
    have HM6 := Lib.hid (HM5.out.below hb6)
    clear hb6 hc1 c3'
    go_wp2_with fail
    refine (letterpressref2_Words.calls 60 kds strs W6 HK2.out).mono ?_
    rintro e W7 ⟨vw, rfl, hR, hb7⟩
    obtain ⟨A, cA, rfl⟩ := Kd.R_slice hR
    have HM7 := Lib.hid (HM6.out.below hb7)
    have HW7 := Lib.hid (WsS.new (w := w) HM6.out.lt hR)
    clear hb7 hR
    have h0 : Hid (LpS x A3 A4 c3 c4 w op A strs W7 0) := Lib.hid ⟨_, _, rfl, HM7.out, HW7.out⟩
    go_wp2_with fail
    go_loopw [6] (fun vi wr => ∃ i : Nat, vi = .int .i64 i ∧ i ≤ strs.length ∧ Hid (LpS x A3 A4 c3 c4 w op A strs wr i)) (fun vi _ => strs.length + 1 - (intOf vi).toNat)
    case atStart => exact ⟨0, rfl, Nat.zero_le _, h0⟩
    case round =>
      obtain ⟨i, rfl, hi, HSi⟩ := hrel
      clear h0
      by_cases hlt : i < strs.length
      · have t8 : decide (i < strs.length) = true := decide_eq_true hlt
        obtain ⟨xs, u, hlen, hm, hws⟩ := HSi.out
        obtain ⟨Au, cu, rfl, -, -⟩ := hm.row.form
        obtain ⟨s, hs⟩ : ∃ s, strs[i]? = some s := ⟨strs[i], List.getElem?_eq_getElem hlt⟩
        obtain ⟨q, hq, hsq⟩ := HKs.out s (List.mem_of_getElem? hs)
        obtain ⟨g, cur, rfl, hcur, has⟩ := hws i s hs
        have HWs := Lib.hid hws
        have HWc : Hid (∀ (i : Nat) (s : ByteArray) (cur1 : Array Value), cur1[i]? = some (Value.string s) → asS w wr g cur1 9 → cur[i]? = some (Value.string s)) := Lib.hid (fun i s cur1 h2 h3 => by
          have h4 := has.q
          rw [h3.q] at h4
          injection h4 with h4
          injection h4 with h4
          rw [← h4]; exact h2)
        have HQ := Lib.hid hq
        have HSq := Lib.hid hsq
        have HI := Lib.hid hlt
        have HI5 := Lib.hid (show i < 5 from Nat.lt_of_lt_of_le hlt H5.out)
        have HLn := Lib.hid hlen
        have i0 : (0 : Int) ≤ (i : Int) := by omega
        have i1 : (i : Int) < (strs.length : Int) := by omega
        have HMd0 := Lib.hid (hm.below ((Below.refl wr.heap.size wr).drew))
        have HAd0 := Lib.hid (has.below ((Below.refl wr.heap.size wr).drew))
        clear hi HSi hlen hm hws hs hq hsq has hlt
        go_upto_region 10 with fail
        refine PrintLast.start_ (n := 15) (S := fun w' => w'.cell? ⟨w.heap.size, 0, none⟩ = some (.int .i64 x.f0) ∧ w'.cell? ⟨w.heap.size, 1, none⟩ = some (.int .i64 x.f1) ∧ w'.cell? ⟨w.heap.size, 2, none⟩ = some (.int .i64 x.f2) ∧ w'.cell? ⟨w.heap.size, 3, none⟩ = some (.slice A3 x.f3.length c3) ∧ w'.cell? ⟨w.heap.size, 4, none⟩ = some (.slice A4 x.f4.length c4) ∧ w'.cell? ⟨w.heap.size, 5, none⟩ = some (.bool x.f5) ∧ w'.cell? ⟨w.heap.size + 2, 5, none⟩ = some (.slice Au xs.length cu) ∧ w'.cell? ⟨g, i, none⟩ = some (.string s)) (ds := [14]) #[false, false, false, false, false, false, false, false, false, false, false, false, false, false, false] (by kernel_rfl) rfl rfl ⟨(HMd0.out).raw.1, (HMd0.out).raw.2.1, (HMd0.out).raw.2.2.1, (HMd0.out).raw.2.2.2.1, (HMd0.out).raw.2.2.2.2.1, (HMd0.out).raw.2.2.2.2.2, (HMd0.out).st.2.2.2.2.2, ((HAd0.out).at hcur)⟩ (fun hHeld => ?_)
        generalize hz : wr.drew = WD at hHeld ⊢
        have HMd := Lib.hid (HMd0.out.to hz)
        have HAd := Lib.hid (hz ▸ HAd0.out)
        clear hz
        have hnum := number_any (HL.out.below HMd.out.bel) (i : Int) (Int.natCast_nonneg i)
        unfold sAgg at hnum
        refine PrintLast.pure_ (i := 0) (N := some 43) (v := ?_) (a' := ?_) #[true, false, false, false, false, false, false, false, false, false, false, false, false, false, false] rfl rfl (by kernel_rfl) (fun _ _ _ h => h) (Or.inl ⟨by rfl, ?_⟩) ?_ ?_
        rotate_left
        · intro w'
          go_simp
          with_reducible rfl
        rotate_left
        · simp only [Act.put, List.setIfInBounds_toArray, List.set_cons_zero, List.set_cons_succ]
          rfl
        refine PrintLast.pure_ (i := 3) (N := some 46) (v := ?_) (a' := ?_) #[true, false, false, true, false, false, false, false, false, false, false, false, false, false, false] rfl rfl (by kernel_rfl) (fun _ _ _ h => h) (Or.inl ⟨by rfl, ?_⟩) ?_ ?_
        rotate_left
        · intro w'
          go_simp
          with_reducible rfl
        rotate_left
        · simp only [Act.put, List.setIfInBounds_toArray, List.set_cons_zero, List.set_cons_succ]
          rfl
        refine PrintLast.pure_ (i := 4) (N := some 47) (v := ?_) (a' := ?_) #[true, false, false, true, true, false, false, false, false, false, false, false, false, false, false] rfl rfl (by kernel_rfl) (fun _ _ _ h => h) (Or.inl ⟨by rfl, ?_⟩) ?_ ?_
        rotate_left
        · intro w'
          go_simp
          with_reducible rfl
        rotate_left
        · simp only [Act.put, List.setIfInBounds_toArray, List.set_cons_zero, List.set_cons_succ]
          rfl
        refine PrintLast.pure_ (i := 5) (N := some 48) (v := ?_) (a' := ?_) #[true, false, false, true, true, true, false, false, false, false, false, false, false, false, false] rfl rfl (by kernel_rfl) (fun _ _ _ h => h) (Or.inl ⟨by rfl, ?_⟩) ?_ ?_
        rotate_left
        · intro w'
          go_simp
          with_reducible rfl
        rotate_left
        · simp only [Act.put, List.setIfInBounds_toArray, List.set_cons_zero, List.set_cons_succ]
          rfl
        refine PrintLast.pure_ (i := 8) (N := some 51) (v := ?_) (a' := ?_) #[true, false, false, true, true, true, false, false, true, false, false, false, false, false, false] rfl rfl (by kernel_rfl) (fun _ _ _ h => h) (Or.inl ⟨by rfl, ?_⟩) ?_ ?_
        rotate_left
        · intro w'
          go_simp
          with_reducible rfl
        rotate_left
        · simp only [Act.put, List.setIfInBounds_toArray, List.set_cons_zero, List.set_cons_succ]
          rfl
        refine PrintLast.take_ (i := 1) (N := some 44) (v := ?_) (a' := ?_) #[true, true, false, true, true, true, false, false, true, false, false, false, false, false, false] rfl rfl (by kernel_rfl) (fun _ _ _ h => h) (Or.inl ⟨by rfl, ?_⟩) hHeld ?_ ?_
        rotate_left
        · rintro w' ⟨s0, s1, s2, s3, s4, s5, s6, s7⟩
          go_simp
          with_reducible rfl
        rotate_left
        · simp only [Act.put, List.setIfInBounds_toArray, List.set_cons_zero, List.set_cons_succ]
          rfl
        refine PrintLast.take_ (i := 2) (N := some 45) (v := ?_) (a' := ?_) #[true, true, true, true, true, true, false, false, true, false, false, false, false, false, false] rfl rfl (by kernel_rfl) (fun _ _ _ h => h) (Or.inl ⟨by rfl, ?_⟩) hHeld ?_ ?_
        rotate_left
        · rintro w' ⟨s0, s1, s2, s3, s4, s5, s6, s7⟩
          go_simp
          with_reducible rfl
        rotate_left
        · simp only [Act.put, List.setIfInBounds_toArray, List.set_cons_zero, List.set_cons_succ]
          rfl
        refine PrintLast.take_ (i := 6) (N := some 49) (v := ?_) (a' := ?_) #[true, true, true, true, true, true, true, false, true, false, false, false, false, false, false] rfl rfl (by kernel_rfl) (fun _ _ _ h => h) (Or.inl ⟨by rfl, ?_⟩) hHeld ?_ ?_
        rotate_left
        · rintro w' ⟨s0, s1, s2, s3, s4, s5, s6, s7⟩
          go_simp
          with_reducible rfl
        rotate_left
        · simp only [Act.put, List.setIfInBounds_toArray, List.set_cons_zero, List.set_cons_succ]
          rfl
        refine PrintLast.take_ (i := 7) (N := some 50) (v := ?_) (a' := ?_) #[true, true, true, true, true, true, true, true, true, false, false, false, false, false, false] rfl rfl (by kernel_rfl) (fun _ _ _ h => h) (Or.inl ⟨by rfl, ?_⟩) hHeld ?_ ?_
        rotate_left
        · rintro w' ⟨s0, s1, s2, s3, s4, s5, s6, s7⟩
          go_simp
          with_reducible rfl
        rotate_left
        · simp only [Act.put, List.setIfInBounds_toArray, List.set_cons_zero, List.set_cons_succ]
          rfl
        refine PrintLast.one_ (i := 9) (N := some 52) #[true, true, true, true, true, true, true, true, true, true, false, false, false, false, false] rfl rfl (by kernel_rfl) (by decide) (fun K hK => ?_)
        refine PrintLast.goes_ Try.func64 (by kernel_rfl) rfl #[.agg #[.int .i64 x.f0, .int .i64 x.f1, .int .i64 x.f2, .slice A3 x.f3.length c3, .slice A4 x.f4.length c4, .bool x.f5], .int .i64 i] (by rfl) rfl rfl (by simp only [List.map_toArray, List.map_cons, List.map_nil]; rfl) ?_
        with_reducible refine (hnum).mono ?_
        rintro e z9 ⟨n, rfl, hbc⟩
        refine ⟨_, rfl, ?_⟩
        clear hnum
        have HM9 := Lib.hid (HMd.out.below hbc)
        have HA9 := Lib.hid (HAd.out.below hbc)
        clear hbc
        have hval := value_any HQ.out x A3 A4 c3 c4 n z9 (Kd.C_below HL.out.g4 HM9.out.bel) HL.out.deep HL.out.few
        rw [← HSq.out] at hval
        unfold sAgg at hval
        refine hK.out _ _ ⟨(HM9.out).raw.1, (HM9.out).raw.2.1, (HM9.out).raw.2.2.1, (HM9.out).raw.2.2.2.1, (HM9.out).raw.2.2.2.2.1, (HM9.out).raw.2.2.2.2.2, (HM9.out).st.2.2.2.2.2, ((HA9.out).at hcur)⟩ (fun hHeld => ?_)
        clear hK K
        refine PrintLast.norm_ (a' := ?_) ?_ ?_
        rotate_left
        · show Act.put _ (some 52) _ = _
          simp only [Act.put, List.setIfInBounds_toArray, List.set_cons_zero, List.set_cons_succ]
          rfl
        refine PrintLast.one_ (i := 10) (N := some 53) #[true, true, true, true, true, true, true, true, true, true, true, false, false, false, false] rfl rfl (by kernel_rfl) (by decide) (fun K hK => ?_)
        refine PrintLast.goes_ Try.func63 (by kernel_rfl) rfl #[.agg #[.int .i64 x.f0, .int .i64 x.f1, .int .i64 x.f2, .slice A3 x.f3.length c3, .slice A4 x.f4.length c4, .bool x.f5], .string s, .int .i64 n] (by rfl) rfl rfl (by simp only [List.map_toArray, List.map_cons, List.map_nil]; rfl) ?_
        with_reducible refine (hval).mono ?_
        rintro e z10 ⟨y, v, rfl, hgd, hz, hbc⟩
        refine ⟨_, rfl, ?_⟩
        clear hval
        have HM10 := Lib.hid (HM9.out.below hbc)
        have HA10 := Lib.hid (HA9.out.below hbc)
        obtain ⟨Ae, ce, rfl, -⟩ := hz.form
        have HZ10 := Lib.hid (hz.lower (base' := w.heap.size) HM9.out.bel.size)
        have HG := Lib.hid hgd
        clear hbc hz hgd
        unfold aAgg
        refine hK.out _ _ ⟨(HM10.out).raw.1, (HM10.out).raw.2.1, (HM10.out).raw.2.2.1, (HM10.out).raw.2.2.2.1, (HM10.out).raw.2.2.2.2.1, (HM10.out).raw.2.2.2.2.2, (HM10.out).st.2.2.2.2.2, ((HA10.out).at hcur)⟩ (fun hHeld => ?_)
        clear hK K
        refine PrintLast.norm_ (a' := ?_) ?_ ?_
        rotate_left
        · show Act.put _ (some 53) _ = _
          simp only [Act.put, List.setIfInBounds_toArray, List.set_cons_zero, List.set_cons_succ]
          rfl
        refine PrintLast.one_ (i := 11) (N := some 54) #[true, true, true, true, true, true, true, true, true, true, true, true, false, false, false] rfl rfl (by kernel_rfl) (by decide) (fun K hK => ?_)
        refine PrintLast.value_ (w1 := ?_) (v := ?_) (by rfl) rfl ?_ ?_
        rotate_left 2
        · go_simp
          constructor
          · rfl
          · rfl
        refine hK.out _ _ ⟨(HM10.out.below (below_alloc (Below.refl _ _) _)).raw.1, (HM10.out.below (below_alloc (Below.refl _ _) _)).raw.2.1, (HM10.out.below (below_alloc (Below.refl _ _) _)).raw.2.2.1, (HM10.out.below (below_alloc (Below.refl _ _) _)).raw.2.2.2.1, (HM10.out.below (below_alloc (Below.refl _ _) _)).raw.2.2.2.2.1, (HM10.out.below (below_alloc (Below.refl _ _) _)).raw.2.2.2.2.2, (HM10.out.below (below_alloc (Below.refl _ _) _)).st.2.2.2.2.2, ((HA10.out.below (below_alloc (Below.refl _ _) _)).at hcur)⟩ (fun hHeld => ?_)
        clear hK K
        refine PrintLast.norm_ (a' := ?_) ?_ ?_
        rotate_left
        · show Act.put _ (some 54) _ = _
          simp only [Act.put, List.setIfInBounds_toArray, List.set_cons_zero, List.set_cons_succ]
          rfl
        refine PrintLast.one_ (i := 12) (N := some 55) #[true, true, true, true, true, true, true, true, true, true, true, true, true, false, false] rfl rfl (by kernel_rfl) (by decide) (fun K hK => ?_)
        refine Kd.R_append_step k104 (w0 := w) w.heap.size (by rfl) (.tmp 44) (.tmp 54) 93 104 (.agg #[(.int .i64 0), (.int .i64 0), (.int .i64 0), (.string ⟨#[]⟩), (.slice none 0 0)]) 64 rfl Try.underlying93 info104 rfl (by decide) (by omega) (.slice Au xs.length cu) xs y [.int .i64 y.f0, .int .i64 y.f1.f0, .int .i64 y.f1.f1, .string y.f1.f2, .slice Ae y.f1.f3.length ce] T1 (fun k => T1 k ∧ some k ≠ (Value.slice Au xs.length cu).ownBlock) (by rfl) (by rfl) (HasE.m104 (x := y) HZ10.out HM10.out.row) (fun _ hk => hk) (fun _ _ => trivial) HM10.out.row.r HM10.out.bel HM10.out.bel.size (by have := HLn.out; have := HI5.out; omega) ?_
        intro v1 z12 ho hb1 hg1 hat
        have HG12 := Lib.hid (HM10.out.grown hg1 hb1)
        have HA12 := Lib.hid (HA10.out.grown hg1 HM10.out.row (by decide))
        have HR12 := Lib.hid (HasA.snoc ho HM10.out.row.good HG.out)
        clear ho hb1 hg1 hat
        refine hK.out _ _ ⟨HG12.out.raw.1, HG12.out.raw.2.1, HG12.out.raw.2.2.1, HG12.out.raw.2.2.2.1, HG12.out.raw.2.2.2.2.1, HG12.out.raw.2.2.2.2.2, HG12.out.st5.1, (HA12.out.at hcur)⟩ (fun hHeld => ?_)
        clear hK K
        refine PrintLast.norm_ (a' := ?_) ?_ ?_
        rotate_left
        · show Act.put _ (some 55) _ = _
          simp only [Act.put, List.setIfInBounds_toArray, List.set_cons_zero, List.set_cons_succ]
          rfl
        obtain ⟨Av, cv, rfl, -⟩ := HR12.out.form
        refine PrintLast.pure_ (i := 13) (N := some 56) (v := ?_) (a' := ?_) #[true, true, true, true, true, true, true, true, true, true, true, true, true, true, false] rfl rfl (by kernel_rfl) (fun _ _ _ h => h) (Or.inl ⟨by rfl, ?_⟩) ?_ ?_
        rotate_left
        · intro w'
          go_simp
          with_reducible rfl
        rotate_left
        · simp only [Act.put, List.setIfInBounds_toArray, List.set_cons_zero, List.set_cons_succ]
          rfl
        refine PrintLast.last_ (i := 14) (N := none) #[true, true, true, true, true, true, true, true, true, true, true, true, true, true, true] rfl rfl (by kernel_rfl) (by decide) (fun K hK => ?_)
        have y5 := HG12.out.st5.1
        have fz5 := HG12.out.st5.2
        refine PrintLast.skip_ (w1 := ?_) (by rfl) rfl ?_ ?_
        rotate_left
        · go_simp
          rfl
        refine hK.out _ _ ?_
        clear hK K
        refine PrintLast.done_ (by kernel_rfl) ?_
        clear hHeld y5 fz5
        generalize hz : World.setCell z12 _ _ = z14
        have hr12 := HR12.out
        rw [List.length_append] at hr12
        have HM14 := Lib.hid (HG12.out.args hr12 hz)
        have HA14 := Lib.hid (HA12.out.set hz)
        clear hz hr12 hcur
        go_wp2_with fail
        go_roundw
        case rel =>
          have hi := HI.out
          have hi5 := HI5.out
          have hw : wrap64 ((i : Int) + 1) = ((i + 1 : Nat) : Int) := by unfold wrap64; omega
          exact ⟨i + 1, by rw [hw], by omega, Lib.hid ⟨_, _, by rw [List.length_append, HLn.out]; rfl, HM14.out, fun i s hi => by
            obtain ⟨g1, cur1, h1, h2, h3⟩ := HWs.out i s hi
            injection h1 with h1
            injection h1 with h1
            subst h1
            exact ⟨g, cur, rfl, (HWc.out i s cur1 h2 h3), HA14.out⟩⟩⟩
        case measure =>
          have hi := HI.out
          have hi5 := HI5.out
          have hw : wrap64 ((i : Int) + 1) = ((i + 1 : Nat) : Int) := by unfold wrap64; omega
          rw [hw]
          simp [intOf]
          omega
      · have t8 : decide (i < strs.length) = false := decide_eq_false hlt
        obtain ⟨xs, u, hlen, hm, hws⟩ := HSi.out
        have HM8 := Lib.hid hm
        have HLn := Lib.hid (show xs.length ≤ 5 from hlen ▸ Nat.le_trans hi H5.out)
        clear hi HSi hlen hm hws
        go_wp2_with fail
        go_meet
        case rel => exact ⟨1, op, ⟨#[]⟩, _, _, ⟨by omega, by omega, fun _ => ⟨by omega, by have := HOp.out; omega⟩, fun h => absurd h (by omega), Nat.zero_le _, HLn.out⟩, HM8.out⟩
  case rest =>
    obtain ⟨kd, op, tx, xs, u, hok, hm⟩ := hcut
    have tk : (kd == 0) = false := by have := hok.1; simp; omega
    obtain ⟨-, -, r2, -, -, r5⟩ := hm.raw
    obtain ⟨-, -, s2, -, -, -⟩ := hm.st
    have HM := Lib.hid hm
    have HOK := Lib.hid hok
    clear hok m0 m1 HKK HS HS3 HW1 HW2 HR1 HL hm
    cases h5 : x.f5 with
    | false =>
      rw [h5] at r5
      clear h5 r2
      go_upto_region 26 with fail
      clear s2 tk r5
      have hm := HM.out.bare
      have HLB := Lib.hid (show (ByteArray.mk #[]).size ≤ 6 from Nat.zero_le _)
      obtain ⟨A', c', rfl, -, -⟩ := hm.row.form
      have p1 := hm.q1
      have p2 := hm.q2
      unfold stC at p1 p2
      obtain ⟨a0, a1, a2, a3, a4, a5, -⟩ := box6 p2
      obtain ⟨y0, y1, y2, y3, y4, y5, fz⟩ := box6 p1
      have fz0 := fz 0
      have fz1 := fz 1
      have fz2 := fz 2
      have fz3 := fz 3
      have fz4 := fz 4
      have fz5 := fz 5
      obtain ⟨f1, f2, f3⟩ := put6_end 1 ⟨#[]⟩ kd op tx p1 (Nat.le_succ _) hm.bel hm.row
      obtain ⟨z0, z1, z2, z3, z4, z5, -⟩ := box6 f1
      have HF2 := Lib.hid f2
      have HF3 := Lib.hid f3
      clear p1 p2 fz f1 f2 f3 hm
      go_wp2_with fail
      refine bodyPost_ret (v := .agg (stC 1 ⟨#[]⟩ kd op tx (.slice A' xs.length c'))) (by simp only [put6S] at z0 z1 z2 z3 z4 z5; simp [results, Try.results53, go_sem, z0, z1, z2, z3, z4, z5, stC]) rfl ⟨⟨#[]⟩, kd, op, tx, xs, _, rfl, ⟨HLB.out, HOK.out⟩, HF2.out, HF3.out⟩
    | true =>
      rw [h5] at r5
      clear h5
      have HLT := Lib.hid (show w.heap.size < wc.heap.size from Nat.lt_trans (Nat.lt_add_of_pos_right (by decide)) HM.out.lt)
      have HBd := Lib.hid ((Below.refl wc.heap.size wc).drew)
      obtain ⟨j, hj⟩ : ∃ j : Nat, x.f2 % 4 = j := ⟨(x.f2 % 4).toNat, by have := Int.emod_nonneg x.f2 (show (4 : Int) ≠ 0 by omega); omega⟩
      have hj4 : j < 4 := by have := Int.emod_lt_of_pos x.f2 (show (0 : Int) < 4 by omega); omega
      have HJ := Lib.hid hj
      have HJ4 := Lib.hid hj4
      have j0 : (0 : Int) ≤ (j : Int) := by omega
      have j1 : (j : Int) < 4 := by omega
      clear hj hj4
      go_upto_region 25 with fail
      clear s2 tk r5
      refine PrintLast.start_ (n := 8) (S := fun w' => w'.cell? ⟨w.heap.size, 2, none⟩ = some (.int .i64 x.f2)) (ds := [7]) #[false, false, false, false, false, false, false, false] (by kernel_rfl) rfl rfl (r2) (fun hHeld => ?_)
      refine PrintLast.pure_ (i := 1) (N := some 149) (v := ?_) (a' := ?_) #[false, true, false, false, false, false, false, false] rfl rfl (by kernel_rfl) (fun _ _ _ h => h) (Or.inl ⟨by rfl, ?_⟩) ?_ ?_
      rotate_left
      · intro w'
        go_simp
        with_reducible rfl
      rotate_left
      · simp only [Act.put, List.setIfInBounds_toArray, List.set_cons_zero, List.set_cons_succ]
        rfl
      refine PrintLast.take_ (i := 2) (N := some 150) (v := ?_) (a' := ?_) #[false, true, true, false, false, false, false, false] rfl rfl (by kernel_rfl) (fun _ _ _ h => h) (Or.inl ⟨by rfl, ?_⟩) hHeld ?_ ?_
      rotate_left
      · intro w' s0
        go_simp
        with_reducible rfl
      rotate_left
      · simp only [Act.put, List.setIfInBounds_toArray, List.set_cons_zero, List.set_cons_succ]
        rfl
      refine PrintLast.one_ (i := 0) (N := some 148) #[true, true, true, false, false, false, false, false] rfl rfl (by kernel_rfl) (by decide) (fun K hK => ?_)
      refine PrintLast.goes_ Try.func65 (by kernel_rfl) rfl #[] (by rfl) rfl rfl (by simp only [List.map_toArray, List.map_nil]) ?_
      with_reducible refine ((labels_call wc.drew)).mono ?_
      rintro e wx ⟨ad, cc, rfl, hnm, hbx⟩
      refine ⟨_, rfl, ?_⟩
      have HBx := Lib.hid (HBd.out.trans (hbx.mono HBd.out.size))
      clear hbx
      refine hK.out _ _ ((HBx.out.cell (p := ⟨w.heap.size, 2, none⟩) HLT.out).trans r2) (fun hHeld => ?_)
      clear hK K
      refine PrintLast.norm_ (a' := ?_) ?_ ?_
      rotate_left
      · show Act.put _ (some 148) _ = _
        simp only [Act.put, List.setIfInBounds_toArray, List.set_cons_zero, List.set_cons_succ]
        rfl
      refine PrintLast.one_ (i := 3) (N := some 151) #[true, true, true, true, false, false, false, false] rfl rfl (by kernel_rfl) (by decide) (fun K hK => ?_)
      refine PrintLast.goes_ Try.func51 (by kernel_rfl) rfl #[.int .i64 x.f2, .int .i64 4] (by rfl) rfl rfl (by simp only [List.map_toArray, List.map_cons, List.map_nil]; rfl) ?_
      with_reducible refine ((within51 x.f2 4 wx (by omega) (by omega))).mono ?_
      rintro e wy ⟨rfl, hby⟩
      refine ⟨_, rfl, ?_⟩
      rw [HJ.out]
      have HBy := Lib.hid (HBx.out.trans (hby.mono HBx.out.size))
      obtain ⟨sn, hsn, hcn⟩ := hnm j HJ4.out
      have hcy : wy.cell? (ad.add j) = some (.string sn) := (hby.cell (World.block_lt_of_cell? _ _ hcn)).trans hcn
      have HSn := Lib.hid hsn
      have hmy := HM.out.below HBy.out
      obtain ⟨-, y1, -, -, -, -⟩ := hmy.st
      obtain ⟨-, fz1, -, -, -, -⟩ := hmy.fz
      have HMy := Lib.hid hmy
      clear hby hnm hcn hmy hsn
      refine hK.out _ _ ((HBy.out.cell (p := ⟨w.heap.size, 2, none⟩) HLT.out).trans r2) (fun hHeld => ?_)
      clear hK K
      refine PrintLast.norm_ (a' := ?_) ?_ ?_
      rotate_left
      · show Act.put _ (some 151) _ = _
        simp only [Act.put, List.setIfInBounds_toArray, List.set_cons_zero, List.set_cons_succ]
        rfl
      refine PrintLast.pure_ (i := 4) (N := some 152) (v := ?_) (a' := ?_) #[true, true, true, true, true, false, false, false] rfl rfl (by kernel_rfl) (fun _ _ _ h => h) (Or.inl ⟨by rfl, ?_⟩) ?_ ?_
      rotate_left
      · intro w'
        go_simp
        with_reducible rfl
      rotate_left
      · simp only [Act.put, List.setIfInBounds_toArray, List.set_cons_zero, List.set_cons_succ]
        rfl
      refine PrintLast.one_ (i := 5) (N := some 153) #[true, true, true, true, true, true, false, false] rfl rfl (by kernel_rfl) (by decide) (fun K hK => ?_)
      refine PrintLast.value_ (w1 := ?_) (v := ?_) (by rfl) rfl ?_ ?_
      rotate_left 2
      · go_simp
        constructor
        · rfl
        · rfl
      refine hK.out _ _ ((HBy.out.cell (p := ⟨w.heap.size, 2, none⟩) HLT.out).trans r2) (fun hHeld => ?_)
      clear hK K
      refine PrintLast.norm_ (a' := ?_) ?_ ?_
      rotate_left
      · show Act.put _ (some 153) _ = _
        simp only [Act.put, List.setIfInBounds_toArray, List.set_cons_zero, List.set_cons_succ]
        rfl
      refine PrintLast.pure_ (i := 6) (N := some 154) (v := ?_) (a' := ?_) #[true, true, true, true, true, true, true, false] rfl rfl (by kernel_rfl) (fun _ _ _ h => h) (Or.inl ⟨by rfl, ?_⟩) ?_ ?_
      rotate_left
      · intro w'
        go_simp
        with_reducible rfl
      rotate_left
      · simp only [Act.put, List.setIfInBounds_toArray, List.set_cons_zero, List.set_cons_succ]
        rfl
      refine PrintLast.last_ (i := 7) (N := none) #[true, true, true, true, true, true, true, true] rfl rfl (by kernel_rfl) (by decide) (fun K hK => ?_)
      refine PrintLast.skip_ (w1 := ?_) (by rfl) rfl ?_ ?_
      rotate_left
      · go_simp
        rfl
      refine hK.out _ _ ?_
      clear hK K
      refine PrintLast.done_ (by kernel_rfl) ?_
      clear hHeld
      have hm := HMy.out.label sn
      have HLB := HSn
      generalize hP : wy.setCell ⟨w.heap.size + 2, 1, none⟩ (.string sn) = P at hm ⊢
      clear hP
      obtain ⟨A', c', rfl, -, -⟩ := hm.row.form
      have p1 := hm.q1
      have p2 := hm.q2
      unfold stC at p1 p2
      obtain ⟨a0, a1, a2, a3, a4, a5, -⟩ := box6 p2
      obtain ⟨y0, y1, y2, y3, y4, y5, fz⟩ := box6 p1
      have fz0 := fz 0
      have fz1 := fz 1
      have fz2 := fz 2
      have fz3 := fz 3
      have fz4 := fz 4
      have fz5 := fz 5
      obtain ⟨f1, f2, f3⟩ := put6_end 1 sn kd op tx p1 (Nat.le_succ _) hm.bel hm.row
      obtain ⟨z0, z1, z2, z3, z4, z5, -⟩ := box6 f1
      have HF2 := Lib.hid f2
      have HF3 := Lib.hid f3
      clear p1 p2 fz f1 f2 f3 hm
      go_wp2_with fail
      refine bodyPost_ret (v := .agg (stC 1 sn kd op tx (.slice A' xs.length c'))) (by simp only [put6S] at z0 z1 z2 z3 z4 z5; simp [results, Try.results53, go_sem, z0, z1, z2, z3, z4, z5, stC]) rfl ⟨sn, kd, op, tx, xs, _, rfl, ⟨HLB.out, HOK.out⟩, HF2.out, HF3.out⟩
end Go.Proofs.Ytifdkkkcecpjoaa
end
section
/-
  A raw statement, made.
-/
namespace Go.Proofs.Ytifdkkkcecpjoaa
set_option linter.unusedVariables false
set_option linter.unusedSimpArgs false
open Go.RowKit Go.Proofs.YtifdkkkcecpjoaaW Go.Proofs.YtifdkkkcecpjoaaW.PrintWords Tx
attribute [local go_sem ↓] Go.wp_at_zero Go.wp_at_succ
set_option maxRecDepth 100000 in
set_option maxHeartbeats 3200000 in
theorem make_b {x : S63} {A3 A4 : Option Addr} {c3 c4 : Nat} {w : World} (h : Lies w x A3 A4 c3 c4) (hkk : 6 ≤ x.f0 % 16 ∧ x.f0 % 16 < 9) :
    Calls Try.prog 53 #[sAgg x A3 A4 c3 c4] w (StE okL w) := by
  obtain ⟨W1, hW1⟩ : ∃ W1, W1 = (w.alloc (.cells (rawC x A3 A4 c3 c4) 63)).alloc (.cells (stC 0 ⟨#[]⟩ 0 0 ⟨#[]⟩ (.slice none 0 0)) 95) := ⟨_, rfl⟩
  have b1 : Below w.heap.size w W1 := by rw [hW1]; exact ((Below.refl _ _).alloc (Nat.le_refl _) _).alloc (by simp) _
  have g0 : W1.heap[w.heap.size]? = some (.cells (rawC x A3 A4 c3 c4) 63 (0, 0)) := by rw [hW1]; exact (Below.heap_alloc _ _ _ (by simp)).trans (heap_alloc_new w _)
  have g1 : W1.heap[w.heap.size + 1]? = some (.cells (stC 0 ⟨#[]⟩ 0 0 ⟨#[]⟩ (.slice none 0 0)) 95 (0, 0)) := by
    rw [hW1]
    have := heap_alloc_new (w.alloc (.cells (rawC x A3 A4 c3 c4) 63)) (.cells (stC 0 ⟨#[]⟩ 0 0 ⟨#[]⟩ (.slice none 0 0)) 95)
    simpa using this
  have g2 : W1.heap.size = w.heap.size + 2 := by rw [hW1]; simp
  obtain ⟨W2, hW2⟩ : ∃ W2, W2 = W1.alloc (.cells (stC 1 ⟨#[]⟩ 0 0 ⟨#[]⟩ (.slice none 0 0)) 95) := ⟨_, rfl⟩
  have hS : mkS x A3 A4 c3 c4 w W2 0 0 ⟨#[]⟩ [] (.slice none 0 0) := by
    refine ⟨HasA.nil _ _, by rw [hW2]; exact below_alloc b1 _, ?_, ?_, ?_⟩
    · rw [hW2]; exact (Below.heap_alloc _ _ _ (by omega)).trans g0
    · rw [hW2]; exact (Below.heap_alloc _ _ _ (by omega)).trans g1
    · rw [hW2, ← g2]; exact heap_alloc_new W1 _
  have HS := Lib.hid hS
  have HL := Lib.hid h
  have HW1 := Lib.hid hW1
  have HW2 := Lib.hid hW2
  have HR1 := Lib.hid g2
  obtain ⟨k0, -, -, -, -, -⟩ := hS.raw
  clear hS h hW1 hW2 g0 g1 g2 b1
  unfold rawC stC at HW1 HW2
  unfold sAgg
  go_enter Try.func53, Try.ntmps53
  go_upto_region 1 with fail
  rw [← HW1.out]
  go_upto_region 2 with fail
  rw [HR1.out, ← HW2.out]
  go_wp2_with fail
  refine (within51 x.f0 16 W2 (by omega) (by omega)).mono ?_
  rintro e W3 ⟨rfl, hb3⟩
  have HS3 := Lib.hid (HS.out.below hb3)
  have m0 := Int.emod_nonneg x.f0 (show (16 : Int) ≠ 0 by omega)
  have m1 := Int.emod_lt_of_pos x.f0 (show (0 : Int) < 16 by omega)
  have HKK := Lib.hid hkk
  clear hkk
  generalize x.f0 % 16 = k at *
  clear k0 hb3
  go_upto_block 0 with fail
  go_cut [] (fun wc => MkC x A3 A4 c3 c4 w wc)
  case first =>
    obtain ⟨h6, h9⟩ : 6 ≤ k ∧ k < 9 := HKK.out
    have k1 := HS3.out.raw.2.1
    have h12 : ¬ k < 6 := by omega
    go_wp2_with fail
    refine (within51 x.f1 3 W3 (by omega) (by omega)).mono ?_
    rintro e W4 ⟨rfl, hb4⟩
    have mm0 := Int.emod_nonneg x.f1 (show (3 : Int) ≠ 0 by omega)
    have mm1 := Int.emod_lt_of_pos x.f1 (show (0 : Int) < 3 by omega)
    generalize x.f1 % 3 = m at *
    have HMb := Lib.hid (show 0 ≤ m ∧ m < 3 from ⟨mm0, mm1⟩)
    have hm4 := HS3.out.below hb4
    have y2 := hm4.st.2.2.1
    have y3 := hm4.st.2.2.2.1
    have fz2 := hm4.fz.2.2.1
    have fz3 := hm4.fz.2.2.2.1
    have HM4 := Lib.hid ((hm4.kind 2).oper m)
    clear hb4 hm4 k1 mm0 mm1
    go_upto_region 13 with fail
    clear y2 y3 fz2 fz3
    generalize hz : World.setCell _ _ _ = W5
    have HM5 := Lib.hid (HM4.out.to hz)
    have c3' := HM5.out.st.2.2.2.1
    clear hz HM4
    go_upto_if 67 with fail
    clear c3'
    go_cut [] (fun wg => GrC x A3 A4 c3 c4 w m wg)
    case first =>
      by_cases hm2 : m = 2
      · have tm : (m == 2) = true := by simp [hm2]
        have HM2' := Lib.hid hm2
        clear hm2
        obtain ⟨q, hq⟩ : ∃ q, q = IntKind.i64.wrap (x.f2.tdiv 2) := ⟨_, rfl⟩
        obtain ⟨p1, hp1⟩ : ∃ p1, x.f2 % 2 = p1 := ⟨_, rfl⟩
        obtain ⟨p2, hp2⟩ : ∃ p2, q % 4 = p2 := ⟨_, rfl⟩
        have HPb := Lib.hid (show -1000000000000000 ≤ p1 ∧ p1 ≤ 1000000000000000 ∧ -1000000000000000 ≤ p2 ∧ p2 ≤ 1000000000000000 by
          have a0 := Int.emod_nonneg x.f2 (show (2 : Int) ≠ 0 by omega)
          have a1 := Int.emod_lt_of_pos x.f2 (show (0 : Int) < 2 by omega)
          have a2 := Int.emod_nonneg q (show (4 : Int) ≠ 0 by omega)
          have a3 := Int.emod_lt_of_pos q (show (0 : Int) < 4 by omega)
          omega)
        have HP1 := Lib.hid hp1
        have HP2 := Lib.hid hp2
        have hq' := hq.symm
        clear hp1 hp2 hq
        have HMd0 := Lib.hid (HM5.out.below ((Below.refl W5.heap.size W5).drew))
        go_upto_region 14 with fail
        refine PrintLast.start_ (n := 14) (S := fun w' => w'.cell? ⟨w.heap.size, 2, none⟩ = some (.int .i64 x.f2)) (ds := []) #[false, false, false, false, false, false, false, false, false, false, false, false, false, false] (by kernel_rfl) rfl rfl ((HMd0.out).raw.2.2.1) (fun hHeld => ?_)
        generalize hz : W5.drew = WD at hHeld ⊢
        have HMd := Lib.hid (HMd0.out.to hz)
        clear hz
        refine PrintLast.pure_ (i := 0) (N := some 68) (v := ?_) (a' := ?_) #[true, false, false, false, false, false, false, false, false, false, false, false, false, false] rfl rfl (by kernel_rfl) (fun _ _ _ h => h) (Or.inl ⟨by rfl, ?_⟩) ?_ ?_
        rotate_left
        · intro w'
          go_simp
          with_reducible rfl
        rotate_left
        · simp only [Act.put, List.setIfInBounds_toArray, List.set_cons_zero, List.set_cons_succ]
          rfl
        refine PrintLast.pure_ (i := 5) (N := some 73) (v := ?_) (a' := ?_) #[true, false, false, false, false, true, false, false, false, false, false, false, false, false] rfl rfl (by kernel_rfl) (fun _ _ _ h => h) (Or.inl ⟨by rfl, ?_⟩) ?_ ?_
        rotate_left
        · intro w'
          go_simp
          with_reducible rfl
        rotate_left
        · simp only [Act.put, List.setIfInBounds_toArray, List.set_cons_zero, List.set_cons_succ]
          rfl
        refine PrintLast.take_ (i := 1) (N := some 69) (v := ?_) (a' := ?_) #[true, true, false, false, false, true, false, false, false, false, false, false, false, false] rfl rfl (by kernel_rfl) (fun _ _ _ h => h) (Or.inl ⟨by rfl, ?_⟩) hHeld ?_ ?_
        rotate_left
        · intro w' s0
          go_simp
          with_reducible rfl
        rotate_left
        · simp only [Act.put, List.setIfInBounds_toArray, List.set_cons_zero, List.set_cons_succ]
          rfl
        refine PrintLast.take_ (i := 6) (N := some 74) (v := ?_) (a' := ?_) #[true, true, false, false, false, true, true, false, false, false, false, false, false, false] rfl rfl (by kernel_rfl) (fun _ _ _ h => h) (Or.inl ⟨by rfl, ?_⟩) hHeld ?_ ?_
        rotate_left
        · intro w' s0
          go_simp
          with_reducible rfl
        rotate_left
        · simp only [Act.put, List.setIfInBounds_toArray, List.set_cons_zero, List.set_cons_succ]
          rfl
        refine PrintLast.pure_ (i := 7) (N := some 75) (v := ?_) (a' := ?_) #[true, true, false, false, false, true, true, true, false, false, false, false, false, false] rfl rfl (by kernel_rfl) (fun _ _ _ h => h) (Or.inl ⟨by rfl, ?_⟩) ?_ ?_
        rotate_left
        · intro w'
          go_simp
          with_reducible rfl
        rotate_left
        · simp only [Act.put, List.setIfInBounds_toArray, List.set_cons_zero, List.set_cons_succ]
          rfl
        refine PrintLast.one_ (i := 2) (N := some 70) #[true, true, true, false, false, true, true, true, false, false, false, false, false, false] rfl rfl (by kernel_rfl) (by decide) (fun K hK => ?_)
        refine PrintLast.goes_ Try.func51 (by kernel_rfl) rfl #[.int .i64 x.f2, .int .i64 2] (by rfl) rfl rfl (by simp only [List.map_toArray, List.map_cons, List.map_nil]; rfl) ?_
        with_reducible refine ((within51 x.f2 2 WD (by omega) (by omega))).mono ?_
        rintro e z2 ⟨rfl, hbc⟩
        refine ⟨_, rfl, ?_⟩
        rw [HP1.out]
        have HM2 := Lib.hid (HMd.out.below hbc)
        clear hbc
        refine hK.out _ _ ((HM2.out).raw.2.2.1) (fun hHeld => ?_)
        clear hK K
        refine PrintLast.norm_ (a' := ?_) ?_ ?_
        rotate_left
        · show Act.put _ (some 70) _ = _
          simp only [Act.put, List.setIfInBounds_toArray, List.set_cons_zero, List.set_cons_succ]
          rfl
        refine PrintLast.pure_ (i := 3) (N := some 71) (v := ?_) (a' := ?_) #[true, true, true, true, false, true, true, true, false, false, false, false, false, false] rfl rfl (by kernel_rfl) (fun _ _ _ h => h) (Or.inl ⟨by rfl, ?_⟩) ?_ ?_
        rotate_left
        · intro w'
          go_simp
          with_reducible rfl
        rotate_left
        · simp only [Act.put, List.setIfInBounds_toArray, List.set_cons_zero, List.set_cons_succ]
          rfl
        refine PrintLast.pure_ (i := 4) (N := some 72) (v := ?_) (a' := ?_) #[true, true, true, true, true, true, true, true, false, false, false, false, false, false] rfl rfl (by kernel_rfl) (fun _ _ _ h => h) (Or.inl ⟨by rfl, ?_⟩) ?_ ?_
        rotate_left
        · intro w'
          go_simp
          with_reducible rfl
        rotate_left
        · simp only [Act.put, List.setIfInBounds_toArray, List.set_cons_zero, List.set_cons_succ]
          rfl
        refine PrintLast.one_ (i := 8) (N := some 76) #[true, true, true, true, true, true, true, true, true, false, false, false, false, false] rfl rfl (by kernel_rfl) (by decide) (fun K hK => ?_)
        refine PrintLast.goes_ Try.func51 (by kernel_rfl) rfl #[.int .i64 q, .int .i64 4] (by rfl) rfl rfl (by simp only [List.map_toArray, List.map_cons, List.map_nil]; rfl) ?_
        with_reducible refine ((within51 q 4 z2 (by omega) (by omega))).mono ?_
        rintro e z8 ⟨rfl, hbc⟩
        refine ⟨_, rfl, ?_⟩
        rw [HP2.out]
        have HM8 := Lib.hid (HM2.out.below hbc)
        clear hbc
        refine hK.out _ _ ((HM8.out).raw.2.2.1) (fun hHeld => ?_)
        clear hK K
        refine PrintLast.norm_ (a' := ?_) ?_ ?_
        rotate_left
        · show Act.put _ (some 76) _ = _
          simp only [Act.put, List.setIfInBounds_toArray, List.set_cons_zero, List.set_cons_succ]
          rfl
        refine PrintLast.pure_ (i := 9) (N := some 77) (v := ?_) (a' := ?_) #[true, true, true, true, true, true, true, true, true, true, false, false, false, false] rfl rfl (by kernel_rfl) (fun _ _ _ h => h) (Or.inl ⟨by rfl, ?_⟩) ?_ ?_
        rotate_left
        · intro w'
          go_simp
          with_reducible rfl
        rotate_left
        · simp only [Act.put, List.setIfInBounds_toArray, List.set_cons_zero, List.set_cons_succ]
          rfl
        refine PrintLast.pure_ (i := 10) (N := some 78) (v := ?_) (a' := ?_) #[true, true, true, true, true, true, true, true, true, true, true, false, false, false] rfl rfl (by kernel_rfl) (fun _ _ _ h => h) (Or.inl ⟨by rfl, ?_⟩) ?_ ?_
        rotate_left
        · intro w'
          go_simp
          with_reducible rfl
        rotate_left
        · simp only [Act.put, List.setIfInBounds_toArray, List.set_cons_zero, List.set_cons_succ]
          rfl
        refine PrintLast.one_ (i := 11) (N := some 79) #[true, true, true, true, true, true, true, true, true, true, true, true, false, false] rfl rfl (by kernel_rfl) (by decide) (fun K hK => ?_)
        refine PrintLast.value_ (w1 := ?_) (v := ?_) (by rfl) rfl ?_ ?_
        rotate_left 2
        · go_simp
          constructor
          · rfl
          · rfl
        refine hK.out _ _ ((HM8.out.below (below_alloc (Below.refl _ _) _)).raw.2.2.1) (fun hHeld => ?_)
        clear hK K
        refine PrintLast.norm_ (a' := ?_) ?_ ?_
        rotate_left
        · show Act.put _ (some 79) _ = _
          simp only [Act.put, List.setIfInBounds_toArray, List.set_cons_zero, List.set_cons_succ]
          rfl
        generalize hz : World.alloc z8 _ = z11 at hHeld ⊢
        have HM11 := Lib.hid (HM8.out.al hz)
        have HR11 : Hid (HasA z11 w.heap.size [⟨-1, ⟨1, p1, ⟨#[]⟩, []⟩⟩, ⟨-1, ⟨1, p2, ⟨#[]⟩, []⟩⟩] (.slice (some ⟨z8.heap.size, 0, none⟩) 2 2)) := Lib.hid (rowA_two' hz HM8.out.bel.size (HasE.nil _ _ _ rfl) (HasE.nil _ _ _ rfl) (good_num HPb.out.1 HPb.out.2.1) (good_num HPb.out.2.2.1 HPb.out.2.2.2))
        clear hz
        refine PrintLast.pure_ (i := 12) (N := some 80) (v := ?_) (a' := ?_) #[true, true, true, true, true, true, true, true, true, true, true, true, true, false] rfl rfl (by kernel_rfl) (fun _ _ _ h => h) (Or.inl ⟨by rfl, ?_⟩) ?_ ?_
        rotate_left
        · intro w'
          go_simp
          with_reducible rfl
        rotate_left
        · simp only [Act.put, List.setIfInBounds_toArray, List.set_cons_zero, List.set_cons_succ]
          rfl
        refine PrintLast.one_ (i := 13) (N := none) #[true, true, true, true, true, true, true, true, true, true, true, true, true, true] rfl rfl (by kernel_rfl) (by decide) (fun K hK => ?_)
        have y5 := HM11.out.st.2.2.2.2.2
        have fz5 := HM11.out.fz.2.2.2.2.2
        refine PrintLast.skip_ (w1 := ?_) (by rfl) rfl ?_ ?_
        rotate_left
        · go_simp
          rfl
        refine hK.out _ _ ((HM11.out.args HR11.out).raw.2.2.1) (fun hHeld => ?_)
        clear hK K
        clear y5 fz5
        generalize hz : World.setCell z11 _ _ = z13 at hHeld ⊢
        have HM13 := Lib.hid (HM11.out.args' HR11.out hz)
        clear hz
        refine PrintLast.done_ (by kernel_rfl) ?_
        clear hHeld
        go_wp2_with fail
        go_meet
        case rel => exact ⟨_, _, by show 2 ≤ 2; decide, HM13.out⟩
      · have tm : (m == 2) = false := by simp [hm2]
        have HM2' := Lib.hid hm2
        clear hm2
        go_wp2_with fail
        go_meet
        case rel => exact ⟨_, _, Nat.zero_le _, HM5.out⟩
    case rest =>
      obtain ⟨xs, u, hlen, hm⟩ := hcut
      obtain ⟨Au, cu, rfl, -, -⟩ := hm.row.form
      have HMd0 := Lib.hid (hm.below ((Below.refl wc.heap.size wc).drew))
      have HLn := Lib.hid hlen
      obtain ⟨j, hj⟩ : ∃ j : Nat, x.f2 % 4 = j := ⟨(x.f2 % 4).toNat, by have := Int.emod_nonneg x.f2 (show (4 : Int) ≠ 0 by omega); omega⟩
      have hj4 : j < 4 := by have := Int.emod_lt_of_pos x.f2 (show (0 : Int) < 4 by omega); omega
      have HJ := Lib.hid hj
      have HJ4 := Lib.hid hj4
      have j0 : (0 : Int) ≤ (j : Int) := by omega
      have j1 : (j : Int) < 4 := by omega
      clear hm hlen hj hj4
      go_upto_region 15 with fail
      refine PrintLast.start_ (n := 14) (S := fun w' => w'.cell? ⟨w.heap.size, 2, none⟩ = some (.int .i64 x.f2) ∧ w'.cell? ⟨w.heap.size + 2, 5, none⟩ = some (.slice Au xs.length cu)) (ds := [13]) #[false, false, false, false, false, false, false, false, false, false, false, false, false, false] (by kernel_rfl) rfl rfl ⟨(HMd0.out).raw.2.2.1, (HMd0.out).st.2.2.2.2.2⟩ (fun hHeld => ?_)
      generalize hz : wc.drew = WD at hHeld ⊢
      have HMd := Lib.hid (HMd0.out.to hz)
      clear hz
      refine PrintLast.pure_ (i := 0) (N := some 81) (v := ?_) (a' := ?_) #[true, false, false, false, false, false, false, false, false, false, false, false, false, false] rfl rfl (by kernel_rfl) (fun _ _ _ h => h) (Or.inl ⟨by rfl, ?_⟩) ?_ ?_
      rotate_left
      · intro w'
        go_simp
        with_reducible rfl
      rotate_left
      · simp only [Act.put, List.setIfInBounds_toArray, List.set_cons_zero, List.set_cons_succ]
        rfl
      refine PrintLast.pure_ (i := 3) (N := some 84) (v := ?_) (a' := ?_) #[true, false, false, true, false, false, false, false, false, false, false, false, false, false] rfl rfl (by kernel_rfl) (fun _ _ _ h => h) (Or.inl ⟨by rfl, ?_⟩) ?_ ?_
      rotate_left
      · intro w'
        go_simp
        with_reducible rfl
      rotate_left
      · simp only [Act.put, List.setIfInBounds_toArray, List.set_cons_zero, List.set_cons_succ]
        rfl
      refine PrintLast.take_ (i := 1) (N := some 82) (v := ?_) (a' := ?_) #[true, true, false, true, false, false, false, false, false, false, false, false, false, false] rfl rfl (by kernel_rfl) (fun _ _ _ h => h) (Or.inl ⟨by rfl, ?_⟩) hHeld ?_ ?_
      rotate_left
      · rintro w' ⟨s0, s1⟩
        go_simp
        with_reducible rfl
      rotate_left
      · simp only [Act.put, List.setIfInBounds_toArray, List.set_cons_zero, List.set_cons_succ]
        rfl
      refine PrintLast.take_ (i := 4) (N := some 85) (v := ?_) (a' := ?_) #[true, true, false, true, true, false, false, false, false, false, false, false, false, false] rfl rfl (by kernel_rfl) (fun _ _ _ h => h) (Or.inl ⟨by rfl, ?_⟩) hHeld ?_ ?_
      rotate_left
      · rintro w' ⟨s0, s1⟩
        go_simp
        with_reducible rfl
      rotate_left
      · simp only [Act.put, List.setIfInBounds_toArray, List.set_cons_zero, List.set_cons_succ]
        rfl
      refine PrintLast.one_ (i := 2) (N := some 83) #[true, true, true, true, true, false, false, false, false, false, false, false, false, false] rfl rfl (by kernel_rfl) (by decide) (fun K hK => ?_)
      refine PrintLast.goes_ Try.func65 (by kernel_rfl) rfl #[] (by rfl) rfl rfl (by simp only [List.map_toArray, List.map_nil]) ?_
      with_reducible refine ((labels_call WD)).mono ?_
      rintro e z2 ⟨ad, cc, rfl, hnm, hbc⟩
      refine ⟨_, rfl, ?_⟩
      have HM2 := Lib.hid (HMd.out.below hbc)
      clear hbc
      refine hK.out _ _ ⟨(HM2.out).raw.2.2.1, (HM2.out).st.2.2.2.2.2⟩ (fun hHeld => ?_)
      clear hK K
      refine PrintLast.norm_ (a' := ?_) ?_ ?_
      rotate_left
      · show Act.put _ (some 83) _ = _
        simp only [Act.put, List.setIfInBounds_toArray, List.set_cons_zero, List.set_cons_succ]
        rfl
      refine PrintLast.one_ (i := 5) (N := some 86) #[true, true, true, true, true, true, false, false, false, false, false, false, false, false] rfl rfl (by kernel_rfl) (by decide) (fun K hK => ?_)
      refine PrintLast.goes_ Try.func51 (by kernel_rfl) rfl #[.int .i64 x.f2, .int .i64 4] (by rfl) rfl rfl (by simp only [List.map_toArray, List.map_cons, List.map_nil]; rfl) ?_
      with_reducible refine ((within51 x.f2 4 z2 (by omega) (by omega))).mono ?_
      rintro e z5 ⟨rfl, hbc⟩
      refine ⟨_, rfl, ?_⟩
      rw [HJ.out]
      have HM5 := Lib.hid (HM2.out.below hbc)
      obtain ⟨sn, hsn, hcn⟩ := hnm j HJ4.out
      have hcy : z5.cell? (ad.add j) = some (.string sn) := (hbc.cell (World.block_lt_of_cell? _ _ hcn)).trans hcn
      have HSn := Lib.hid hsn
      clear hbc hnm hcn hsn
      refine hK.out _ _ ⟨(HM5.out).raw.2.2.1, (HM5.out).st.2.2.2.2.2⟩ (fun hHeld => ?_)
      clear hK K
      refine PrintLast.norm_ (a' := ?_) ?_ ?_
      rotate_left
      · show Act.put _ (some 86) _ = _
        simp only [Act.put, List.setIfInBounds_toArray, List.set_cons_zero, List.set_cons_succ]
        rfl
      refine PrintLast.pure_ (i := 6) (N := some 87) (v := ?_) (a' := ?_) #[true, true, true, true, true, true, true, false, false, false, false, false, false, false] rfl rfl (by kernel_rfl) (fun _ _ _ h => h) (Or.inl ⟨by rfl, ?_⟩) ?_ ?_
      rotate_left
      · intro w'
        go_simp
        with_reducible rfl
      rotate_left
      · simp only [Act.put, List.setIfInBounds_toArray, List.set_cons_zero, List.set_cons_succ]
        rfl
      refine PrintLast.one_ (i := 7) (N := some 88) #[true, true, true, true, true, true, true, true, false, false, false, false, false, false] rfl rfl (by kernel_rfl) (by decide) (fun K hK => ?_)
      refine PrintLast.value_ (w1 := ?_) (v := ?_) (by rfl) rfl ?_ ?_
      rotate_left 2
      · go_simp
        constructor
        · rfl
        · rfl
      refine hK.out _ _ ⟨(HM5.out).raw.2.2.1, (HM5.out).st.2.2.2.2.2⟩ (fun hHeld => ?_)
      clear hK K
      refine PrintLast.norm_ (a' := ?_) ?_ ?_
      rotate_left
      · show Act.put _ (some 88) _ = _
        simp only [Act.put, List.setIfInBounds_toArray, List.set_cons_zero, List.set_cons_succ]
        rfl
      refine PrintLast.pure_ (i := 8) (N := some 89) (v := ?_) (a' := ?_) #[true, true, true, true, true, true, true, true, true, false, false, false, false, false] rfl rfl (by kernel_rfl) (fun _ _ _ h => h) (Or.inl ⟨by rfl, ?_⟩) ?_ ?_
      rotate_left
      · intro w'
        go_simp
        with_reducible rfl
      rotate_left
      · simp only [Act.put, List.setIfInBounds_toArray, List.set_cons_zero, List.set_cons_succ]
        rfl
      refine PrintLast.pure_ (i := 9) (N := some 90) (v := ?_) (a' := ?_) #[true, true, true, true, true, true, true, true, true, true, false, false, false, false] rfl rfl (by kernel_rfl) (fun _ _ _ h => h) (Or.inl ⟨by rfl, ?_⟩) ?_ ?_
      rotate_left
      · intro w'
        go_simp
        with_reducible rfl
      rotate_left
      · simp only [Act.put, List.setIfInBounds_toArray, List.set_cons_zero, List.set_cons_succ]
        rfl
      refine PrintLast.one_ (i := 10) (N := some 91) #[true, true, true, true, true, true, true, true, true, true, true, false, false, false] rfl rfl (by kernel_rfl) (by decide) (fun K hK => ?_)
      refine PrintLast.value_ (w1 := ?_) (v := ?_) (by rfl) rfl ?_ ?_
      rotate_left 2
      · go_simp
        constructor
        · rfl
        · rfl
      refine hK.out _ _ ⟨(HM5.out.below (below_alloc (Below.refl _ _) _)).raw.2.2.1, (HM5.out.below (below_alloc (Below.refl _ _) _)).st.2.2.2.2.2⟩ (fun hHeld => ?_)
      clear hK K
      refine PrintLast.norm_ (a' := ?_) ?_ ?_
      rotate_left
      · show Act.put _ (some 91) _ = _
        simp only [Act.put, List.setIfInBounds_toArray, List.set_cons_zero, List.set_cons_succ]
        rfl
      refine PrintLast.one_ (i := 11) (N := some 92) #[true, true, true, true, true, true, true, true, true, true, true, true, false, false] rfl rfl (by kernel_rfl) (by decide) (fun K hK => ?_)
      refine Kd.R_append_step k104 (w0 := w) w.heap.size (by rfl) (.tmp 82) (.tmp 91) 93 104 (.agg #[(.int .i64 0), (.int .i64 0), (.int .i64 0), (.string ⟨#[]⟩), (.slice none 0 0)]) 64 rfl Try.underlying93 info104 rfl (by decide) (by omega) (.slice Au xs.length cu) xs (⟨-1, ⟨2, 0, sn, []⟩⟩ : S104) [.int .i64 (-1), .int .i64 2, .int .i64 0, .string sn, .slice none 0 0] T1 (fun k => T1 k ∧ some k ≠ (Value.slice Au xs.length cu).ownBlock) (by rfl) (by rfl) (HasE.m104 (x := ⟨-1, ⟨2, 0, sn, []⟩⟩) (HasE.nil _ _ _ rfl) HM5.out.row) (fun _ hk => hk) (fun _ _ => trivial) HM5.out.row.r HM5.out.bel HM5.out.bel.size (by have := HLn.out; omega) ?_
      intro v1 z11 ho hb1 hg1 hat
      have HG11 := Lib.hid (HM5.out.grown hg1 hb1)
      have HR11 := Lib.hid (HasA.snoc ho HM5.out.row.good (good_name HSn.out))
      clear ho hb1 hg1 hat
      refine hK.out _ _ ⟨HG11.out.raw.2.2.1, HG11.out.st5.1⟩ (fun hHeld => ?_)
      clear hK K
      refine PrintLast.norm_ (a' := ?_) ?_ ?_
      rotate_left
      · show Act.put _ (some 92) _ = _
        simp only [Act.put, List.setIfInBounds_toArray, List.set_cons_zero, List.set_cons_succ]
        rfl
      obtain ⟨Av, cv, rfl, -⟩ := HR11.out.form
      refine PrintLast.pure_ (i := 12) (N := some 93) (v := ?_) (a' := ?_) #[true, true, true, true, true, true, true, true, true, true, true, true, true, false] rfl rfl (by kernel_rfl) (fun _ _ _ h => h) (Or.inl ⟨by rfl, ?_⟩) ?_ ?_
      rotate_left
      · intro w'
        go_simp
        with_reducible rfl
      rotate_left
      · simp only [Act.put, List.setIfInBounds_toArray, List.set_cons_zero, List.set_cons_succ]
        rfl
      refine PrintLast.last_ (i := 13) (N := none) #[true, true, true, true, true, true, true, true, true, true, true, true, true, true] rfl rfl (by kernel_rfl) (by decide) (fun K hK => ?_)
      have y5 := HG11.out.st5.1
      have fz5 := HG11.out.st5.2
      refine PrintLast.skip_ (w1 := ?_) (by rfl) rfl ?_ ?_
      rotate_left
      · go_simp
        rfl
      refine hK.out _ _ ?_
      clear hK K
      refine PrintLast.done_ (by kernel_rfl) ?_
      clear hHeld y5 fz5
      generalize hz : World.setCell z11 _ _ = z13
      have hr11 := HR11.out
      rw [List.length_append] at hr11
      have HM13 := Lib.hid (HG11.out.args hr11 hz)
      clear hz hr11
      go_wp2_with fail
      go_meet
      case rel => exact ⟨2, m, ⟨#[]⟩, _, _, ⟨by omega, by omega, fun h => absurd h (by omega), fun _ => HMb.out, Nat.zero_le _, by have := HLn.out; rw [List.length_append]; show xs.length + 1 ≤ 5; omega⟩, HM13.out⟩
  case rest =>
    obtain ⟨kd, op, tx, xs, u, hok, hm⟩ := hcut
    have tk : (kd == 0) = false := by have := hok.1; simp; omega
    obtain ⟨-, -, r2, -, -, r5⟩ := hm.raw
    obtain ⟨-, -, s2, -, -, -⟩ := hm.st
    have HM := Lib.hid hm
    have HOK := Lib.hid hok
    clear hok m0 m1 HKK HS HS3 HW1 HW2 HR1 HL hm
    cases h5 : x.f5 with
    | false =>
      rw [h5] at r5
      clear h5 r2
      go_upto_region 26 with fail
      clear s2 tk r5
      have hm := HM.out.bare
      have HLB := Lib.hid (show (ByteArray.mk #[]).size ≤ 6 from Nat.zero_le _)
      obtain ⟨A', c', rfl, -, -⟩ := hm.row.form
      have p1 := hm.q1
      have p2 := hm.q2
      unfold stC at p1 p2
      obtain ⟨a0, a1, a2, a3, a4, a5, -⟩ := box6 p2
      obtain ⟨y0, y1, y2, y3, y4, y5, fz⟩ := box6 p1
      have fz0 := fz 0
      have fz1 := fz 1
      have fz2 := fz 2
      have fz3 := fz 3
      have fz4 := fz 4
      have fz5 := fz 5
      obtain ⟨f1, f2, f3⟩ := put6_end 1 ⟨#[]⟩ kd op tx p1 (Nat.le_succ _) hm.bel hm.row
      obtain ⟨z0, z1, z2, z3, z4, z5, -⟩ := box6 f1
      have HF2 := Lib.hid f2
      have HF3 := Lib.hid f3
      clear p1 p2 fz f1 f2 f3 hm
      go_wp2_with fail
      refine bodyPost_ret (v := .agg (stC 1 ⟨#[]⟩ kd op tx (.slice A' xs.length c'))) (by simp only [put6S] at z0 z1 z2 z3 z4 z5; simp [results, Try.results53, go_sem, z0, z1, z2, z3, z4, z5, stC]) rfl ⟨⟨#[]⟩, kd, op, tx, xs, _, rfl, ⟨HLB.out, HOK.out⟩, HF2.out, HF3.out⟩
    | true =>
      rw [h5] at r5
      clear h5
      have HLT := Lib.hid (show w.heap.size < wc.heap.size from Nat.lt_trans (Nat.lt_add_of_pos_right (by decide)) HM.out.lt)
      have HBd := Lib.hid ((Below.refl wc.heap.size wc).drew)
      obtain ⟨j, hj⟩ : ∃ j : Nat, x.f2 % 4 = j := ⟨(x.f2 % 4).toNat, by have := Int.emod_nonneg x.f2 (show (4 : Int) ≠ 0 by omega); omega⟩
      have hj4 : j < 4 := by have := Int.emod_lt_of_pos x.f2 (show (0 : Int) < 4 by omega); omega
      have HJ := Lib.hid hj
      have HJ4 := Lib.hid hj4
      have j0 : (0 : Int) ≤ (j : Int) := by omega
      have j1 : (j : Int) < 4 := by omega
      clear hj hj4
      go_upto_region 25 with fail
      clear s2 tk r5
      refine PrintLast.start_ (n := 8) (S := fun w' => w'.cell? ⟨w.heap.size, 2, none⟩ = some (.int .i64 x.f2)) (ds := [7]) #[false, false, false, false, false, false, false, false] (by kernel_rfl) rfl rfl (r2) (fun hHeld => ?_)
      refine PrintLast.pure_ (i := 1) (N := some 149) (v := ?_) (a' := ?_) #[false, true, false, false, false, false, false, false] rfl rfl (by kernel_rfl) (fun _ _ _ h => h) (Or.inl ⟨by rfl, ?_⟩) ?_ ?_
      rotate_left
      · intro w'
        go_simp
        with_reducible rfl
      rotate_left
      · simp only [Act.put, List.setIfInBounds_toArray, List.set_cons_zero, List.set_cons_succ]
        rfl
      refine PrintLast.take_ (i := 2) (N := some 150) (v := ?_) (a' := ?_) #[false, true, true, false, false, false, false, false] rfl rfl (by kernel_rfl) (fun _ _ _ h => h) (Or.inl ⟨by rfl, ?_⟩) hHeld ?_ ?_
      rotate_left
      · intro w' s0
        go_simp
        with_reducible rfl
      rotate_left
      · simp only [Act.put, List.setIfInBounds_toArray, List.set_cons_zero, List.set_cons_succ]
        rfl
      refine PrintLast.one_ (i := 0) (N := some 148) #[true, true, true, false, false, false, false, false] rfl rfl (by kernel_rfl) (by decide) (fun K hK => ?_)
      refine PrintLast.goes_ Try.func65 (by kernel_rfl) rfl #[] (by rfl) rfl rfl (by simp only [List.map_toArray, List.map_nil]) ?_
      with_reducible refine ((labels_call wc.drew)).mono ?_
      rintro e wx ⟨ad, cc, rfl, hnm, hbx⟩
      refine ⟨_, rfl, ?_⟩
      have HBx := Lib.hid (HBd.out.trans (hbx.mono HBd.out.size))
      clear hbx
      refine hK.out _ _ ((HBx.out.cell (p := ⟨w.heap.size, 2, none⟩) HLT.out).trans r2) (fun hHeld => ?_)
      clear hK K
      refine PrintLast.norm_ (a' := ?_) ?_ ?_
      rotate_left
      · show Act.put _ (some 148) _ = _
        simp only [Act.put, List.setIfInBounds_toArray, List.set_cons_zero, List.set_cons_succ]
        rfl
      refine PrintLast.one_ (i := 3) (N := some 151) #[true, true, true, true, false, false, false, false] rfl rfl (by kernel_rfl) (by decide) (fun K hK => ?_)
      refine PrintLast.goes_ Try.func51 (by kernel_rfl) rfl #[.int .i64 x.f2, .int .i64 4] (by rfl) rfl rfl (by simp only [List.map_toArray, List.map_cons, List.map_nil]; rfl) ?_
      with_reducible refine ((within51 x.f2 4 wx (by omega) (by omega))).mono ?_
      rintro e wy ⟨rfl, hby⟩
      refine ⟨_, rfl, ?_⟩
      rw [HJ.out]
      have HBy := Lib.hid (HBx.out.trans (hby.mono HBx.out.size))
      obtain ⟨sn, hsn, hcn⟩ := hnm j HJ4.out
      have hcy : wy.cell? (ad.add j) = some (.string sn) := (hby.cell (World.block_lt_of_cell? _ _ hcn)).trans hcn
      have HSn := Lib.hid hsn
      have hmy := HM.out.below HBy.out
      obtain ⟨-, y1, -, -, -, -⟩ := hmy.st
      obtain ⟨-, fz1, -, -, -, -⟩ := hmy.fz
      have HMy := Lib.hid hmy
      clear hby hnm hcn hmy hsn
      refine hK.out _ _ ((HBy.out.cell (p := ⟨w.heap.size, 2, none⟩) HLT.out).trans r2) (fun hHeld => ?_)
      clear hK K
      refine PrintLast.norm_ (a' := ?_) ?_ ?_
      rotate_left
      · show Act.put _ (some 151) _ = _
        simp only [Act.put, List.setIfInBounds_toArray, List.set_cons_zero, List.set_cons_succ]
        rfl
      refine PrintLast.pure_ (i := 4) (N := some 152) (v := ?_) (a' := ?_) #[true, true, true, true, true, false, false, false] rfl rfl (by kernel_rfl) (fun _ _ _ h => h) (Or.inl ⟨by rfl, ?_⟩) ?_ ?_
      rotate_left
      · intro w'
        go_simp
        with_reducible rfl
      rotate_left
      · simp only [Act.put, List.setIfInBounds_toArray, List.set_cons_zero, List.set_cons_succ]
        rfl
      refine PrintLast.one_ (i := 5) (N := some 153) #[true, true, true, true, true, true, false, false] rfl rfl (by kernel_rfl) (by decide) (fun K hK => ?_)
      refine PrintLast.value_ (w1 := ?_) (v := ?_) (by rfl) rfl ?_ ?_
      rotate_left 2
      · go_simp
        constructor
        · rfl
        · rfl
      refine hK.out _ _ ((HBy.out.cell (p := ⟨w.heap.size, 2, none⟩) HLT.out).trans r2) (fun hHeld => ?_)
      clear hK K
      refine PrintLast.norm_ (a' := ?_) ?_ ?_
      rotate_left
      · show Act.put _ (some 153) _ = _
        simp only [Act.put, List.setIfInBounds_toArray, List.set_cons_zero, List.set_cons_succ]
        rfl
      refine PrintLast.pure_ (i := 6) (N := some 154) (v := ?_) (a' := ?_) #[true, true, true, true, true, true, true, false] rfl rfl (by kernel_rfl) (fun _ _ _ h => h) (Or.inl ⟨by rfl, ?_⟩) ?_ ?_
      rotate_left
      · intro w'
        go_simp
        with_reducible rfl
      rotate_left
      · simp only [Act.put, List.setIfInBounds_toArray, List.set_cons_zero, List.set_cons_succ]
        rfl
      refine PrintLast.last_ (i := 7) (N := none) #[true, true, true, true, true, true, true, true] rfl rfl (by kernel_rfl) (by decide) (fun K hK => ?_)
      refine PrintLast.skip_ (w1 := ?_) (by rfl) rfl ?_ ?_
      rotate_left
      · go_simp
        rfl
      refine hK.out _ _ ?_
      clear hK K
      refine PrintLast.done_ (by kernel_rfl) ?_
      clear hHeld
      have hm := HMy.out.label sn
      have HLB := HSn
      generalize hP : wy.setCell ⟨w.heap.size + 2, 1, none⟩ (.string sn) = P at hm ⊢
      clear hP
      obtain ⟨A', c', rfl, -, -⟩ := hm.row.form
      have p1 := hm.q1
      have p2 := hm.q2
      unfold stC at p1 p2
      obtain ⟨a0, a1, a2, a3, a4, a5, -⟩ := box6 p2
      obtain ⟨y0, y1, y2, y3, y4, y5, fz⟩ := box6 p1
      have fz0 := fz 0
      have fz1 := fz 1
      have fz2 := fz 2
      have fz3 := fz 3
      have fz4 := fz 4
      have fz5 := fz 5
      obtain ⟨f1, f2, f3⟩ := put6_end 1 sn kd op tx p1 (Nat.le_succ _) hm.bel hm.row
      obtain ⟨z0, z1, z2, z3, z4, z5, -⟩ := box6 f1
      have HF2 := Lib.hid f2
      have HF3 := Lib.hid f3
      clear p1 p2 fz f1 f2 f3 hm
      go_wp2_with fail
      refine bodyPost_ret (v := .agg (stC 1 sn kd op tx (.slice A' xs.length c'))) (by simp only [put6S] at z0 z1 z2 z3 z4 z5; simp [results, Try.results53, go_sem, z0, z1, z2, z3, z4, z5, stC]) rfl ⟨sn, kd, op, tx, xs, _, rfl, ⟨HLB.out, HOK.out⟩, HF2.out, HF3.out⟩
end Go.Proofs.Ytifdkkkcecpjoaa
end
section
/-
  A raw statement, made.
-/
namespace Go.Proofs.Ytifdkkkcecpjoaa
set_option linter.unusedVariables false
set_option linter.unusedSimpArgs false
open Go.RowKit Go.Proofs.YtifdkkkcecpjoaaW Go.Proofs.YtifdkkkcecpjoaaW.PrintWords Tx
attribute [local go_sem ↓] Go.wp_at_zero Go.wp_at_succ
set_option maxRecDepth 100000 in
set_option maxHeartbeats 3200000 in
theorem make_c {x : S63} {A3 A4 : Option Addr} {c3 c4 : Nat} {w : World} (h : Lies w x A3 A4 c3 c4) (hkk : 9 ≤ x.f0 % 16 ∧ x.f0 % 16 < 12) :
    Calls Try.prog 53 #[sAgg x A3 A4 c3 c4] w (StE okL w) := by
  obtain ⟨W1, hW1⟩ : ∃ W1, W1 = (w.alloc (.cells (rawC x A3 A4 c3 c4) 63)).alloc (.cells (stC 0 ⟨#[]⟩ 0 0 ⟨#[]⟩ (.slice none 0 0)) 95) := ⟨_, rfl⟩
  have b1 : Below w.heap.size w W1 := by rw [hW1]; exact ((Below.refl _ _).alloc (Nat.le_refl _) _).alloc (by simp) _
  have g0 : W1.heap[w.heap.size]? = some (.cells (rawC x A3 A4 c3 c4) 63 (0, 0)) := by rw [hW1]; exact (Below.heap_alloc _ _ _ (by simp)).trans (heap_alloc_new w _)
  have g1 : W1.heap[w.heap.size + 1]? = some (.cells (stC 0 ⟨#[]⟩ 0 0 ⟨#[]⟩ (.slice none 0 0)) 95 (0, 0)) := by
    rw [hW1]
    have := heap_alloc_new (w.alloc (.cells (rawC x A3 A4 c3 c4) 63)) (.cells (stC 0 ⟨#[]⟩ 0 0 ⟨#[]⟩ (.slice none 0 0)) 95)
    simpa using this
  have g2 : W1.heap.size = w.heap.size + 2 := by rw [hW1]; simp
  obtain ⟨W2, hW2⟩ : ∃ W2, W2 = W1.alloc (.cells (stC 1 ⟨#[]⟩ 0 0 ⟨#[]⟩ (.slice none 0 0)) 95) := ⟨_, rfl⟩
  have hS : mkS x A3 A4 c3 c4 w W2 0 0 ⟨#[]⟩ [] (.slice none 0 0) := by
    refine ⟨HasA.nil _ _, by rw [hW2]; exact below_alloc b1 _, ?_, ?_, ?_⟩
    · rw [hW2]; exact (Below.heap_alloc _ _ _ (by omega)).trans g0
    · rw [hW2]; exact (Below.heap_alloc _ _ _ (by omega)).trans g1
    · rw [hW2, ← g2]; exact heap_alloc_new W1 _
  have HS := Lib.hid hS
  have HL := Lib.hid h
  have HW1 := Lib.hid hW1
  have HW2 := Lib.hid hW2
  have HR1 := Lib.hid g2
  obtain ⟨k0, -, -, -, -, -⟩ := hS.raw
  clear hS h hW1 hW2 g0 g1 g2 b1
  unfold rawC stC at HW1 HW2
  unfold sAgg
  go_enter Try.func53, Try.ntmps53
  go_upto_region 1 with fail
  rw [← HW1.out]
  go_upto_region 2 with fail
  rw [HR1.out, ← HW2.out]
  go_wp2_with fail
  refine (within51 x.f0 16 W2 (by omega) (by omega)).mono ?_
  rintro e W3 ⟨rfl, hb3⟩
  have HS3 := Lib.hid (HS.out.below hb3)
  have m0 := Int.emod_nonneg x.f0 (show (16 : Int) ≠ 0 by omega)
  have m1 := Int.emod_lt_of_pos x.f0 (show (0 : Int) < 16 by omega)
  have HKK := Lib.hid hkk
  clear hkk
  generalize x.f0 % 16 = k at *
  clear k0 hb3
  go_upto_block 0 with fail
  go_cut [] (fun wc => MkC x A3 A4 c3 c4 w wc)
  case first =>
    have h12 : 9 ≤ k ∧ k < 12 := HKK.out
    obtain ⟨h9, h12⟩ := h12
    obtain ⟨r0, r1, r2, r3, r4, r5⟩ := HS3.out.raw
    have hd := datum_any (HL.out.below HS3.out.bel) (3 + k - 9)
    unfold sAgg at hd
    go_wp2_with fail
    refine hd.mono ?_
    rintro e W4 ⟨lb, kd, op, tx, xs, u, rfl, ⟨rfl, rfl, rfl, rfl, hlen⟩, hA, hb⟩
    have hm4 := HS3.out.below hb
    have hA4 := hA.lower (base' := w.heap.size) HS3.out.bel.size
    obtain ⟨A', c', rfl, -, -⟩ := hA.form
    have fz := hm4.fz
    have q2 := hm4.q2
    unfold stC at q2
    obtain ⟨y0, y1, y2, y3, y4, y5, -⟩ := box6 q2
    obtain ⟨fz0, fz1, fz2, fz3, fz4, fz5⟩ := fz
    have HM4 := Lib.hid (hm4.whole hA4 (3 + k - 9) 0 ⟨#[]⟩)
    have HLn := Lib.hid hlen
    clear hm4 hA4 hA hd q2 hlen hb r0 r1 r2 r3 r4 r5
    unfold stC
    go_wp2_with fail
    go_meet
    case rel => exact ⟨3 + k - 9, 0, ⟨#[]⟩, xs, _, ⟨by omega, by omega, fun h => absurd h (by omega), fun h => absurd h (by omega), Nat.zero_le _, by have := HLn.out; omega⟩, HM4.out⟩
  case rest =>
    obtain ⟨kd, op, tx, xs, u, hok, hm⟩ := hcut
    have tk : (kd == 0) = false := by have := hok.1; simp; omega
    obtain ⟨-, -, r2, -, -, r5⟩ := hm.raw
    obtain ⟨-, -, s2, -, -, -⟩ := hm.st
    have HM := Lib.hid hm
    have HOK := Lib.hid hok
    clear hok m0 m1 HKK HS HS3 HW1 HW2 HR1 HL hm
    cases h5 : x.f5 with
    | false =>
      rw [h5] at r5
      clear h5 r2
      go_upto_region 26 with fail
      clear s2 tk r5
      have hm := HM.out.bare
      have HLB := Lib.hid (show (ByteArray.mk #[]).size ≤ 6 from Nat.zero_le _)
      obtain ⟨A', c', rfl, -, -⟩ := hm.row.form
      have p1 := hm.q1
      have p2 := hm.q2
      unfold stC at p1 p2
      obtain ⟨a0, a1, a2, a3, a4, a5, -⟩ := box6 p2
      obtain ⟨y0, y1, y2, y3, y4, y5, fz⟩ := box6 p1
      have fz0 := fz 0
      have fz1 := fz 1
      have fz2 := fz 2
      have fz3 := fz 3
      have fz4 := fz 4
      have fz5 := fz 5
      obtain ⟨f1, f2, f3⟩ := put6_end 1 ⟨#[]⟩ kd op tx p1 (Nat.le_succ _) hm.bel hm.row
      obtain ⟨z0, z1, z2, z3, z4, z5, -⟩ := box6 f1
      have HF2 := Lib.hid f2
      have HF3 := Lib.hid f3
      clear p1 p2 fz f1 f2 f3 hm
      go_wp2_with fail
      refine bodyPost_ret (v := .agg (stC 1 ⟨#[]⟩ kd op tx (.slice A' xs.length c'))) (by simp only [put6S] at z0 z1 z2 z3 z4 z5; simp [results, Try.results53, go_sem, z0, z1, z2, z3, z4, z5, stC]) rfl ⟨⟨#[]⟩, kd, op, tx, xs, _, rfl, ⟨HLB.out, HOK.out⟩, HF2.out, HF3.out⟩
    | true =>
      rw [h5] at r5
      clear h5
      have HLT := Lib.hid (show w.heap.size < wc.heap.size from Nat.lt_trans (Nat.lt_add_of_pos_right (by decide)) HM.out.lt)
      have HBd := Lib.hid ((Below.refl wc.heap.size wc).drew)
      obtain ⟨j, hj⟩ : ∃ j : Nat, x.f2 % 4 = j := ⟨(x.f2 % 4).toNat, by have := Int.emod_nonneg x.f2 (show (4 : Int) ≠ 0 by omega); omega⟩
      have hj4 : j < 4 := by have := Int.emod_lt_of_pos x.f2 (show (0 : Int) < 4 by omega); omega
      have HJ := Lib.hid hj
      have HJ4 := Lib.hid hj4
      have j0 : (0 : Int) ≤ (j : Int) := by omega
      have j1 : (j : Int) < 4 := by omega
      clear hj hj4
      go_upto_region 25 with fail
      clear s2 tk r5
      refine PrintLast.start_ (n := 8) (S := fun w' => w'.cell? ⟨w.heap.size, 2, none⟩ = some (.int .i64 x.f2)) (ds := [7]) #[false, false, false, false, false, false, false, false] (by kernel_rfl) rfl rfl (r2) (fun hHeld => ?_)
      refine PrintLast.pure_ (i := 1) (N := some 149) (v := ?_) (a' := ?_) #[false, true, false, false, false, false, false, false] rfl rfl (by kernel_rfl) (fun _ _ _ h => h) (Or.inl ⟨by rfl, ?_⟩) ?_ ?_
      rotate_left
      · intro w'
        go_simp
        with_reducible rfl
      rotate_left
      · simp only [Act.put, List.setIfInBounds_toArray, List.set_cons_zero, List.set_cons_succ]
        rfl
      refine PrintLast.take_ (i := 2) (N := some 150) (v := ?_) (a' := ?_) #[false, true, true, false, false, false, false, false] rfl rfl (by kernel_rfl) (fun _ _ _ h => h) (Or.inl ⟨by rfl, ?_⟩) hHeld ?_ ?_
      rotate_left
      · intro w' s0
        go_simp
        with_reducible rfl
      rotate_left
      · simp only [Act.put, List.setIfInBounds_toArray, List.set_cons_zero, List.set_cons_succ]
        rfl
      refine PrintLast.one_ (i := 0) (N := some 148) #[true, true, true, false, false, false, false, false] rfl rfl (by kernel_rfl) (by decide) (fun K hK => ?_)
      refine PrintLast.goes_ Try.func65 (by kernel_rfl) rfl #[] (by rfl) rfl rfl (by simp only [List.map_toArray, List.map_nil]) ?_
      with_reducible refine ((labels_call wc.drew)).mono ?_
      rintro e wx ⟨ad, cc, rfl, hnm, hbx⟩
      refine ⟨_, rfl, ?_⟩
      have HBx := Lib.hid (HBd.out.trans (hbx.mono HBd.out.size))
      clear hbx
      refine hK.out _ _ ((HBx.out.cell (p := ⟨w.heap.size, 2, none⟩) HLT.out).trans r2) (fun hHeld => ?_)
      clear hK K
      refine PrintLast.norm_ (a' := ?_) ?_ ?_
      rotate_left
      · show Act.put _ (some 148) _ = _
        simp only [Act.put, List.setIfInBounds_toArray, List.set_cons_zero, List.set_cons_succ]
        rfl
      refine PrintLast.one_ (i := 3) (N := some 151) #[true, true, true, true, false, false, false, false] rfl rfl (by kernel_rfl) (by decide) (fun K hK => ?_)
      refine PrintLast.goes_ Try.func51 (by kernel_rfl) rfl #[.int .i64 x.f2, .int .i64 4] (by rfl) rfl rfl (by simp only [List.map_toArray, List.map_cons, List.map_nil]; rfl) ?_
      with_reducible refine ((within51 x.f2 4 wx (by omega) (by omega))).mono ?_
      rintro e wy ⟨rfl, hby⟩
      refine ⟨_, rfl, ?_⟩
      rw [HJ.out]
      have HBy := Lib.hid (HBx.out.trans (hby.mono HBx.out.size))
      obtain ⟨sn, hsn, hcn⟩ := hnm j HJ4.out
      have hcy : wy.cell? (ad.add j) = some (.string sn) := (hby.cell (World.block_lt_of_cell? _ _ hcn)).trans hcn
      have HSn := Lib.hid hsn
      have hmy := HM.out.below HBy.out
      obtain ⟨-, y1, -, -, -, -⟩ := hmy.st
      obtain ⟨-, fz1, -, -, -, -⟩ := hmy.fz
      have HMy := Lib.hid hmy
      clear hby hnm hcn hmy hsn
      refine hK.out _ _ ((HBy.out.cell (p := ⟨w.heap.size, 2, none⟩) HLT.out).trans r2) (fun hHeld => ?_)
      clear hK K
      refine PrintLast.norm_ (a' := ?_) ?_ ?_
      rotate_left
      · show Act.put _ (some 151) _ = _
        simp only [Act.put, List.setIfInBounds_toArray, List.set_cons_zero, List.set_cons_succ]
        rfl
      refine PrintLast.pure_ (i := 4) (N := some 152) (v := ?_) (a' := ?_) #[true, true, true, true, true, false, false, false] rfl rfl (by kernel_rfl) (fun _ _ _ h => h) (Or.inl ⟨by rfl, ?_⟩) ?_ ?_
      rotate_left
      · intro w'
        go_simp
        with_reducible rfl
      rotate_left
      · simp only [Act.put, List.setIfInBounds_toArray, List.set_cons_zero, List.set_cons_succ]
        rfl
      refine PrintLast.one_ (i := 5) (N := some 153) #[true, true, true, true, true, true, false, false] rfl rfl (by kernel_rfl) (by decide) (fun K hK => ?_)
      refine PrintLast.value_ (w1 := ?_) (v := ?_) (by rfl) rfl ?_ ?_
      rotate_left 2
      · go_simp
        constructor
        · rfl
        · rfl
      refine hK.out _ _ ((HBy.out.cell (p := ⟨w.heap.size, 2, none⟩) HLT.out).trans r2) (fun hHeld => ?_)
      clear hK K
      refine PrintLast.norm_ (a' := ?_) ?_ ?_
      rotate_left
      · show Act.put _ (some 153) _ = _
        simp only [Act.put, List.setIfInBounds_toArray, List.set_cons_zero, List.set_cons_succ]
        rfl
      refine PrintLast.pure_ (i := 6) (N := some 154) (v := ?_) (a' := ?_) #[true, true, true, true, true, true, true, false] rfl rfl (by kernel_rfl) (fun _ _ _ h => h) (Or.inl ⟨by rfl, ?_⟩) ?_ ?_
      rotate_left
      · intro w'
        go_simp
        with_reducible rfl
      rotate_left
      · simp only [Act.put, List.setIfInBounds_toArray, List.set_cons_zero, List.set_cons_succ]
        rfl
      refine PrintLast.last_ (i := 7) (N := none) #[true, true, true, true, true, true, true, true] rfl rfl (by kernel_rfl) (by decide) (fun K hK => ?_)
      refine PrintLast.skip_ (w1 := ?_) (by rfl) rfl ?_ ?_
      rotate_left
      · go_simp
        rfl
      refine hK.out _ _ ?_
      clear hK K
      refine PrintLast.done_ (by kernel_rfl) ?_
      clear hHeld
      have hm := HMy.out.label sn
      have HLB := HSn
      generalize hP : wy.setCell ⟨w.heap.size + 2, 1, none⟩ (.string sn) = P at hm ⊢
      clear hP
      obtain ⟨A', c', rfl, -, -⟩ := hm.row.form
      have p1 := hm.q1
      have p2 := hm.q2
      unfold stC at p1 p2
      obtain ⟨a0, a1, a2, a3, a4, a5, -⟩ := box6 p2
      obtain ⟨y0, y1, y2, y3, y4, y5, fz⟩ := box6 p1
      have fz0 := fz 0
      have fz1 := fz 1
      have fz2 := fz 2
      have fz3 := fz 3
      have fz4 := fz 4
      have fz5 := fz 5
      obtain ⟨f1, f2, f3⟩ := put6_end 1 sn kd op tx p1 (Nat.le_succ _) hm.bel hm.row
      obtain ⟨z0, z1, z2, z3, z4, z5, -⟩ := box6 f1
      have HF2 := Lib.hid f2
      have HF3 := Lib.hid f3
      clear p1 p2 fz f1 f2 f3 hm
      go_wp2_with fail
      refine bodyPost_ret (v := .agg (stC 1 sn kd op tx (.slice A' xs.length c'))) (by simp only [put6S] at z0 z1 z2 z3 z4 z5; simp [results, Try.results53, go_sem, z0, z1, z2, z3, z4, z5, stC]) rfl ⟨sn, kd, op, tx, xs, _, rfl, ⟨HLB.out, HOK.out⟩, HF2.out, HF3.out⟩
end Go.Proofs.Ytifdkkkcecpjoaa
end
section
/-
  A raw statement, made.
-/
namespace Go.Proofs.Ytifdkkkcecpjoaa
set_option linter.unusedVariables false
set_option linter.unusedSimpArgs false
open Go.RowKit Go.Proofs.YtifdkkkcecpjoaaW Go.Proofs.YtifdkkkcecpjoaaW.PrintWords Tx
attribute [local go_sem ↓] Go.wp_at_zero Go.wp_at_succ
set_option maxRecDepth 100000 in
set_option maxHeartbeats 3200000 in
theorem make_d {x : S63} {A3 A4 : Option Addr} {c3 c4 : Nat} {w : World} (h : Lies w x A3 A4 c3 c4) (hkk : x.f0 % 16 = 12) :
    Calls Try.prog 53 #[sAgg x A3 A4 c3 c4] w (StE okL w) := by
  obtain ⟨W1, hW1⟩ : ∃ W1, W1 = (w.alloc (.cells (rawC x A3 A4 c3 c4) 63)).alloc (.cells (stC 0 ⟨#[]⟩ 0 0 ⟨#[]⟩ (.slice none 0 0)) 95) := ⟨_, rfl⟩
  have b1 : Below w.heap.size w W1 := by rw [hW1]; exact ((Below.refl _ _).alloc (Nat.le_refl _) _).alloc (by simp) _
  have g0 : W1.heap[w.heap.size]? = some (.cells (rawC x A3 A4 c3 c4) 63 (0, 0)) := by rw [hW1]; exact (Below.heap_alloc _ _ _ (by simp)).trans (heap_alloc_new w _)
  have g1 : W1.heap[w.heap.size + 1]? = some (.cells (stC 0 ⟨#[]⟩ 0 0 ⟨#[]⟩ (.slice none 0 0)) 95 (0, 0)) := by
    rw [hW1]
    have := heap_alloc_new (w.alloc (.cells (rawC x A3 A4 c3 c4) 63)) (.cells (stC 0 ⟨#[]⟩ 0 0 ⟨#[]⟩ (.slice none 0 0)) 95)
    simpa using this
  have g2 : W1.heap.size = w.heap.size + 2 := by rw [hW1]; simp
  obtain ⟨W2, hW2⟩ : ∃ W2, W2 = W1.alloc (.cells (stC 1 ⟨#[]⟩ 0 0 ⟨#[]⟩ (.slice none 0 0)) 95) := ⟨_, rfl⟩
  have hS : mkS x A3 A4 c3 c4 w W2 0 0 ⟨#[]⟩ [] (.slice none 0 0) := by
    refine ⟨HasA.nil _ _, by rw [hW2]; exact below_alloc b1 _, ?_, ?_, ?_⟩
    · rw [hW2]; exact (Below.heap_alloc _ _ _ (by omega)).trans g0
    · rw [hW2]; exact (Below.heap_alloc _ _ _ (by omega)).trans g1
    · rw [hW2, ← g2]; exact heap_alloc_new W1 _
  have HS := Lib.hid hS
  have HL := Lib.hid h
  have HW1 := Lib.hid hW1
  have HW2 := Lib.hid hW2
  have HR1 := Lib.hid g2
  obtain ⟨k0, -, -, -, -, -⟩ := hS.raw
  clear hS h hW1 hW2 g0 g1 g2 b1
  unfold rawC stC at HW1 HW2
  unfold sAgg
  go_enter Try.func53, Try.ntmps53
  go_upto_region 1 with fail
  rw [← HW1.out]
  go_upto_region 2 with fail
  rw [HR1.out, ← HW2.out]
  go_wp2_with fail
  refine (within51 x.f0 16 W2 (by omega) (by omega)).mono ?_
  rintro e W3 ⟨rfl, hb3⟩
  have HS3 := Lib.hid (HS.out.below hb3)
  have m0 := Int.emod_nonneg x.f0 (show (16 : Int) ≠ 0 by omega)
  have m1 := Int.emod_lt_of_pos x.f0 (show (0 : Int) < 16 by omega)
  have HKK := Lib.hid hkk
  clear hkk
  generalize x.f0 % 16 = k at *
  clear k0 hb3
  go_upto_block 0 with fail
  go_cut [] (fun wc => MkC x A3 A4 c3 c4 w wc)
  case first =>
    have hk : k = 12 := HKK.out
    have h12 : ¬ k < 12 := by omega
    have t12 : (k == 12) = true := by simp [hk]
    have HK := Lib.hid hk
    clear hk
    obtain ⟨j, hj⟩ : ∃ j : Nat, x.f1 % 5 = j := ⟨(x.f1 % 5).toNat, by have := Int.emod_nonneg x.f1 (show (5 : Int) ≠ 0 by omega); omega⟩
    have hj4 : j < 5 := by have := Int.emod_lt_of_pos x.f1 (show (0 : Int) < 5 by omega); omega
    have HJ := Lib.hid hj
    have j0 : (0 : Int) ≤ (j : Int) := by omega
    have j1 : (j : Int) < 5 := by omega
    have HVJ := Lib.hid (tab19_at j hj4)
    obtain ⟨v, hvj, hv0⟩ := HVJ.out
    have HMd0 := Lib.hid (HS3.out.below ((Below.refl W3.heap.size W3).drew))
    clear hj hj4 HVJ
    go_upto_region 19 with fail
    refine PrintLast.start_ (n := 10) (S := fun w' => w'.cell? ⟨w.heap.size, 1, none⟩ = some (.int .i64 x.f1)) (ds := []) #[false, false, false, false, false, false, false, false, false, false] (by kernel_rfl) rfl rfl ((HMd0.out).raw.2.1) (fun hHeld => ?_)
    generalize hz : W3.drew = WD at hHeld ⊢
    have HMd := Lib.hid (HMd0.out.to hz)
    clear hz
    refine PrintLast.pure_ (i := 1) (N := some 106) (v := ?_) (a' := ?_) #[false, true, false, false, false, false, false, false, false, false] rfl rfl (by kernel_rfl) (fun _ _ _ h => h) (Or.inl ⟨by rfl, ?_⟩) ?_ ?_
    rotate_left
    · intro w'
      go_simp
      with_reducible rfl
    rotate_left
    · simp only [Act.put, List.setIfInBounds_toArray, List.set_cons_zero, List.set_cons_succ]
      rfl
    refine PrintLast.pure_ (i := 6) (N := some 111) (v := ?_) (a' := ?_) #[false, true, false, false, false, false, true, false, false, false] rfl rfl (by kernel_rfl) (fun _ _ _ h => h) (Or.inl ⟨by rfl, ?_⟩) ?_ ?_
    rotate_left
    · intro w'
      go_simp
      with_reducible rfl
    rotate_left
    · simp only [Act.put, List.setIfInBounds_toArray, List.set_cons_zero, List.set_cons_succ]
      rfl
    refine PrintLast.take_ (i := 2) (N := some 107) (v := ?_) (a' := ?_) #[false, true, true, false, false, false, true, false, false, false] rfl rfl (by kernel_rfl) (fun _ _ _ h => h) (Or.inl ⟨by rfl, ?_⟩) hHeld ?_ ?_
    rotate_left
    · intro w' s0
      go_simp
      with_reducible rfl
    rotate_left
    · simp only [Act.put, List.setIfInBounds_toArray, List.set_cons_zero, List.set_cons_succ]
      rfl
    refine PrintLast.two_ (i := 0) (j := 3) (Ni := some 105) (Nj := some 108) #[true, true, true, false, false, false, true, false, false, false] #[false, true, true, true, false, false, true, false, false, false] rfl rfl rfl rfl (by kernel_rfl) (by decide) (by decide) (fun K hK => ?_) (fun K hK => ?_)
    · skip
      refine PrintLast.value_ (w1 := ?_) (v := ?_) (by rfl) rfl ?_ ?_
      rotate_left 2
      · go_simp
        constructor
        · rfl
        · rfl
      refine hK.out _ _ ((HMd.out.below (below_alloc (Below.refl _ _) _)).raw.2.1) (fun hHeld => ?_)
      clear hK K
      refine PrintLast.norm_ (a' := ?_) ?_ ?_
      rotate_left
      · show Act.put _ (some 105) _ = _
        simp only [Act.put, List.setIfInBounds_toArray, List.set_cons_zero, List.set_cons_succ]
        rfl
      generalize hz : World.alloc WD _ = za0 at hHeld ⊢
      have HMza0 := Lib.hid (HMd.out.al hz)
      have HAza0 : Hid (asS w za0 _ tab19 9) := Lib.hid (asS.new HMd.out hz)
      clear hz
      refine PrintLast.one_ (i := 3) (N := some 108) #[true, true, true, true, false, false, true, false, false, false] rfl rfl (by kernel_rfl) (by decide) (fun K hK => ?_)
      refine PrintLast.goes_ Try.func51 (by kernel_rfl) rfl #[.int .i64 x.f1, .int .i64 5] (by rfl) rfl rfl (by simp only [List.map_toArray, List.map_cons, List.map_nil]; rfl) ?_
      with_reducible refine ((within51 x.f1 5 za0 (by omega) (by omega))).mono ?_
      rintro e zc1 ⟨rfl, hbc⟩
      refine ⟨_, rfl, ?_⟩
      rw [HJ.out]
      have HMzc1 := Lib.hid (HMza0.out.below hbc)
      have HAzc1 := Lib.hid (HAza0.out.below hbc)
      clear hbc
      refine hK.out _ _ ((HMzc1.out).raw.2.1) (fun hHeld => ?_)
      clear hK K
      refine PrintLast.norm_ (a' := ?_) ?_ ?_
      rotate_left
      · show Act.put _ (some 108) _ = _
        simp only [Act.put, List.setIfInBounds_toArray, List.set_cons_zero, List.set_cons_succ]
        rfl
      replace hHeld := And.intro hHeld (HAzc1.out.at hvj)
      refine more_ (S' := fun w' => w'.cell? ⟨w.heap.size, 1, none⟩ = some (.int .i64 x.f1) ∧ w'.cell? ⟨WD.heap.size, j, none⟩ = some (.string v)) (fun _ h => h.1) hHeld ?_
      refine PrintLast.pure_ (i := 4) (N := some 109) (v := ?_) (a' := ?_) #[true, true, true, true, true, false, true, false, false, false] rfl rfl (by kernel_rfl) (fun _ _ _ h => h) (Or.inl ⟨by rfl, ?_⟩) ?_ ?_
      rotate_left
      · intro w'
        go_simp
        with_reducible rfl
      rotate_left
      · simp only [Act.put, List.setIfInBounds_toArray, List.set_cons_zero, List.set_cons_succ]
        rfl
      refine PrintLast.take_ (i := 5) (N := some 110) (v := ?_) (a' := ?_) #[true, true, true, true, true, true, true, false, false, false] rfl rfl (by kernel_rfl) (fun _ _ _ h => h) (Or.inl ⟨by rfl, ?_⟩) hHeld ?_ ?_
      rotate_left
      · rintro w' ⟨s0, s1⟩
        go_simp
        with_reducible rfl
      rotate_left
      · simp only [Act.put, List.setIfInBounds_toArray, List.set_cons_zero, List.set_cons_succ]
        rfl
      refine PrintLast.one_ (i := 7) (N := none) #[true, true, true, true, true, true, true, true, false, false] rfl rfl (by kernel_rfl) (by decide) (fun K hK => ?_)
      have y2 := HMzc1.out.st.2.2.1
      have fz2 := HMzc1.out.fz.2.2.1
      refine PrintLast.skip_ (w1 := ?_) (by rfl) rfl ?_ ?_
      rotate_left
      · go_simp
        rfl
      refine hK.out _ _ ⟨(HMzc1.out.kind _).raw.2.1, ((HAzc1.out.set rfl).at hvj)⟩ (fun hHeld => ?_)
      clear hK K
      clear y2 fz2
      generalize hz : World.setCell zc1 _ _ = zs2_2 at hHeld ⊢
      have HMzs2_2 := Lib.hid (HMzc1.out.kind' hz)
      have HAzs2_2 := Lib.hid (HAzc1.out.set hz)
      clear hz
      refine PrintLast.pure_ (i := 8) (N := some 112) (v := ?_) (a' := ?_) #[true, true, true, true, true, true, true, true, true, false] rfl rfl (by kernel_rfl) (fun _ _ _ h => h) (Or.inl ⟨by rfl, ?_⟩) ?_ ?_
      rotate_left
      · intro w'
        go_simp
        with_reducible rfl
      rotate_left
      · simp only [Act.put, List.setIfInBounds_toArray, List.set_cons_zero, List.set_cons_succ]
        rfl
      refine PrintLast.one_ (i := 9) (N := none) #[true, true, true, true, true, true, true, true, true, true] rfl rfl (by kernel_rfl) (by decide) (fun K hK => ?_)
      have y4 := HMzs2_2.out.st.2.2.2.2.1
      have fz4 := HMzs2_2.out.fz.2.2.2.2.1
      refine PrintLast.skip_ (w1 := ?_) (by rfl) rfl ?_ ?_
      rotate_left
      · go_simp
        rfl
      refine hK.out _ _ ⟨(HMzs2_2.out.text _).raw.2.1, ((HAzs2_2.out.set rfl).at hvj)⟩ (fun hHeld => ?_)
      clear hK K
      clear y4 fz4
      generalize hz : World.setCell zs2_2 _ _ = zs4_3 at hHeld ⊢
      have HMzs4_3 := Lib.hid (HMzs2_2.out.text' hz)
      have HAzs4_3 := Lib.hid (HAzs2_2.out.set hz)
      clear hz
      refine PrintLast.done_ (by kernel_rfl) ?_
      clear hHeld
      go_wp2_with fail
      go_meet
      case rel => exact ⟨_, _, _, _, _, ⟨by omega, by omega, fun h => absurd h (by omega), fun h => absurd h (by omega), hv0, Nat.zero_le _⟩, HMzs4_3.out⟩
    · skip
      refine PrintLast.goes_ Try.func51 (by kernel_rfl) rfl #[.int .i64 x.f1, .int .i64 5] (by rfl) rfl rfl (by simp only [List.map_toArray, List.map_cons, List.map_nil]; rfl) ?_
      with_reducible refine ((within51 x.f1 5 WD (by omega) (by omega))).mono ?_
      rintro e zc0 ⟨rfl, hbc⟩
      refine ⟨_, rfl, ?_⟩
      rw [HJ.out]
      have HMzc0 := Lib.hid (HMd.out.below hbc)
      clear hbc
      refine hK.out _ _ ((HMzc0.out).raw.2.1) (fun hHeld => ?_)
      clear hK K
      refine PrintLast.norm_ (a' := ?_) ?_ ?_
      rotate_left
      · show Act.put _ (some 108) _ = _
        simp only [Act.put, List.setIfInBounds_toArray, List.set_cons_zero, List.set_cons_succ]
        rfl
      refine PrintLast.two_ (i := 0) (j := 7) (Ni := some 105) (Nj := none) #[true, true, true, true, false, false, true, false, false, false] #[false, true, true, true, false, false, true, true, false, false] rfl rfl rfl rfl (by kernel_rfl) (by decide) (by decide) (fun K hK => ?_) (fun K hK => ?_)
      · skip
        refine PrintLast.value_ (w1 := ?_) (v := ?_) (by rfl) rfl ?_ ?_
        rotate_left 2
        · go_simp
          constructor
          · rfl
          · rfl
        refine hK.out _ _ ((HMzc0.out.below (below_alloc (Below.refl _ _) _)).raw.2.1) (fun hHeld => ?_)
        clear hK K
        refine PrintLast.norm_ (a' := ?_) ?_ ?_
        rotate_left
        · show Act.put _ (some 105) _ = _
          simp only [Act.put, List.setIfInBounds_toArray, List.set_cons_zero, List.set_cons_succ]
          rfl
        generalize hz : World.alloc zc0 _ = za1 at hHeld ⊢
        have HMza1 := Lib.hid (HMzc0.out.al hz)
        have HAza1 : Hid (asS w za1 _ tab19 9) := Lib.hid (asS.new HMzc0.out hz)
        clear hz
        replace hHeld := And.intro hHeld (HAza1.out.at hvj)
        refine more_ (S' := fun w' => w'.cell? ⟨w.heap.size, 1, none⟩ = some (.int .i64 x.f1) ∧ w'.cell? ⟨zc0.heap.size, j, none⟩ = some (.string v)) (fun _ h => h.1) hHeld ?_
        refine PrintLast.pure_ (i := 4) (N := some 109) (v := ?_) (a' := ?_) #[true, true, true, true, true, false, true, false, false, false] rfl rfl (by kernel_rfl) (fun _ _ _ h => h) (Or.inl ⟨by rfl, ?_⟩) ?_ ?_
        rotate_left
        · intro w'
          go_simp
          with_reducible rfl
        rotate_left
        · simp only [Act.put, List.setIfInBounds_toArray, List.set_cons_zero, List.set_cons_succ]
          rfl
        refine PrintLast.take_ (i := 5) (N := some 110) (v := ?_) (a' := ?_) #[true, true, true, true, true, true, true, false, false, false] rfl rfl (by kernel_rfl) (fun _ _ _ h => h) (Or.inl ⟨by rfl, ?_⟩) hHeld ?_ ?_
        rotate_left
        · rintro w' ⟨s0, s1⟩
          go_simp
          with_reducible rfl
        rotate_left
        · simp only [Act.put, List.setIfInBounds_toArray, List.set_cons_zero, List.set_cons_succ]
          rfl
        refine PrintLast.one_ (i := 7) (N := none) #[true, true, true, true, true, true, true, true, false, false] rfl rfl (by kernel_rfl) (by decide) (fun K hK => ?_)
        have y2 := HMza1.out.st.2.2.1
        have fz2 := HMza1.out.fz.2.2.1
        refine PrintLast.skip_ (w1 := ?_) (by rfl) rfl ?_ ?_
        rotate_left
        · go_simp
          rfl
        refine hK.out _ _ ⟨(HMza1.out.kind _).raw.2.1, ((HAza1.out.set rfl).at hvj)⟩ (fun hHeld => ?_)
        clear hK K
        clear y2 fz2
        generalize hz : World.setCell za1 _ _ = zs2_2 at hHeld ⊢
        have HMzs2_2 := Lib.hid (HMza1.out.kind' hz)
        have HAzs2_2 := Lib.hid (HAza1.out.set hz)
        clear hz
        refine PrintLast.pure_ (i := 8) (N := some 112) (v := ?_) (a' := ?_) #[true, true, true, true, true, true, true, true, true, false] rfl rfl (by kernel_rfl) (fun _ _ _ h => h) (Or.inl ⟨by rfl, ?_⟩) ?_ ?_
        rotate_left
        · intro w'
          go_simp
          with_reducible rfl
        rotate_left
        · simp only [Act.put, List.setIfInBounds_toArray, List.set_cons_zero, List.set_cons_succ]
          rfl
        refine PrintLast.one_ (i := 9) (N := none) #[true, true, true, true, true, true, true, true, true, true] rfl rfl (by kernel_rfl) (by decide) (fun K hK => ?_)
        have y4 := HMzs2_2.out.st.2.2.2.2.1
        have fz4 := HMzs2_2.out.fz.2.2.2.2.1
        refine PrintLast.skip_ (w1 := ?_) (by rfl) rfl ?_ ?_
        rotate_left
        · go_simp
          rfl
        refine hK.out _ _ ⟨(HMzs2_2.out.text _).raw.2.1, ((HAzs2_2.out.set rfl).at hvj)⟩ (fun hHeld => ?_)
        clear hK K
        clear y4 fz4
        generalize hz : World.setCell zs2_2 _ _ = zs4_3 at hHeld ⊢
        have HMzs4_3 := Lib.hid (HMzs2_2.out.text' hz)
        have HAzs4_3 := Lib.hid (HAzs2_2.out.set hz)
        clear hz
        refine PrintLast.done_ (by kernel_rfl) ?_
        clear hHeld
        go_wp2_with fail
        go_meet
        case rel => exact ⟨_, _, _, _, _, ⟨by omega, by omega, fun h => absurd h (by omega), fun h => absurd h (by omega), hv0, Nat.zero_le _⟩, HMzs4_3.out⟩
      · skip
        have y2 := HMzc0.out.st.2.2.1
        have fz2 := HMzc0.out.fz.2.2.1
        refine PrintLast.skip_ (w1 := ?_) (by rfl) rfl ?_ ?_
        rotate_left
        · go_simp
          rfl
        refine hK.out _ _ ((HMzc0.out.kind _).raw.2.1) (fun hHeld => ?_)
        clear hK K
        clear y2 fz2
        generalize hz : World.setCell zc0 _ _ = zs2_1 at hHeld ⊢
        have HMzs2_1 := Lib.hid (HMzc0.out.kind' hz)
        clear hz
        refine PrintLast.one_ (i := 0) (N := some 105) #[true, true, true, true, false, false, true, true, false, false] rfl rfl (by kernel_rfl) (by decide) (fun K hK => ?_)
        refine PrintLast.value_ (w1 := ?_) (v := ?_) (by rfl) rfl ?_ ?_
        rotate_left 2
        · go_simp
          constructor
          · rfl
          · rfl
        refine hK.out _ _ ((HMzs2_1.out.below (below_alloc (Below.refl _ _) _)).raw.2.1) (fun hHeld => ?_)
        clear hK K
        refine PrintLast.norm_ (a' := ?_) ?_ ?_
        rotate_left
        · show Act.put _ (some 105) _ = _
          simp only [Act.put, List.setIfInBounds_toArray, List.set_cons_zero, List.set_cons_succ]
          rfl
        generalize hz : World.alloc zs2_1 _ = za2 at hHeld ⊢
        have HMza2 := Lib.hid (HMzs2_1.out.al hz)
        have HAza2 : Hid (asS w za2 _ tab19 9) := Lib.hid (asS.new HMzs2_1.out hz)
        clear hz
        replace hHeld := And.intro hHeld (HAza2.out.at hvj)
        refine more_ (S' := fun w' => w'.cell? ⟨w.heap.size, 1, none⟩ = some (.int .i64 x.f1) ∧ w'.cell? ⟨zs2_1.heap.size, j, none⟩ = some (.string v)) (fun _ h => h.1) hHeld ?_
        refine PrintLast.pure_ (i := 4) (N := some 109) (v := ?_) (a' := ?_) #[true, true, true, true, true, false, true, true, false, false] rfl rfl (by kernel_rfl) (fun _ _ _ h => h) (Or.inl ⟨by rfl, ?_⟩) ?_ ?_
        rotate_left
        · intro w'
          go_simp
          with_reducible rfl
        rotate_left
        · simp only [Act.put, List.setIfInBounds_toArray, List.set_cons_zero, List.set_cons_succ]
          rfl
        refine PrintLast.take_ (i := 5) (N := some 110) (v := ?_) (a' := ?_) #[true, true, true, true, true, true, true, true, false, false] rfl rfl (by kernel_rfl) (fun _ _ _ h => h) (Or.inl ⟨by rfl, ?_⟩) hHeld ?_ ?_
        rotate_left
        · rintro w' ⟨s0, s1⟩
          go_simp
          with_reducible rfl
        rotate_left
        · simp only [Act.put, List.setIfInBounds_toArray, List.set_cons_zero, List.set_cons_succ]
          rfl
        refine PrintLast.pure_ (i := 8) (N := some 112) (v := ?_) (a' := ?_) #[true, true, true, true, true, true, true, true, true, false] rfl rfl (by kernel_rfl) (fun _ _ _ h => h) (Or.inl ⟨by rfl, ?_⟩) ?_ ?_
        rotate_left
        · intro w'
          go_simp
          with_reducible rfl
        rotate_left
        · simp only [Act.put, List.setIfInBounds_toArray, List.set_cons_zero, List.set_cons_succ]
          rfl
        refine PrintLast.one_ (i := 9) (N := none) #[true, true, true, true, true, true, true, true, true, true] rfl rfl (by kernel_rfl) (by decide) (fun K hK => ?_)
        have y4 := HMza2.out.st.2.2.2.2.1
        have fz4 := HMza2.out.fz.2.2.2.2.1
        refine PrintLast.skip_ (w1 := ?_) (by rfl) rfl ?_ ?_
        rotate_left
        · go_simp
          rfl
        refine hK.out _ _ ⟨(HMza2.out.text _).raw.2.1, ((HAza2.out.set rfl).at hvj)⟩ (fun hHeld => ?_)
        clear hK K
        clear y4 fz4
        generalize hz : World.setCell za2 _ _ = zs4_3 at hHeld ⊢
        have HMzs4_3 := Lib.hid (HMza2.out.text' hz)
        have HAzs4_3 := Lib.hid (HAza2.out.set hz)
        clear hz
        refine PrintLast.done_ (by kernel_rfl) ?_
        clear hHeld
        go_wp2_with fail
        go_meet
        case rel => exact ⟨_, _, _, _, _, ⟨by omega, by omega, fun h => absurd h (by omega), fun h => absurd h (by omega), hv0, Nat.zero_le _⟩, HMzs4_3.out⟩
  case rest =>
    obtain ⟨kd, op, tx, xs, u, hok, hm⟩ := hcut
    have tk : (kd == 0) = false := by have := hok.1; simp; omega
    obtain ⟨-, -, r2, -, -, r5⟩ := hm.raw
    obtain ⟨-, -, s2, -, -, -⟩ := hm.st
    have HM := Lib.hid hm
    have HOK := Lib.hid hok
    clear hok m0 m1 HKK HS HS3 HW1 HW2 HR1 HL hm
    cases h5 : x.f5 with
    | false =>
      rw [h5] at r5
      clear h5 r2
      go_upto_region 26 with fail
      clear s2 tk r5
      have hm := HM.out.bare
      have HLB := Lib.hid (show (ByteArray.mk #[]).size ≤ 6 from Nat.zero_le _)
      obtain ⟨A', c', rfl, -, -⟩ := hm.row.form
      have p1 := hm.q1
      have p2 := hm.q2
      unfold stC at p1 p2
      obtain ⟨a0, a1, a2, a3, a4, a5, -⟩ := box6 p2
      obtain ⟨y0, y1, y2, y3, y4, y5, fz⟩ := box6 p1
      have fz0 := fz 0
      have fz1 := fz 1
      have fz2 := fz 2
      have fz3 := fz 3
      have fz4 := fz 4
      have fz5 := fz 5
      obtain ⟨f1, f2, f3⟩ := put6_end 1 ⟨#[]⟩ kd op tx p1 (Nat.le_succ _) hm.bel hm.row
      obtain ⟨z0, z1, z2, z3, z4, z5, -⟩ := box6 f1
      have HF2 := Lib.hid f2
      have HF3 := Lib.hid f3
      clear p1 p2 fz f1 f2 f3 hm
      go_wp2_with fail
      refine bodyPost_ret (v := .agg (stC 1 ⟨#[]⟩ kd op tx (.slice A' xs.length c'))) (by simp only [put6S] at z0 z1 z2 z3 z4 z5; simp [results, Try.results53, go_sem, z0, z1, z2, z3, z4, z5, stC]) rfl ⟨⟨#[]⟩, kd, op, tx, xs, _, rfl, ⟨HLB.out, HOK.out⟩, HF2.out, HF3.out⟩
    | true =>
      rw [h5] at r5
      clear h5
      have HLT := Lib.hid (show w.heap.size < wc.heap.size from Nat.lt_trans (Nat.lt_add_of_pos_right (by decide)) HM.out.lt)
      have HBd := Lib.hid ((Below.refl wc.heap.size wc).drew)
      obtain ⟨j, hj⟩ : ∃ j : Nat, x.f2 % 4 = j := ⟨(x.f2 % 4).toNat, by have := Int.emod_nonneg x.f2 (show (4 : Int) ≠ 0 by omega); omega⟩
      have hj4 : j < 4 := by have := Int.emod_lt_of_pos x.f2 (show (0 : Int) < 4 by omega); omega
      have HJ := Lib.hid hj
      have HJ4 := Lib.hid hj4
      have j0 : (0 : Int) ≤ (j : Int) := by omega
      have j1 : (j : Int) < 4 := by omega
      clear hj hj4
      go_upto_region 25 with fail
      clear s2 tk r5
      refine PrintLast.start_ (n := 8) (S := fun w' => w'.cell? ⟨w.heap.size, 2, none⟩ = some (.int .i64 x.f2)) (ds := [7]) #[false, false, false, false, false, false, false, false] (by kernel_rfl) rfl rfl (r2) (fun hHeld => ?_)
      refine PrintLast.pure_ (i := 1) (N := some 149) (v := ?_) (a' := ?_) #[false, true, false, false, false, false, false, false] rfl rfl (by kernel_rfl) (fun _ _ _ h => h) (Or.inl ⟨by rfl, ?_⟩) ?_ ?_
      rotate_left
      · intro w'
        go_simp
        with_reducible rfl
      rotate_left
      · simp only [Act.put, List.setIfInBounds_toArray, List.set_cons_zero, List.set_cons_succ]
        rfl
      refine PrintLast.take_ (i := 2) (N := some 150) (v := ?_) (a' := ?_) #[false, true, true, false, false, false, false, false] rfl rfl (by kernel_rfl) (fun _ _ _ h => h) (Or.inl ⟨by rfl, ?_⟩) hHeld ?_ ?_
      rotate_left
      · intro w' s0
        go_simp
        with_reducible rfl
      rotate_left
      · simp only [Act.put, List.setIfInBounds_toArray, List.set_cons_zero, List.set_cons_succ]
        rfl
      refine PrintLast.one_ (i := 0) (N := some 148) #[true, true, true, false, false, false, false, false] rfl rfl (by kernel_rfl) (by decide) (fun K hK => ?_)
      refine PrintLast.goes_ Try.func65 (by kernel_rfl) rfl #[] (by rfl) rfl rfl (by simp only [List.map_toArray, List.map_nil]) ?_
      with_reducible refine ((labels_call wc.drew)).mono ?_
      rintro e wx ⟨ad, cc, rfl, hnm, hbx⟩
      refine ⟨_, rfl, ?_⟩
      have HBx := Lib.hid (HBd.out.trans (hbx.mono HBd.out.size))
      clear hbx
      refine hK.out _ _ ((HBx.out.cell (p := ⟨w.heap.size, 2, none⟩) HLT.out).trans r2) (fun hHeld => ?_)
      clear hK K
      refine PrintLast.norm_ (a' := ?_) ?_ ?_
      rotate_left
      · show Act.put _ (some 148) _ = _
        simp only [Act.put, List.setIfInBounds_toArray, List.set_cons_zero, List.set_cons_succ]
        rfl
      refine PrintLast.one_ (i := 3) (N := some 151) #[true, true, true, true, false, false, false, false] rfl rfl (by kernel_rfl) (by decide) (fun K hK => ?_)
      refine PrintLast.goes_ Try.func51 (by kernel_rfl) rfl #[.int .i64 x.f2, .int .i64 4] (by rfl) rfl rfl (by simp only [List.map_toArray, List.map_cons, List.map_nil]; rfl) ?_
      with_reducible refine ((within51 x.f2 4 wx (by omega) (by omega))).mono ?_
      rintro e wy ⟨rfl, hby⟩
      refine ⟨_, rfl, ?_⟩
      rw [HJ.out]
      have HBy := Lib.hid (HBx.out.trans (hby.mono HBx.out.size))
      obtain ⟨sn, hsn, hcn⟩ := hnm j HJ4.out
      have hcy : wy.cell? (ad.add j) = some (.string sn) := (hby.cell (World.block_lt_of_cell? _ _ hcn)).trans hcn
      have HSn := Lib.hid hsn
      have hmy := HM.out.below HBy.out
      obtain ⟨-, y1, -, -, -, -⟩ := hmy.st
      obtain ⟨-, fz1, -, -, -, -⟩ := hmy.fz
      have HMy := Lib.hid hmy
      clear hby hnm hcn hmy hsn
      refine hK.out _ _ ((HBy.out.cell (p := ⟨w.heap.size, 2, none⟩) HLT.out).trans r2) (fun hHeld => ?_)
      clear hK K
      refine PrintLast.norm_ (a' := ?_) ?_ ?_
      rotate_left
      · show Act.put _ (some 151) _ = _
        simp only [Act.put, List.setIfInBounds_toArray, List.set_cons_zero, List.set_cons_succ]
        rfl
      refine PrintLast.pure_ (i := 4) (N := some 152) (v := ?_) (a' := ?_) #[true, true, true, true, true, false, false, false] rfl rfl (by kernel_rfl) (fun _ _ _ h => h) (Or.inl ⟨by rfl, ?_⟩) ?_ ?_
      rotate_left
      · intro w'
        go_simp
        with_reducible rfl
      rotate_left
      · simp only [Act.put, List.setIfInBounds_toArray, List.set_cons_zero, List.set_cons_succ]
        rfl
      refine PrintLast.one_ (i := 5) (N := some 153) #[true, true, true, true, true, true, false, false] rfl rfl (by kernel_rfl) (by decide) (fun K hK => ?_)
      refine PrintLast.value_ (w1 := ?_) (v := ?_) (by rfl) rfl ?_ ?_
      rotate_left 2
      · go_simp
        constructor
        · rfl
        · rfl
      refine hK.out _ _ ((HBy.out.cell (p := ⟨w.heap.size, 2, none⟩) HLT.out).trans r2) (fun hHeld => ?_)
      clear hK K
      refine PrintLast.norm_ (a' := ?_) ?_ ?_
      rotate_left
      · show Act.put _ (some 153) _ = _
        simp only [Act.put, List.setIfInBounds_toArray, List.set_cons_zero, List.set_cons_succ]
        rfl
      refine PrintLast.pure_ (i := 6) (N := some 154) (v := ?_) (a' := ?_) #[true, true, true, true, true, true, true, false] rfl rfl (by kernel_rfl) (fun _ _ _ h => h) (Or.inl ⟨by rfl, ?_⟩) ?_ ?_
      rotate_left
      · intro w'
        go_simp
        with_reducible rfl
      rotate_left
      · simp only [Act.put, List.setIfInBounds_toArray, List.set_cons_zero, List.set_cons_succ]
        rfl
      refine PrintLast.last_ (i := 7) (N := none) #[true, true, true, true, true, true, true, true] rfl rfl (by kernel_rfl) (by decide) (fun K hK => ?_)
      refine PrintLast.skip_ (w1 := ?_) (by rfl) rfl ?_ ?_
      rotate_left
      · go_simp
        rfl
      refine hK.out _ _ ?_
      clear hK K
      refine PrintLast.done_ (by kernel_rfl) ?_
      clear hHeld
      have hm := HMy.out.label sn
      have HLB := HSn
      generalize hP : wy.setCell ⟨w.heap.size + 2, 1, none⟩ (.string sn) = P at hm ⊢
      clear hP
      obtain ⟨A', c', rfl, -, -⟩ := hm.row.form
      have p1 := hm.q1
      have p2 := hm.q2
      unfold stC at p1 p2
      obtain ⟨a0, a1, a2, a3, a4, a5, -⟩ := box6 p2
      obtain ⟨y0, y1, y2, y3, y4, y5, fz⟩ := box6 p1
      have fz0 := fz 0
      have fz1 := fz 1
      have fz2 := fz 2
      have fz3 := fz 3
      have fz4 := fz 4
      have fz5 := fz 5
      obtain ⟨f1, f2, f3⟩ := put6_end 1 sn kd op tx p1 (Nat.le_succ _) hm.bel hm.row
      obtain ⟨z0, z1, z2, z3, z4, z5, -⟩ := box6 f1
      have HF2 := Lib.hid f2
      have HF3 := Lib.hid f3
      clear p1 p2 fz f1 f2 f3 hm
      go_wp2_with fail
      refine bodyPost_ret (v := .agg (stC 1 sn kd op tx (.slice A' xs.length c'))) (by simp only [put6S] at z0 z1 z2 z3 z4 z5; simp [results, Try.results53, go_sem, z0, z1, z2, z3, z4, z5, stC]) rfl ⟨sn, kd, op, tx, xs, _, rfl, ⟨HLB.out, HOK.out⟩, HF2.out, HF3.out⟩
end Go.Proofs.Ytifdkkkcecpjoaa
end
section
/-
  A raw statement, made.
-/
namespace Go.Proofs.Ytifdkkkcecpjoaa
set_option linter.unusedVariables false
set_option linter.unusedSimpArgs false
open Go.RowKit Go.Proofs.YtifdkkkcecpjoaaW Go.Proofs.YtifdkkkcecpjoaaW.PrintWords Tx
attribute [local go_sem ↓] Go.wp_at_zero Go.wp_at_succ
set_option maxRecDepth 100000 in
set_option maxHeartbeats 3200000 in
theorem make_e {x : S63} {A3 A4 : Option Addr} {c3 c4 : Nat} {w : World} (h : Lies w x A3 A4 c3 c4) (hkk : x.f0 % 16 = 13) :
    Calls Try.prog 53 #[sAgg x A3 A4 c3 c4] w (StE okL w) := by
  obtain ⟨W1, hW1⟩ : ∃ W1, W1 = (w.alloc (.cells (rawC x A3 A4 c3 c4) 63)).alloc (.cells (stC 0 ⟨#[]⟩ 0 0 ⟨#[]⟩ (.slice none 0 0)) 95) := ⟨_, rfl⟩
  have b1 : Below w.heap.size w W1 := by rw [hW1]; exact ((Below.refl _ _).alloc (Nat.le_refl _) _).alloc (by simp) _
  have g0 : W1.heap[w.heap.size]? = some (.cells (rawC x A3 A4 c3 c4) 63 (0, 0)) := by rw [hW1]; exact (Below.heap_alloc _ _ _ (by simp)).trans (heap_alloc_new w _)
  have g1 : W1.heap[w.heap.size + 1]? = some (.cells (stC 0 ⟨#[]⟩ 0 0 ⟨#[]⟩ (.slice none 0 0)) 95 (0, 0)) := by
    rw [hW1]
    have := heap_alloc_new (w.alloc (.cells (rawC x A3 A4 c3 c4) 63)) (.cells (stC 0 ⟨#[]⟩ 0 0 ⟨#[]⟩ (.slice none 0 0)) 95)
    simpa using this
  have g2 : W1.heap.size = w.heap.size + 2 := by rw [hW1]; simp
  obtain ⟨W2, hW2⟩ : ∃ W2, W2 = W1.alloc (.cells (stC 1 ⟨#[]⟩ 0 0 ⟨#[]⟩ (.slice none 0 0)) 95) := ⟨_, rfl⟩
  have hS : mkS x A3 A4 c3 c4 w W2 0 0 ⟨#[]⟩ [] (.slice none 0 0) := by
    refine ⟨HasA.nil _ _, by rw [hW2]; exact below_alloc b1 _, ?_, ?_, ?_⟩
    · rw [hW2]; exact (Below.heap_alloc _ _ _ (by omega)).trans g0
    · rw [hW2]; exact (Below.heap_alloc _ _ _ (by omega)).trans g1
    · rw [hW2, ← g2]; exact heap_alloc_new W1 _
  have HS := Lib.hid hS
  have HL := Lib.hid h
  have HW1 := Lib.hid hW1
  have HW2 := Lib.hid hW2
  have HR1 := Lib.hid g2
  obtain ⟨k0, -, -, -, -, -⟩ := hS.raw
  clear hS h hW1 hW2 g0 g1 g2 b1
  unfold rawC stC at HW1 HW2
  unfold sAgg
  go_enter Try.func53, Try.ntmps53
  go_upto_region 1 with fail
  rw [← HW1.out]
  go_upto_region 2 with fail
  rw [HR1.out, ← HW2.out]
  go_wp2_with fail
  refine (within51 x.f0 16 W2 (by omega) (by omega)).mono ?_
  rintro e W3 ⟨rfl, hb3⟩
  have HS3 := Lib.hid (HS.out.below hb3)
  have m0 := Int.emod_nonneg x.f0 (show (16 : Int) ≠ 0 by omega)
  have m1 := Int.emod_lt_of_pos x.f0 (show (0 : Int) < 16 by omega)
  have HKK := Lib.hid hkk
  clear hkk
  generalize x.f0 % 16 = k at *
  clear k0 hb3
  go_upto_block 0 with fail
  go_cut [] (fun wc => MkC x A3 A4 c3 c4 w wc)
  case first =>
    have hk : k = 13 := HKK.out
    have h12 : ¬ k < 12 := by omega
    have t12 : (k == 12) = false := by simp [hk]
    have t13 : (k == 13) = true := by simp [hk]
    have HK := Lib.hid hk
    clear hk
    obtain ⟨j, hj⟩ : ∃ j : Nat, x.f1 % 6 = j := ⟨(x.f1 % 6).toNat, by have := Int.emod_nonneg x.f1 (show (6 : Int) ≠ 0 by omega); omega⟩
    have hj4 : j < 6 := by have := Int.emod_lt_of_pos x.f1 (show (0 : Int) < 6 by omega); omega
    have HJ := Lib.hid hj
    have j0 : (0 : Int) ≤ (j : Int) := by omega
    have j1 : (j : Int) < 6 := by omega
    have HVJ := Lib.hid (tab21_at j hj4)
    obtain ⟨v, hvj, hv0, hv1⟩ := HVJ.out
    have HMd0 := Lib.hid (HS3.out.below ((Below.refl W3.heap.size W3).drew))
    clear hj hj4 HVJ
    go_upto_region 21 with fail
    refine PrintLast.start_ (n := 13) (S := fun w' => w'.cell? ⟨w.heap.size, 1, none⟩ = some (.int .i64 x.f1)) (ds := []) #[false, false, false, false, false, false, false, false, false, false, false, false, false] (by kernel_rfl) rfl rfl ((HMd0.out).raw.2.1) (fun hHeld => ?_)
    generalize hz : W3.drew = WD at hHeld ⊢
    have HMd := Lib.hid (HMd0.out.to hz)
    clear hz
    refine PrintLast.pure_ (i := 1) (N := some 117) (v := ?_) (a' := ?_) #[false, true, false, false, false, false, false, false, false, false, false, false, false] rfl rfl (by kernel_rfl) (fun _ _ _ h => h) (Or.inl ⟨by rfl, ?_⟩) ?_ ?_
    rotate_left
    · intro w'
      go_simp
      with_reducible rfl
    rotate_left
    · simp only [Act.put, List.setIfInBounds_toArray, List.set_cons_zero, List.set_cons_succ]
      rfl
    refine PrintLast.pure_ (i := 9) (N := some 125) (v := ?_) (a' := ?_) #[false, true, false, false, false, false, false, false, false, true, false, false, false] rfl rfl (by kernel_rfl) (fun _ _ _ h => h) (Or.inl ⟨by rfl, ?_⟩) ?_ ?_
    rotate_left
    · intro w'
      go_simp
      with_reducible rfl
    rotate_left
    · simp only [Act.put, List.setIfInBounds_toArray, List.set_cons_zero, List.set_cons_succ]
      rfl
    refine PrintLast.take_ (i := 2) (N := some 118) (v := ?_) (a' := ?_) #[false, true, true, false, false, false, false, false, false, true, false, false, false] rfl rfl (by kernel_rfl) (fun _ _ _ h => h) (Or.inl ⟨by rfl, ?_⟩) hHeld ?_ ?_
    rotate_left
    · intro w' s0
      go_simp
      with_reducible rfl
    rotate_left
    · simp only [Act.put, List.setIfInBounds_toArray, List.set_cons_zero, List.set_cons_succ]
      rfl
    refine PrintLast.two_ (i := 0) (j := 3) (Ni := some 116) (Nj := some 119) #[true, true, true, false, false, false, false, false, false, true, false, false, false] #[false, true, true, true, false, false, false, false, false, true, false, false, false] rfl rfl rfl rfl (by kernel_rfl) (by decide) (by decide) (fun K hK => ?_) (fun K hK => ?_)
    · skip
      refine PrintLast.value_ (w1 := ?_) (v := ?_) (by rfl) rfl ?_ ?_
      rotate_left 2
      · go_simp
        constructor
        · rfl
        · rfl
      refine hK.out _ _ ((HMd.out.below (below_alloc (Below.refl _ _) _)).raw.2.1) (fun hHeld => ?_)
      clear hK K
      refine PrintLast.norm_ (a' := ?_) ?_ ?_
      rotate_left
      · show Act.put _ (some 116) _ = _
        simp only [Act.put, List.setIfInBounds_toArray, List.set_cons_zero, List.set_cons_succ]
        rfl
      generalize hz : World.alloc WD _ = za0 at hHeld ⊢
      have HMza0 := Lib.hid (HMd.out.al hz)
      have HAza0 : Hid (asS w za0 _ tab21 3) := Lib.hid (asS.new HMd.out hz)
      clear hz
      refine PrintLast.one_ (i := 3) (N := some 119) #[true, true, true, true, false, false, false, false, false, true, false, false, false] rfl rfl (by kernel_rfl) (by decide) (fun K hK => ?_)
      refine PrintLast.goes_ Try.func51 (by kernel_rfl) rfl #[.int .i64 x.f1, .int .i64 6] (by rfl) rfl rfl (by simp only [List.map_toArray, List.map_cons, List.map_nil]; rfl) ?_
      with_reducible refine ((within51 x.f1 6 za0 (by omega) (by omega))).mono ?_
      rintro e zc1 ⟨rfl, hbc⟩
      refine ⟨_, rfl, ?_⟩
      rw [HJ.out]
      have HMzc1 := Lib.hid (HMza0.out.below hbc)
      have HAzc1 := Lib.hid (HAza0.out.below hbc)
      clear hbc
      refine hK.out _ _ ((HMzc1.out).raw.2.1) (fun hHeld => ?_)
      clear hK K
      refine PrintLast.norm_ (a' := ?_) ?_ ?_
      rotate_left
      · show Act.put _ (some 119) _ = _
        simp only [Act.put, List.setIfInBounds_toArray, List.set_cons_zero, List.set_cons_succ]
        rfl
      replace hHeld := And.intro hHeld (HAzc1.out.at hvj)
      refine more_ (S' := fun w' => w'.cell? ⟨w.heap.size, 1, none⟩ = some (.int .i64 x.f1) ∧ w'.cell? ⟨WD.heap.size, j, none⟩ = some (.int .i64 v)) (fun _ h => h.1) hHeld ?_
      refine PrintLast.pure_ (i := 4) (N := some 120) (v := ?_) (a' := ?_) #[true, true, true, true, true, false, false, false, false, true, false, false, false] rfl rfl (by kernel_rfl) (fun _ _ _ h => h) (Or.inl ⟨by rfl, ?_⟩) ?_ ?_
      rotate_left
      · intro w'
        go_simp
        with_reducible rfl
      rotate_left
      · simp only [Act.put, List.setIfInBounds_toArray, List.set_cons_zero, List.set_cons_succ]
        rfl
      refine PrintLast.take_ (i := 5) (N := some 121) (v := ?_) (a' := ?_) #[true, true, true, true, true, true, false, false, false, true, false, false, false] rfl rfl (by kernel_rfl) (fun _ _ _ h => h) (Or.inl ⟨by rfl, ?_⟩) hHeld ?_ ?_
      rotate_left
      · rintro w' ⟨s0, s1⟩
        go_simp
        with_reducible rfl
      rotate_left
      · simp only [Act.put, List.setIfInBounds_toArray, List.set_cons_zero, List.set_cons_succ]
        rfl
      refine PrintLast.pure_ (i := 6) (N := some 122) (v := ?_) (a' := ?_) #[true, true, true, true, true, true, true, false, false, true, false, false, false] rfl rfl (by kernel_rfl) (fun _ _ _ h => h) (Or.inl ⟨by rfl, ?_⟩) ?_ ?_
      rotate_left
      · intro w'
        go_simp
        with_reducible rfl
      rotate_left
      · simp only [Act.put, List.setIfInBounds_toArray, List.set_cons_zero, List.set_cons_succ]
        rfl
      refine PrintLast.pure_ (i := 7) (N := some 123) (v := ?_) (a' := ?_) #[true, true, true, true, true, true, true, true, false, true, false, false, false] rfl rfl (by kernel_rfl) (fun _ _ _ h => h) (Or.inl ⟨by rfl, ?_⟩) ?_ ?_
      rotate_left
      · intro w'
        go_simp
        with_reducible rfl
      rotate_left
      · simp only [Act.put, List.setIfInBounds_toArray, List.set_cons_zero, List.set_cons_succ]
        rfl
      refine PrintLast.two_ (i := 8) (j := 10) (Ni := some 124) (Nj := none) #[true, true, true, true, true, true, true, true, true, true, false, false, false] #[true, true, true, true, true, true, true, true, false, true, true, false, false] rfl rfl rfl rfl (by kernel_rfl) (by decide) (by decide) (fun K hK => ?_) (fun K hK => ?_)
      · skip
        refine PrintLast.value_ (w1 := ?_) (v := ?_) (by rfl) rfl ?_ ?_
        rotate_left 2
        · go_simp
          constructor
          · rfl
          · rfl
        refine hK.out _ _ ⟨(HMzc1.out.below (below_alloc (Below.refl _ _) _)).raw.2.1, ((HAzc1.out.below (below_alloc (Below.refl _ _) _)).at hvj)⟩ (fun hHeld => ?_)
        clear hK K
        refine PrintLast.norm_ (a' := ?_) ?_ ?_
        rotate_left
        · show Act.put _ (some 124) _ = _
          simp only [Act.put, List.setIfInBounds_toArray, List.set_cons_zero, List.set_cons_succ]
          rfl
        generalize hz : World.alloc zc1 _ = zb2 at hHeld ⊢
        have HMzb2 := Lib.hid (HMzc1.out.al hz)
        have HAzb2 := Lib.hid (HAzc1.out.al hz)
        have HRzb2 : Hid (HasA zb2 w.heap.size [⟨-1, ⟨1, v, ⟨#[]⟩, []⟩⟩] (.slice (some ⟨zc1.heap.size, 0, none⟩) 1 1)) := Lib.hid (rowA_one' hz HMzc1.out.bel.size (HasE.nil _ _ _ rfl) (good_num (by omega) (by omega)))
        clear hz
        refine PrintLast.one_ (i := 10) (N := none) #[true, true, true, true, true, true, true, true, true, true, true, false, false] rfl rfl (by kernel_rfl) (by decide) (fun K hK => ?_)
        have y2 := HMzb2.out.st.2.2.1
        have fz2 := HMzb2.out.fz.2.2.1
        refine PrintLast.skip_ (w1 := ?_) (by rfl) rfl ?_ ?_
        rotate_left
        · go_simp
          rfl
        refine hK.out _ _ ⟨(HMzb2.out.kind _).raw.2.1, ((HAzb2.out.set rfl).at hvj)⟩ (fun hHeld => ?_)
        clear hK K
        clear y2 fz2
        generalize hz : World.setCell zb2 _ _ = zs2_3 at hHeld ⊢
        have HMzs2_3 := Lib.hid (HMzb2.out.kind' hz)
        have HAzs2_3 := Lib.hid (HAzb2.out.set hz)
        have HRzs2_3 := Lib.hid (HMzb2.out.carry HRzb2.out hz)
        clear hz
        refine PrintLast.pure_ (i := 11) (N := some 126) (v := ?_) (a' := ?_) #[true, true, true, true, true, true, true, true, true, true, true, true, false] rfl rfl (by kernel_rfl) (fun _ _ _ h => h) (Or.inl ⟨by rfl, ?_⟩) ?_ ?_
        rotate_left
        · intro w'
          go_simp
          with_reducible rfl
        rotate_left
        · simp only [Act.put, List.setIfInBounds_toArray, List.set_cons_zero, List.set_cons_succ]
          rfl
        refine PrintLast.one_ (i := 12) (N := none) #[true, true, true, true, true, true, true, true, true, true, true, true, true] rfl rfl (by kernel_rfl) (by decide) (fun K hK => ?_)
        have y5 := HMzs2_3.out.st.2.2.2.2.2
        have fz5 := HMzs2_3.out.fz.2.2.2.2.2
        refine PrintLast.skip_ (w1 := ?_) (by rfl) rfl ?_ ?_
        rotate_left
        · go_simp
          rfl
        refine hK.out _ _ ⟨(HMzs2_3.out.args HRzs2_3.out).raw.2.1, ((HAzs2_3.out.set rfl).at hvj)⟩ (fun hHeld => ?_)
        clear hK K
        clear y5 fz5
        generalize hz : World.setCell zs2_3 _ _ = zs5_4 at hHeld ⊢
        have HMzs5_4 := Lib.hid (HMzs2_3.out.args' HRzs2_3.out hz)
        have HAzs5_4 := Lib.hid (HAzs2_3.out.set hz)
        have HRzs5_4 := Lib.hid (HMzs2_3.out.carry HRzs2_3.out hz)
        clear hz
        refine PrintLast.done_ (by kernel_rfl) ?_
        clear hHeld
        go_wp2_with fail
        go_meet
        case rel => exact ⟨_, _, _, _, _, ⟨by omega, by omega, fun h => absurd h (by omega), fun h => absurd h (by omega), Nat.zero_le _, (by show 1 ≤ 5; decide)⟩, HMzs5_4.out⟩
      · skip
        have y2 := HMzc1.out.st.2.2.1
        have fz2 := HMzc1.out.fz.2.2.1
        refine PrintLast.skip_ (w1 := ?_) (by rfl) rfl ?_ ?_
        rotate_left
        · go_simp
          rfl
        refine hK.out _ _ ⟨(HMzc1.out.kind _).raw.2.1, ((HAzc1.out.set rfl).at hvj)⟩ (fun hHeld => ?_)
        clear hK K
        clear y2 fz2
        generalize hz : World.setCell zc1 _ _ = zs2_2 at hHeld ⊢
        have HMzs2_2 := Lib.hid (HMzc1.out.kind' hz)
        have HAzs2_2 := Lib.hid (HAzc1.out.set hz)
        clear hz
        refine PrintLast.one_ (i := 8) (N := some 124) #[true, true, true, true, true, true, true, true, true, true, true, false, false] rfl rfl (by kernel_rfl) (by decide) (fun K hK => ?_)
        refine PrintLast.value_ (w1 := ?_) (v := ?_) (by rfl) rfl ?_ ?_
        rotate_left 2
        · go_simp
          constructor
          · rfl
          · rfl
        refine hK.out _ _ ⟨(HMzs2_2.out.below (below_alloc (Below.refl _ _) _)).raw.2.1, ((HAzs2_2.out.below (below_alloc (Below.refl _ _) _)).at hvj)⟩ (fun hHeld => ?_)
        clear hK K
        refine PrintLast.norm_ (a' := ?_) ?_ ?_
        rotate_left
        · show Act.put _ (some 124) _ = _
          simp only [Act.put, List.setIfInBounds_toArray, List.set_cons_zero, List.set_cons_succ]
          rfl
        generalize hz : World.alloc zs2_2 _ = zb3 at hHeld ⊢
        have HMzb3 := Lib.hid (HMzs2_2.out.al hz)
        have HAzb3 := Lib.hid (HAzs2_2.out.al hz)
        have HRzb3 : Hid (HasA zb3 w.heap.size [⟨-1, ⟨1, v, ⟨#[]⟩, []⟩⟩] (.slice (some ⟨zs2_2.heap.size, 0, none⟩) 1 1)) := Lib.hid (rowA_one' hz HMzs2_2.out.bel.size (HasE.nil _ _ _ rfl) (good_num (by omega) (by omega)))
        clear hz
        refine PrintLast.pure_ (i := 11) (N := some 126) (v := ?_) (a' := ?_) #[true, true, true, true, true, true, true, true, true, true, true, true, false] rfl rfl (by kernel_rfl) (fun _ _ _ h => h) (Or.inl ⟨by rfl, ?_⟩) ?_ ?_
        rotate_left
        · intro w'
          go_simp
          with_reducible rfl
        rotate_left
        · simp only [Act.put, List.setIfInBounds_toArray, List.set_cons_zero, List.set_cons_succ]
          rfl
        refine PrintLast.one_ (i := 12) (N := none) #[true, true, true, true, true, true, true, true, true, true, true, true, true] rfl rfl (by kernel_rfl) (by decide) (fun K hK => ?_)
        have y5 := HMzb3.out.st.2.2.2.2.2
        have fz5 := HMzb3.out.fz.2.2.2.2.2
        refine PrintLast.skip_ (w1 := ?_) (by rfl) rfl ?_ ?_
        rotate_left
        · go_simp
          rfl
        refine hK.out _ _ ⟨(HMzb3.out.args HRzb3.out).raw.2.1, ((HAzb3.out.set rfl).at hvj)⟩ (fun hHeld => ?_)
        clear hK K
        clear y5 fz5
        generalize hz : World.setCell zb3 _ _ = zs5_4 at hHeld ⊢
        have HMzs5_4 := Lib.hid (HMzb3.out.args' HRzb3.out hz)
        have HAzs5_4 := Lib.hid (HAzb3.out.set hz)
        have HRzs5_4 := Lib.hid (HMzb3.out.carry HRzb3.out hz)
        clear hz
        refine PrintLast.done_ (by kernel_rfl) ?_
        clear hHeld
        go_wp2_with fail
        go_meet
        case rel => exact ⟨_, _, _, _, _, ⟨by omega, by omega, fun h => absurd h (by omega), fun h => absurd h (by omega), Nat.zero_le _, (by show 1 ≤ 5; decide)⟩, HMzs5_4.out⟩
    · skip
      refine PrintLast.goes_ Try.func51 (by kernel_rfl) rfl #[.int .i64 x.f1, .int .i64 6] (by rfl) rfl rfl (by simp only [List.map_toArray, List.map_cons, List.map_nil]; rfl) ?_
      with_reducible refine ((within51 x.f1 6 WD (by omega) (by omega))).mono ?_
      rintro e zc0 ⟨rfl, hbc⟩
      refine ⟨_, rfl, ?_⟩
      rw [HJ.out]
      have HMzc0 := Lib.hid (HMd.out.below hbc)
      clear hbc
      refine hK.out _ _ ((HMzc0.out).raw.2.1) (fun hHeld => ?_)
      clear hK K
      refine PrintLast.norm_ (a' := ?_) ?_ ?_
      rotate_left
      · show Act.put _ (some 119) _ = _
        simp only [Act.put, List.setIfInBounds_toArray, List.set_cons_zero, List.set_cons_succ]
        rfl
      refine PrintLast.two_ (i := 0) (j := 10) (Ni := some 116) (Nj := none) #[true, true, true, true, false, false, false, false, false, true, false, false, false] #[false, true, true, true, false, false, false, false, false, true, true, false, false] rfl rfl rfl rfl (by kernel_rfl) (by decide) (by decide) (fun K hK => ?_) (fun K hK => ?_)
      · skip
        refine PrintLast.value_ (w1 := ?_) (v := ?_) (by rfl) rfl ?_ ?_
        rotate_left 2
        · go_simp
          constructor
          · rfl
          · rfl
        refine hK.out _ _ ((HMzc0.out.below (below_alloc (Below.refl _ _) _)).raw.2.1) (fun hHeld => ?_)
        clear hK K
        refine PrintLast.norm_ (a' := ?_) ?_ ?_
        rotate_left
        · show Act.put _ (some 116) _ = _
          simp only [Act.put, List.setIfInBounds_toArray, List.set_cons_zero, List.set_cons_succ]
          rfl
        generalize hz : World.alloc zc0 _ = za1 at hHeld ⊢
        have HMza1 := Lib.hid (HMzc0.out.al hz)
        have HAza1 : Hid (asS w za1 _ tab21 3) := Lib.hid (asS.new HMzc0.out hz)
        clear hz
        replace hHeld := And.intro hHeld (HAza1.out.at hvj)
        refine more_ (S' := fun w' => w'.cell? ⟨w.heap.size, 1, none⟩ = some (.int .i64 x.f1) ∧ w'.cell? ⟨zc0.heap.size, j, none⟩ = some (.int .i64 v)) (fun _ h => h.1) hHeld ?_
        refine PrintLast.pure_ (i := 4) (N := some 120) (v := ?_) (a' := ?_) #[true, true, true, true, true, false, false, false, false, true, false, false, false] rfl rfl (by kernel_rfl) (fun _ _ _ h => h) (Or.inl ⟨by rfl, ?_⟩) ?_ ?_
        rotate_left
        · intro w'
          go_simp
          with_reducible rfl
        rotate_left
        · simp only [Act.put, List.setIfInBounds_toArray, List.set_cons_zero, List.set_cons_succ]
          rfl
        refine PrintLast.take_ (i := 5) (N := some 121) (v := ?_) (a' := ?_) #[true, true, true, true, true, true, false, false, false, true, false, false, false] rfl rfl (by kernel_rfl) (fun _ _ _ h => h) (Or.inl ⟨by rfl, ?_⟩) hHeld ?_ ?_
        rotate_left
        · rintro w' ⟨s0, s1⟩
          go_simp
          with_reducible rfl
        rotate_left
        · simp only [Act.put, List.setIfInBounds_toArray, List.set_cons_zero, List.set_cons_succ]
          rfl
        refine PrintLast.pure_ (i := 6) (N := some 122) (v := ?_) (a' := ?_) #[true, true, true, true, true, true, true, false, false, true, false, false, false] rfl rfl (by kernel_rfl) (fun _ _ _ h => h) (Or.inl ⟨by rfl, ?_⟩) ?_ ?_
        rotate_left
        · intro w'
          go_simp
          with_reducible rfl
        rotate_left
        · simp only [Act.put, List.setIfInBounds_toArray, List.set_cons_zero, List.set_cons_succ]
          rfl
        refine PrintLast.pure_ (i := 7) (N := some 123) (v := ?_) (a' := ?_) #[true, true, true, true, true, true, true, true, false, true, false, false, false] rfl rfl (by kernel_rfl) (fun _ _ _ h => h) (Or.inl ⟨by rfl, ?_⟩) ?_ ?_
        rotate_left
        · intro w'
          go_simp
          with_reducible rfl
        rotate_left
        · simp only [Act.put, List.setIfInBounds_toArray, List.set_cons_zero, List.set_cons_succ]
          rfl
        refine PrintLast.two_ (i := 8) (j := 10) (Ni := some 124) (Nj := none) #[true, true, true, true, true, true, true, true, true, true, false, false, false] #[true, true, true, true, true, true, true, true, false, true, true, false, false] rfl rfl rfl rfl (by kernel_rfl) (by decide) (by decide) (fun K hK => ?_) (fun K hK => ?_)
        · skip
          refine PrintLast.value_ (w1 := ?_) (v := ?_) (by rfl) rfl ?_ ?_
          rotate_left 2
          · go_simp
            constructor
            · rfl
            · rfl
          refine hK.out _ _ ⟨(HMza1.out.below (below_alloc (Below.refl _ _) _)).raw.2.1, ((HAza1.out.below (below_alloc (Below.refl _ _) _)).at hvj)⟩ (fun hHeld => ?_)
          clear hK K
          refine PrintLast.norm_ (a' := ?_) ?_ ?_
          rotate_left
          · show Act.put _ (some 124) _ = _
            simp only [Act.put, List.setIfInBounds_toArray, List.set_cons_zero, List.set_cons_succ]
            rfl
          generalize hz : World.alloc za1 _ = zb2 at hHeld ⊢
          have HMzb2 := Lib.hid (HMza1.out.al hz)
          have HAzb2 := Lib.hid (HAza1.out.al hz)
          have HRzb2 : Hid (HasA zb2 w.heap.size [⟨-1, ⟨1, v, ⟨#[]⟩, []⟩⟩] (.slice (some ⟨za1.heap.size, 0, none⟩) 1 1)) := Lib.hid (rowA_one' hz HMza1.out.bel.size (HasE.nil _ _ _ rfl) (good_num (by omega) (by omega)))
          clear hz
          refine PrintLast.one_ (i := 10) (N := none) #[true, true, true, true, true, true, true, true, true, true, true, false, false] rfl rfl (by kernel_rfl) (by decide) (fun K hK => ?_)
          have y2 := HMzb2.out.st.2.2.1
          have fz2 := HMzb2.out.fz.2.2.1
          refine PrintLast.skip_ (w1 := ?_) (by rfl) rfl ?_ ?_
          rotate_left
          · go_simp
            rfl
          refine hK.out _ _ ⟨(HMzb2.out.kind _).raw.2.1, ((HAzb2.out.set rfl).at hvj)⟩ (fun hHeld => ?_)
          clear hK K
          clear y2 fz2
          generalize hz : World.setCell zb2 _ _ = zs2_3 at hHeld ⊢
          have HMzs2_3 := Lib.hid (HMzb2.out.kind' hz)
          have HAzs2_3 := Lib.hid (HAzb2.out.set hz)
          have HRzs2_3 := Lib.hid (HMzb2.out.carry HRzb2.out hz)
          clear hz
          refine PrintLast.pure_ (i := 11) (N := some 126) (v := ?_) (a' := ?_) #[true, true, true, true, true, true, true, true, true, true, true, true, false] rfl rfl (by kernel_rfl) (fun _ _ _ h => h) (Or.inl ⟨by rfl, ?_⟩) ?_ ?_
          rotate_left
          · intro w'
            go_simp
            with_reducible rfl
          rotate_left
          · simp only [Act.put, List.setIfInBounds_toArray, List.set_cons_zero, List.set_cons_succ]
            rfl
          refine PrintLast.one_ (i := 12) (N := none) #[true, true, true, true, true, true, true, true, true, true, true, true, true] rfl rfl (by kernel_rfl) (by decide) (fun K hK => ?_)
          have y5 := HMzs2_3.out.st.2.2.2.2.2
          have fz5 := HMzs2_3.out.fz.2.2.2.2.2
          refine PrintLast.skip_ (w1 := ?_) (by rfl) rfl ?_ ?_
          rotate_left
          · go_simp
            rfl
          refine hK.out _ _ ⟨(HMzs2_3.out.args HRzs2_3.out).raw.2.1, ((HAzs2_3.out.set rfl).at hvj)⟩ (fun hHeld => ?_)
          clear hK K
          clear y5 fz5
          generalize hz : World.setCell zs2_3 _ _ = zs5_4 at hHeld ⊢
          have HMzs5_4 := Lib.hid (HMzs2_3.out.args' HRzs2_3.out hz)
          have HAzs5_4 := Lib.hid (HAzs2_3.out.set hz)
          have HRzs5_4 := Lib.hid (HMzs2_3.out.carry HRzs2_3.out hz)
          clear hz
          refine PrintLast.done_ (by kernel_rfl) ?_
          clear hHeld
          go_wp2_with fail
          go_meet
          case rel => exact ⟨_, _, _, _, _, ⟨by omega, by omega, fun h => absurd h (by omega), fun h => absurd h (by omega), Nat.zero_le _, (by show 1 ≤ 5; decide)⟩, HMzs5_4.out⟩
        · skip
          have y2 := HMza1.out.st.2.2.1
          have fz2 := HMza1.out.fz.2.2.1
          refine PrintLast.skip_ (w1 := ?_) (by rfl) rfl ?_ ?_
          rotate_left
          · go_simp
            rfl
          refine hK.out _ _ ⟨(HMza1.out.kind _).raw.2.1, ((HAza1.out.set rfl).at hvj)⟩ (fun hHeld => ?_)
          clear hK K
          clear y2 fz2
          generalize hz : World.setCell za1 _ _ = zs2_2 at hHeld ⊢
          have HMzs2_2 := Lib.hid (HMza1.out.kind' hz)
          have HAzs2_2 := Lib.hid (HAza1.out.set hz)
          clear hz
          refine PrintLast.one_ (i := 8) (N := some 124) #[true, true, true, true, true, true, true, true, true, true, true, false, false] rfl rfl (by kernel_rfl) (by decide) (fun K hK => ?_)
          refine PrintLast.value_ (w1 := ?_) (v := ?_) (by rfl) rfl ?_ ?_
          rotate_left 2
          · go_simp
            constructor
            · rfl
            · rfl
          refine hK.out _ _ ⟨(HMzs2_2.out.below (below_alloc (Below.refl _ _) _)).raw.2.1, ((HAzs2_2.out.below (below_alloc (Below.refl _ _) _)).at hvj)⟩ (fun hHeld => ?_)
          clear hK K
          refine PrintLast.norm_ (a' := ?_) ?_ ?_
          rotate_left
          · show Act.put _ (some 124) _ = _
            simp only [Act.put, List.setIfInBounds_toArray, List.set_cons_zero, List.set_cons_succ]
            rfl
          generalize hz : World.alloc zs2_2 _ = zb3 at hHeld ⊢
          have HMzb3 := Lib.hid (HMzs2_2.out.al hz)
          have HAzb3 := Lib.hid (HAzs2_2.out.al hz)
          have HRzb3 : Hid (HasA zb3 w.heap.size [⟨-1, ⟨1, v, ⟨#[]⟩, []⟩⟩] (.slice (some ⟨zs2_2.heap.size, 0, none⟩) 1 1)) := Lib.hid (rowA_one' hz HMzs2_2.out.bel.size (HasE.nil _ _ _ rfl) (good_num (by omega) (by omega)))
          clear hz
          refine PrintLast.pure_ (i := 11) (N := some 126) (v := ?_) (a' := ?_) #[true, true, true, true, true, true, true, true, true, true, true, true, false] rfl rfl (by kernel_rfl) (fun _ _ _ h => h) (Or.inl ⟨by rfl, ?_⟩) ?_ ?_
          rotate_left
          · intro w'
            go_simp
            with_reducible rfl
          rotate_left
          · simp only [Act.put, List.setIfInBounds_toArray, List.set_cons_zero, List.set_cons_succ]
            rfl
          refine PrintLast.one_ (i := 12) (N := none) #[true, true, true, true, true, true, true, true, true, true, true, true, true] rfl rfl (by kernel_rfl) (by decide) (fun K hK => ?_)
          have y5 := HMzb3.out.st.2.2.2.2.2
          have fz5 := HMzb3.out.fz.2.2.2.2.2
          refine PrintLast.skip_ (w1 := ?_) (by rfl) rfl ?_ ?_
          rotate_left
          · go_simp
            rfl
          refine hK.out _ _ ⟨(HMzb3.out.args HRzb3.out).raw.2.1, ((HAzb3.out.set rfl).at hvj)⟩ (fun hHeld => ?_)
          clear hK K
          clear y5 fz5
          generalize hz : World.setCell zb3 _ _ = zs5_4 at hHeld ⊢
          have HMzs5_4 := Lib.hid (HMzb3.out.args' HRzb3.out hz)
          have HAzs5_4 := Lib.hid (HAzb3.out.set hz)
          have HRzs5_4 := Lib.hid (HMzb3.out.carry HRzb3.out hz)
          clear hz
          refine PrintLast.done_ (by kernel_rfl) ?_
          clear hHeld
          go_wp2_with fail
          go_meet
          case rel => exact ⟨_, _, _, _, _, ⟨by omega, by omega, fun h => absurd h (by omega), fun h => absurd h (by omega), Nat.zero_le _, (by show 1 ≤ 5; decide)⟩, HMzs5_4.out⟩
      · skip
        have y2 := HMzc0.out.st.2.2.1
        have fz2 := HMzc0.out.fz.2.2.1
        refine PrintLast.skip_ (w1 := ?_) (by rfl) rfl ?_ ?_
        rotate_left
        · go_simp
          rfl
        refine hK.out _ _ ((HMzc0.out.kind _).raw.2.1) (fun hHeld => ?_)
        clear hK K
        clear y2 fz2
        generalize hz : World.setCell zc0 _ _ = zs2_1 at hHeld ⊢
        have HMzs2_1 := Lib.hid (HMzc0.out.kind' hz)
        clear hz
        refine PrintLast.one_ (i := 0) (N := some 116) #[true, true, true, true, false, false, false, false, false, true, true, false, false] rfl rfl (by kernel_rfl) (by decide) (fun K hK => ?_)
        refine PrintLast.value_ (w1 := ?_) (v := ?_) (by rfl) rfl ?_ ?_
        rotate_left 2
        · go_simp
          constructor
          · rfl
          · rfl
        refine hK.out _ _ ((HMzs2_1.out.below (below_alloc (Below.refl _ _) _)).raw.2.1) (fun hHeld => ?_)
        clear hK K
        refine PrintLast.norm_ (a' := ?_) ?_ ?_
        rotate_left
        · show Act.put _ (some 116) _ = _
          simp only [Act.put, List.setIfInBounds_toArray, List.set_cons_zero, List.set_cons_succ]
          rfl
        generalize hz : World.alloc zs2_1 _ = za2 at hHeld ⊢
        have HMza2 := Lib.hid (HMzs2_1.out.al hz)
        have HAza2 : Hid (asS w za2 _ tab21 3) := Lib.hid (asS.new HMzs2_1.out hz)
        clear hz
        replace hHeld := And.intro hHeld (HAza2.out.at hvj)
        refine more_ (S' := fun w' => w'.cell? ⟨w.heap.size, 1, none⟩ = some (.int .i64 x.f1) ∧ w'.cell? ⟨zs2_1.heap.size, j, none⟩ = some (.int .i64 v)) (fun _ h => h.1) hHeld ?_
        refine PrintLast.pure_ (i := 4) (N := some 120) (v := ?_) (a' := ?_) #[true, true, true, true, true, false, false, false, false, true, true, false, false] rfl rfl (by kernel_rfl) (fun _ _ _ h => h) (Or.inl ⟨by rfl, ?_⟩) ?_ ?_
        rotate_left
        · intro w'
          go_simp
          with_reducible rfl
        rotate_left
        · simp only [Act.put, List.setIfInBounds_toArray, List.set_cons_zero, List.set_cons_succ]
          rfl
        refine PrintLast.take_ (i := 5) (N := some 121) (v := ?_) (a' := ?_) #[true, true, true, true, true, true, false, false, false, true, true, false, false] rfl rfl (by kernel_rfl) (fun _ _ _ h => h) (Or.inl ⟨by rfl, ?_⟩) hHeld ?_ ?_
        rotate_left
        · rintro w' ⟨s0, s1⟩
          go_simp
          with_reducible rfl
        rotate_left
        · simp only [Act.put, List.setIfInBounds_toArray, List.set_cons_zero, List.set_cons_succ]
          rfl
        refine PrintLast.pure_ (i := 6) (N := some 122) (v := ?_) (a' := ?_) #[true, true, true, true, true, true, true, false, false, true, true, false, false] rfl rfl (by kernel_rfl) (fun _ _ _ h => h) (Or.inl ⟨by rfl, ?_⟩) ?_ ?_
        rotate_left
        · intro w'
          go_simp
          with_reducible rfl
        rotate_left
        · simp only [Act.put, List.setIfInBounds_toArray, List.set_cons_zero, List.set_cons_succ]
          rfl
        refine PrintLast.pure_ (i := 7) (N := some 123) (v := ?_) (a' := ?_) #[true, true, true, true, true, true, true, true, false, true, true, false, false] rfl rfl (by kernel_rfl) (fun _ _ _ h => h) (Or.inl ⟨by rfl, ?_⟩) ?_ ?_
        rotate_left
        · intro w'
          go_simp
          with_reducible rfl
        rotate_left
        · simp only [Act.put, List.setIfInBounds_toArray, List.set_cons_zero, List.set_cons_succ]
          rfl
        refine PrintLast.one_ (i := 8) (N := some 124) #[true, true, true, true, true, true, true, true, true, true, true, false, false] rfl rfl (by kernel_rfl) (by decide) (fun K hK => ?_)
        refine PrintLast.value_ (w1 := ?_) (v := ?_) (by rfl) rfl ?_ ?_
        rotate_left 2
        · go_simp
          constructor
          · rfl
          · rfl
        refine hK.out _ _ ⟨(HMza2.out.below (below_alloc (Below.refl _ _) _)).raw.2.1, ((HAza2.out.below (below_alloc (Below.refl _ _) _)).at hvj)⟩ (fun hHeld => ?_)
        clear hK K
        refine PrintLast.norm_ (a' := ?_) ?_ ?_
        rotate_left
        · show Act.put _ (some 124) _ = _
          simp only [Act.put, List.setIfInBounds_toArray, List.set_cons_zero, List.set_cons_succ]
          rfl
        generalize hz : World.alloc za2 _ = zb3 at hHeld ⊢
        have HMzb3 := Lib.hid (HMza2.out.al hz)
        have HAzb3 := Lib.hid (HAza2.out.al hz)
        have HRzb3 : Hid (HasA zb3 w.heap.size [⟨-1, ⟨1, v, ⟨#[]⟩, []⟩⟩] (.slice (some ⟨za2.heap.size, 0, none⟩) 1 1)) := Lib.hid (rowA_one' hz HMza2.out.bel.size (HasE.nil _ _ _ rfl) (good_num (by omega) (by omega)))
        clear hz
        refine PrintLast.pure_ (i := 11) (N := some 126) (v := ?_) (a' := ?_) #[true, true, true, true, true, true, true, true, true, true, true, true, false] rfl rfl (by kernel_rfl) (fun _ _ _ h => h) (Or.inl ⟨by rfl, ?_⟩) ?_ ?_
        rotate_left
        · intro w'
          go_simp
          with_reducible rfl
        rotate_left
        · simp only [Act.put, List.setIfInBounds_toArray, List.set_cons_zero, List.set_cons_succ]
          rfl
        refine PrintLast.one_ (i := 12) (N := none) #[true, true, true, true, true, true, true, true, true, true, true, true, true] rfl rfl (by kernel_rfl) (by decide) (fun K hK => ?_)
        have y5 := HMzb3.out.st.2.2.2.2.2
        have fz5 := HMzb3.out.fz.2.2.2.2.2
        refine PrintLast.skip_ (w1 := ?_) (by rfl) rfl ?_ ?_
        rotate_left
        · go_simp
          rfl
        refine hK.out _ _ ⟨(HMzb3.out.args HRzb3.out).raw.2.1, ((HAzb3.out.set rfl).at hvj)⟩ (fun hHeld => ?_)
        clear hK K
        clear y5 fz5
        generalize hz : World.setCell zb3 _ _ = zs5_4 at hHeld ⊢
        have HMzs5_4 := Lib.hid (HMzb3.out.args' HRzb3.out hz)
        have HAzs5_4 := Lib.hid (HAzb3.out.set hz)
        have HRzs5_4 := Lib.hid (HMzb3.out.carry HRzb3.out hz)
        clear hz
        refine PrintLast.done_ (by kernel_rfl) ?_
        clear hHeld
        go_wp2_with fail
        go_meet
        case rel => exact ⟨_, _, _, _, _, ⟨by omega, by omega, fun h => absurd h (by omega), fun h => absurd h (by omega), Nat.zero_le _, (by show 1 ≤ 5; decide)⟩, HMzs5_4.out⟩
  case rest =>
    obtain ⟨kd, op, tx, xs, u, hok, hm⟩ := hcut
    have tk : (kd == 0) = false := by have := hok.1; simp; omega
    obtain ⟨-, -, r2, -, -, r5⟩ := hm.raw
    obtain ⟨-, -, s2, -, -, -⟩ := hm.st
    have HM := Lib.hid hm
    have HOK := Lib.hid hok
    clear hok m0 m1 HKK HS HS3 HW1 HW2 HR1 HL hm
    cases h5 : x.f5 with
    | false =>
      rw [h5] at r5
      clear h5 r2
      go_upto_region 26 with fail
      clear s2 tk r5
      have hm := HM.out.bare
      have HLB := Lib.hid (show (ByteArray.mk #[]).size ≤ 6 from Nat.zero_le _)
      obtain ⟨A', c', rfl, -, -⟩ := hm.row.form
      have p1 := hm.q1
      have p2 := hm.q2
      unfold stC at p1 p2
      obtain ⟨a0, a1, a2, a3, a4, a5, -⟩ := box6 p2
      obtain ⟨y0, y1, y2, y3, y4, y5, fz⟩ := box6 p1
      have fz0 := fz 0
      have fz1 := fz 1
      have fz2 := fz 2
      have fz3 := fz 3
      have fz4 := fz 4
      have fz5 := fz 5
      obtain ⟨f1, f2, f3⟩ := put6_end 1 ⟨#[]⟩ kd op tx p1 (Nat.le_succ _) hm.bel hm.row
      obtain ⟨z0, z1, z2, z3, z4, z5, -⟩ := box6 f1
      have HF2 := Lib.hid f2
      have HF3 := Lib.hid f3
      clear p1 p2 fz f1 f2 f3 hm
      go_wp2_with fail
      refine bodyPost_ret (v := .agg (stC 1 ⟨#[]⟩ kd op tx (.slice A' xs.length c'))) (by simp only [put6S] at z0 z1 z2 z3 z4 z5; simp [results, Try.results53, go_sem, z0, z1, z2, z3, z4, z5, stC]) rfl ⟨⟨#[]⟩, kd, op, tx, xs, _, rfl, ⟨HLB.out, HOK.out⟩, HF2.out, HF3.out⟩
    | true =>
      rw [h5] at r5
      clear h5
      have HLT := Lib.hid (show w.heap.size < wc.heap.size from Nat.lt_trans (Nat.lt_add_of_pos_right (by decide)) HM.out.lt)
      have HBd := Lib.hid ((Below.refl wc.heap.size wc).drew)
      obtain ⟨j, hj⟩ : ∃ j : Nat, x.f2 % 4 = j := ⟨(x.f2 % 4).toNat, by have := Int.emod_nonneg x.f2 (show (4 : Int) ≠ 0 by omega); omega⟩
      have hj4 : j < 4 := by have := Int.emod_lt_of_pos x.f2 (show (0 : Int) < 4 by omega); omega
      have HJ := Lib.hid hj
      have HJ4 := Lib.hid hj4
      have j0 : (0 : Int) ≤ (j : Int) := by omega
      have j1 : (j : Int) < 4 := by omega
      clear hj hj4
      go_upto_region 25 with fail
      clear s2 tk r5
      refine PrintLast.start_ (n := 8) (S := fun w' => w'.cell? ⟨w.heap.size, 2, none⟩ = some (.int .i64 x.f2)) (ds := [7]) #[false, false, false, false, false, false, false, false] (by kernel_rfl) rfl rfl (r2) (fun hHeld => ?_)
      refine PrintLast.pure_ (i := 1) (N := some 149) (v := ?_) (a' := ?_) #[false, true, false, false, false, false, false, false] rfl rfl (by kernel_rfl) (fun _ _ _ h => h) (Or.inl ⟨by rfl, ?_⟩) ?_ ?_
      rotate_left
      · intro w'
        go_simp
        with_reducible rfl
      rotate_left
      · simp only [Act.put, List.setIfInBounds_toArray, List.set_cons_zero, List.set_cons_succ]
        rfl
      refine PrintLast.take_ (i := 2) (N := some 150) (v := ?_) (a' := ?_) #[false, true, true, false, false, false, false, false] rfl rfl (by kernel_rfl) (fun _ _ _ h => h) (Or.inl ⟨by rfl, ?_⟩) hHeld ?_ ?_
      rotate_left
      · intro w' s0
        go_simp
        with_reducible rfl
      rotate_left
      · simp only [Act.put, List.setIfInBounds_toArray, List.set_cons_zero, List.set_cons_succ]
        rfl
      refine PrintLast.one_ (i := 0) (N := some 148) #[true, true, true, false, false, false, false, false] rfl rfl (by kernel_rfl) (by decide) (fun K hK => ?_)
      refine PrintLast.goes_ Try.func65 (by kernel_rfl) rfl #[] (by rfl) rfl rfl (by simp only [List.map_toArray, List.map_nil]) ?_
      with_reducible refine ((labels_call wc.drew)).mono ?_
      rintro e wx ⟨ad, cc, rfl, hnm, hbx⟩
      refine ⟨_, rfl, ?_⟩
      have HBx := Lib.hid (HBd.out.trans (hbx.mono HBd.out.size))
      clear hbx
      refine hK.out _ _ ((HBx.out.cell (p := ⟨w.heap.size, 2, none⟩) HLT.out).trans r2) (fun hHeld => ?_)
      clear hK K
      refine PrintLast.norm_ (a' := ?_) ?_ ?_
      rotate_left
      · show Act.put _ (some 148) _ = _
        simp only [Act.put, List.setIfInBounds_toArray, List.set_cons_zero, List.set_cons_succ]
        rfl
      refine PrintLast.one_ (i := 3) (N := some 151) #[true, true, true, true, false, false, false, false] rfl rfl (by kernel_rfl) (by decide) (fun K hK => ?_)
      refine PrintLast.goes_ Try.func51 (by kernel_rfl) rfl #[.int .i64 x.f2, .int .i64 4] (by rfl) rfl rfl (by simp only [List.map_toArray, List.map_cons, List.map_nil]; rfl) ?_
      with_reducible refine ((within51 x.f2 4 wx (by omega) (by omega))).mono ?_
      rintro e wy ⟨rfl, hby⟩
      refine ⟨_, rfl, ?_⟩
      rw [HJ.out]
      have HBy := Lib.hid (HBx.out.trans (hby.mono HBx.out.size))
      obtain ⟨sn, hsn, hcn⟩ := hnm j HJ4.out
      have hcy : wy.cell? (ad.add j) = some (.string sn) := (hby.cell (World.block_lt_of_cell? _ _ hcn)).trans hcn
      have HSn := Lib.hid hsn
      have hmy := HM.out.below HBy.out
      obtain ⟨-, y1, -, -, -, -⟩ := hmy.st
      obtain ⟨-, fz1, -, -, -, -⟩ := hmy.fz
      have HMy := Lib.hid hmy
      clear hby hnm hcn hmy hsn
      refine hK.out _ _ ((HBy.out.cell (p := ⟨w.heap.size, 2, none⟩) HLT.out).trans r2) (fun hHeld => ?_)
      clear hK K
      refine PrintLast.norm_ (a' := ?_) ?_ ?_
      rotate_left
      · show Act.put _ (some 151) _ = _
        simp only [Act.put, List.setIfInBounds_toArray, List.set_cons_zero, List.set_cons_succ]
        rfl
      refine PrintLast.pure_ (i := 4) (N := some 152) (v := ?_) (a' := ?_) #[true, true, true, true, true, false, false, false] rfl rfl (by kernel_rfl) (fun _ _ _ h => h) (Or.inl ⟨by rfl, ?_⟩) ?_ ?_
      rotate_left
      · intro w'
        go_simp
        with_reducible rfl
      rotate_left
      · simp only [Act.put, List.setIfInBounds_toArray, List.set_cons_zero, List.set_cons_succ]
        rfl
      refine PrintLast.one_ (i := 5) (N := some 153) #[true, true, true, true, true, true, false, false] rfl rfl (by kernel_rfl) (by decide) (fun K hK => ?_)
      refine PrintLast.value_ (w1 := ?_) (v := ?_) (by rfl) rfl ?_ ?_
      rotate_left 2
      · go_simp
        constructor
        · rfl
        · rfl
      refine hK.out _ _ ((HBy.out.cell (p := ⟨w.heap.size, 2, none⟩) HLT.out).trans r2) (fun hHeld => ?_)
      clear hK K
      refine PrintLast.norm_ (a' := ?_) ?_ ?_
      rotate_left
      · show Act.put _ (some 153) _ = _
        simp only [Act.put, List.setIfInBounds_toArray, List.set_cons_zero, List.set_cons_succ]
        rfl
      refine PrintLast.pure_ (i := 6) (N := some 154) (v := ?_) (a' := ?_) #[true, true, true, true, true, true, true, false] rfl rfl (by kernel_rfl) (fun _ _ _ h => h) (Or.inl ⟨by rfl, ?_⟩) ?_ ?_
      rotate_left
      · intro w'
        go_simp
        with_reducible rfl
      rotate_left
      · simp only [Act.put, List.setIfInBounds_toArray, List.set_cons_zero, List.set_cons_succ]
        rfl
      refine PrintLast.last_ (i := 7) (N := none) #[true, true, true, true, true, true, true, true] rfl rfl (by kernel_rfl) (by decide) (fun K hK => ?_)
      refine PrintLast.skip_ (w1 := ?_) (by rfl) rfl ?_ ?_
      rotate_left
      · go_simp
        rfl
      refine hK.out _ _ ?_
      clear hK K
      refine PrintLast.done_ (by kernel_rfl) ?_
      clear hHeld
      have hm := HMy.out.label sn
      have HLB := HSn
      generalize hP : wy.setCell ⟨w.heap.size + 2, 1, none⟩ (.string sn) = P at hm ⊢
      clear hP
      obtain ⟨A', c', rfl, -, -⟩ := hm.row.form
      have p1 := hm.q1
      have p2 := hm.q2
      unfold stC at p1 p2
      obtain ⟨a0, a1, a2, a3, a4, a5, -⟩ := box6 p2
      obtain ⟨y0, y1, y2, y3, y4, y5, fz⟩ := box6 p1
      have fz0 := fz 0
      have fz1 := fz 1
      have fz2 := fz 2
      have fz3 := fz 3
      have fz4 := fz 4
      have fz5 := fz 5
      obtain ⟨f1, f2, f3⟩ := put6_end 1 sn kd op tx p1 (Nat.le_succ _) hm.bel hm.row
      obtain ⟨z0, z1, z2, z3, z4, z5, -⟩ := box6 f1
      have HF2 := Lib.hid f2
      have HF3 := Lib.hid f3
      clear p1 p2 fz f1 f2 f3 hm
      go_wp2_with fail
      refine bodyPost_ret (v := .agg (stC 1 sn kd op tx (.slice A' xs.length c'))) (by simp only [put6S] at z0 z1 z2 z3 z4 z5; simp [results, Try.results53, go_sem, z0, z1, z2, z3, z4, z5, stC]) rfl ⟨sn, kd, op, tx, xs, _, rfl, ⟨HLB.out, HOK.out⟩, HF2.out, HF3.out⟩
end Go.Proofs.Ytifdkkkcecpjoaa
end
section
/-
  A raw statement, made.
-/
namespace Go.Proofs.Ytifdkkkcecpjoaa
set_option linter.unusedVariables false
set_option linter.unusedSimpArgs false
open Go.RowKit Go.Proofs.YtifdkkkcecpjoaaW Go.Proofs.YtifdkkkcecpjoaaW.PrintWords Tx
attribute [local go_sem ↓] Go.wp_at_zero Go.wp_at_succ
set_option maxRecDepth 100000 in
set_option maxHeartbeats 3200000 in
theorem make_f {x : S63} {A3 A4 : Option Addr} {c3 c4 : Nat} {w : World} (h : Lies w x A3 A4 c3 c4) (hkk : x.f0 % 16 = 14) :
    Calls Try.prog 53 #[sAgg x A3 A4 c3 c4] w (StE okL w) := by
  obtain ⟨W1, hW1⟩ : ∃ W1, W1 = (w.alloc (.cells (rawC x A3 A4 c3 c4) 63)).alloc (.cells (stC 0 ⟨#[]⟩ 0 0 ⟨#[]⟩ (.slice none 0 0)) 95) := ⟨_, rfl⟩
  have b1 : Below w.heap.size w W1 := by rw [hW1]; exact ((Below.refl _ _).alloc (Nat.le_refl _) _).alloc (by simp) _
  have g0 : W1.heap[w.heap.size]? = some (.cells (rawC x A3 A4 c3 c4) 63 (0, 0)) := by rw [hW1]; exact (Below.heap_alloc _ _ _ (by simp)).trans (heap_alloc_new w _)
  have g1 : W1.heap[w.heap.size + 1]? = some (.cells (stC 0 ⟨#[]⟩ 0 0 ⟨#[]⟩ (.slice none 0 0)) 95 (0, 0)) := by
    rw [hW1]
    have := heap_alloc_new (w.alloc (.cells (rawC x A3 A4 c3 c4) 63)) (.cells (stC 0 ⟨#[]⟩ 0 0 ⟨#[]⟩ (.slice none 0 0)) 95)
    simpa using this
  have g2 : W1.heap.size = w.heap.size + 2 := by rw [hW1]; simp
  obtain ⟨W2, hW2⟩ : ∃ W2, W2 = W1.alloc (.cells (stC 1 ⟨#[]⟩ 0 0 ⟨#[]⟩ (.slice none 0 0)) 95) := ⟨_, rfl⟩
  have hS : mkS x A3 A4 c3 c4 w W2 0 0 ⟨#[]⟩ [] (.slice none 0 0) := by
    refine ⟨HasA.nil _ _, by rw [hW2]; exact below_alloc b1 _, ?_, ?_, ?_⟩
    · rw [hW2]; exact (Below.heap_alloc _ _ _ (by omega)).trans g0
    · rw [hW2]; exact (Below.heap_alloc _ _ _ (by omega)).trans g1
    · rw [hW2, ← g2]; exact heap_alloc_new W1 _
  have HS := Lib.hid hS
  have HL := Lib.hid h
  have HW1 := Lib.hid hW1
  have HW2 := Lib.hid hW2
  have HR1 := Lib.hid g2
  obtain ⟨k0, -, -, -, -, -⟩ := hS.raw
  clear hS h hW1 hW2 g0 g1 g2 b1
  unfold rawC stC at HW1 HW2
  unfold sAgg
  go_enter Try.func53, Try.ntmps53
  go_upto_region 1 with fail
  rw [← HW1.out]
  go_upto_region 2 with fail
  rw [HR1.out, ← HW2.out]
  go_wp2_with fail
  refine (within51 x.f0 16 W2 (by omega) (by omega)).mono ?_
  rintro e W3 ⟨rfl, hb3⟩
  have HS3 := Lib.hid (HS.out.below hb3)
  have m0 := Int.emod_nonneg x.f0 (show (16 : Int) ≠ 0 by omega)
  have m1 := Int.emod_lt_of_pos x.f0 (show (0 : Int) < 16 by omega)
  have HKK := Lib.hid hkk
  clear hkk
  generalize x.f0 % 16 = k at *
  clear k0 hb3
  go_upto_block 0 with fail
  go_cut [] (fun wc => MkC x A3 A4 c3 c4 w wc)
  case first =>
    have hk : k = 14 := HKK.out
    have h12 : ¬ k < 12 := by omega
    have t12 : (k == 12) = false := by simp [hk]
    have t13 : (k == 13) = false := by simp [hk]
    have t14 : (k == 14) = true := by simp [hk]
    have HK := Lib.hid hk
    clear hk
    obtain ⟨j, hj⟩ : ∃ j : Nat, x.f1 % 8 = j := ⟨(x.f1 % 8).toNat, by have := Int.emod_nonneg x.f1 (show (8 : Int) ≠ 0 by omega); omega⟩
    have hj4 : j < 8 := by have := Int.emod_lt_of_pos x.f1 (show (0 : Int) < 8 by omega); omega
    have HJ := Lib.hid hj
    have j0 : (0 : Int) ≤ (j : Int) := by omega
    have j1 : (j : Int) < 8 := by omega
    have HVJ := Lib.hid (tab23_at j hj4)
    obtain ⟨v, hvj, hv0, hv1⟩ := HVJ.out
    have HMd0 := Lib.hid (HS3.out.below ((Below.refl W3.heap.size W3).drew))
    clear hj hj4 HVJ
    go_upto_region 23 with fail
    refine PrintLast.start_ (n := 13) (S := fun w' => w'.cell? ⟨w.heap.size, 1, none⟩ = some (.int .i64 x.f1)) (ds := []) #[false, false, false, false, false, false, false, false, false, false, false, false, false] (by kernel_rfl) rfl rfl ((HMd0.out).raw.2.1) (fun hHeld => ?_)
    generalize hz : W3.drew = WD at hHeld ⊢
    have HMd := Lib.hid (HMd0.out.to hz)
    clear hz
    refine PrintLast.pure_ (i := 1) (N := some 131) (v := ?_) (a' := ?_) #[false, true, false, false, false, false, false, false, false, false, false, false, false] rfl rfl (by kernel_rfl) (fun _ _ _ h => h) (Or.inl ⟨by rfl, ?_⟩) ?_ ?_
    rotate_left
    · intro w'
      go_simp
      with_reducible rfl
    rotate_left
    · simp only [Act.put, List.setIfInBounds_toArray, List.set_cons_zero, List.set_cons_succ]
      rfl
    refine PrintLast.pure_ (i := 9) (N := some 139) (v := ?_) (a' := ?_) #[false, true, false, false, false, false, false, false, false, true, false, false, false] rfl rfl (by kernel_rfl) (fun _ _ _ h => h) (Or.inl ⟨by rfl, ?_⟩) ?_ ?_
    rotate_left
    · intro w'
      go_simp
      with_reducible rfl
    rotate_left
    · simp only [Act.put, List.setIfInBounds_toArray, List.set_cons_zero, List.set_cons_succ]
      rfl
    refine PrintLast.take_ (i := 2) (N := some 132) (v := ?_) (a' := ?_) #[false, true, true, false, false, false, false, false, false, true, false, false, false] rfl rfl (by kernel_rfl) (fun _ _ _ h => h) (Or.inl ⟨by rfl, ?_⟩) hHeld ?_ ?_
    rotate_left
    · intro w' s0
      go_simp
      with_reducible rfl
    rotate_left
    · simp only [Act.put, List.setIfInBounds_toArray, List.set_cons_zero, List.set_cons_succ]
      rfl
    refine PrintLast.two_ (i := 0) (j := 3) (Ni := some 130) (Nj := some 133) #[true, true, true, false, false, false, false, false, false, true, false, false, false] #[false, true, true, true, false, false, false, false, false, true, false, false, false] rfl rfl rfl rfl (by kernel_rfl) (by decide) (by decide) (fun K hK => ?_) (fun K hK => ?_)
    · skip
      refine PrintLast.value_ (w1 := ?_) (v := ?_) (by rfl) rfl ?_ ?_
      rotate_left 2
      · go_simp
        constructor
        · rfl
        · rfl
      refine hK.out _ _ ((HMd.out.below (below_alloc (Below.refl _ _) _)).raw.2.1) (fun hHeld => ?_)
      clear hK K
      refine PrintLast.norm_ (a' := ?_) ?_ ?_
      rotate_left
      · show Act.put _ (some 130) _ = _
        simp only [Act.put, List.setIfInBounds_toArray, List.set_cons_zero, List.set_cons_succ]
        rfl
      generalize hz : World.alloc WD _ = za0 at hHeld ⊢
      have HMza0 := Lib.hid (HMd.out.al hz)
      have HAza0 : Hid (asS w za0 _ tab23 3) := Lib.hid (asS.new HMd.out hz)
      clear hz
      refine PrintLast.one_ (i := 3) (N := some 133) #[true, true, true, true, false, false, false, false, false, true, false, false, false] rfl rfl (by kernel_rfl) (by decide) (fun K hK => ?_)
      refine PrintLast.goes_ Try.func51 (by kernel_rfl) rfl #[.int .i64 x.f1, .int .i64 8] (by rfl) rfl rfl (by simp only [List.map_toArray, List.map_cons, List.map_nil]; rfl) ?_
      with_reducible refine ((within51 x.f1 8 za0 (by omega) (by omega))).mono ?_
      rintro e zc1 ⟨rfl, hbc⟩
      refine ⟨_, rfl, ?_⟩
      rw [HJ.out]
      have HMzc1 := Lib.hid (HMza0.out.below hbc)
      have HAzc1 := Lib.hid (HAza0.out.below hbc)
      clear hbc
      refine hK.out _ _ ((HMzc1.out).raw.2.1) (fun hHeld => ?_)
      clear hK K
      refine PrintLast.norm_ (a' := ?_) ?_ ?_
      rotate_left
      · show Act.put _ (some 133) _ = _
        simp only [Act.put, List.setIfInBounds_toArray, List.set_cons_zero, List.set_cons_succ]
        rfl
      replace hHeld := And.intro hHeld (HAzc1.out.at hvj)
      refine more_ (S' := fun w' => w'.cell? ⟨w.heap.size, 1, none⟩ = some (.int .i64 x.f1) ∧ w'.cell? ⟨WD.heap.size, j, none⟩ = some (.int .i64 v)) (fun _ h => h.1) hHeld ?_
      refine PrintLast.pure_ (i := 4) (N := some 134) (v := ?_) (a' := ?_) #[true, true, true, true, true, false, false, false, false, true, false, false, false] rfl rfl (by kernel_rfl) (fun _ _ _ h => h) (Or.inl ⟨by rfl, ?_⟩) ?_ ?_
      rotate_left
      · intro w'
        go_simp
        with_reducible rfl
      rotate_left
      · simp only [Act.put, List.setIfInBounds_toArray, List.set_cons_zero, List.set_cons_succ]
        rfl
      refine PrintLast.take_ (i := 5) (N := some 135) (v := ?_) (a' := ?_) #[true, true, true, true, true, true, false, false, false, true, false, false, false] rfl rfl (by kernel_rfl) (fun _ _ _ h => h) (Or.inl ⟨by rfl, ?_⟩) hHeld ?_ ?_
      rotate_left
      · rintro w' ⟨s0, s1⟩
        go_simp
        with_reducible rfl
      rotate_left
      · simp only [Act.put, List.setIfInBounds_toArray, List.set_cons_zero, List.set_cons_succ]
        rfl
      refine PrintLast.pure_ (i := 6) (N := some 136) (v := ?_) (a' := ?_) #[true, true, true, true, true, true, true, false, false, true, false, false, false] rfl rfl (by kernel_rfl) (fun _ _ _ h => h) (Or.inl ⟨by rfl, ?_⟩) ?_ ?_
      rotate_left
      · intro w'
        go_simp
        with_reducible rfl
      rotate_left
      · simp only [Act.put, List.setIfInBounds_toArray, List.set_cons_zero, List.set_cons_succ]
        rfl
      refine PrintLast.pure_ (i := 7) (N := some 137) (v := ?_) (a' := ?_) #[true, true, true, true, true, true, true, true, false, true, false, false, false] rfl rfl (by kernel_rfl) (fun _ _ _ h => h) (Or.inl ⟨by rfl, ?_⟩) ?_ ?_
      rotate_left
      · intro w'
        go_simp
        with_reducible rfl
      rotate_left
      · simp only [Act.put, List.setIfInBounds_toArray, List.set_cons_zero, List.set_cons_succ]
        rfl
      refine PrintLast.two_ (i := 8) (j := 10) (Ni := some 138) (Nj := none) #[true, true, true, true, true, true, true, true, true, true, false, false, false] #[true, true, true, true, true, true, true, true, false, true, true, false, false] rfl rfl rfl rfl (by kernel_rfl) (by decide) (by decide) (fun K hK => ?_) (fun K hK => ?_)
      · skip
        refine PrintLast.value_ (w1 := ?_) (v := ?_) (by rfl) rfl ?_ ?_
        rotate_left 2
        · go_simp
          constructor
          · rfl
          · rfl
        refine hK.out _ _ ⟨(HMzc1.out.below (below_alloc (Below.refl _ _) _)).raw.2.1, ((HAzc1.out.below (below_alloc (Below.refl _ _) _)).at hvj)⟩ (fun hHeld => ?_)
        clear hK K
        refine PrintLast.norm_ (a' := ?_) ?_ ?_
        rotate_left
        · show Act.put _ (some 138) _ = _
          simp only [Act.put, List.setIfInBounds_toArray, List.set_cons_zero, List.set_cons_succ]
          rfl
        generalize hz : World.alloc zc1 _ = zb2 at hHeld ⊢
        have HMzb2 := Lib.hid (HMzc1.out.al hz)
        have HAzb2 := Lib.hid (HAzc1.out.al hz)
        have HRzb2 : Hid (HasA zb2 w.heap.size [⟨-1, ⟨1, v, ⟨#[]⟩, []⟩⟩] (.slice (some ⟨zc1.heap.size, 0, none⟩) 1 1)) := Lib.hid (rowA_one' hz HMzc1.out.bel.size (HasE.nil _ _ _ rfl) (good_num (by omega) (by omega)))
        clear hz
        refine PrintLast.one_ (i := 10) (N := none) #[true, true, true, true, true, true, true, true, true, true, true, false, false] rfl rfl (by kernel_rfl) (by decide) (fun K hK => ?_)
        have y2 := HMzb2.out.st.2.2.1
        have fz2 := HMzb2.out.fz.2.2.1
        refine PrintLast.skip_ (w1 := ?_) (by rfl) rfl ?_ ?_
        rotate_left
        · go_simp
          rfl
        refine hK.out _ _ ⟨(HMzb2.out.kind _).raw.2.1, ((HAzb2.out.set rfl).at hvj)⟩ (fun hHeld => ?_)
        clear hK K
        clear y2 fz2
        generalize hz : World.setCell zb2 _ _ = zs2_3 at hHeld ⊢
        have HMzs2_3 := Lib.hid (HMzb2.out.kind' hz)
        have HAzs2_3 := Lib.hid (HAzb2.out.set hz)
        have HRzs2_3 := Lib.hid (HMzb2.out.carry HRzb2.out hz)
        clear hz
        refine PrintLast.pure_ (i := 11) (N := some 140) (v := ?_) (a' := ?_) #[true, true, true, true, true, true, true, true, true, true, true, true, false] rfl rfl (by kernel_rfl) (fun _ _ _ h => h) (Or.inl ⟨by rfl, ?_⟩) ?_ ?_
        rotate_left
        · intro w'
          go_simp
          with_reducible rfl
        rotate_left
        · simp only [Act.put, List.setIfInBounds_toArray, List.set_cons_zero, List.set_cons_succ]
          rfl
        refine PrintLast.one_ (i := 12) (N := none) #[true, true, true, true, true, true, true, true, true, true, true, true, true] rfl rfl (by kernel_rfl) (by decide) (fun K hK => ?_)
        have y5 := HMzs2_3.out.st.2.2.2.2.2
        have fz5 := HMzs2_3.out.fz.2.2.2.2.2
        refine PrintLast.skip_ (w1 := ?_) (by rfl) rfl ?_ ?_
        rotate_left
        · go_simp
          rfl
        refine hK.out _ _ ⟨(HMzs2_3.out.args HRzs2_3.out).raw.2.1, ((HAzs2_3.out.set rfl).at hvj)⟩ (fun hHeld => ?_)
        clear hK K
        clear y5 fz5
        generalize hz : World.setCell zs2_3 _ _ = zs5_4 at hHeld ⊢
        have HMzs5_4 := Lib.hid (HMzs2_3.out.args' HRzs2_3.out hz)
        have HAzs5_4 := Lib.hid (HAzs2_3.out.set hz)
        have HRzs5_4 := Lib.hid (HMzs2_3.out.carry HRzs2_3.out hz)
        clear hz
        refine PrintLast.done_ (by kernel_rfl) ?_
        clear hHeld
        go_wp2_with fail
        go_meet
        case rel => exact ⟨_, _, _, _, _, ⟨by omega, by omega, fun h => absurd h (by omega), fun h => absurd h (by omega), Nat.zero_le _, (by show 1 ≤ 5; decide)⟩, HMzs5_4.out⟩
      · skip
        have y2 := HMzc1.out.st.2.2.1
        have fz2 := HMzc1.out.fz.2.2.1
        refine PrintLast.skip_ (w1 := ?_) (by rfl) rfl ?_ ?_
        rotate_left
        · go_simp
          rfl
        refine hK.out _ _ ⟨(HMzc1.out.kind _).raw.2.1, ((HAzc1.out.set rfl).at hvj)⟩ (fun hHeld => ?_)
        clear hK K
        clear y2 fz2
        generalize hz : World.setCell zc1 _ _ = zs2_2 at hHeld ⊢
        have HMzs2_2 := Lib.hid (HMzc1.out.kind' hz)
        have HAzs2_2 := Lib.hid (HAzc1.out.set hz)
        clear hz
        refine PrintLast.one_ (i := 8) (N := some 138) #[true, true, true, true, true, true, true, true, true, true, true, false, false] rfl rfl (by kernel_rfl) (by decide) (fun K hK => ?_)
        refine PrintLast.value_ (w1 := ?_) (v := ?_) (by rfl) rfl ?_ ?_
        rotate_left 2
        · go_simp
          constructor
          · rfl
          · rfl
        refine hK.out _ _ ⟨(HMzs2_2.out.below (below_alloc (Below.refl _ _) _)).raw.2.1, ((HAzs2_2.out.below (below_alloc (Below.refl _ _) _)).at hvj)⟩ (fun hHeld => ?_)
        clear hK K
        refine PrintLast.norm_ (a' := ?_) ?_ ?_
        rotate_left
        · show Act.put _ (some 138) _ = _
          simp only [Act.put, List.setIfInBounds_toArray, List.set_cons_zero, List.set_cons_succ]
          rfl
        generalize hz : World.alloc zs2_2 _ = zb3 at hHeld ⊢
        have HMzb3 := Lib.hid (HMzs2_2.out.al hz)
        have HAzb3 := Lib.hid (HAzs2_2.out.al hz)
        have HRzb3 : Hid (HasA zb3 w.heap.size [⟨-1, ⟨1, v, ⟨#[]⟩, []⟩⟩] (.slice (some ⟨zs2_2.heap.size, 0, none⟩) 1 1)) := Lib.hid (rowA_one' hz HMzs2_2.out.bel.size (HasE.nil _ _ _ rfl) (good_num (by omega) (by omega)))
        clear hz
        refine PrintLast.pure_ (i := 11) (N := some 140) (v := ?_) (a' := ?_) #[true, true, true, true, true, true, true, true, true, true, true, true, false] rfl rfl (by kernel_rfl) (fun _ _ _ h => h) (Or.inl ⟨by rfl, ?_⟩) ?_ ?_
        rotate_left
        · intro w'
          go_simp
          with_reducible rfl
        rotate_left
        · simp only [Act.put, List.setIfInBounds_toArray, List.set_cons_zero, List.set_cons_succ]
          rfl
        refine PrintLast.one_ (i := 12) (N := none) #[true, true, true, true, true, true, true, true, true, true, true, true, true] rfl rfl (by kernel_rfl) (by decide) (fun K hK => ?_)
        have y5 := HMzb3.out.st.2.2.2.2.2
        have fz5 := HMzb3.out.fz.2.2.2.2.2
        refine PrintLast.skip_ (w1 := ?_) (by rfl) rfl ?_ ?_
        rotate_left
        · go_simp
          rfl
        refine hK.out _ _ ⟨(HMzb3.out.args HRzb3.out).raw.2.1, ((HAzb3.out.set rfl).at hvj)⟩ (fun hHeld => ?_)
        clear hK K
        clear y5 fz5
        generalize hz : World.setCell zb3 _ _ = zs5_4 at hHeld ⊢
        have HMzs5_4 := Lib.hid (HMzb3.out.args' HRzb3.out hz)
        have HAzs5_4 := Lib.hid (HAzb3.out.set hz)
        have HRzs5_4 := Lib.hid (HMzb3.out.carry HRzb3.out hz)
        clear hz
        refine PrintLast.done_ (by kernel_rfl) ?_
        clear hHeld
        go_wp2_with fail
        go_meet
        case rel => exact ⟨_, _, _, _, _, ⟨by omega, by omega, fun h => absurd h (by omega), fun h => absurd h (by omega), Nat.zero_le _, (by show 1 ≤ 5; decide)⟩, HMzs5_4.out⟩
    · skip
      refine PrintLast.goes_ Try.func51 (by kernel_rfl) rfl #[.int .i64 x.f1, .int .i64 8] (by rfl) rfl rfl (by simp only [List.map_toArray, List.map_cons, List.map_nil]; rfl) ?_
      with_reducible refine ((within51 x.f1 8 WD (by omega) (by omega))).mono ?_
      rintro e zc0 ⟨rfl, hbc⟩
      refine ⟨_, rfl, ?_⟩
      rw [HJ.out]
      have HMzc0 := Lib.hid (HMd.out.below hbc)
      clear hbc
      refine hK.out _ _ ((HMzc0.out).raw.2.1) (fun hHeld => ?_)
      clear hK K
      refine PrintLast.norm_ (a' := ?_) ?_ ?_
      rotate_left
      · show Act.put _ (some 133) _ = _
        simp only [Act.put, List.setIfInBounds_toArray, List.set_cons_zero, List.set_cons_succ]
        rfl
      refine PrintLast.two_ (i := 0) (j := 10) (Ni := some 130) (Nj := none) #[true, true, true, true, false, false, false, false, false, true, false, false, false] #[false, true, true, true, false, false, false, false, false, true, true, false, false] rfl rfl rfl rfl (by kernel_rfl) (by decide) (by decide) (fun K hK => ?_) (fun K hK => ?_)
      · skip
        refine PrintLast.value_ (w1 := ?_) (v := ?_) (by rfl) rfl ?_ ?_
        rotate_left 2
        · go_simp
          constructor
          · rfl
          · rfl
        refine hK.out _ _ ((HMzc0.out.below (below_alloc (Below.refl _ _) _)).raw.2.1) (fun hHeld => ?_)
        clear hK K
        refine PrintLast.norm_ (a' := ?_) ?_ ?_
        rotate_left
        · show Act.put _ (some 130) _ = _
          simp only [Act.put, List.setIfInBounds_toArray, List.set_cons_zero, List.set_cons_succ]
          rfl
        generalize hz : World.alloc zc0 _ = za1 at hHeld ⊢
        have HMza1 := Lib.hid (HMzc0.out.al hz)
        have HAza1 : Hid (asS w za1 _ tab23 3) := Lib.hid (asS.new HMzc0.out hz)
        clear hz
        replace hHeld := And.intro hHeld (HAza1.out.at hvj)
        refine more_ (S' := fun w' => w'.cell? ⟨w.heap.size, 1, none⟩ = some (.int .i64 x.f1) ∧ w'.cell? ⟨zc0.heap.size, j, none⟩ = some (.int .i64 v)) (fun _ h => h.1) hHeld ?_
        refine PrintLast.pure_ (i := 4) (N := some 134) (v := ?_) (a' := ?_) #[true, true, true, true, true, false, false, false, false, true, false, false, false] rfl rfl (by kernel_rfl) (fun _ _ _ h => h) (Or.inl ⟨by rfl, ?_⟩) ?_ ?_
        rotate_left
        · intro w'
          go_simp
          with_reducible rfl
        rotate_left
        · simp only [Act.put, List.setIfInBounds_toArray, List.set_cons_zero, List.set_cons_succ]
          rfl
        refine PrintLast.take_ (i := 5) (N := some 135) (v := ?_) (a' := ?_) #[true, true, true, true, true, true, false, false, false, true, false, false, false] rfl rfl (by kernel_rfl) (fun _ _ _ h => h) (Or.inl ⟨by rfl, ?_⟩) hHeld ?_ ?_
        rotate_left
        · rintro w' ⟨s0, s1⟩
          go_simp
          with_reducible rfl
        rotate_left
        · simp only [Act.put, List.setIfInBounds_toArray, List.set_cons_zero, List.set_cons_succ]
          rfl
        refine PrintLast.pure_ (i := 6) (N := some 136) (v := ?_) (a' := ?_) #[true, true, true, true, true, true, true, false, false, true, false, false, false] rfl rfl (by kernel_rfl) (fun _ _ _ h => h) (Or.inl ⟨by rfl, ?_⟩) ?_ ?_
        rotate_left
        · intro w'
          go_simp
          with_reducible rfl
        rotate_left
        · simp only [Act.put, List.setIfInBounds_toArray, List.set_cons_zero, List.set_cons_succ]
          rfl
        refine PrintLast.pure_ (i := 7) (N := some 137) (v := ?_) (a' := ?_) #[true, true, true, true, true, true, true, true, false, true, false, false, false] rfl rfl (by kernel_rfl) (fun _ _ _ h => h) (Or.inl ⟨by rfl, ?_⟩) ?_ ?_
        rotate_left
        · intro w'
          go_simp
          with_reducible rfl
        rotate_left
        · simp only [Act.put, List.setIfInBounds_toArray, List.set_cons_zero, List.set_cons_succ]
          rfl
        refine PrintLast.two_ (i := 8) (j := 10) (Ni := some 138) (Nj := none) #[true, true, true, true, true, true, true, true, true, true, false, false, false] #[true, true, true, true, true, true, true, true, false, true, true, false, false] rfl rfl rfl rfl (by kernel_rfl) (by decide) (by decide) (fun K hK => ?_) (fun K hK => ?_)
        · skip
          refine PrintLast.value_ (w1 := ?_) (v := ?_) (by rfl) rfl ?_ ?_
          rotate_left 2
          · go_simp
            constructor
            · rfl
            · rfl
          refine hK.out _ _ ⟨(HMza1.out.below (below_alloc (Below.refl _ _) _)).raw.2.1, ((HAza1.out.below (below_alloc (Below.refl _ _) _)).at hvj)⟩ (fun hHeld => ?_)
          clear hK K
          refine PrintLast.norm_ (a' := ?_) ?_ ?_
          rotate_left
          · show Act.put _ (some 138) _ = _
            simp only [Act.put, List.setIfInBounds_toArray, List.set_cons_zero, List.set_cons_succ]
            rfl
          generalize hz : World.alloc za1 _ = zb2 at hHeld ⊢
          have HMzb2 := Lib.hid (HMza1.out.al hz)
          have HAzb2 := Lib.hid (HAza1.out.al hz)
          have HRzb2 : Hid (HasA zb2 w.heap.size [⟨-1, ⟨1, v, ⟨#[]⟩, []⟩⟩] (.slice (some ⟨za1.heap.size, 0, none⟩) 1 1)) := Lib.hid (rowA_one' hz HMza1.out.bel.size (HasE.nil _ _ _ rfl) (good_num (by omega) (by omega)))
          clear hz
          refine PrintLast.one_ (i := 10) (N := none) #[true, true, true, true, true, true, true, true, true, true, true, false, false] rfl rfl (by kernel_rfl) (by decide) (fun K hK => ?_)
          have y2 := HMzb2.out.st.2.2.1
          have fz2 := HMzb2.out.fz.2.2.1
          refine PrintLast.skip_ (w1 := ?_) (by rfl) rfl ?_ ?_
          rotate_left
          · go_simp
            rfl
          refine hK.out _ _ ⟨(HMzb2.out.kind _).raw.2.1, ((HAzb2.out.set rfl).at hvj)⟩ (fun hHeld => ?_)
          clear hK K
          clear y2 fz2
          generalize hz : World.setCell zb2 _ _ = zs2_3 at hHeld ⊢
          have HMzs2_3 := Lib.hid (HMzb2.out.kind' hz)
          have HAzs2_3 := Lib.hid (HAzb2.out.set hz)
          have HRzs2_3 := Lib.hid (HMzb2.out.carry HRzb2.out hz)
          clear hz
          refine PrintLast.pure_ (i := 11) (N := some 140) (v := ?_) (a' := ?_) #[true, true, true, true, true, true, true, true, true, true, true, true, false] rfl rfl (by kernel_rfl) (fun _ _ _ h => h) (Or.inl ⟨by rfl, ?_⟩) ?_ ?_
          rotate_left
          · intro w'
            go_simp
            with_reducible rfl
          rotate_left
          · simp only [Act.put, List.setIfInBounds_toArray, List.set_cons_zero, List.set_cons_succ]
            rfl
          refine PrintLast.one_ (i := 12) (N := none) #[true, true, true, true, true, true, true, true, true, true, true, true, true] rfl rfl (by kernel_rfl) (by decide) (fun K hK => ?_)
          have y5 := HMzs2_3.out.st.2.2.2.2.2
          have fz5 := HMzs2_3.out.fz.2.2.2.2.2
          refine PrintLast.skip_ (w1 := ?_) (by rfl) rfl ?_ ?_
          rotate_left
          · go_simp
            rfl
          refine hK.out _ _ ⟨(HMzs2_3.out.args HRzs2_3.out).raw.2.1, ((HAzs2_3.out.set rfl).at hvj)⟩ (fun hHeld => ?_)
          clear hK K
          clear y5 fz5
          generalize hz : World.setCell zs2_3 _ _ = zs5_4 at hHeld ⊢
          have HMzs5_4 := Lib.hid (HMzs2_3.out.args' HRzs2_3.out hz)
          have HAzs5_4 := Lib.hid (HAzs2_3.out.set hz)
          have HRzs5_4 := Lib.hid (HMzs2_3.out.carry HRzs2_3.out hz)
          clear hz
          refine PrintLast.done_ (by kernel_rfl) ?_
          clear hHeld
          go_wp2_with fail
          go_meet
          case rel => exact ⟨_, _, _, _, _, ⟨by omega, by omega, fun h => absurd h (by omega), fun h => absurd h (by omega), Nat.zero_le _, (by show 1 ≤ 5; decide)⟩, HMzs5_4.out⟩
        · skip
          have y2 := HMza1.out.st.2.2.1
          have fz2 := HMza1.out.fz.2.2.1
          refine PrintLast.skip_ (w1 := ?_) (by rfl) rfl ?_ ?_
          rotate_left
          · go_simp
            rfl
          refine hK.out _ _ ⟨(HMza1.out.kind _).raw.2.1, ((HAza1.out.set rfl).at hvj)⟩ (fun hHeld => ?_)
          clear hK K
          clear y2 fz2
          generalize hz : World.setCell za1 _ _ = zs2_2 at hHeld ⊢
          have HMzs2_2 := Lib.hid (HMza1.out.kind' hz)
          have HAzs2_2 := Lib.hid (HAza1.out.set hz)
          clear hz
          refine PrintLast.one_ (i := 8) (N := some 138) #[true, true, true, true, true, true, true, true, true, true, true, false, false] rfl rfl (by kernel_rfl) (by decide) (fun K hK => ?_)
          refine PrintLast.value_ (w1 := ?_) (v := ?_) (by rfl) rfl ?_ ?_
          rotate_left 2
          · go_simp
            constructor
            · rfl
            · rfl
          refine hK.out _ _ ⟨(HMzs2_2.out.below (below_alloc (Below.refl _ _) _)).raw.2.1, ((HAzs2_2.out.below (below_alloc (Below.refl _ _) _)).at hvj)⟩ (fun hHeld => ?_)
          clear hK K
          refine PrintLast.norm_ (a' := ?_) ?_ ?_
          rotate_left
          · show Act.put _ (some 138) _ = _
            simp only [Act.put, List.setIfInBounds_toArray, List.set_cons_zero, List.set_cons_succ]
            rfl
          generalize hz : World.alloc zs2_2 _ = zb3 at hHeld ⊢
          have HMzb3 := Lib.hid (HMzs2_2.out.al hz)
          have HAzb3 := Lib.hid (HAzs2_2.out.al hz)
          have HRzb3 : Hid (HasA zb3 w.heap.size [⟨-1, ⟨1, v, ⟨#[]⟩, []⟩⟩] (.slice (some ⟨zs2_2.heap.size, 0, none⟩) 1 1)) := Lib.hid (rowA_one' hz HMzs2_2.out.bel.size (HasE.nil _ _ _ rfl) (good_num (by omega) (by omega)))
          clear hz
          refine PrintLast.pure_ (i := 11) (N := some 140) (v := ?_) (a' := ?_) #[true, true, true, true, true, true, true, true, true, true, true, true, false] rfl rfl (by kernel_rfl) (fun _ _ _ h => h) (Or.inl ⟨by rfl, ?_⟩) ?_ ?_
          rotate_left
          · intro w'
            go_simp
            with_reducible rfl
          rotate_left
          · simp only [Act.put, List.setIfInBounds_toArray, List.set_cons_zero, List.set_cons_succ]
            rfl
          refine PrintLast.one_ (i := 12) (N := none) #[true, true, true, true, true, true, true, true, true, true, true, true, true] rfl rfl (by kernel_rfl) (by decide) (fun K hK => ?_)
          have y5 := HMzb3.out.st.2.2.2.2.2
          have fz5 := HMzb3.out.fz.2.2.2.2.2
          refine PrintLast.skip_ (w1 := ?_) (by rfl) rfl ?_ ?_
          rotate_left
          · go_simp
            rfl
          refine hK.out _ _ ⟨(HMzb3.out.args HRzb3.out).raw.2.1, ((HAzb3.out.set rfl).at hvj)⟩ (fun hHeld => ?_)
          clear hK K
          clear y5 fz5
          generalize hz : World.setCell zb3 _ _ = zs5_4 at hHeld ⊢
          have HMzs5_4 := Lib.hid (HMzb3.out.args' HRzb3.out hz)
          have HAzs5_4 := Lib.hid (HAzb3.out.set hz)
          have HRzs5_4 := Lib.hid (HMzb3.out.carry HRzb3.out hz)
          clear hz
          refine PrintLast.done_ (by kernel_rfl) ?_
          clear hHeld
          go_wp2_with fail
          go_meet
          case rel => exact ⟨_, _, _, _, _, ⟨by omega, by omega, fun h => absurd h (by omega), fun h => absurd h (by omega), Nat.zero_le _, (by show 1 ≤ 5; decide)⟩, HMzs5_4.out⟩
      · skip
        have y2 := HMzc0.out.st.2.2.1
        have fz2 := HMzc0.out.fz.2.2.1
        refine PrintLast.skip_ (w1 := ?_) (by rfl) rfl ?_ ?_
        rotate_left
        · go_simp
          rfl
        refine hK.out _ _ ((HMzc0.out.kind _).raw.2.1) (fun hHeld => ?_)
        clear hK K
        clear y2 fz2
        generalize hz : World.setCell zc0 _ _ = zs2_1 at hHeld ⊢
        have HMzs2_1 := Lib.hid (HMzc0.out.kind' hz)
        clear hz
        refine PrintLast.one_ (i := 0) (N := some 130) #[true, true, true, true, false, false, false, false, false, true, true, false, false] rfl rfl (by kernel_rfl) (by decide) (fun K hK => ?_)
        refine PrintLast.value_ (w1 := ?_) (v := ?_) (by rfl) rfl ?_ ?_
        rotate_left 2
        · go_simp
          constructor
          · rfl
          · rfl
        refine hK.out _ _ ((HMzs2_1.out.below (below_alloc (Below.refl _ _) _)).raw.2.1) (fun hHeld => ?_)
        clear hK K
        refine PrintLast.norm_ (a' := ?_) ?_ ?_
        rotate_left
        · show Act.put _ (some 130) _ = _
          simp only [Act.put, List.setIfInBounds_toArray, List.set_cons_zero, List.set_cons_succ]
          rfl
        generalize hz : World.alloc zs2_1 _ = za2 at hHeld ⊢
        have HMza2 := Lib.hid (HMzs2_1.out.al hz)
        have HAza2 : Hid (asS w za2 _ tab23 3) := Lib.hid (asS.new HMzs2_1.out hz)
        clear hz
        replace hHeld := And.intro hHeld (HAza2.out.at hvj)
        refine more_ (S' := fun w' => w'.cell? ⟨w.heap.size, 1, none⟩ = some (.int .i64 x.f1) ∧ w'.cell? ⟨zs2_1.heap.size, j, none⟩ = some (.int .i64 v)) (fun _ h => h.1) hHeld ?_
        refine PrintLast.pure_ (i := 4) (N := some 134) (v := ?_) (a' := ?_) #[true, true, true, true, true, false, false, false, false, true, true, false, false] rfl rfl (by kernel_rfl) (fun _ _ _ h => h) (Or.inl ⟨by rfl, ?_⟩) ?_ ?_
        rotate_left
        · intro w'
          go_simp
          with_reducible rfl
        rotate_left
        · simp only [Act.put, List.setIfInBounds_toArray, List.set_cons_zero, List.set_cons_succ]
          rfl
        refine PrintLast.take_ (i := 5) (N := some 135) (v := ?_) (a' := ?_) #[true, true, true, true, true, true, false, false, false, true, true, false, false] rfl rfl (by kernel_rfl) (fun _ _ _ h => h) (Or.inl ⟨by rfl, ?_⟩) hHeld ?_ ?_
        rotate_left
        · rintro w' ⟨s0, s1⟩
          go_simp
          with_reducible rfl
        rotate_left
        · simp only [Act.put, List.setIfInBounds_toArray, List.set_cons_zero, List.set_cons_succ]
          rfl
        refine PrintLast.pure_ (i := 6) (N := some 136) (v := ?_) (a' := ?_) #[true, true, true, true, true, true, true, false, false, true, true, false, false] rfl rfl (by kernel_rfl) (fun _ _ _ h => h) (Or.inl ⟨by rfl, ?_⟩) ?_ ?_
        rotate_left
        · intro w'
          go_simp
          with_reducible rfl
        rotate_left
        · simp only [Act.put, List.setIfInBounds_toArray, List.set_cons_zero, List.set_cons_succ]
          rfl
        refine PrintLast.pure_ (i := 7) (N := some 137) (v := ?_) (a' := ?_) #[true, true, true, true, true, true, true, true, false, true, true, false, false] rfl rfl (by kernel_rfl) (fun _ _ _ h => h) (Or.inl ⟨by rfl, ?_⟩) ?_ ?_
        rotate_left
        · intro w'
          go_simp
          with_reducible rfl
        rotate_left
        · simp only [Act.put, List.setIfInBounds_toArray, List.set_cons_zero, List.set_cons_succ]
          rfl
        refine PrintLast.one_ (i := 8) (N := some 138) #[true, true, true, true, true, true, true, true, true, true, true, false, false] rfl rfl (by kernel_rfl) (by decide) (fun K hK => ?_)
        refine PrintLast.value_ (w1 := ?_) (v := ?_) (by rfl) rfl ?_ ?_
        rotate_left 2
        · go_simp
          constructor
          · rfl
          · rfl
        refine hK.out _ _ ⟨(HMza2.out.below (below_alloc (Below.refl _ _) _)).raw.2.1, ((HAza2.out.below (below_alloc (Below.refl _ _) _)).at hvj)⟩ (fun hHeld => ?_)
        clear hK K
        refine PrintLast.norm_ (a' := ?_) ?_ ?_
        rotate_left
        · show Act.put _ (some 138) _ = _
          simp only [Act.put, List.setIfInBounds_toArray, List.set_cons_zero, List.set_cons_succ]
          rfl
        generalize hz : World.alloc za2 _ = zb3 at hHeld ⊢
        have HMzb3 := Lib.hid (HMza2.out.al hz)
        have HAzb3 := Lib.hid (HAza2.out.al hz)
        have HRzb3 : Hid (HasA zb3 w.heap.size [⟨-1, ⟨1, v, ⟨#[]⟩, []⟩⟩] (.slice (some ⟨za2.heap.size, 0, none⟩) 1 1)) := Lib.hid (rowA_one' hz HMza2.out.bel.size (HasE.nil _ _ _ rfl) (good_num (by omega) (by omega)))
        clear hz
        refine PrintLast.pure_ (i := 11) (N := some 140) (v := ?_) (a' := ?_) #[true, true, true, true, true, true, true, true, true, true, true, true, false] rfl rfl (by kernel_rfl) (fun _ _ _ h => h) (Or.inl ⟨by rfl, ?_⟩) ?_ ?_
        rotate_left
        · intro w'
          go_simp
          with_reducible rfl
        rotate_left
        · simp only [Act.put, List.setIfInBounds_toArray, List.set_cons_zero, List.set_cons_succ]
          rfl
        refine PrintLast.one_ (i := 12) (N := none) #[true, true, true, true, true, true, true, true, true, true, true, true, true] rfl rfl (by kernel_rfl) (by decide) (fun K hK => ?_)
        have y5 := HMzb3.out.st.2.2.2.2.2
        have fz5 := HMzb3.out.fz.2.2.2.2.2
        refine PrintLast.skip_ (w1 := ?_) (by rfl) rfl ?_ ?_
        rotate_left
        · go_simp
          rfl
        refine hK.out _ _ ⟨(HMzb3.out.args HRzb3.out).raw.2.1, ((HAzb3.out.set rfl).at hvj)⟩ (fun hHeld => ?_)
        clear hK K
        clear y5 fz5
        generalize hz : World.setCell zb3 _ _ = zs5_4 at hHeld ⊢
        have HMzs5_4 := Lib.hid (HMzb3.out.args' HRzb3.out hz)
        have HAzs5_4 := Lib.hid (HAzb3.out.set hz)
        have HRzs5_4 := Lib.hid (HMzb3.out.carry HRzb3.out hz)
        clear hz
        refine PrintLast.done_ (by kernel_rfl) ?_
        clear hHeld
        go_wp2_with fail
        go_meet
        case rel => exact ⟨_, _, _, _, _, ⟨by omega, by omega, fun h => absurd h (by omega), fun h => absurd h (by omega), Nat.zero_le _, (by show 1 ≤ 5; decide)⟩, HMzs5_4.out⟩
  case rest =>
    obtain ⟨kd, op, tx, xs, u, hok, hm⟩ := hcut
    have tk : (kd == 0) = false := by have := hok.1; simp; omega
    obtain ⟨-, -, r2, -, -, r5⟩ := hm.raw
    obtain ⟨-, -, s2, -, -, -⟩ := hm.st
    have HM := Lib.hid hm
    have HOK := Lib.hid hok
    clear hok m0 m1 HKK HS HS3 HW1 HW2 HR1 HL hm
    cases h5 : x.f5 with
    | false =>
      rw [h5] at r5
      clear h5 r2
      go_upto_region 26 with fail
      clear s2 tk r5
      have hm := HM.out.bare
      have HLB := Lib.hid (show (ByteArray.mk #[]).size ≤ 6 from Nat.zero_le _)
      obtain ⟨A', c', rfl, -, -⟩ := hm.row.form
      have p1 := hm.q1
      have p2 := hm.q2
      unfold stC at p1 p2
      obtain ⟨a0, a1, a2, a3, a4, a5, -⟩ := box6 p2
      obtain ⟨y0, y1, y2, y3, y4, y5, fz⟩ := box6 p1
      have fz0 := fz 0
      have fz1 := fz 1
      have fz2 := fz 2
      have fz3 := fz 3
      have fz4 := fz 4
      have fz5 := fz 5
      obtain ⟨f1, f2, f3⟩ := put6_end 1 ⟨#[]⟩ kd op tx p1 (Nat.le_succ _) hm.bel hm.row
      obtain ⟨z0, z1, z2, z3, z4, z5, -⟩ := box6 f1
      have HF2 := Lib.hid f2
      have HF3 := Lib.hid f3
      clear p1 p2 fz f1 f2 f3 hm
      go_wp2_with fail
      refine bodyPost_ret (v := .agg (stC 1 ⟨#[]⟩ kd op tx (.slice A' xs.length c'))) (by simp only [put6S] at z0 z1 z2 z3 z4 z5; simp [results, Try.results53, go_sem, z0, z1, z2, z3, z4, z5, stC]) rfl ⟨⟨#[]⟩, kd, op, tx, xs, _, rfl, ⟨HLB.out, HOK.out⟩, HF2.out, HF3.out⟩
    | true =>
      rw [h5] at r5
      clear h5
      have HLT := Lib.hid (show w.heap.size < wc.heap.size from Nat.lt_trans (Nat.lt_add_of_pos_right (by decide)) HM.out.lt)
      have HBd := Lib.hid ((Below.refl wc.heap.size wc).drew)
      obtain ⟨j, hj⟩ : ∃ j : Nat, x.f2 % 4 = j := ⟨(x.f2 % 4).toNat, by have := Int.emod_nonneg x.f2 (show (4 : Int) ≠ 0 by omega); omega⟩
      have hj4 : j < 4 := by have := Int.emod_lt_of_pos x.f2 (show (0 : Int) < 4 by omega); omega
      have HJ := Lib.hid hj
      have HJ4 := Lib.hid hj4
      have j0 : (0 : Int) ≤ (j : Int) := by omega
      have j1 : (j : Int) < 4 := by omega
      clear hj hj4
      go_upto_region 25 with fail
      clear s2 tk r5
      refine PrintLast.start_ (n := 8) (S := fun w' => w'.cell? ⟨w.heap.size, 2, none⟩ = some (.int .i64 x.f2)) (ds := [7]) #[false, false, false, false, false, false, false, false] (by kernel_rfl) rfl rfl (r2) (fun hHeld => ?_)
      refine PrintLast.pure_ (i := 1) (N := some 149) (v := ?_) (a' := ?_) #[false, true, false, false, false, false, false, false] rfl rfl (by kernel_rfl) (fun _ _ _ h => h) (Or.inl ⟨by rfl, ?_⟩) ?_ ?_
      rotate_left
      · intro w'
        go_simp
        with_reducible rfl
      rotate_left
      · simp only [Act.put, List.setIfInBounds_toArray, List.set_cons_zero, List.set_cons_succ]
        rfl
      refine PrintLast.take_ (i := 2) (N := some 150) (v := ?_) (a' := ?_) #[false, true, true, false, false, false, false, false] rfl rfl (by kernel_rfl) (fun _ _ _ h => h) (Or.inl ⟨by rfl, ?_⟩) hHeld ?_ ?_
      rotate_left
      · intro w' s0
        go_simp
        with_reducible rfl
      rotate_left
      · simp only [Act.put, List.setIfInBounds_toArray, List.set_cons_zero, List.set_cons_succ]
        rfl
      refine PrintLast.one_ (i := 0) (N := some 148) #[true, true, true, false, false, false, false, false] rfl rfl (by kernel_rfl) (by decide) (fun K hK => ?_)
      refine PrintLast.goes_ Try.func65 (by kernel_rfl) rfl #[] (by rfl) rfl rfl (by simp only [List.map_toArray, List.map_nil]) ?_
      with_reducible refine ((labels_call wc.drew)).mono ?_
      rintro e wx ⟨ad, cc, rfl, hnm, hbx⟩
      refine ⟨_, rfl, ?_⟩
      have HBx := Lib.hid (HBd.out.trans (hbx.mono HBd.out.size))
      clear hbx
      refine hK.out _ _ ((HBx.out.cell (p := ⟨w.heap.size, 2, none⟩) HLT.out).trans r2) (fun hHeld => ?_)
      clear hK K
      refine PrintLast.norm_ (a' := ?_) ?_ ?_
      rotate_left
      · show Act.put _ (some 148) _ = _
        simp only [Act.put, List.setIfInBounds_toArray, List.set_cons_zero, List.set_cons_succ]
        rfl
      refine PrintLast.one_ (i := 3) (N := some 151) #[true, true, true, true, false, false, false, false] rfl rfl (by kernel_rfl) (by decide) (fun K hK => ?_)
      refine PrintLast.goes_ Try.func51 (by kernel_rfl) rfl #[.int .i64 x.f2, .int .i64 4] (by rfl) rfl rfl (by simp only [List.map_toArray, List.map_cons, List.map_nil]; rfl) ?_
      with_reducible refine ((within51 x.f2 4 wx (by omega) (by omega))).mono ?_
      rintro e wy ⟨rfl, hby⟩
      refine ⟨_, rfl, ?_⟩
      rw [HJ.out]
      have HBy := Lib.hid (HBx.out.trans (hby.mono HBx.out.size))
      obtain ⟨sn, hsn, hcn⟩ := hnm j HJ4.out
      have hcy : wy.cell? (ad.add j) = some (.string sn) := (hby.cell (World.block_lt_of_cell? _ _ hcn)).trans hcn
      have HSn := Lib.hid hsn
      have hmy := HM.out.below HBy.out
      obtain ⟨-, y1, -, -, -, -⟩ := hmy.st
      obtain ⟨-, fz1, -, -, -, -⟩ := hmy.fz
      have HMy := Lib.hid hmy
      clear hby hnm hcn hmy hsn
      refine hK.out _ _ ((HBy.out.cell (p := ⟨w.heap.size, 2, none⟩) HLT.out).trans r2) (fun hHeld => ?_)
      clear hK K
      refine PrintLast.norm_ (a' := ?_) ?_ ?_
      rotate_left
      · show Act.put _ (some 151) _ = _
        simp only [Act.put, List.setIfInBounds_toArray, List.set_cons_zero, List.set_cons_succ]
        rfl
      refine PrintLast.pure_ (i := 4) (N := some 152) (v := ?_) (a' := ?_) #[true, true, true, true, true, false, false, false] rfl rfl (by kernel_rfl) (fun _ _ _ h => h) (Or.inl ⟨by rfl, ?_⟩) ?_ ?_
      rotate_left
      · intro w'
        go_simp
        with_reducible rfl
      rotate_left
      · simp only [Act.put, List.setIfInBounds_toArray, List.set_cons_zero, List.set_cons_succ]
        rfl
      refine PrintLast.one_ (i := 5) (N := some 153) #[true, true, true, true, true, true, false, false] rfl rfl (by kernel_rfl) (by decide) (fun K hK => ?_)
      refine PrintLast.value_ (w1 := ?_) (v := ?_) (by rfl) rfl ?_ ?_
      rotate_left 2
      · go_simp
        constructor
        · rfl
        · rfl
      refine hK.out _ _ ((HBy.out.cell (p := ⟨w.heap.size, 2, none⟩) HLT.out).trans r2) (fun hHeld => ?_)
      clear hK K
      refine PrintLast.norm_ (a' := ?_) ?_ ?_
      rotate_left
      · show Act.put _ (some 153) _ = _
        simp only [Act.put, List.setIfInBounds_toArray, List.set_cons_zero, List.set_cons_succ]
        rfl
      refine PrintLast.pure_ (i := 6) (N := some 154) (v := ?_) (a' := ?_) #[true, true, true, true, true, true, true, false] rfl rfl (by kernel_rfl) (fun _ _ _ h => h) (Or.inl ⟨by rfl, ?_⟩) ?_ ?_
      rotate_left
      · intro w'
        go_simp
        with_reducible rfl
      rotate_left
      · simp only [Act.put, List.setIfInBounds_toArray, List.set_cons_zero, List.set_cons_succ]
        rfl
      refine PrintLast.last_ (i := 7) (N := none) #[true, true, true, true, true, true, true, true] rfl rfl (by kernel_rfl) (by decide) (fun K hK => ?_)
      refine PrintLast.skip_ (w1 := ?_) (by rfl) rfl ?_ ?_
      rotate_left
      · go_simp
        rfl
      refine hK.out _ _ ?_
      clear hK K
      refine PrintLast.done_ (by kernel_rfl) ?_
      clear hHeld
      have hm := HMy.out.label sn
      have HLB := HSn
      generalize hP : wy.setCell ⟨w.heap.size + 2, 1, none⟩ (.string sn) = P at hm ⊢
      clear hP
      obtain ⟨A', c', rfl, -, -⟩ := hm.row.form
      have p1 := hm.q1
      have p2 := hm.q2
      unfold stC at p1 p2
      obtain ⟨a0, a1, a2, a3, a4, a5, -⟩ := box6 p2
      obtain ⟨y0, y1, y2, y3, y4, y5, fz⟩ := box6 p1
      have fz0 := fz 0
      have fz1 := fz 1
      have fz2 := fz 2
      have fz3 := fz 3
      have fz4 := fz 4
      have fz5 := fz 5
      obtain ⟨f1, f2, f3⟩ := put6_end 1 sn kd op tx p1 (Nat.le_succ _) hm.bel hm.row
      obtain ⟨z0, z1, z2, z3, z4, z5, -⟩ := box6 f1
      have HF2 := Lib.hid f2
      have HF3 := Lib.hid f3
      clear p1 p2 fz f1 f2 f3 hm
      go_wp2_with fail
      refine bodyPost_ret (v := .agg (stC 1 sn kd op tx (.slice A' xs.length c'))) (by simp only [put6S] at z0 z1 z2 z3 z4 z5; simp [results, Try.results53, go_sem, z0, z1, z2, z3, z4, z5, stC]) rfl ⟨sn, kd, op, tx, xs, _, rfl, ⟨HLB.out, HOK.out⟩, HF2.out, HF3.out⟩
end Go.Proofs.Ytifdkkkcecpjoaa
end
