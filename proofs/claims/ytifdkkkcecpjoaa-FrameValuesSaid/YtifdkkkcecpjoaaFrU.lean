/-
  The reference's Response: the bytes of any response.
-/
import Derived.Test.YtifdkkkcecpjoaaFrT
import Derived.Test.YtifdkkkcecpjoaaWLast
import Derived.Deep.DeepCutAuto
import Derived.Deep.CutBlock
namespace Go.Proofs.Ytifdkkkcecpjoaa
open Go.RowKit Go.Proofs.YtifdkkkcecpjoaaW
attribute [local go_sem ↓] Go.wp_at_zero Go.wp_at_succ
set_option linter.unusedSimpArgs false

theorem own_len {w : World} {base n m c size : Nat} {e : TypeId} {A : Option Addr} {xs : List Value} (h : w.ownsRow base e size (.slice A m c) n xs) : m = n := by
  rcases h.2 with ⟨e1, h0⟩ | ⟨g, cap, cur, e1, _⟩
  · injection e1 with _ e2 _; omega
  · injection e1
def RR1 (W1 : World) (base : Nat) (L : List UInt8) (v : Value) (wc : World) : Prop := wc.ownsRow base 5 1 v L.length (bv L) ∧ Below base W1 wc

set_option maxRecDepth 100000 in
set_option maxHeartbeats 3200000 in
theorem rresp_any {w : World} {B iN iC dN dC : Nat} {iA dA : Option Addr} {img : List UInt8} {ds : List Dg} (x : Int) (t : ByteArray) (hi : Sl w B iA iN iC img) (hs : Sd w B dA dN ds) (hB : B ≤ w.heap.size)
    (ht : t.size ≤ 600) (hi4 : img.length ≤ 4096) (hn : ds.length ≤ 5000) (hd : ∀ d ∈ ds, d.frag.length ≤ 100) :
    Calls Try.prog 23 #[rsv x t iA iN iC dA dN dC] w (BytesEnd (Rs.enc ⟨x, bl t, img, ds⟩) w) := by
  unfold rsv
  obtain ⟨i5, hi5, hz5', hy5, hx5⟩ := info_parts info5
  have HD := Lib.hid hd
  have HLN := Lib.hid hs.len
  have hdN : dN ≤ 5000 := by have := hs.len; omega
  obtain ⟨W1, hW1⟩ : ∃ W1, W1 = w.alloc (.cells #[.int .i64 x, .string t, .slice iA iN iC, .slice dA dN dC] 42) := ⟨_, rfl⟩
  have b01 : Below w.heap.size w W1 := by rw [hW1]; exact (Below.refl _ _).alloc (Nat.le_refl _) _
  have hq : W1.heap[w.heap.size]? = some (.cells #[.int .i64 x, .string t, .slice iA iN iC, .slice dA dN dC] 42 (0, 0)) := by rw [hW1]; exact heap_alloc_new w _
  have hz1 : W1.heap.size = w.heap.size + 1 := by rw [hW1]; simp
  have hS : ∀ y : World, Below (w.heap.size + 1) W1 y → y.cell? ⟨w.heap.size, 0, none⟩ = some (.int .i64 x) ∧ y.cell? ⟨w.heap.size, 1, none⟩ = some (.string t) ∧ y.cell? ⟨w.heap.size, 2, none⟩ = some (.slice iA iN iC) := fun y hb => by
    obtain ⟨a0, a1, a2, a3⟩ := box4 ((hb.block _ (by omega)).trans hq)
    exact ⟨a0, a1, a2⟩
  have hS3 : ∀ y : World, Below (w.heap.size + 1) W1 y → y.cell? ⟨w.heap.size, 3, none⟩ = some (.slice dA dN dC) := fun y hb => (box4 ((hb.block _ (by omega)).trans hq)).2.2.2
  have hSL : ∀ y : World, Below (w.heap.size + 1) W1 y → Sl y B iA iN iC img := fun y hb => hi.below ((b01.trans (hb.mono (by omega))).mono hB)
  have hSD : ∀ y : World, Below (w.heap.size + 1) W1 y → Sd y B dA dN ds := fun y hb => hs.below ((b01.trans (hb.mono (by omega))).mono hB)
  have c1 : ∀ y : World, Below (w.heap.size + 1) W1 y → Calls Try.prog 39 #[.slice none 0 0, .int .i64 x, .int .i64 1] y (RefEnd (w.heap.size + 1) (be 1 x) y) := fun y hb => by
    have := rnum_any (w := y) (base := w.heap.size + 1) (n := 1) (v := .slice none 0 0) (l := []) (World.ownsRow_nil _ _ _ _) (by have := hb.size; omega) x (by omega) (by omega) (by simp)
    rw [List.nil_append] at this
    exact this
  have c2 : ∀ (y : World) (v : Value), Below (w.heap.size + 1) W1 y → y.ownsRow (w.heap.size + 1) 5 1 v (be 1 x).length (bv (be 1 x)) → Calls Try.prog 38 #[v, .string t, .int .i64 2] y (RefEnd (w.heap.size + 1) (be 1 x ++ tx 2 (bl t)) y) := fun y v hb ho =>
    rtext_any (n := 2) ho (by have := hb.size; omega) t (by omega) (by omega) (by rw [be_length]; omega) (by omega)
  have c3 : ∀ (y : World) (v : Value), Below (w.heap.size + 1) W1 y → y.ownsRow (w.heap.size + 1) 5 1 v (be 1 x ++ tx 2 (bl t)).length (bv (be 1 x ++ tx 2 (bl t))) → Calls Try.prog 38 #[v, .string (ba img), .int .i64 2] y (RefEnd (w.heap.size + 1) (be 1 x ++ tx 2 (bl t) ++ tx 2 img) y) := fun y v hb ho => by
    have := rtext_any (n := 2) ho (by have := hb.size; omega) (ba img) (by omega) (by omega) (by rw [List.length_append, be_length, tx_length, bl_length]; omega) (by rw [ba_size]; omega)
    rw [bl_ba] at this
    exact this
  have HS := Lib.hid hS
  have HS3 := Lib.hid hS3
  have HSL := Lib.hid hSL
  have HSD := Lib.hid hSD
  have C1 := Lib.hid c1
  have C2 := Lib.hid (fun y v => c2 y v)
  have C3 := Lib.hid (fun y v => c3 y v)
  have HW1 := Lib.hid hW1
  have HZ1 := Lib.hid hz1
  have HB01 := Lib.hid b01
  clear hS hS3 hSL hSD c1 c2 c3 hW1 hz1 hq hi hs hd b01
  obtain ⟨L1, hL1⟩ : ∃ L1, L1 = be 1 x ++ tx 2 (bl t) ++ tx 2 img := ⟨_, rfl⟩
  have hl1 : L1.length ≤ 10000 := by rw [hL1, List.length_append, List.length_append, be_length, tx_length, tx_length, bl_length]; omega
  rw [← hL1] at C3
  have HL1 := Lib.hid hL1
  clear hL1
  go_enter Try.func23, Try.ntmps23
  go_upto_region 1 with fail
  rw [← HW1.out]
  go_cut [3] (fun s3 wc => RR1 W1 (w.heap.size + 1) L1 s3 wc)
  case first =>
    have B0 : Below (w.heap.size + 1) W1 W1.drew := (Below.refl _ _).drew
    have cv := sl_string (HSL.out _ B0)
    refine PrintLast.start_ (n := 11) (S := fun w' => w'.cell? ⟨w.heap.size, 0, none⟩ = some (.int .i64 x) ∧ w'.cell? ⟨w.heap.size, 1, none⟩ = some (.string t) ∧ w'.cell? ⟨w.heap.size, 2, none⟩ = some (.slice iA iN iC)) (ds := []) #[false, false, false, false, false, false, false, false, false, false, false] (by kernel_rfl) rfl rfl (HS.out _ B0) (fun hHeld => ?_)
    refine PrintLast.pure_ (i := 0) (N := some 6) (v := ?_) (a' := ?_) #[true, false, false, false, false, false, false, false, false, false, false] rfl rfl (by kernel_rfl) (fun _ _ _ h => h) (Or.inl ⟨by rfl, ?_⟩) ?_ ?_
    rotate_left
    · intro w'
      go_simp
      with_reducible rfl
    rotate_left
    · simp only [Act.put, List.setIfInBounds_toArray, List.set_cons_zero, List.set_cons_succ]
      rfl
    refine PrintLast.pure_ (i := 3) (N := some 9) (v := ?_) (a' := ?_) #[true, false, false, true, false, false, false, false, false, false, false] rfl rfl (by kernel_rfl) (fun _ _ _ h => h) (Or.inl ⟨by rfl, ?_⟩) ?_ ?_
    rotate_left
    · intro w'
      go_simp
      with_reducible rfl
    rotate_left
    · simp only [Act.put, List.setIfInBounds_toArray, List.set_cons_zero, List.set_cons_succ]
      rfl
    refine PrintLast.pure_ (i := 6) (N := some 12) (v := ?_) (a' := ?_) #[true, false, false, true, false, false, true, false, false, false, false] rfl rfl (by kernel_rfl) (fun _ _ _ h => h) (Or.inl ⟨by rfl, ?_⟩) ?_ ?_
    rotate_left
    · intro w'
      go_simp
      with_reducible rfl
    rotate_left
    · simp only [Act.put, List.setIfInBounds_toArray, List.set_cons_zero, List.set_cons_succ]
      rfl
    refine PrintLast.take_ (i := 1) (N := some 7) (v := ?_) (a' := ?_) #[true, true, false, true, false, false, true, false, false, false, false] rfl rfl (by kernel_rfl) (fun _ _ _ h => h) (Or.inl ⟨by rfl, ?_⟩) hHeld ?_ ?_
    rotate_left
    · rintro w' ⟨s0, s1, s2⟩
      go_simp
      with_reducible rfl
    rotate_left
    · simp only [Act.put, List.setIfInBounds_toArray, List.set_cons_zero, List.set_cons_succ]
      rfl
    refine PrintLast.take_ (i := 4) (N := some 10) (v := ?_) (a' := ?_) #[true, true, false, true, true, false, true, false, false, false, false] rfl rfl (by kernel_rfl) (fun _ _ _ h => h) (Or.inl ⟨by rfl, ?_⟩) hHeld ?_ ?_
    rotate_left
    · rintro w' ⟨s0, s1, s2⟩
      go_simp
      with_reducible rfl
    rotate_left
    · simp only [Act.put, List.setIfInBounds_toArray, List.set_cons_zero, List.set_cons_succ]
      rfl
    refine PrintLast.take_ (i := 7) (N := some 13) (v := ?_) (a' := ?_) #[true, true, false, true, true, false, true, true, false, false, false] rfl rfl (by kernel_rfl) (fun _ _ _ h => h) (Or.inl ⟨by rfl, ?_⟩) hHeld ?_ ?_
    rotate_left
    · rintro w' ⟨s0, s1, s2⟩
      go_simp
      with_reducible rfl
    rotate_left
    · simp only [Act.put, List.setIfInBounds_toArray, List.set_cons_zero, List.set_cons_succ]
      rfl
    refine PrintLast.two_ (i := 2) (j := 8) (Ni := some 8) (Nj := some 14) #[true, true, true, true, true, false, true, true, false, false, false] #[true, true, false, true, true, false, true, true, true, false, false] rfl rfl rfl rfl (by kernel_rfl) (by decide) (by decide) (fun K hK => ?_) (fun K hK => ?_)
    · skip
      refine PrintLast.goes_ Try.func39 (by kernel_rfl) rfl #[.slice none 0 0, .int .i64 x, .int .i64 1] (by rfl) rfl rfl (by simp only [List.map_toArray, List.map_cons, List.map_nil]; rfl) ?_
      with_reducible refine (C1.out _ B0).mono ?_
      rintro e u1 ⟨v1, rfl, ho1, bb1, -⟩
      have B1 : Below (w.heap.size + 1) W1 u1 := B0.trans bb1
      have cv := sl_string (HSL.out _ B1)
      obtain ⟨p1, q1, r1, rfl⟩ := own_form ho1
      refine ⟨_, rfl, ?_⟩
      refine hK.out _ _ (HS.out _ B1) (fun hHeld => ?_)
      clear hK K
      refine PrintLast.norm_ (a' := ?_) ?_ ?_
      rotate_left
      · show Act.put _ (some 8) _ = _
        simp only [Act.put, List.setIfInBounds_toArray, List.set_cons_zero, List.set_cons_succ]
        rfl
      refine PrintLast.two_ (i := 5) (j := 8) (Ni := some 11) (Nj := some 14) #[true, true, true, true, true, true, true, true, false, false, false] #[true, true, true, true, true, false, true, true, true, false, false] rfl rfl rfl rfl (by kernel_rfl) (by decide) (by decide) (fun K hK => ?_) (fun K hK => ?_)
      · skip
        refine PrintLast.goes_ Try.func38 (by kernel_rfl) rfl #[.slice p1 q1 r1, .string t, .int .i64 2] (by rfl) rfl rfl (by simp only [List.map_toArray, List.map_cons, List.map_nil]; rfl) ?_
        with_reducible refine (C2.out _ _ B1 ho1).mono ?_
        rintro e u2 ⟨v2, rfl, ho2, bb2, -⟩
        have B2 : Below (w.heap.size + 1) W1 u2 := B1.trans bb2
        replace cv := sl_string (HSL.out _ B2)
        obtain ⟨p2, q2, r2, rfl⟩ := own_form ho2
        refine ⟨_, rfl, ?_⟩
        refine hK.out _ _ (HS.out _ B2) (fun hHeld => ?_)
        clear hK K
        refine PrintLast.norm_ (a' := ?_) ?_ ?_
        rotate_left
        · show Act.put _ (some 11) _ = _
          simp only [Act.put, List.setIfInBounds_toArray, List.set_cons_zero, List.set_cons_succ]
          rfl
        refine PrintLast.one_ (i := 8) (N := some 14) #[true, true, true, true, true, true, true, true, true, false, false] rfl rfl (by kernel_rfl) (by decide) (fun K hK => ?_)
        refine PrintLast.value_ (w1 := ?_) (v := ?_) (by rfl) rfl ?_ ?_
        rotate_left 2
        · go_simp
          constructor
          · rfl
          · rfl
        refine hK.out _ _ hHeld (fun hHeld => ?_)
        clear hK K
        refine PrintLast.norm_ (a' := ?_) ?_ ?_
        rotate_left
        · show Act.put _ (some 14) _ = _
          simp only [Act.put, List.setIfInBounds_toArray, List.set_cons_zero, List.set_cons_succ]
          rfl
        refine PrintLast.one_ (i := 9) (N := some 15) #[true, true, true, true, true, true, true, true, true, true, false] rfl rfl (by kernel_rfl) (by decide) (fun K hK => ?_)
        refine PrintLast.goes_ Try.func38 (by kernel_rfl) rfl #[.slice p2 q2 r2, .string (ba img), .int .i64 2] (by rfl) rfl rfl (by simp only [List.map_toArray, List.map_cons, List.map_nil]; rfl) ?_
        with_reducible refine (C3.out _ _ B2 ho2).mono ?_
        rintro e u3 ⟨v3, rfl, ho3, bb3, -⟩
        have B3 : Below (w.heap.size + 1) W1 u3 := B2.trans bb3
        obtain ⟨p3, q3, r3, rfl⟩ := own_form ho3
        refine ⟨_, rfl, ?_⟩
        refine hK.out _ _ (HS.out _ B3) (fun hHeld => ?_)
        clear hK K
        refine PrintLast.norm_ (a' := ?_) ?_ ?_
        rotate_left
        · show Act.put _ (some 15) _ = _
          simp only [Act.put, List.setIfInBounds_toArray, List.set_cons_zero, List.set_cons_succ]
          rfl
        refine PrintLast.pure_ (i := 10) (N := some 3) (v := ?_) (a' := ?_) #[true, true, true, true, true, true, true, true, true, true, true] rfl rfl (by kernel_rfl) (fun _ _ _ h => h) (Or.inl ⟨by rfl, ?_⟩) ?_ ?_
        rotate_left
        · intro w'
          go_simp
          with_reducible rfl
        rotate_left
        · simp only [Act.put, List.setIfInBounds_toArray, List.set_cons_zero, List.set_cons_succ]
          rfl
        refine PrintLast.done_ (by kernel_rfl) ?_
        go_wp2_with fail
        go_meet
        case rel => exact ⟨ho3, B3⟩
      · skip
        refine PrintLast.value_ (w1 := ?_) (v := ?_) (by rfl) rfl ?_ ?_
        rotate_left 2
        · go_simp
          constructor
          · rfl
          · rfl
        refine hK.out _ _ hHeld (fun hHeld => ?_)
        clear hK K
        refine PrintLast.norm_ (a' := ?_) ?_ ?_
        rotate_left
        · show Act.put _ (some 14) _ = _
          simp only [Act.put, List.setIfInBounds_toArray, List.set_cons_zero, List.set_cons_succ]
          rfl
        refine PrintLast.one_ (i := 5) (N := some 11) #[true, true, true, true, true, true, true, true, true, false, false] rfl rfl (by kernel_rfl) (by decide) (fun K hK => ?_)
        refine PrintLast.goes_ Try.func38 (by kernel_rfl) rfl #[.slice p1 q1 r1, .string t, .int .i64 2] (by rfl) rfl rfl (by simp only [List.map_toArray, List.map_cons, List.map_nil]; rfl) ?_
        with_reducible refine (C2.out _ _ B1 ho1).mono ?_
        rintro e u2 ⟨v2, rfl, ho2, bb2, -⟩
        have B2 : Below (w.heap.size + 1) W1 u2 := B1.trans bb2
        replace cv := sl_string (HSL.out _ B2)
        obtain ⟨p2, q2, r2, rfl⟩ := own_form ho2
        refine ⟨_, rfl, ?_⟩
        refine hK.out _ _ (HS.out _ B2) (fun hHeld => ?_)
        clear hK K
        refine PrintLast.norm_ (a' := ?_) ?_ ?_
        rotate_left
        · show Act.put _ (some 11) _ = _
          simp only [Act.put, List.setIfInBounds_toArray, List.set_cons_zero, List.set_cons_succ]
          rfl
        refine PrintLast.one_ (i := 9) (N := some 15) #[true, true, true, true, true, true, true, true, true, true, false] rfl rfl (by kernel_rfl) (by decide) (fun K hK => ?_)
        refine PrintLast.goes_ Try.func38 (by kernel_rfl) rfl #[.slice p2 q2 r2, .string (ba img), .int .i64 2] (by rfl) rfl rfl (by simp only [List.map_toArray, List.map_cons, List.map_nil]; rfl) ?_
        with_reducible refine (C3.out _ _ B2 ho2).mono ?_
        rintro e u3 ⟨v3, rfl, ho3, bb3, -⟩
        have B3 : Below (w.heap.size + 1) W1 u3 := B2.trans bb3
        obtain ⟨p3, q3, r3, rfl⟩ := own_form ho3
        refine ⟨_, rfl, ?_⟩
        refine hK.out _ _ (HS.out _ B3) (fun hHeld => ?_)
        clear hK K
        refine PrintLast.norm_ (a' := ?_) ?_ ?_
        rotate_left
        · show Act.put _ (some 15) _ = _
          simp only [Act.put, List.setIfInBounds_toArray, List.set_cons_zero, List.set_cons_succ]
          rfl
        refine PrintLast.pure_ (i := 10) (N := some 3) (v := ?_) (a' := ?_) #[true, true, true, true, true, true, true, true, true, true, true] rfl rfl (by kernel_rfl) (fun _ _ _ h => h) (Or.inl ⟨by rfl, ?_⟩) ?_ ?_
        rotate_left
        · intro w'
          go_simp
          with_reducible rfl
        rotate_left
        · simp only [Act.put, List.setIfInBounds_toArray, List.set_cons_zero, List.set_cons_succ]
          rfl
        refine PrintLast.done_ (by kernel_rfl) ?_
        go_wp2_with fail
        go_meet
        case rel => exact ⟨ho3, B3⟩
    · skip
      refine PrintLast.value_ (w1 := ?_) (v := ?_) (by rfl) rfl ?_ ?_
      rotate_left 2
      · go_simp
        constructor
        · rfl
        · rfl
      refine hK.out _ _ hHeld (fun hHeld => ?_)
      clear hK K
      refine PrintLast.norm_ (a' := ?_) ?_ ?_
      rotate_left
      · show Act.put _ (some 14) _ = _
        simp only [Act.put, List.setIfInBounds_toArray, List.set_cons_zero, List.set_cons_succ]
        rfl
      refine PrintLast.one_ (i := 2) (N := some 8) #[true, true, true, true, true, false, true, true, true, false, false] rfl rfl (by kernel_rfl) (by decide) (fun K hK => ?_)
      refine PrintLast.goes_ Try.func39 (by kernel_rfl) rfl #[.slice none 0 0, .int .i64 x, .int .i64 1] (by rfl) rfl rfl (by simp only [List.map_toArray, List.map_cons, List.map_nil]; rfl) ?_
      with_reducible refine (C1.out _ B0).mono ?_
      rintro e u1 ⟨v1, rfl, ho1, bb1, -⟩
      have B1 : Below (w.heap.size + 1) W1 u1 := B0.trans bb1
      have cv := sl_string (HSL.out _ B1)
      obtain ⟨p1, q1, r1, rfl⟩ := own_form ho1
      refine ⟨_, rfl, ?_⟩
      refine hK.out _ _ (HS.out _ B1) (fun hHeld => ?_)
      clear hK K
      refine PrintLast.norm_ (a' := ?_) ?_ ?_
      rotate_left
      · show Act.put _ (some 8) _ = _
        simp only [Act.put, List.setIfInBounds_toArray, List.set_cons_zero, List.set_cons_succ]
        rfl
      refine PrintLast.one_ (i := 5) (N := some 11) #[true, true, true, true, true, true, true, true, true, false, false] rfl rfl (by kernel_rfl) (by decide) (fun K hK => ?_)
      refine PrintLast.goes_ Try.func38 (by kernel_rfl) rfl #[.slice p1 q1 r1, .string t, .int .i64 2] (by rfl) rfl rfl (by simp only [List.map_toArray, List.map_cons, List.map_nil]; rfl) ?_
      with_reducible refine (C2.out _ _ B1 ho1).mono ?_
      rintro e u2 ⟨v2, rfl, ho2, bb2, -⟩
      have B2 : Below (w.heap.size + 1) W1 u2 := B1.trans bb2
      replace cv := sl_string (HSL.out _ B2)
      obtain ⟨p2, q2, r2, rfl⟩ := own_form ho2
      refine ⟨_, rfl, ?_⟩
      refine hK.out _ _ (HS.out _ B2) (fun hHeld => ?_)
      clear hK K
      refine PrintLast.norm_ (a' := ?_) ?_ ?_
      rotate_left
      · show Act.put _ (some 11) _ = _
        simp only [Act.put, List.setIfInBounds_toArray, List.set_cons_zero, List.set_cons_succ]
        rfl
      refine PrintLast.one_ (i := 9) (N := some 15) #[true, true, true, true, true, true, true, true, true, true, false] rfl rfl (by kernel_rfl) (by decide) (fun K hK => ?_)
      refine PrintLast.goes_ Try.func38 (by kernel_rfl) rfl #[.slice p2 q2 r2, .string (ba img), .int .i64 2] (by rfl) rfl rfl (by simp only [List.map_toArray, List.map_cons, List.map_nil]; rfl) ?_
      with_reducible refine (C3.out _ _ B2 ho2).mono ?_
      rintro e u3 ⟨v3, rfl, ho3, bb3, -⟩
      have B3 : Below (w.heap.size + 1) W1 u3 := B2.trans bb3
      obtain ⟨p3, q3, r3, rfl⟩ := own_form ho3
      refine ⟨_, rfl, ?_⟩
      refine hK.out _ _ (HS.out _ B3) (fun hHeld => ?_)
      clear hK K
      refine PrintLast.norm_ (a' := ?_) ?_ ?_
      rotate_left
      · show Act.put _ (some 15) _ = _
        simp only [Act.put, List.setIfInBounds_toArray, List.set_cons_zero, List.set_cons_succ]
        rfl
      refine PrintLast.pure_ (i := 10) (N := some 3) (v := ?_) (a' := ?_) #[true, true, true, true, true, true, true, true, true, true, true] rfl rfl (by kernel_rfl) (fun _ _ _ h => h) (Or.inl ⟨by rfl, ?_⟩) ?_ ?_
      rotate_left
      · intro w'
        go_simp
        with_reducible rfl
      rotate_left
      · simp only [Act.put, List.setIfInBounds_toArray, List.set_cons_zero, List.set_cons_succ]
        rfl
      refine PrintLast.done_ (by kernel_rfl) ?_
      go_wp2_with fail
      go_meet
      case rel => exact ⟨ho3, B3⟩
  case rest =>
    obtain ⟨ho3, B3⟩ := hcut
    obtain ⟨p3, q3, r3, rfl⟩ := own_form ho3
    have d3 := HS3.out _ B3
    have hsz : w.heap.size + 1 ≤ wc.heap.size := by have := B3.size; have := HZ1.out; omega
    go_wp2_with fail
    refine (rnum_any (n := 2) ho3 hsz (dN : Int) (by omega) (by omega) (by omega)).mono ?_
    rintro e v4 ⟨u4, rfl, ho4, bb4, -⟩
    obtain ⟨p4, q4, r4, rfl⟩ := own_form ho4
    have B4 := B3.trans bb4
    obtain ⟨L2, hL2⟩ : ∃ L2, L2 = L1 ++ be 2 (dN : Int) := ⟨_, rfl⟩
    have hl2 : L2.length ≤ 10002 := by rw [hL2, List.length_append, be_length]; omega
    rw [← hL2] at ho4
    have HL2 := Lib.hid hL2
    clear hL2 ho3 d3 bb4 B3
    go_wp2_with fail
    go_loopw [3, 4] (fun b i wr => ∃ j : Nat, j ≤ dN ∧ i = .int .i64 j ∧ wr.ownsRow (w.heap.size + 1) 5 1 b (L2 ++ encs (ds.take j)).length (bv (L2 ++ encs (ds.take j))) ∧ Below (w.heap.size + 1) W1 wr) (fun _ i _ => dN - (intOf i).toNat)
    case atStart => exact ⟨0, Nat.zero_le _, rfl, by simpa [encs] using ho4, B4⟩
    case round =>
      obtain ⟨j, hj, rfl, ho, hb⟩ := hrel
      obtain ⟨a, m, c, rfl⟩ := own_form ho
      have d3 := HS3.out _ hb
      have hsd := HSD.out _ hb
      have hen : (encs (ds.take j)).length ≤ 520000 := by
        have h1 := encs_len (ds.take j) (fun d hd => HD.out d (List.mem_of_mem_take hd))
        have h2 : (ds.take j).length ≤ 5000 := by rw [List.length_take]; omega
        omega
      have hszr : w.heap.size + 1 ≤ wr.heap.size := by have := hb.size; have := HZ1.out; omega
      clear ho4 B4
      by_cases hlt : j < dN
      · obtain ⟨g, d, rfl, hgB, hdj, e0, e1, e2⟩ := hsd.at_ hlt
        have hjn : (j : Int) < (dN : Int) := by omega
        have hfr : d.frag.length ≤ 100 := HD.out d (List.mem_of_getElem? hdj)
        obtain ⟨L, hL⟩ : ∃ L, L = L2 ++ encs (ds.take j) := ⟨_, rfl⟩
        have hlL : L.length ≤ 600000 := by rw [hL, List.length_append]; omega
        rw [← hL] at ho
        have HE : Hid (L2 ++ encs (ds.take (j + 1)) = L ++ tx 1 d.frag ++ be 2 d.line ++ be 1 d.e) := by
          show _ = _
          rw [hL, List.take_add_one, hdj]
          show L2 ++ encs (List.take j ds ++ [d]) = _
          rw [encs_snoc, Dg.enc]
          simp only [List.append_assoc]
        obtain ⟨W8, hW8⟩ : ∃ W8, W8 = wr.alloc (.cells #[.string (ba d.frag), .int .i64 d.line, .int .i64 d.e] 57) := ⟨_, rfl⟩
        have b8 : Below wr.heap.size wr W8 := by rw [hW8]; exact (Below.refl _ _).alloc (Nat.le_refl _) _
        have hq8 : W8.heap[wr.heap.size]? = some (.cells #[.string (ba d.frag), .int .i64 d.line, .int .i64 d.e] 57 (0, 0)) := by rw [hW8]; exact heap_alloc_new wr _
        have hB8 : Below (w.heap.size + 1) W1 W8.drew := (hb.trans (b8.mono hszr)).drew
        have hC8 : ∀ y : World, WKeep W8 y → y.cell? ⟨wr.heap.size, 0, none⟩ = some (.string (ba d.frag)) ∧ y.cell? ⟨wr.heap.size, 1, none⟩ = some (.int .i64 d.line) ∧ y.cell? ⟨wr.heap.size, 2, none⟩ = some (.int .i64 d.e) := fun y hk => box3 ((hk _ _ _ hq8 (by decide) (by decide)).trans hq8)
        have hK8 : WKeep W8 W8.drew := WKeep.of_below ((Below.refl _ _).drew)
        have ho8 : W8.drew.ownsRow (w.heap.size + 1) 5 1 (.slice a m c) L.length (bv L) := by rw [hW8]; exact (ho.alloc _).drew
        have dd1 : Calls Try.prog 38 #[.slice a m c, .string (ba d.frag), .int .i64 1] W8.drew (RefEnd (w.heap.size + 1) (L ++ tx 1 (bl (ba d.frag))) W8.drew) := rtext_any (n := 1) ho8 (by have := b8.size; show w.heap.size + 1 ≤ W8.heap.size; omega) (ba d.frag) (by omega) (by omega) (by omega) (by rw [ba_size]; omega)
        rw [bl_ba] at dd1
        have dd2 : ∀ (y : World) (v : Value), Below (w.heap.size + 1) W1 y → y.ownsRow (w.heap.size + 1) 5 1 v (L ++ tx 1 d.frag).length (bv (L ++ tx 1 d.frag)) → Calls Try.prog 39 #[v, .int .i64 d.line, .int .i64 2] y (RefEnd (w.heap.size + 1) (L ++ tx 1 d.frag ++ be 2 d.line) y) := fun y v hb ho =>
          rnum_any (n := 2) ho (by have := hb.size; have := HZ1.out; omega) d.line (by omega) (by omega) (by rw [List.length_append, tx_length]; omega)
        have dd3 : ∀ (y : World) (v : Value), Below (w.heap.size + 1) W1 y → y.ownsRow (w.heap.size + 1) 5 1 v (L ++ tx 1 d.frag ++ be 2 d.line).length (bv (L ++ tx 1 d.frag ++ be 2 d.line)) → Calls Try.prog 39 #[v, .int .i64 d.e, .int .i64 1] y (RefEnd (w.heap.size + 1) (L ++ tx 1 d.frag ++ be 2 d.line ++ be 1 d.e) y) := fun y v hb ho =>
          rnum_any (n := 1) ho (by have := hb.size; have := HZ1.out; omega) d.e (by omega) (by omega) (by rw [List.length_append, List.length_append, tx_length, be_length]; omega)
        have D1 := Lib.hid dd1
        have D2 := Lib.hid (fun y v => dd2 y v)
        have D3 := Lib.hid (fun y v => dd3 y v)
        have HB8 := Lib.hid hB8
        have HK8 := Lib.hid hK8
        have HC8 := Lib.hid hC8
        have HW8 := Lib.hid hW8
        clear hW8 b8 hq8 hB8 hC8 hK8 ho8 dd1 dd2 dd3 hL hdj hsd ho hb
        go_upto_region 7 with fail
        rw [← HW8.out]
        obtain ⟨t0_, t1_, t2_⟩ := HC8.out _ HK8.out
        refine PrintLast.start_ (n := 11) (S := fun w' => w'.cell? ⟨wr.heap.size, 0, none⟩ = some (.string (ba d.frag)) ∧ w'.cell? ⟨wr.heap.size, 1, none⟩ = some (.int .i64 d.line) ∧ w'.cell? ⟨wr.heap.size, 2, none⟩ = some (.int .i64 d.e)) (ds := []) #[false, false, false, false, false, false, false, false, false, false, false] (by kernel_rfl) rfl rfl ⟨t0_, t1_, t2_⟩ (fun hHeld => ?_)
        refine PrintLast.pure_ (i := 0) (N := some 33) (v := ?_) (a' := ?_) #[true, false, false, false, false, false, false, false, false, false, false] rfl rfl (by kernel_rfl) (fun _ _ _ h => h) (Or.inl ⟨by rfl, ?_⟩) ?_ ?_
        rotate_left
        · intro w'
          go_simp
          with_reducible rfl
        rotate_left
        · simp only [Act.put, List.setIfInBounds_toArray, List.set_cons_zero, List.set_cons_succ]
          rfl
        refine PrintLast.pure_ (i := 1) (N := some 34) (v := ?_) (a' := ?_) #[true, true, false, false, false, false, false, false, false, false, false] rfl rfl (by kernel_rfl) (fun _ _ _ h => h) (Or.inl ⟨by rfl, ?_⟩) ?_ ?_
        rotate_left
        · intro w'
          go_simp
          with_reducible rfl
        rotate_left
        · simp only [Act.put, List.setIfInBounds_toArray, List.set_cons_zero, List.set_cons_succ]
          rfl
        refine PrintLast.pure_ (i := 4) (N := some 37) (v := ?_) (a' := ?_) #[true, true, false, false, true, false, false, false, false, false, false] rfl rfl (by kernel_rfl) (fun _ _ _ h => h) (Or.inl ⟨by rfl, ?_⟩) ?_ ?_
        rotate_left
        · intro w'
          go_simp
          with_reducible rfl
        rotate_left
        · simp only [Act.put, List.setIfInBounds_toArray, List.set_cons_zero, List.set_cons_succ]
          rfl
        refine PrintLast.pure_ (i := 7) (N := some 40) (v := ?_) (a' := ?_) #[true, true, false, false, true, false, false, true, false, false, false] rfl rfl (by kernel_rfl) (fun _ _ _ h => h) (Or.inl ⟨by rfl, ?_⟩) ?_ ?_
        rotate_left
        · intro w'
          go_simp
          with_reducible rfl
        rotate_left
        · simp only [Act.put, List.setIfInBounds_toArray, List.set_cons_zero, List.set_cons_succ]
          rfl
        refine PrintLast.take_ (i := 2) (N := some 35) (v := ?_) (a' := ?_) #[true, true, true, false, true, false, false, true, false, false, false] rfl rfl (by kernel_rfl) (fun _ _ _ h => h) (Or.inl ⟨by rfl, ?_⟩) hHeld ?_ ?_
        rotate_left
        · rintro w' ⟨s0, s1, s2⟩
          go_simp
          with_reducible rfl
        rotate_left
        · simp only [Act.put, List.setIfInBounds_toArray, List.set_cons_zero, List.set_cons_succ]
          rfl
        refine PrintLast.take_ (i := 5) (N := some 38) (v := ?_) (a' := ?_) #[true, true, true, false, true, true, false, true, false, false, false] rfl rfl (by kernel_rfl) (fun _ _ _ h => h) (Or.inl ⟨by rfl, ?_⟩) hHeld ?_ ?_
        rotate_left
        · rintro w' ⟨s0, s1, s2⟩
          go_simp
          with_reducible rfl
        rotate_left
        · simp only [Act.put, List.setIfInBounds_toArray, List.set_cons_zero, List.set_cons_succ]
          rfl
        refine PrintLast.take_ (i := 8) (N := some 41) (v := ?_) (a' := ?_) #[true, true, true, false, true, true, false, true, true, false, false] rfl rfl (by kernel_rfl) (fun _ _ _ h => h) (Or.inl ⟨by rfl, ?_⟩) hHeld ?_ ?_
        rotate_left
        · rintro w' ⟨s0, s1, s2⟩
          go_simp
          with_reducible rfl
        rotate_left
        · simp only [Act.put, List.setIfInBounds_toArray, List.set_cons_zero, List.set_cons_succ]
          rfl
        refine PrintLast.one_ (i := 3) (N := some 36) #[true, true, true, true, true, true, false, true, true, false, false] rfl rfl (by kernel_rfl) (by decide) (fun K hK => ?_)
        refine PrintLast.goes_ Try.func38 (by kernel_rfl) rfl #[.slice a m c, .string (ba d.frag), .int .i64 1] (by rfl) rfl rfl (by simp only [List.map_toArray, List.map_cons, List.map_nil]; rfl) ?_
        with_reducible refine (D1.out).mono ?_
        rintro e u1 ⟨v1, rfl, ho1, bb1, kk1⟩
        have B1 := HB8.out.trans bb1
        have K1 := HK8.out.trans kk1
        obtain ⟨p1, q1, r1, rfl⟩ := own_form ho1
        refine ⟨_, rfl, ?_⟩
        refine hK.out _ _ (HC8.out _ K1) (fun hHeld => ?_)
        clear hK K
        refine PrintLast.norm_ (a' := ?_) ?_ ?_
        rotate_left
        · show Act.put _ (some 36) _ = _
          simp only [Act.put, List.setIfInBounds_toArray, List.set_cons_zero, List.set_cons_succ]
          rfl
        refine PrintLast.one_ (i := 6) (N := some 39) #[true, true, true, true, true, true, true, true, true, false, false] rfl rfl (by kernel_rfl) (by decide) (fun K hK => ?_)
        refine PrintLast.goes_ Try.func39 (by kernel_rfl) rfl #[.slice p1 q1 r1, .int .i64 d.line, .int .i64 2] (by rfl) rfl rfl (by simp only [List.map_toArray, List.map_cons, List.map_nil]; rfl) ?_
        with_reducible refine (D2.out _ _ B1 ho1).mono ?_
        rintro e u2 ⟨v2, rfl, ho2, bb2, kk2⟩
        have B2 := B1.trans bb2
        have K2 := K1.trans kk2
        obtain ⟨p2, q2, r2, rfl⟩ := own_form ho2
        refine ⟨_, rfl, ?_⟩
        refine hK.out _ _ (HC8.out _ K2) (fun hHeld => ?_)
        clear hK K
        refine PrintLast.norm_ (a' := ?_) ?_ ?_
        rotate_left
        · show Act.put _ (some 39) _ = _
          simp only [Act.put, List.setIfInBounds_toArray, List.set_cons_zero, List.set_cons_succ]
          rfl
        refine PrintLast.one_ (i := 9) (N := some 42) #[true, true, true, true, true, true, true, true, true, true, false] rfl rfl (by kernel_rfl) (by decide) (fun K hK => ?_)
        refine PrintLast.goes_ Try.func39 (by kernel_rfl) rfl #[.slice p2 q2 r2, .int .i64 d.e, .int .i64 1] (by rfl) rfl rfl (by simp only [List.map_toArray, List.map_cons, List.map_nil]; rfl) ?_
        with_reducible refine (D3.out _ _ B2 ho2).mono ?_
        rintro e u3 ⟨v3, rfl, ho3, bb3, kk3⟩
        have B3 := B2.trans bb3
        have K3 := K2.trans kk3
        obtain ⟨p3, q3, r3, rfl⟩ := own_form ho3
        refine ⟨_, rfl, ?_⟩
        refine hK.out _ _ (HC8.out _ K3) (fun hHeld => ?_)
        clear hK K
        refine PrintLast.norm_ (a' := ?_) ?_ ?_
        rotate_left
        · show Act.put _ (some 42) _ = _
          simp only [Act.put, List.setIfInBounds_toArray, List.set_cons_zero, List.set_cons_succ]
          rfl
        refine PrintLast.pure_ (i := 10) (N := some 3) (v := ?_) (a' := ?_) #[true, true, true, true, true, true, true, true, true, true, true] rfl rfl (by kernel_rfl) (fun _ _ _ h => h) (Or.inl ⟨by rfl, ?_⟩) ?_ ?_
        rotate_left
        · intro w'
          go_simp
          with_reducible rfl
        rotate_left
        · simp only [Act.put, List.setIfInBounds_toArray, List.set_cons_zero, List.set_cons_succ]
          rfl
        refine PrintLast.done_ (by kernel_rfl) ?_
        have HF := Lib.hid (And.intro ho3 B3)
        clear ho1 ho2 ho3 B1 B2 B3 K1 K2 K3 bb1 bb2 bb3 kk1 kk2 kk3 hHeld t0_ t1_ t2_
        go_wp2_with fail
        go_roundw
        case rel => exact ⟨j + 1, by omega, by go_num, by rw [HE.out]; exact HF.out.1, HF.out.2⟩
        case measure => simp [intOf]; omega
      · obtain rfl : j = dN := by omega
        rw [List.take_of_length_le (by have := HLN.out; omega)] at ho hen
        have hml := own_len ho
        have HML := Lib.hid hml
        have hmn : m ≤ 600000 := by rw [hml, List.length_append]; omega
        have hrd : Reads wr wr.heap.size 1 a m (bv (L2 ++ encs ds)) := by rw [hml]; rw [hml] at ho; exact Reads.of_own ho
        have cc : Calls Try.prog 39 #[.slice none 0 0, .int .i64 (m : Int), .int .i64 3] wr (RefEnd wr.heap.size (be 3 (m : Int)) wr) := by
          have := rnum_any (w := wr) (base := wr.heap.size) (n := 3) (v := .slice none 0 0) (l := []) (World.ownsRow_nil _ _ _ _) (Nat.le_refl _) (m : Int) (by omega) (by omega) (by simp)
          rw [List.nil_append] at this
          exact this
        clear hml hsd ho
        go_wp2_with fail
        refine cc.mono ?_
        rintro e v5 ⟨u5_, rfl, ho5, bb5, -⟩
        obtain ⟨p5, q5, r5, rfl⟩ := own_form ho5
        have hrd5 := hrd.below bb5
        rw [be_length] at ho5
        have hz5 := bb5.size
        clear hrd cc
        go_wp2_with (at_builtin; refine wpList_append_any _ rfl _ _ 23 rfl wr.heap.size 5 i5 _ 1 1 Try.underlying23 hi5 hz5' hy5 hx5 rfl (by decide) _ 3 _ rfl ho5 wr.heap.size a m c (bv (L2 ++ encs ds)) rfl hrd5 (bv_one _) (by unfold maxLen; omega) (by omega) hz5 ?_; intro v6 w6 hown6 hgrow6 _; obtain ⟨p6, q6, r6, rfl⟩ := own_form hown6)
        go_ret
        have hE : Rs.enc ⟨x, bl t, img, ds⟩ = be 3 (m : Int) ++ (L2 ++ encs ds) := by
          have e1 := HML.out
          have e2 := HL2.out
          have e3 := HL1.out
          have e4 := HLN.out
          rw [e1, e2, e3, e4]
          simp [Rs.enc, tx, Rs.body]
        have hb6 : Below w.heap.size w w6 := by
          have h1 : Below w.heap.size w wr := HB01.out.trans (hb.mono (by omega))
          have h2 : Below w.heap.size w v5 := h1.trans (bb5.mono h1.size)
          exact h2.grown hgrow6 h2.size (fun k hk => by have := own_base ho5 k hk; have := h1.size; omega)
        refine ⟨_, rfl, ?_, hb6⟩
        have h1 : w.heap.size ≤ wr.heap.size := by omega
        have hf := ownsRow_lower hown6 h1
        rw [hE, bv_append, List.length_append, be_length]
        have e1 := HML.out
        rw [← e1]
        exact hf
end Go.Proofs.Ytifdkkkcecpjoaa
