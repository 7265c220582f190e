/-
  Texts behind the laws of frame, joined: FxD, FxE, FxF, FxG, Tx3, FxH, FxI, FxJ, FxK, FxL, FxM, FxN, FxO, FxP, FxQ, FxR, FxS, FxU. (What began as words and functions that the kit prints is cut down to what is named here.)
-/
import Derived.Test.YtifdkkkcecpjoaaQ2
section
/-
  Expressions that may be: the texts of expressions end, and are not too long.
-/
namespace Go.Proofs.Ytifdkkkcecpjoaa
set_option linter.unusedVariables false
set_option linter.unusedSimpArgs false
open Go.RowKit Go.Proofs.YtifdkkkcecpjoaaW Go.Proofs.YtifdkkkcecpjoaaW.PrintWords Tx
attribute [local go_sem ↓] Go.wp_at_zero Go.wp_at_succ

/-- An expression that may be, nested less than so deep. -/
def goodE : Nat → S102 → Prop
  | 0, _ => False
  | d + 1, x => x.f2.size ≤ 12 ∧ -1000000000000000 ≤ x.f1 ∧ x.f1 ≤ 1000000000000000 ∧ (((x.f0 = 1 ∨ x.f0 = 2 ∨ x.f0 = 3) ∧ x.f3 = []) ∨ (x.f0 = 4 ∧ ∃ a, x.f3 = [a] ∧ goodE d a) ∨ (5 ≤ x.f0 ∧ x.f0 ≤ 11 ∧ ∃ a b, x.f3 = [a, b] ∧ goodE d a ∧ goodE d b))
def StrEnd (n : Nat) (w : World) (e : Ending) (w' : World) : Prop := ∃ t : ByteArray, e = .returned (.string t) ∧ t.size ≤ n ∧ Below w.heap.size w w'
theorem StrEnd.mono_ {n m : Nat} {w : World} (h : n ≤ m) {e : Ending} {w' : World} (hx : StrEnd n w e w') : StrEnd m w e w' := by
  obtain ⟨t, a, b, c⟩ := hx
  exact ⟨t, a, Nat.le_trans b h, c⟩
def SignEnd (w : World) (e : Ending) (w' : World) : Prop := ∃ (t : ByteArray) (n : Int), e = .returned (.tuple #[.string t, .int .i64 n]) ∧ t.size ≤ 2 ∧ Below w.heap.size w w'
theorem sign_call (k : Int) (w : World) : Calls Try.prog 74 #[.int .i64 k] w (SignEnd w) := by
  have hf : ∃ t n, letterpressref3_sign.f k = some (t, n) ∧ t.size ≤ 2 := by
    unfold letterpressref3_sign.f
    repeat' split
    all_goals exact ⟨_, _, rfl, by decide⟩
  obtain ⟨t, n, h, hs⟩ := hf
  refine (letterpressref3_sign.calls k t n w h).mono ?_
  rintro e w' ⟨rfl, hb⟩
  exact ⟨t, n, rfl, hs, hb.below⟩
def eVal (x : S102) (A : Option Addr) (c : Nat) : Value := .agg #[.int .i64 x.f0, .int .i64 x.f1, .string x.f2, .slice A x.f3.length c]
def Brk (d : Nat) : Prop := ∀ (x : S102) (A : Option Addr) (c : Nat) (w : World), goodE d x → Kd.C k102 w A x.f3.length x.f3 → Calls Try.prog 73 #[eVal x A c] w (StrEnd (64 * 4 ^ d + 2) w)
def Txt (d : Nat) : Prop := ∀ (x : S102) (A : Option Addr) (c : Nat) (w : World), goodE d x → Kd.C k102 w A x.f3.length x.f3 → Calls Try.prog 60 #[eVal x A c] w (StrEnd (64 * 4 ^ d) w)
set_option maxRecDepth 100000 in
set_option maxHeartbeats 1600000 in
theorem brk_of {d : Nat} (hd : d ≤ 12) (h : Txt d) : Brk d := by
  intro x A c w hg hC
  have hT := fun W (hb : Below w.heap.size w W) => h x A c W hg (Kd.C_below hC hb)
  have hp : 4 ^ d ≤ 4 ^ 12 := Nat.pow_le_pow_right (by omega) hd
  have e12 : 4 ^ 12 = 16777216 := by decide
  rw [e12] at hp
  generalize 4 ^ d = P at *
  clear hC hg h e12
  unfold eVal at *
  by_cases h2 : x.f3.length = 2
  · have h2b : ((x.f3.length : Int) == 2) = true := by simp [h2]
    have HL := Lib.hid h2
    clear h2
    go_enter Try.func73, Try.ntmps73
    go_wp2_with fail
    refine (hT _ ((Below.refl _ _).alloc (Nat.le_refl _) _)).mono ?_
    rintro e w' ⟨t, rfl, ht, hb⟩
    have hb' : Below w.heap.size w w' := ((Below.refl _ _).alloc (Nat.le_refl _) _).trans (hb.mono (by simp))
    have s1 : (9223372036854775807 < 1 + t.size) = False := eq_false (by omega)
    have s2 : (9223372036854775807 < 1 + t.size + 1) = False := eq_false (by omega)
    clear hb hT
    go_wp2_with fail
    go_ret
    exact ⟨_, rfl, by have z1 : (⟨#[40]⟩ : ByteArray).size = 1 := rfl; have z2 : (⟨#[41]⟩ : ByteArray).size = 1 := rfl; simp only [ByteArray.size_append, z1, z2]; omega, hb'⟩
  · have h2b : ((x.f3.length : Int) == 2) = false := by simpa using fun h => h2 (by omega)
    go_enter Try.func73, Try.ntmps73
    go_wp2_with fail
    refine (hT _ ((Below.refl _ _).alloc (Nat.le_refl _) _)).mono ?_
    rintro e w' ⟨t, rfl, ht, hb⟩
    have hb' : Below w.heap.size w w' := ((Below.refl _ _).alloc (Nat.le_refl _) _).trans (hb.mono (by simp))
    clear hb hT
    go_wp2_with fail
    go_ret
    exact ⟨_, rfl, by omega, hb'⟩
set_option maxRecDepth 100000 in
set_option maxHeartbeats 1600000 in
theorem txt_succ {d : Nat} (hd : d ≤ 12) (h : Brk d) : Txt (d + 1) := by
  intro x A c w hg hC
  obtain ⟨hn, hx0, hx1, hk⟩ := hg
  have hB := fun (y : S102) (A : Option Addr) (c : Nat) (W : World) (hg : goodE d y) (hC : Kd.C k102 W A y.f3.length y.f3) => h y A c W hg hC
  have hp : 4 ^ d ≤ 4 ^ 12 := Nat.pow_le_pow_right (by omega) hd
  have e12 : 4 ^ 12 = 16777216 := by decide
  have ep : 4 ^ (d + 1) = 4 * 4 ^ d := by rw [Nat.pow_succ]; omega
  have hp1 : 1 ≤ 4 ^ d := Nat.pow_le_pow_right (n := 4) (by omega) (Nat.zero_le d)
  rw [e12] at hp
  rw [ep]
  generalize 4 ^ d = P at *
  clear h e12 ep
  unfold eVal at *
  rcases hk with ⟨h123, he⟩ | ⟨h4, a, ha, hga⟩ | ⟨h5, h11, a, b, hab, hga, hgb⟩
  · rcases h123 with h1 | h2 | h3
    · rw [h1]
      go_enter Try.func60, Try.ntmps60
      go_wp2_with fail
      refine (dig_call (by omega) (by omega) _).mono ?_
      rintro e w' ⟨rfl, hb⟩
      have hl := sigN_len (a := x.f1) (by omega) (by omega)
      have hs := ofN_size (sigN x.f1)
      have hb' : Below w.heap.size w w' := ((Below.refl _ _).alloc (Nat.le_refl _) _).trans (hb.mono (by simp))
      clear hb hB
      go_wp2_with fail
      go_ret
      exact ⟨_, rfl, by omega, hb'⟩
    · rw [h2]
      go_enter Try.func60, Try.ntmps60
      go_wp2_with fail
      go_ret
      exact ⟨_, rfl, by omega, (Below.refl _ _).alloc (Nat.le_refl _) _⟩
    · rw [h3]
      go_enter Try.func60, Try.ntmps60
      go_wp2_with fail
      go_ret
      exact ⟨_, rfl, by have z1 : (⟨#[46]⟩ : ByteArray).size = 1 := rfl; omega, (Below.refl _ _).alloc (Nat.le_refl _) _⟩
  · rw [h4]
    rw [ha] at hC ⊢
    obtain ⟨ad, A2, c2, rfl, k0, k1, k2, k3, hl2, hC2⟩ := at_T102 hC 0 (by omega) (by simp)
    have hr : rd_T102 [a] 0 = a := rfl
    rw [hr] at k0 k1 k2 k3 hl2 hC2
    have hcall := fun W (hb : Below w.heap.size w W) => hB a A2 c2 W hga (Kd.C_below hC2 hb)
    have ea : ad.add ((0 : Int).toNat * 4) = ad := by simp [Addr.add]
    rw [ea] at k0 k1 k2 k3
    have hbl := World.block_lt_of_cell? w _ k0
    have j0 := World.cell?_alloc_lt w (.cells #[.int .i64 4, .int .i64 x.f1, .string x.f2, .slice (some ad) 1 c] 102) ad hbl
    clear hC hC2 hB hl2 hga
    go_enter Try.func60, Try.ntmps60
    go_wp2_with fail
    refine (hcall _ ((Below.refl _ _).alloc (Nat.le_refl _) _)).mono ?_
    rintro e w' ⟨t, rfl, ht, hb⟩
    have hb' : Below w.heap.size w w' := ((Below.refl _ _).alloc (Nat.le_refl _) _).trans (hb.mono (by simp))
    have s1 : (9223372036854775807 < 1 + t.size) = False := eq_false (by omega)
    clear hb hcall
    go_wp2_with fail
    go_ret
    exact ⟨_, rfl, by have z1 : (⟨#[45]⟩ : ByteArray).size = 1 := rfl; simp only [ByteArray.size_append, z1]; omega, hb'⟩
  · rw [hab] at hC ⊢
    obtain ⟨ad, A2, c2, hA, k0, k1, k2, k3, hl2, hC2⟩ := at_T102 hC 0 (by omega) (by simp)
    subst hA
    obtain ⟨ad', A3, c3, hA', l0, l1, l2, l3, hl3, hC3⟩ := at_T102 hC 1 (by omega) (by simp)
    obtain rfl : ad = ad' := by simpa using hA'
    have hr : rd_T102 [a, b] 0 = a := rfl
    have hr' : rd_T102 [a, b] 1 = b := rfl
    rw [hr] at k0 k1 k2 k3 hl2 hC2
    rw [hr'] at l0 l1 l2 l3 hl3 hC3
    have hcall := fun W (hb : Below w.heap.size w W) => hB a A2 c2 W hga (Kd.C_below hC2 hb)
    have hcall' := fun W (hb : Below w.heap.size w W) => hB b A3 c3 W hgb (Kd.C_below hC3 hb)
    have ea : ad.add ((0 : Int).toNat * 4) = ad := by simp [Addr.add]
    have eb : ad.add ((1 : Int).toNat * 4) = ad.add 4 := rfl
    rw [ea] at k0 k1 k2 k3
    rw [eb] at l0 l1 l2 l3
    clear hC hC2 hC3 hB hl2 hl3 hga hgb hA'
    have t1 : (x.f0 == 1) = false := by simpa using fun h => absurd h5 (by omega)
    have t2 : (x.f0 == 2) = false := by simpa using fun h => absurd h5 (by omega)
    have t3 : (x.f0 == 3) = false := by simpa using fun h => absurd h5 (by omega)
    have t4 : (x.f0 == 4) = false := by simpa using fun h => absurd h5 (by omega)
    go_enter Try.func60, Try.ntmps60
    go_wp2_with fail
    refine (sign_call _ _).mono ?_
    rintro e w1 ⟨sg, n, rfl, hs, hb1⟩
    have b01 : Below w.heap.size w w1 := ((Below.refl _ _).alloc (Nat.le_refl _) _).trans (hb1.mono (by simp))
    have hq : w1.heap[w.heap.size]? = some (.cells #[.int .i64 x.f0, .int .i64 x.f1, .string x.f2, .slice (some ad) [a, b].length c] 102 (0, 0)) := (hb1.block _ (by simp)).trans (heap_alloc_new w _)
    clear hb1
    have hsb : ∀ W, Below w1.heap.size w1 W → W.cell? ⟨w.heap.size, 3, none⟩ = some (.slice (some ad) 2 c) ∧ W.cell? ad = some (.int .i64 a.f0) ∧ W.cell? ⟨ad.block, ad.off + 1, none⟩ = some (.int .i64 a.f1) ∧ W.cell? ⟨ad.block, ad.off + 2, none⟩ = some (.string a.f2) ∧ W.cell? ⟨ad.block, ad.off + 3, none⟩ = some (.slice A2 a.f3.length c2) ∧ W.cell? ⟨ad.block, ad.off + 4, none⟩ = some (.int .i64 b.f0) ∧ W.cell? ⟨ad.block, ad.off + 4 + 1, none⟩ = some (.int .i64 b.f1) ∧ W.cell? ⟨ad.block, ad.off + 4 + 2, none⟩ = some (.string b.f2) ∧ W.cell? ⟨ad.block, ad.off + 4 + 3, none⟩ = some (.slice A3 b.f3.length c3) := fun W hW => by
      have hv := b01.trans (hW.mono b01.size)
      have hbk : ad.block < w.heap.size := World.block_lt_of_cell? w _ k0
      refine ⟨?_, (hv.cell hbk).trans k0, (hv.cell (p := ⟨ad.block, _, none⟩) hbk).trans k1, (hv.cell (p := ⟨ad.block, _, none⟩) hbk).trans k2, (hv.cell (p := ⟨ad.block, _, none⟩) hbk).trans k3, (hv.cell (p := ⟨ad.block, ad.off + 4, none⟩) hbk).trans l0, (hv.cell (p := ⟨ad.block, ad.off + 4 + 1, none⟩) hbk).trans l1, (hv.cell (p := ⟨ad.block, ad.off + 4 + 2, none⟩) hbk).trans l2, (hv.cell (p := ⟨ad.block, ad.off + 4 + 3, none⟩) hbk).trans l3⟩
      have hlt : w.heap.size < w1.heap.size := (Array.getElem?_eq_some_iff.1 hq).1
      exact (World.cell?_of_block (hW.block _ hlt)).trans (cell_of_row _ _ 3 _ 102 (0, 0) hq)
    have HS0 := hsb w1.drew (Below.refl _ _).drew
    have HSB := Lib.hid hsb
    have HB0 := Lib.hid ((Below.refl w1.heap.size w1).drew)
    have HCa := Lib.hid (fun W (hW : Below w1.heap.size w1 W) => hcall W (b01.trans (hW.mono b01.size)))
    have HCb := Lib.hid (fun W (hW : Below w1.heap.size w1 W) => hcall' W (b01.trans (hW.mono b01.size)))
    clear hsb hcall hcall' k0 k1 k2 k3 l0 l1 l2 l3 hq
    go_wp2_with fail
    refine PrintLast.start_ (n := 16) (S := fun w' => w'.cell? ⟨w.heap.size, 3, none⟩ = some (.slice (some ad) 2 c) ∧ w'.cell? ad = some (.int .i64 a.f0) ∧ w'.cell? ⟨ad.block, ad.off + 1, none⟩ = some (.int .i64 a.f1) ∧ w'.cell? ⟨ad.block, ad.off + 2, none⟩ = some (.string a.f2) ∧ w'.cell? ⟨ad.block, ad.off + 3, none⟩ = some (.slice A2 a.f3.length c2) ∧ w'.cell? ⟨ad.block, ad.off + 4, none⟩ = some (.int .i64 b.f0) ∧ w'.cell? ⟨ad.block, ad.off + 4 + 1, none⟩ = some (.int .i64 b.f1) ∧ w'.cell? ⟨ad.block, ad.off + 4 + 2, none⟩ = some (.string b.f2) ∧ w'.cell? ⟨ad.block, ad.off + 4 + 3, none⟩ = some (.slice A3 b.f3.length c3)) (ds := []) #[false, false, false, false, false, false, false, false, false, false, false, false, false, false, false, false] (by kernel_rfl) rfl rfl ⟨HS0.1, HS0.2.1, HS0.2.2.1, HS0.2.2.2.1, HS0.2.2.2.2.1, HS0.2.2.2.2.2.1, HS0.2.2.2.2.2.2.1, HS0.2.2.2.2.2.2.2.1, HS0.2.2.2.2.2.2.2.2⟩ (fun hHeld => ?_)
    refine PrintLast.pure_ (i := 0) (N := some 32) (v := ?_) (a' := ?_) #[true, false, false, false, false, false, false, false, false, false, false, false, false, false, false, false] rfl rfl (by kernel_rfl) (fun _ _ _ h => h) (Or.inl ⟨by rfl, ?_⟩) ?_ ?_
    rotate_left
    · intro w'
      go_simp
      with_reducible rfl
    rotate_left
    · simp only [Act.put, List.setIfInBounds_toArray, List.set_cons_zero, List.set_cons_succ]
      rfl
    refine PrintLast.pure_ (i := 6) (N := some 38) (v := ?_) (a' := ?_) #[true, false, false, false, false, false, true, false, false, false, false, false, false, false, false, false] rfl rfl (by kernel_rfl) (fun _ _ _ h => h) (Or.inl ⟨by rfl, ?_⟩) ?_ ?_
    rotate_left
    · intro w'
      go_simp
      with_reducible rfl
    rotate_left
    · simp only [Act.put, List.setIfInBounds_toArray, List.set_cons_zero, List.set_cons_succ]
      rfl
    refine PrintLast.pure_ (i := 9) (N := some 41) (v := ?_) (a' := ?_) #[true, false, false, false, false, false, true, false, false, true, false, false, false, false, false, false] rfl rfl (by kernel_rfl) (fun _ _ _ h => h) (Or.inl ⟨by rfl, ?_⟩) ?_ ?_
    rotate_left
    · intro w'
      go_simp
      with_reducible rfl
    rotate_left
    · simp only [Act.put, List.setIfInBounds_toArray, List.set_cons_zero, List.set_cons_succ]
      rfl
    refine PrintLast.take_ (i := 1) (N := some 33) (v := ?_) (a' := ?_) #[true, true, false, false, false, false, true, false, false, true, false, false, false, false, false, false] rfl rfl (by kernel_rfl) (fun _ _ _ h => h) (Or.inl ⟨by rfl, ?_⟩) hHeld ?_ ?_
    rotate_left
    · rintro w' ⟨s0, s1, s2, s3, s4, s5, s6, s7, s8⟩
      go_simp
      with_reducible rfl
    rotate_left
    · simp only [Act.put, List.setIfInBounds_toArray, List.set_cons_zero, List.set_cons_succ]
      rfl
    refine PrintLast.pure_ (i := 2) (N := some 34) (v := ?_) (a' := ?_) #[true, true, true, false, false, false, true, false, false, true, false, false, false, false, false, false] rfl rfl (by kernel_rfl) (fun _ _ _ h => h) (Or.inl ⟨by rfl, ?_⟩) ?_ ?_
    rotate_left
    · intro w'
      go_simp
      with_reducible rfl
    rotate_left
    · simp only [Act.put, List.setIfInBounds_toArray, List.set_cons_zero, List.set_cons_succ]
      rfl
    refine PrintLast.take_ (i := 3) (N := some 35) (v := ?_) (a' := ?_) #[true, true, true, true, false, false, true, false, false, true, false, false, false, false, false, false] rfl rfl (by kernel_rfl) (fun _ _ _ h => h) (Or.inl ⟨by rfl, ?_⟩) hHeld ?_ ?_
    rotate_left
    · rintro w' ⟨s0, s1, s2, s3, s4, s5, s6, s7, s8⟩
      go_simp
      with_reducible rfl
    rotate_left
    · simp only [Act.put, List.setIfInBounds_toArray, List.set_cons_zero, List.set_cons_succ]
      rfl
    refine PrintLast.take_ (i := 10) (N := some 42) (v := ?_) (a' := ?_) #[true, true, true, true, false, false, true, false, false, true, true, false, false, false, false, false] rfl rfl (by kernel_rfl) (fun _ _ _ h => h) (Or.inl ⟨by rfl, ?_⟩) hHeld ?_ ?_
    rotate_left
    · rintro w' ⟨s0, s1, s2, s3, s4, s5, s6, s7, s8⟩
      go_simp
      with_reducible rfl
    rotate_left
    · simp only [Act.put, List.setIfInBounds_toArray, List.set_cons_zero, List.set_cons_succ]
      rfl
    refine PrintLast.pure_ (i := 11) (N := some 43) (v := ?_) (a' := ?_) #[true, true, true, true, false, false, true, false, false, true, true, true, false, false, false, false] rfl rfl (by kernel_rfl) (fun _ _ _ h => h) (Or.inl ⟨by rfl, ?_⟩) ?_ ?_
    rotate_left
    · intro w'
      go_simp
      with_reducible rfl
    rotate_left
    · simp only [Act.put, List.setIfInBounds_toArray, List.set_cons_zero, List.set_cons_succ]
      rfl
    refine PrintLast.take_ (i := 12) (N := some 44) (v := ?_) (a' := ?_) #[true, true, true, true, false, false, true, false, false, true, true, true, true, false, false, false] rfl rfl (by kernel_rfl) (fun _ _ _ h => h) (Or.inl ⟨by rfl, ?_⟩) hHeld ?_ ?_
    rotate_left
    · rintro w' ⟨s0, s1, s2, s3, s4, s5, s6, s7, s8⟩
      go_simp
      with_reducible rfl
    rotate_left
    · simp only [Act.put, List.setIfInBounds_toArray, List.set_cons_zero, List.set_cons_succ]
      rfl
    refine PrintLast.one_ (i := 4) (N := some 36) #[true, true, true, true, true, false, true, false, false, true, true, true, true, false, false, false] rfl rfl (by kernel_rfl) (by decide) (fun K hK => ?_)
    refine PrintLast.goes_ Try.func73 (by kernel_rfl) rfl #[.agg #[.int .i64 a.f0, .int .i64 a.f1, .string a.f2, .slice A2 a.f3.length c2]] (by rfl) rfl rfl (by simp only [List.map_toArray, List.map_cons, List.map_nil]; rfl) ?_
    with_reducible refine ((HCa.out _ HB0.out)).mono ?_
    rintro e wx ⟨tx, rfl, htx, hbx⟩
    refine ⟨_, rfl, ?_⟩
    have HBx := Lib.hid (HB0.out.trans (hbx.mono HB0.out.size))
    have sx1 : (9223372036854775807 < tx.size + 1) = False := eq_false (by omega)
    have sx2 : (9223372036854775807 < tx.size + 1 + sg.size) = False := eq_false (by omega)
    have sx3 : (9223372036854775807 < tx.size + 1 + sg.size + 1) = False := eq_false (by omega)
    try have sx4 : (9223372036854775807 < tx.size + 1 + sg.size + 1 + ty.size) = False := eq_false (by omega)
    clear hbx
    refine hK.out _ _ (HSB.out _ HBx.out) (fun hHeld => ?_)
    clear hK K
    refine PrintLast.norm_ (a' := ?_) ?_ ?_
    rotate_left
    · show Act.put _ (some 36) _ = _
      simp only [Act.put, List.setIfInBounds_toArray, List.set_cons_zero, List.set_cons_succ]
      rfl
    refine PrintLast.pure_ (i := 5) (N := some 37) (v := ?_) (a' := ?_) #[true, true, true, true, true, true, true, false, false, true, true, true, true, false, false, false] rfl rfl (by kernel_rfl) (fun _ _ _ h => h) (Or.inl ⟨by rfl, ?_⟩) ?_ ?_
    rotate_left
    · intro w'
      go_simp
      with_reducible rfl
    rotate_left
    · simp only [Act.put, List.setIfInBounds_toArray, List.set_cons_zero, List.set_cons_succ]
      rfl
    refine PrintLast.pure_ (i := 7) (N := some 39) (v := ?_) (a' := ?_) #[true, true, true, true, true, true, true, true, false, true, true, true, true, false, false, false] rfl rfl (by kernel_rfl) (fun _ _ _ h => h) (Or.inl ⟨by rfl, ?_⟩) ?_ ?_
    rotate_left
    · intro w'
      go_simp
      with_reducible rfl
    rotate_left
    · simp only [Act.put, List.setIfInBounds_toArray, List.set_cons_zero, List.set_cons_succ]
      rfl
    refine PrintLast.pure_ (i := 8) (N := some 40) (v := ?_) (a' := ?_) #[true, true, true, true, true, true, true, true, true, true, true, true, true, false, false, false] rfl rfl (by kernel_rfl) (fun _ _ _ h => h) (Or.inl ⟨by rfl, ?_⟩) ?_ ?_
    rotate_left
    · intro w'
      go_simp
      with_reducible rfl
    rotate_left
    · simp only [Act.put, List.setIfInBounds_toArray, List.set_cons_zero, List.set_cons_succ]
      rfl
    refine PrintLast.one_ (i := 13) (N := some 45) #[true, true, true, true, true, true, true, true, true, true, true, true, true, true, false, false] rfl rfl (by kernel_rfl) (by decide) (fun K hK => ?_)
    refine PrintLast.goes_ Try.func73 (by kernel_rfl) rfl #[.agg #[.int .i64 b.f0, .int .i64 b.f1, .string b.f2, .slice A3 b.f3.length c3]] (by rfl) rfl rfl (by simp only [List.map_toArray, List.map_cons, List.map_nil]; rfl) ?_
    with_reducible refine ((HCb.out _ HBx.out)).mono ?_
    rintro e wy ⟨ty, rfl, hty, hby⟩
    refine ⟨_, rfl, ?_⟩
    have HBy := Lib.hid (HBx.out.trans (hby.mono HBx.out.size))
    try have sx4 : (9223372036854775807 < tx.size + 1 + sg.size + 1 + ty.size) = False := eq_false (by omega)
    clear hby
    refine hK.out _ _ (HSB.out _ HBy.out) (fun hHeld => ?_)
    clear hK K
    refine PrintLast.norm_ (a' := ?_) ?_ ?_
    rotate_left
    · show Act.put _ (some 45) _ = _
      simp only [Act.put, List.setIfInBounds_toArray, List.set_cons_zero, List.set_cons_succ]
      rfl
    refine PrintLast.pure_ (i := 14) (N := some 46) (v := ?_) (a' := ?_) #[true, true, true, true, true, true, true, true, true, true, true, true, true, true, true, false] rfl rfl (by kernel_rfl) (fun _ _ _ h => h) (Or.inl ⟨by rfl, ?_⟩) ?_ ?_
    rotate_left
    · intro w'
      go_simp
      with_reducible rfl
    rotate_left
    · simp only [Act.put, List.setIfInBounds_toArray, List.set_cons_zero, List.set_cons_succ]
      rfl
    refine PrintLast.pure_ (i := 15) (N := some 2) (v := ?_) (a' := ?_) #[true, true, true, true, true, true, true, true, true, true, true, true, true, true, true, true] rfl rfl (by kernel_rfl) (fun _ _ _ h => h) (Or.inl ⟨by rfl, ?_⟩) ?_ ?_
    rotate_left
    · intro w'
      go_simp
      with_reducible rfl
    rotate_left
    · simp only [Act.put, List.setIfInBounds_toArray, List.set_cons_zero, List.set_cons_succ]
      rfl
    refine PrintLast.done_ (by kernel_rfl) ?_
    have hfin := b01.trans (HBy.out.mono b01.size)
    clear hHeld
    go_wp2_with fail
    go_ret
    exact ⟨_, rfl, by have z1 : (⟨#[32]⟩ : ByteArray).size = 1 := rfl; simp only [ByteArray.size_append, z1]; omega, hfin⟩
theorem txt_all : ∀ d : Nat, d ≤ 12 → Txt d
  | 0, _ => fun x A c w hg _ => hg.elim
  | d + 1, h => txt_succ (by omega) (brk_of (by omega) (txt_all d (by omega)))
end Go.Proofs.Ytifdkkkcecpjoaa
end
section
/-
  Raw expressions, made: each is an expression that may be.
-/
namespace Go.Proofs.Ytifdkkkcecpjoaa
set_option linter.unusedVariables false
set_option linter.unusedSimpArgs false
open Go.RowKit Go.Proofs.YtifdkkkcecpjoaaW Go.Proofs.YtifdkkkcecpjoaaW.PrintWords Tx
attribute [local go_sem ↓] Go.wp_at_zero Go.wp_at_succ

def WiEnd (n : Int) (w : World) (e : Ending) (w' : World) : Prop := e = .returned (.int .i64 n) ∧ Below w.heap.size w w'
theorem emod_of_tmod (a n : Int) (hn : 0 < n) (hb : n ≤ 4611686018427387904) : (if Int.tmod a n < 0 then some (wrap64 (Int.tmod a n + n)) else some (Int.tmod a n)) = some (a % n) := by
  by_cases h : 0 ≤ a
  · rw [Int.tmod_eq_emod_of_nonneg h, if_neg (by have := Int.emod_nonneg a (show n ≠ 0 by omega); omega)]
  · obtain ⟨h4, h6, hx⟩ := tmod_neg' hn (show a < 0 by omega)
    have h7 := Int.emod_nonneg a (show n ≠ 0 by omega)
    rcases hx with hx | ⟨hx, hy⟩
    · rw [if_neg (by omega), hx]
    · rw [if_pos hx]
      have : wrap64 (a.tmod n + n) = a.tmod n + n := by unfold wrap64; omega
      rw [this, hy]
theorem within84 (a n : Int) (w : World) (hn : 0 < n) (hb : n ≤ 4611686018427387904) : Calls Try.prog 84 #[.int .i64 a, .int .i64 n] w (WiEnd (a % n) w) := by
  refine (letterpresslaw3_within.calls a n (a % n) w (by unfold letterpresslaw3_within.f; rw [if_neg (by omega)]; exact emod_of_tmod a n hn hb)).mono ?_
  rintro e w' ⟨rfl, hd⟩
  exact ⟨rfl, hd.below⟩
theorem within51 (a n : Int) (w : World) (hn : 0 < n) (hb : n ≤ 4611686018427387904) : Calls Try.prog 51 #[.int .i64 a, .int .i64 n] w (WiEnd (a % n) w) := by
  refine (letterpresslaw4_within.calls a n (a % n) w (by unfold letterpresslaw4_within.f; rw [if_neg (by omega)]; exact emod_of_tmod a n hn hb)).mono ?_
  rintro e w' ⟨rfl, hd⟩
  exact ⟨rfl, hd.below⟩

/-! ### expressions in memory, and rows of them -/
theorem goodE_mono : ∀ (d : Nat) (x : S102), goodE d x → goodE (d + 1) x
  | 0, _, h => h.elim
  | d + 1, x, ⟨h1, h2, h3, h4⟩ => by
    refine ⟨h1, h2, h3, ?_⟩
    rcases h4 with h | ⟨h, a, ha, hg⟩ | ⟨h, h', a, b, hab, hga, hgb⟩
    · exact .inl h
    · exact .inr (.inl ⟨h, a, ha, goodE_mono d a hg⟩)
    · exact .inr (.inr ⟨h, h', a, b, hab, goodE_mono d a hga, goodE_mono d b hgb⟩)
theorem goodE_le {d d' : Nat} (h : d ≤ d') {x : S102} (hx : goodE d x) : goodE d' x := by
  induction h with
  | refl => exact hx
  | step _ ih => exact goodE_mono _ _ ih
def T1 : Nat → Prop := fun _ => True
/-- An expression's value, with its row. -/
structure HasE (w : World) (base : Nat) (y : S102) (v : Value) : Prop where
  r : k102.R 102 w base T1 v y.f3
def eAgg (y : S102) (v : Value) : Value := .agg #[.int .i64 y.f0, .int .i64 y.f1, .string y.f2, v]
def eCells (y : S102) (v : Value) : List Value := [.int .i64 y.f0, .int .i64 y.f1, .string y.f2, v]
theorem HasE.below {w w' : World} {base : Nat} {y : S102} {v : Value} (h : HasE w base y v) (hb : Below w.heap.size w w') : HasE w' base y v := ⟨Kd.R_below h.r hb⟩
theorem HasE.lower {w : World} {base base' : Nat} {y : S102} {v : Value} (h : HasE w base y v) (hb : base' ≤ base) : HasE w base' y v := ⟨Kd.R_lower h.r hb⟩
theorem HasE.form {w : World} {base : Nat} {y : S102} {v : Value} (h : HasE w base y v) : ∃ A c, v = .slice A y.f3.length c ∧ Kd.C k102 w A y.f3.length y.f3 := by
  obtain ⟨A, c, e, _, hC⟩ := Kd.R_reads h.r
  exact ⟨A, c, e, hC⟩
theorem HasE.nil (w : World) (base : Nat) (y : S102) (h : y.f3 = []) : HasE w base y (.slice none 0 0) := ⟨by rw [h]; exact Kd.R_nil _ _ _ _ _⟩
theorem HasE.m {w : World} {base : Nat} {y : S102} {v : Value} (h : HasE w base y v) : k102.M w base T1 y (eCells y v) := k102_mkM w base T1 y h.r
theorem row_lit {W : World} {base : Nat} {ys : List S102} {inner : List Value} (hb : base ≤ W.heap.size) (hrep : Reps (k102.M W base T1) 4 ys inner) (hm : ys.length ≤ 1000) :
    k102.R 102 (W.alloc (.cells inner.toArray 102)) base T1 (.slice (some ⟨W.heap.size, 0, none⟩) ys.length ys.length) ys := by
  refine ⟨fun _ _ => trivial, inner, ?_, ?_⟩
  · have h2 := World.ownsRow_lit (base := base) (e := 102) (size := 4) W inner.toArray ys.length hb (by unfold maxLen; omega) (by simpa using hrep.1)
    have hs : k102.sz = 4 := rfl
    rw [hs]
    simpa using h2
  · refine hrep.imp_ (fun p c hp => k102.M_mono (fun k hk => ⟨trivial, fun he => ?_⟩) (Kd.M_below (k102.M_bound hp) (below_alloc (Below.refl _ _) _)))
    have h3 : k = W.heap.size := by simpa [Value.ownBlock] using he
    have := hk.2.2.1
    omega
theorem row_one {W : World} {base : Nat} {y : S102} {v : Value} (hb : base ≤ W.heap.size) (h : HasE W base y v) :
    k102.R 102 (W.alloc (.cells #[.int .i64 y.f0, .int .i64 y.f1, .string y.f2, v] 102)) base T1 (.slice (some ⟨W.heap.size, 0, none⟩) 1 1) [y] :=
  row_lit (ys := [y]) (inner := eCells y v) hb (by simpa using (Reps.none (k102.M W base T1) 4).snoc h.m rfl) (by simp)
theorem row_two {W : World} {base : Nat} {y z : S102} {v u : Value} (hb : base ≤ W.heap.size) (h : HasE W base y v) (h' : HasE W base z u) :
    k102.R 102 (W.alloc (.cells #[.int .i64 y.f0, .int .i64 y.f1, .string y.f2, v, .int .i64 z.f0, .int .i64 z.f1, .string z.f2, u] 102)) base T1 (.slice (some ⟨W.heap.size, 0, none⟩) 2 2) [y, z] :=
  row_lit (ys := [y, z]) (inner := eCells y v ++ eCells z u) hb (by simpa using ((Reps.none (k102.M W base T1) 4).snoc h.m rfl).snoc h'.m rfl) (by simp)

/-- What makes an expression ends so. -/
def MkE (d : Nat) (w : World) (e : Ending) (w' : World) : Prop := ∃ (y : S102) (v : Value), e = .returned (eAgg y v) ∧ goodE d y ∧ HasE w' w.heap.size y v ∧ Below w.heap.size w w'
def rAgg (x : S99) (A : Option Addr) (c : Nat) : Value := .agg #[.int .i64 x.f0, .int .i64 x.f1, .slice A x.f2.length c]
def PartS (d : Nat) : Prop := ∀ (x : S99) (A : Option Addr) (c : Nat) (i : Nat) (w : World), deepR (d + 1) x → Kd.C k99 w A x.f2.length x.f2 → i ≤ 1 → Calls Try.prog 86 #[rAgg x A c, .int .i64 (i : Int)] w (MkE (d + 1) w)
def MakeS (d : Nat) : Prop := ∀ (x : S99) (A : Option Addr) (c : Nat) (w : World), deepR d x → Kd.C k99 w A x.f2.length x.f2 → Calls Try.prog 79 #[rAgg x A c] w (MkE (d + 1) w)
def put4E (W : World) (r : Nat) (y : S102) (v : Value) : World := (((W.setCell ⟨r, 0, none⟩ (.int .i64 y.f0)).setCell ⟨r, 1, none⟩ (.int .i64 y.f1)).setCell ⟨r, 2, none⟩ (.string y.f2)).setCell ⟨r, 3, none⟩ v
theorem put_end {w W : World} {r B0 : Nat} {t : TypeId} {a b c d : Value} {y : S102} {v : Value} (hq : W.heap[r]? = some (.cells #[a, b, c, d] t (0, 0))) (hr : w.heap.size ≤ r) (hB : r < B0) (hb : Below w.heap.size w W) (hy : HasE W B0 y v) :
    (W.setCell ⟨r, 0, none⟩ (.int .i64 y.f0)).cell? ⟨r, 0, none⟩ = some (.int .i64 y.f0) ∧ ((W.setCell ⟨r, 0, none⟩ (.int .i64 y.f0)).setCell ⟨r, 1, none⟩ (.int .i64 y.f1)).cell? ⟨r, 1, none⟩ = some (.int .i64 y.f1) ∧
    (((W.setCell ⟨r, 0, none⟩ (.int .i64 y.f0)).setCell ⟨r, 1, none⟩ (.int .i64 y.f1)).setCell ⟨r, 2, none⟩ (.string y.f2)).cell? ⟨r, 2, none⟩ = some (.string y.f2) ∧ (put4E W r y v).cell? ⟨r, 3, none⟩ = some v ∧
    HasE (put4E W r y v) w.heap.size y v ∧ Below w.heap.size w (put4E W r y v) := by
  refine ⟨by simp [World.setCell, World.cell?, Array.getElem?_modify, hq], by simp [World.setCell, World.cell?, Array.getElem?_modify, hq], by simp [World.setCell, World.cell?, Array.getElem?_modify, hq], by simp [put4E, World.setCell, World.cell?, Array.getElem?_modify, hq], ⟨?_⟩, put4_below hb hr _ _ _ _⟩
  have h := Kd.R_bound (Kd.R_lower hy.r (Nat.le_refl B0))
  have h2 : k102.R 102 (put4E W r y v) B0 (fun k => T1 k ∧ B0 ≤ k ∧ k < W.heap.size ∧ ∃ q, q ∈ 102 :: k102.E ∧ ∃ cells, W.heap[k]? = some (.cells cells q (0, 0))) v y.f3 := Kd.R_step h (fun k hk _ => by
    unfold put4E
    have hne : k ≠ r := by have := hk.2.1; omega
    exact (Below.heap_setCell _ ⟨r, 3, none⟩ _ k hne).trans ((Below.heap_setCell _ ⟨r, 2, none⟩ _ k hne).trans ((Below.heap_setCell _ ⟨r, 1, none⟩ _ k hne).trans (Below.heap_setCell _ ⟨r, 0, none⟩ _ k hne))))
  exact Kd.R_lower (Kd.R_mono h2 (fun _ _ => trivial)) (by omega)
set_option maxRecDepth 100000 in
set_option maxHeartbeats 1600000 in
theorem part_of {d : Nat} (h : MakeS d) : PartS d := by
  intro x A c i w hx hC hi
  obtain ⟨W1, hW1⟩ : ∃ W1, W1 = (w.alloc (.cells #[.int .i64 x.f0, .int .i64 x.f1, .slice A x.f2.length c] 99)).alloc (.cells #[.int .i64 0, .int .i64 0, .string ⟨#[]⟩, .slice none 0 0] 102) := ⟨_, rfl⟩
  have b1 : Below w.heap.size w W1 := by rw [hW1]; exact ((Below.refl _ _).alloc (Nat.le_refl _) _).alloc (by simp) _
  have hq0 : W1.heap[w.heap.size]? = some (.cells #[.int .i64 x.f0, .int .i64 x.f1, .slice A x.f2.length c] 99 (0, 0)) := by rw [hW1]; exact (Below.heap_alloc _ _ _ (by simp)).trans (heap_alloc_new w _)
  have hq1 : W1.heap[w.heap.size + 1]? = some (.cells #[.int .i64 0, .int .i64 0, .string ⟨#[]⟩, .slice none 0 0] 102 (0, 0)) := by
    rw [hW1]
    have := heap_alloc_new (w.alloc (.cells #[.int .i64 x.f0, .int .i64 x.f1, .slice A x.f2.length c] 99)) (.cells #[.int .i64 0, .int .i64 0, .string ⟨#[]⟩, .slice none 0 0] 102)
    simpa using this
  have hs1 : W1.heap.size = w.heap.size + 2 := by rw [hW1]; simp
  have HW1 := Lib.hid hW1
  clear hW1
  have c0 : W1.cell? ⟨w.heap.size, 1, none⟩ = some (.int .i64 x.f1) := cell_of_row _ _ 1 _ 99 (0, 0) hq0
  have c1 : W1.cell? ⟨w.heap.size, 2, none⟩ = some (.slice A x.f2.length c) := cell_of_row _ _ 2 _ 99 (0, 0) hq0
  have HQ1 := Lib.hid hq1
  have HS1 := Lib.hid hs1
  have HB1 := Lib.hid b1
  clear hq0 hq1 hs1 b1
  by_cases hlt : i < x.f2.length
  · obtain ⟨y, hy⟩ : ∃ y, x.f2[i]? = some y := ⟨x.f2[i], List.getElem?_eq_getElem hlt⟩
    obtain ⟨ad, A2, c2, rfl, k0, k1, k2, hl2, hC2⟩ := at_T99 hC (i : Int) (by omega) (by omega)
    rw [rd99 hy] at k0 k1 k2 hl2 hC2
    have hyd : deepR d y := hx y (List.mem_iff_getElem?.2 ⟨i, hy⟩)
    have hcall := fun W (hb : Below w.heap.size w W) => h y A2 c2 W hyd (Kd.C_below hC2 hb)
    unfold rAgg at hcall ⊢
    rw [Int.toNat_natCast] at k0 k1 k2
    have hbl : (ad.add (i * 3)).block < w.heap.size := World.block_lt_of_cell? w _ k0
    have j0 := (HB1.out.cell hbl).trans k0
    have j1 := (HB1.out.cell (p := ⟨(ad.add (i * 3)).block, (ad.add (i * 3)).off + 1, none⟩) hbl).trans k1
    have j2 := (HB1.out.cell (p := ⟨(ad.add (i * 3)).block, (ad.add (i * 3)).off + 2, none⟩) hbl).trans k2
    clear hC2 hy hl2 hyd k0 k1 k2 hbl h hx hC
    go_enter Try.func86, Try.ntmps86
    go_upto_region 1 with fail
    rw [← HW1.out]
    go_wp2_with fail
    refine (hcall W1 HB1.out).mono ?_
    rintro e W ⟨z, v, rfl, hg, hz, hb⟩
    have hb' := HB1.out.trans (hb.mono HB1.out.size)
    have hq := (hb.block _ (by rw [HS1.out]; omega)).trans HQ1.out
    obtain ⟨q0, q1, q2, q3, hz', hbz⟩ := put_end hq (by omega) (by rw [HS1.out]; omega) hb' hz
    have hn : w.heap.size + 1 < W.heap.size := (Array.getElem?_eq_some_iff.1 hq).1
    obtain ⟨y0, y1, y2, y3⟩ := box4 hq
    have fz : ∀ o, W.frozen? ⟨w.heap.size + 1, o, none⟩ = false := fun o => by simp [World.frozen?, hq]
    have fz0 := fz 0
    have fz1 := fz 1
    have fz2 := fz 2
    have fz3 := fz 3
    obtain ⟨A', c', rfl, -⟩ := hz.form
    unfold eAgg
    clear hcall hb hb' hq hz fz j0 j1 j2
    go_wp2_with fail
    refine bodyPost_ret (v := eAgg z (.slice A' z.f3.length c')) (by unfold put4E at q3; simp [results, Try.results86, go_sem, q0, q1, q2, q3, eAgg]) rfl ⟨z, _, rfl, hg, hz', hbz⟩
  · have hi' : ¬ (i : Int) < (x.f2.length : Int) := by omega
    unfold rAgg
    go_enter Try.func86, Try.ntmps86
    go_upto_region 1 with fail
    rw [← HW1.out]
    go_wp2_with fail
    refine (within84 _ 5 W1 (by omega) (by omega)).mono ?_
    rintro e W ⟨rfl, hb⟩
    have m0 := Int.emod_nonneg (wrap64 (x.f1 + (i : Int))) (show (5 : Int) ≠ 0 by omega)
    have m1 := Int.emod_lt_of_pos (wrap64 (x.f1 + (i : Int))) (show (0 : Int) < 5 by omega)
    generalize wrap64 (x.f1 + (i : Int)) % 5 = m at *
    have hb' := HB1.out.trans (hb.mono HB1.out.size)
    have hq := (hb.block _ (by rw [HS1.out]; omega)).trans HQ1.out
    have hg : goodE (d + 1) ⟨1, m, ⟨#[]⟩, []⟩ := ⟨Nat.zero_le _, by show -1000000000000000 ≤ m; omega, by show m ≤ 1000000000000000; omega, .inl ⟨.inl rfl, rfl⟩⟩
    obtain ⟨q0, q1, q2, q3, hz', hbz⟩ := put_end (y := ⟨1, m, ⟨#[]⟩, []⟩) hq (by omega) (show w.heap.size + 1 < W1.heap.size by rw [HS1.out]; omega) hb' (HasE.nil W _ _ rfl)
    obtain ⟨y0, y1, y2, y3⟩ := box4 hq
    have fz : ∀ o, W.frozen? ⟨w.heap.size + 1, o, none⟩ = false := fun o => by simp [World.frozen?, hq]
    have fz0 := fz 0
    have fz1 := fz 1
    have fz2 := fz 2
    have fz3 := fz 3
    clear hb hb' hq fz h hx hC
    go_wp2_with fail
    refine bodyPost_ret (v := eAgg ⟨1, m, ⟨#[]⟩, []⟩ (.slice none 0 0)) (by unfold put4E at q3; simp [results, Try.results86, go_sem, q0, q1, q2, q3, eAgg]) rfl ⟨⟨1, m, ⟨#[]⟩, []⟩, _, rfl, hg, hz', hbz⟩
end Go.Proofs.Ytifdkkkcecpjoaa
end
section
/-
  Raw expressions, made: the two functions that call each other, and the first of a row.
-/
namespace Go.Proofs.Ytifdkkkcecpjoaa
set_option linter.unusedVariables false
set_option linter.unusedSimpArgs false
open Go.RowKit Go.Proofs.YtifdkkkcecpjoaaW Go.Proofs.YtifdkkkcecpjoaaW.PrintWords Tx
attribute [local go_sem ↓] Go.wp_at_zero Go.wp_at_succ

def NmEnd (n : Nat) (w : World) (e : Ending) (w' : World) : Prop := ∃ (ad : Addr) (c : Nat), e = .returned (.slice (some ad) n c) ∧ (∀ i, i < n → ∃ s : ByteArray, s.size ≤ 6 ∧ w'.cell? (ad.add i) = some (.string s)) ∧ Below w.heap.size w w'
theorem names_of {xs : List ByteArray} {n : Nat} (hn : xs.length = n) (h0 : 0 < n) (hs : ∀ s ∈ xs, s.size ≤ 6) {w w' : World} {v : Value} (h : Kd.R Kd.string 9 w' w.heap.size (fun _ => True) v xs) (hb : Below w.heap.size w w') : NmEnd n w (.returned v) w' := by
  obtain ⟨A, c, rfl, hl, hC⟩ := Kd.R_reads h
  obtain ⟨ad, rfl, hc⟩ := hC.2.2 (by omega)
  refine ⟨ad, c, by rw [hn], fun i hi => ?_, hb⟩
  obtain ⟨cs, _, hk, hcell⟩ := hc i xs[i] (List.getElem?_eq_getElem (by omega))
  have hk' : cs = [.string xs[i]] := hk
  rw [hk'] at hcell
  refine ⟨xs[i], hs _ (List.getElem_mem (by omega)), ?_⟩
  have := hcell 0 _ rfl
  rwa [show Kd.string.sz = 1 from rfl, Nat.mul_one, Nat.add_zero] at this
theorem names_call (w : World) : Calls Try.prog 85 #[] w (NmEnd 4 w) := by
  refine (letterpresslaw3_Names.calls _ w rfl).mono ?_
  rintro e w' ⟨v, rfl, h, hb⟩
  exact names_of rfl (by decide) (by decide) h hb
theorem labels_call (w : World) : Calls Try.prog 65 #[] w (NmEnd 4 w) := by
  refine (letterpresslaw4_Labels.calls _ w rfl).mono ?_
  rintro e w' ⟨v, rfl, h, hb⟩
  exact names_of rfl (by decide) (by decide) h hb

def nums79 : Array Value := #[.int .i64 0, .int .i64 1, .int .i64 2, .int .i64 255, .int .i64 65536, .int .i64 4294967295, .int .i64 40, .int .i64 7]
theorem nums79_at : ∀ k : Nat, k < 8 → ∃ v : Int, nums79[k]? = some (.int .i64 v) ∧ 0 ≤ v ∧ v ≤ 4294967295
  | 0, _ => ⟨_, rfl, by decide, by decide⟩
  | 1, _ => ⟨_, rfl, by decide, by decide⟩
  | 2, _ => ⟨_, rfl, by decide, by decide⟩
  | 3, _ => ⟨_, rfl, by decide, by decide⟩
  | 4, _ => ⟨_, rfl, by decide, by decide⟩
  | 5, _ => ⟨_, rfl, by decide, by decide⟩
  | 6, _ => ⟨_, rfl, by decide, by decide⟩
  | 7, _ => ⟨_, rfl, by decide, by decide⟩
  | k + 8, h => absurd h (by omega)
set_option maxRecDepth 100000 in
set_option maxHeartbeats 3200000 in
theorem make_of {d : Nat} (h : PartS d) : MakeS (d + 1) := by
  intro x A c w hx hC
  obtain ⟨W1, hW1⟩ : ∃ W1, W1 = (w.alloc (.cells #[.int .i64 x.f0, .int .i64 x.f1, .slice A x.f2.length c] 99)).alloc (.cells #[.int .i64 0, .int .i64 0, .string ⟨#[]⟩, .slice none 0 0] 102) := ⟨_, rfl⟩
  have b1 : Below w.heap.size w W1 := by rw [hW1]; exact ((Below.refl _ _).alloc (Nat.le_refl _) _).alloc (by simp) _
  have hq0 : W1.heap[w.heap.size]? = some (.cells #[.int .i64 x.f0, .int .i64 x.f1, .slice A x.f2.length c] 99 (0, 0)) := by rw [hW1]; exact (Below.heap_alloc _ _ _ (by simp)).trans (heap_alloc_new w _)
  have hq1 : W1.heap[w.heap.size + 1]? = some (.cells #[.int .i64 0, .int .i64 0, .string ⟨#[]⟩, .slice none 0 0] 102 (0, 0)) := by
    rw [hW1]
    have := heap_alloc_new (w.alloc (.cells #[.int .i64 x.f0, .int .i64 x.f1, .slice A x.f2.length c] 99)) (.cells #[.int .i64 0, .int .i64 0, .string ⟨#[]⟩, .slice none 0 0] 102)
    simpa using this
  have hs1 : W1.heap.size = w.heap.size + 2 := by rw [hW1]; simp
  have HW1 := Lib.hid hW1
  clear hW1
  have k0 : W1.cell? ⟨w.heap.size, 0, none⟩ = some (.int .i64 x.f0) := cell_of_row _ _ 0 _ 99 (0, 0) hq0
  unfold rAgg
  go_enter Try.func79, Try.ntmps79
  go_upto_region 1 with fail
  rw [← HW1.out]
  go_wp2_with fail
  refine (within84 x.f0 18 W1 (by omega) (by omega)).mono ?_
  rintro e W2 ⟨rfl, hb2⟩
  have m0 := Int.emod_nonneg x.f0 (show (18 : Int) ≠ 0 by omega)
  have m1 := Int.emod_lt_of_pos x.f0 (show (0 : Int) < 18 by omega)
  generalize x.f0 % 18 = k at *
  have hq02 := (hb2.block _ (by rw [hs1]; omega)).trans hq0
  have hq2 := (hb2.block _ (by rw [hs1]; omega)).trans hq1
  have b2 : Below w.heap.size w W2 := b1.trans (hb2.mono b1.size)
  have hs2 : w.heap.size + 1 < W2.heap.size := by have := hb2.size; omega
  have kk0 : W2.cell? ⟨w.heap.size, 0, none⟩ = some (.int .i64 x.f0) := cell_of_row _ _ 0 _ 99 (0, 0) hq02
  have c0 : W2.cell? ⟨w.heap.size, 1, none⟩ = some (.int .i64 x.f1) := cell_of_row _ _ 1 _ 99 (0, 0) hq02
  have c1 : W2.cell? ⟨w.heap.size, 2, none⟩ = some (.slice A x.f2.length c) := cell_of_row _ _ 2 _ 99 (0, 0) hq02
  have hpart := fun (i : Nat) (hi : i ≤ 1) W (hb : Below W2.heap.size W2 W) => h x A c i W hx (Kd.C_below hC (b2.trans (hb.mono b2.size))) hi
  unfold rAgg at hpart
  have HPA := Lib.hid (show ∀ W, Below W2.heap.size W2 W → Calls Try.prog 86 #[.agg #[.int .i64 x.f0, .int .i64 x.f1, .slice A x.f2.length c], .int .i64 0] W _ from hpart 0 (by omega))
  have HPB := Lib.hid (show ∀ W, Below W2.heap.size W2 W → Calls Try.prog 86 #[.agg #[.int .i64 x.f0, .int .i64 x.f1, .slice A x.f2.length c], .int .i64 1] W _ from hpart 1 (by omega))
  have HQ2 := Lib.hid hq2
  have HB20 := Lib.hid b2
  have HB2 := Lib.hid ((Below.refl W2.heap.size W2).drew)
  have HLT := Lib.hid (show w.heap.size < W2.heap.size by omega)
  have HLT1 := Lib.hid hs2
  have c0d : W2.drew.cell? ⟨w.heap.size, 1, none⟩ = some (.int .i64 x.f1) := c0
  have c2d : W2.drew.cell? ⟨w.heap.size, 0, none⟩ = some (.int .i64 x.f0) ∧ W2.drew.cell? ⟨w.heap.size, 1, none⟩ = some (.int .i64 x.f1) ∧ W2.drew.cell? ⟨w.heap.size, 2, none⟩ = some (.slice A x.f2.length c) := ⟨kk0, c0, c1⟩
  have HS2 : Hid (∀ W, Below W2.heap.size W2 W → W.cell? ⟨w.heap.size, 0, none⟩ = some (.int .i64 x.f0) ∧ W.cell? ⟨w.heap.size, 1, none⟩ = some (.int .i64 x.f1) ∧ W.cell? ⟨w.heap.size, 2, none⟩ = some (.slice A x.f2.length c)) := Lib.hid (fun W hb => ⟨(hb.cell (p := ⟨w.heap.size, 0, none⟩) HLT.out).trans kk0, (hb.cell (p := ⟨w.heap.size, 1, none⟩) HLT.out).trans c0, (hb.cell (p := ⟨w.heap.size, 2, none⟩) HLT.out).trans c1⟩)
  have n0 := Int.emod_nonneg x.f1 (show (4 : Int) ≠ 0 by omega)
  have n1 := Int.emod_lt_of_pos x.f1 (show (0 : Int) < 4 by omega)
  have n2 := Int.emod_nonneg x.f1 (show (8 : Int) ≠ 0 by omega)
  have n3 := Int.emod_lt_of_pos x.f1 (show (0 : Int) < 8 by omega)
  obtain ⟨m, hm⟩ : ∃ m : Nat, x.f1 % 4 = m := ⟨(x.f1 % 4).toNat, by omega⟩
  obtain ⟨n, hn⟩ : ∃ m : Nat, x.f1 % 8 = m := ⟨(x.f1 % 8).toNat, by omega⟩
  have HM := Lib.hid hm
  have HM4 := Lib.hid (show m < 4 by omega)
  have hm4 : (m : Int) < 4 := by omega
  have hm40 : (0 : Int) ≤ (m : Int) := by omega
  have HN := Lib.hid hn
  have hn8 : (n : Int) < 8 := by omega
  have hn80 : (0 : Int) ≤ (n : Int) := by omega
  have HN8 := Lib.hid (show n < 8 by omega)
  clear hm hn n0 n1 n2 n3 hq0 hq1 hq02 hq2 b1 b2 hb2 hs1 hpart h hx hC k0
  by_cases h4 : k < 4
  · clear c2d c0d
    obtain ⟨v, hv, v0, v1⟩ := nums79_at n HN8.out
    have c03 : (W2.alloc (.cells #[.int .i64 0, .int .i64 1, .int .i64 2, .int .i64 255, .int .i64 65536, .int .i64 4294967295, .int .i64 40, .int .i64 7] 3)).cell? ⟨w.heap.size, 1, none⟩ = some (.int .i64 x.f1) := (((Below.refl W2.heap.size W2).alloc (Nat.le_refl _) _).cell (p := ⟨w.heap.size, 1, none⟩) HLT.out).trans c0
    go_wp2_with fail
    have HA : Hid (∀ z : World, True) := Lib.hid (fun _ => trivial)
    clear c03; generalize hW3 : W2.alloc (.cells #[.int .i64 0, .int .i64 1, .int .i64 2, .int .i64 255, .int .i64 65536, .int .i64 4294967295, .int .i64 40, .int .i64 7] 3) = W3
    have hB3 : Below W2.heap.size W2 W3 := by rw [← hW3]; exact (Below.refl _ _).alloc (Nat.le_refl _) _
    have hcell : W3.cell? ⟨W2.heap.size, n, none⟩ = some (.int .i64 v) := by rw [← hW3]; exact (cell_of_row _ W2.heap.size n nums79 3 (0, 0) (heap_alloc_new W2 _)).trans hv
    have hlt3 : W2.heap.size < W3.heap.size := by rw [← hW3]; simp
    clear hW3
    refine (within84 x.f1 8 W3 (by omega) (by omega)).mono ?_
    rintro e W ⟨rfl, hb⟩
    rw [HN.out]
    have hcell' := (hb.cell (p := ⟨W2.heap.size, n, none⟩) hlt3).trans hcell
    have hB4 := hB3.trans (hb.mono hB3.size)
    have hqy : W.heap[w.heap.size + 1]? = _ := (hB4.block _ HLT1.out).trans HQ2.out
    have hb0 := HB20.out.trans (hB4.mono HB20.out.size)
    have hg : goodE (d + 1 + 1) ⟨1, v, ⟨#[]⟩, []⟩ := ⟨Nat.zero_le _, by show (-1000000000000000 : Int) ≤ v; omega, by show v ≤ 1000000000000000; omega, .inl ⟨.inl rfl, rfl⟩⟩
    obtain ⟨q0, q1, q2, q3, hz', hbz⟩ := put_end (y := ⟨1, v, ⟨#[]⟩, []⟩) hqy (by omega) (show w.heap.size + 1 < W2.heap.size from HLT1.out) hb0 (HasE.nil W _ _ rfl)
    obtain ⟨y0, y1, y2, y3⟩ := box4 hqy
    have fz : ∀ o, W.frozen? ⟨w.heap.size + 1, o, none⟩ = false := fun o => by simp [World.frozen?, hqy]
    have fz0 := fz 0
    have fz1 := fz 1
    have fz2 := fz 2
    have fz3 := fz 3
    clear fz hqy hcell hb hB3 hB4
    go_wp2_with fail
    refine bodyPost_ret (v := eAgg ⟨1, v, ⟨#[]⟩, []⟩ (.slice none 0 0)) (by unfold put4E at q3; simp [results, Try.results79, go_sem, q0, q1, q2, q3, eAgg]) rfl ⟨⟨1, v, ⟨#[]⟩, []⟩, _, rfl, hg, hz', hbz⟩
  · by_cases h8 : k < 8
    · clear c2d
      go_wp2_with fail
      refine PrintLast.start_ (n := 8) (S := fun w' => w'.cell? ⟨w.heap.size, 1, none⟩ = some (.int .i64 x.f1)) (ds := [7]) #[false, false, false, false, false, false, false, false] (by kernel_rfl) rfl rfl (c0d) (fun hHeld => ?_)
      refine PrintLast.pure_ (i := 1) (N := some 30) (v := ?_) (a' := ?_) #[false, true, false, false, false, false, false, false] rfl rfl (by kernel_rfl) (fun _ _ _ h => h) (Or.inl ⟨by rfl, ?_⟩) ?_ ?_
      rotate_left
      · intro w'
        go_simp
        with_reducible rfl
      rotate_left
      · simp only [Act.put, List.setIfInBounds_toArray, List.set_cons_zero, List.set_cons_succ]
        rfl
      refine PrintLast.take_ (i := 2) (N := some 31) (v := ?_) (a' := ?_) #[false, true, true, false, false, false, false, false] rfl rfl (by kernel_rfl) (fun _ _ _ h => h) (Or.inl ⟨by rfl, ?_⟩) hHeld ?_ ?_
      rotate_left
      · intro w' s0
        go_simp
        with_reducible rfl
      rotate_left
      · simp only [Act.put, List.setIfInBounds_toArray, List.set_cons_zero, List.set_cons_succ]
        rfl
      refine PrintLast.one_ (i := 0) (N := some 29) #[true, true, true, false, false, false, false, false] rfl rfl (by kernel_rfl) (by decide) (fun K hK => ?_)
      refine PrintLast.goes_ Try.func85 (by kernel_rfl) rfl #[] (by rfl) rfl rfl (by simp only [List.map_toArray, List.map_nil]) ?_
      with_reducible refine ((names_call W2.drew)).mono ?_
      rintro e wx ⟨ad, cc, rfl, hnm, hbx⟩
      refine ⟨_, rfl, ?_⟩
      have HBx := Lib.hid (HB2.out.trans (hbx.mono HB2.out.size))
      clear hbx
      refine hK.out _ _ ((HBx.out.cell (p := ⟨w.heap.size, 1, none⟩) HLT.out).trans c0) (fun hHeld => ?_)
      clear hK K
      refine PrintLast.norm_ (a' := ?_) ?_ ?_
      rotate_left
      · show Act.put _ (some 29) _ = _
        simp only [Act.put, List.setIfInBounds_toArray, List.set_cons_zero, List.set_cons_succ]
        rfl
      refine PrintLast.one_ (i := 3) (N := some 32) #[true, true, true, true, false, false, false, false] rfl rfl (by kernel_rfl) (by decide) (fun K hK => ?_)
      refine PrintLast.goes_ Try.func84 (by kernel_rfl) rfl #[.int .i64 x.f1, .int .i64 4] (by rfl) rfl rfl (by simp only [List.map_toArray, List.map_cons, List.map_nil]; rfl) ?_
      with_reducible refine ((within84 x.f1 4 wx (by omega) (by omega))).mono ?_
      rintro e wy ⟨rfl, hby⟩
      refine ⟨_, rfl, ?_⟩
      rw [HM.out]
      have HBy := Lib.hid (HBx.out.trans (hby.mono HBx.out.size))
      obtain ⟨sn, hsn, hcn⟩ := hnm m HM4.out
      have hcy : wy.cell? (ad.add m) = some (.string sn) := (hby.cell (World.block_lt_of_cell? _ _ hcn)).trans hcn
      have hqy : wy.heap[w.heap.size + 1]? = _ := (HBy.out.block _ HLT1.out).trans HQ2.out
      obtain ⟨y0, y1, y2, y3⟩ := box4 hqy
      have fz : ∀ o, wy.frozen? ⟨w.heap.size + 1, o, none⟩ = false := fun o => by simp [World.frozen?, hqy]
      have fz0 := fz 0
      have fz1 := fz 1
      have fz2 := fz 2
      have fz3 := fz 3
      clear hby hcn fz
      refine hK.out _ _ ((HBy.out.cell (p := ⟨w.heap.size, 1, none⟩) HLT.out).trans c0) (fun hHeld => ?_)
      clear hK K
      refine PrintLast.norm_ (a' := ?_) ?_ ?_
      rotate_left
      · show Act.put _ (some 32) _ = _
        simp only [Act.put, List.setIfInBounds_toArray, List.set_cons_zero, List.set_cons_succ]
        rfl
      refine PrintLast.pure_ (i := 4) (N := some 33) (v := ?_) (a' := ?_) #[true, true, true, true, true, false, false, false] rfl rfl (by kernel_rfl) (fun _ _ _ h => h) (Or.inl ⟨by rfl, ?_⟩) ?_ ?_
      rotate_left
      · intro w'
        go_simp
        with_reducible rfl
      rotate_left
      · simp only [Act.put, List.setIfInBounds_toArray, List.set_cons_zero, List.set_cons_succ]
        rfl
      refine PrintLast.one_ (i := 5) (N := some 34) #[true, true, true, true, true, true, false, false] rfl rfl (by kernel_rfl) (by decide) (fun K hK => ?_)
      refine PrintLast.value_ (w1 := ?_) (v := ?_) (by rfl) rfl ?_ ?_
      rotate_left 2
      · go_simp
        constructor
        · rfl
        · rfl
      refine hK.out _ _ ((HBy.out.cell (p := ⟨w.heap.size, 1, none⟩) HLT.out).trans c0) (fun hHeld => ?_)
      clear hK K
      refine PrintLast.norm_ (a' := ?_) ?_ ?_
      rotate_left
      · show Act.put _ (some 34) _ = _
        simp only [Act.put, List.setIfInBounds_toArray, List.set_cons_zero, List.set_cons_succ]
        rfl
      refine PrintLast.pure_ (i := 6) (N := some 35) (v := ?_) (a' := ?_) #[true, true, true, true, true, true, true, false] rfl rfl (by kernel_rfl) (fun _ _ _ h => h) (Or.inl ⟨by rfl, ?_⟩) ?_ ?_
      rotate_left
      · intro w'
        go_simp
        with_reducible rfl
      rotate_left
      · simp only [Act.put, List.setIfInBounds_toArray, List.set_cons_zero, List.set_cons_succ]
        rfl
      refine PrintLast.last_ (i := 7) (N := none) #[true, true, true, true, true, true, true, true] rfl rfl (by kernel_rfl) (by decide) (fun K hK => ?_)
      refine PrintLast.skip_ (w1 := ?_) (by rfl) rfl ?_ ?_
      rotate_left
      · go_simp
        rfl
      refine hK.out _ _ ?_
      clear hK K
      refine PrintLast.done_ (by kernel_rfl) ?_
      have hb0 := HB20.out.trans (HBy.out.mono HB20.out.size)
      have hg : goodE (d + 1 + 1) ⟨2, 0, sn, []⟩ := ⟨by show sn.size ≤ 12; omega, by show (-1000000000000000 : Int) ≤ 0; omega, by show (0 : Int) ≤ 1000000000000000; omega, .inl ⟨.inr (.inl rfl), rfl⟩⟩
      obtain ⟨q0, q1, q2, q3, hz', hbz⟩ := put_end (y := ⟨2, 0, sn, []⟩) hqy (by omega) (show w.heap.size + 1 < W2.heap.size from HLT1.out) hb0 (HasE.nil wy _ _ rfl)
      clear hHeld hqy
      go_wp2_with fail
      refine bodyPost_ret (v := eAgg ⟨2, 0, sn, []⟩ (.slice none 0 0)) (by unfold put4E at q3; simp [results, Try.results79, go_sem, q0, q1, q2, q3, eAgg]) rfl ⟨⟨2, 0, sn, []⟩, _, rfl, hg, hz', hbz⟩
    · by_cases h9 : k = 8
      · subst h9
        have hg : goodE (d + 1 + 1) ⟨3, 0, ⟨#[]⟩, []⟩ := ⟨Nat.zero_le _, by show (-1000000000000000 : Int) ≤ 0; omega, by show (0 : Int) ≤ 1000000000000000; omega, .inl ⟨.inr (.inr rfl), rfl⟩⟩
        obtain ⟨q0, q1, q2, q3, hz', hbz⟩ := put_end (y := ⟨3, 0, ⟨#[]⟩, []⟩) HQ2.out (by omega) (show w.heap.size + 1 < W2.heap.size from HLT1.out) HB20.out (HasE.nil W2 _ _ rfl)
        obtain ⟨y0, y1, y2, y3⟩ := box4 HQ2.out
        have fz : ∀ o, W2.frozen? ⟨w.heap.size + 1, o, none⟩ = false := fun o => by have := HQ2.out; simp [World.frozen?, this]
        have fz0 := fz 0
        have fz1 := fz 1
        have fz2 := fz 2
        have fz3 := fz 3
        clear fz c0d c2d
        go_wp2_with fail
        refine bodyPost_ret (v := eAgg ⟨3, 0, ⟨#[]⟩, []⟩ (.slice none 0 0)) (by unfold put4E at q3; simp [results, Try.results79, go_sem, q0, q1, q2, q3, eAgg]) rfl ⟨⟨3, 0, ⟨#[]⟩, []⟩, _, rfl, hg, hz', hbz⟩
      · have t8 : (k == 8) = false := by simpa using h9
        by_cases h11 : k < 11
        · clear c0d c2d
          go_wp2_with fail
          refine (HPA.out W2 (Below.refl _ _)).mono ?_
          rintro e W ⟨ya, va, rfl, hga, hza, hb⟩
          obtain ⟨Aa, ca, rfl, -⟩ := hza.form
          unfold eAgg
          have hrow := row_one hb.size hza
          have hB8 := hb.alloc hb.size (.cells #[.int .i64 ya.f0, .int .i64 ya.f1, .string ya.f2, .slice Aa ya.f3.length ca] 102)
          have hq8 := (hB8.block _ HLT1.out).trans HQ2.out
          have hb0 := HB20.out.trans (hB8.mono HB20.out.size)
          have hg : goodE (d + 1 + 1) ⟨4, 0, ⟨#[]⟩, [ya]⟩ := ⟨Nat.zero_le _, by show (-1000000000000000 : Int) ≤ 0; omega, by show (0 : Int) ≤ 1000000000000000; omega, .inr (.inl ⟨rfl, ya, rfl, hga⟩)⟩
          obtain ⟨q0, q1, q2, q3, hz', hbz⟩ := put_end (y := ⟨4, 0, ⟨#[]⟩, [ya]⟩) hq8 (by omega) (show w.heap.size + 1 < W2.heap.size from HLT1.out) hb0 ⟨hrow⟩
          obtain ⟨y0, y1, y2, y3⟩ := box4 hq8
          have fz : ∀ o, (W.alloc (.cells #[.int .i64 ya.f0, .int .i64 ya.f1, .string ya.f2, .slice Aa ya.f3.length ca] 102)).frozen? ⟨w.heap.size + 1, o, none⟩ = false := fun o => by simp only [World.frozen?, hq8]; rfl
          have fz0 := fz 0
          have fz1 := fz 1
          have fz2 := fz 2
          have fz3 := fz 3
          clear fz hq8 hB8 hrow hza hb
          go_wp2_with fail
          refine bodyPost_ret (v := eAgg ⟨4, 0, ⟨#[]⟩, [ya]⟩ (.slice (some ⟨W.heap.size, 0, none⟩) 1 1)) (by unfold put4E at q3; simp [results, Try.results79, go_sem, q0, q1, q2, q3, eAgg]) rfl ⟨⟨4, 0, ⟨#[]⟩, [ya]⟩, _, rfl, hg, hz', hbz⟩
        · clear c0d
          have hw1 : IntKind.i64.wrap (5 + k) = 5 + k := IntWalk.i64_in _ (by omega)
          have hw2 : IntKind.i64.wrap (5 + k - 11) = 5 + k - 11 := IntWalk.i64_in _ (by omega)
          go_wp2_with fail
          refine PrintLast.start_ (n := 10) (S := fun w' => w'.cell? ⟨w.heap.size, 0, none⟩ = some (.int .i64 x.f0) ∧ w'.cell? ⟨w.heap.size, 1, none⟩ = some (.int .i64 x.f1) ∧ w'.cell? ⟨w.heap.size, 2, none⟩ = some (.slice A x.f2.length c)) (ds := [9]) #[false, false, false, false, false, false, false, false, false, false] (by kernel_rfl) rfl rfl ⟨c2d.1, c2d.2.1, c2d.2.2⟩ (fun hHeld => ?_)
          refine PrintLast.pure_ (i := 0) (N := some 7) (v := ?_) (a' := ?_) #[true, false, false, false, false, false, false, false, false, false] rfl rfl (by kernel_rfl) (fun _ _ _ h => h) (Or.inl ⟨by rfl, ?_⟩) ?_ ?_
          rotate_left
          · intro w'
            go_simp
            with_reducible rfl
          rotate_left
          · simp only [Act.put, List.setIfInBounds_toArray, List.set_cons_zero, List.set_cons_succ]
            rfl
          refine PrintLast.pure_ (i := 1) (N := some 8) (v := ?_) (a' := ?_) #[true, true, false, false, false, false, false, false, false, false] rfl rfl (by kernel_rfl) (fun _ _ _ h => h) (Or.inl ⟨by rfl, ?_⟩) ?_ ?_
          rotate_left
          · intro w'
            go_simp
            with_reducible rfl
          rotate_left
          · simp only [Act.put, List.setIfInBounds_toArray, List.set_cons_zero, List.set_cons_succ]
            rfl
          refine PrintLast.pure_ (i := 2) (N := some 9) (v := ?_) (a' := ?_) #[true, true, true, false, false, false, false, false, false, false] rfl rfl (by kernel_rfl) (fun _ _ _ h => h) (Or.inl ⟨by rfl, ?_⟩) ?_ ?_
          rotate_left
          · intro w'
            go_simp
            with_reducible rfl
          rotate_left
          · simp only [Act.put, List.setIfInBounds_toArray, List.set_cons_zero, List.set_cons_succ]
            rfl
          refine PrintLast.take_ (i := 3) (N := some 10) (v := ?_) (a' := ?_) #[true, true, true, true, false, false, false, false, false, false] rfl rfl (by kernel_rfl) (fun _ _ _ h => h) (Or.inl ⟨by rfl, ?_⟩) hHeld ?_ ?_
          rotate_left
          · rintro w' ⟨s0, s1, s2⟩
            go_simp
            with_reducible rfl
          rotate_left
          · simp only [Act.put, List.setIfInBounds_toArray, List.set_cons_zero, List.set_cons_succ]
            rfl
          refine PrintLast.take_ (i := 5) (N := some 12) (v := ?_) (a' := ?_) #[true, true, true, true, false, true, false, false, false, false] rfl rfl (by kernel_rfl) (fun _ _ _ h => h) (Or.inl ⟨by rfl, ?_⟩) hHeld ?_ ?_
          rotate_left
          · rintro w' ⟨s0, s1, s2⟩
            go_simp
            with_reducible rfl
          rotate_left
          · simp only [Act.put, List.setIfInBounds_toArray, List.set_cons_zero, List.set_cons_succ]
            rfl
          refine PrintLast.one_ (i := 4) (N := some 11) #[true, true, true, true, true, true, false, false, false, false] rfl rfl (by kernel_rfl) (by decide) (fun K hK => ?_)
          refine PrintLast.goes_ Try.func86 (by kernel_rfl) rfl #[.agg #[.int .i64 x.f0, .int .i64 x.f1, .slice A x.f2.length c], .int .i64 0] (by rfl) rfl rfl (by simp only [List.map_toArray, List.map_cons, List.map_nil]; rfl) ?_
          with_reducible refine ((HPA.out W2.drew HB2.out)).mono ?_
          rintro e wx ⟨ya, va, rfl, hga, hza, hbx⟩
          refine ⟨_, rfl, ?_⟩
          have HBx := Lib.hid (HB2.out.trans (hbx.mono HB2.out.size))
          obtain ⟨Aa, ca, rfl, -⟩ := hza.form
          unfold eAgg
          clear hbx
          refine hK.out _ _ (HS2.out _ HBx.out) (fun hHeld => ?_)
          clear hK K
          refine PrintLast.norm_ (a' := ?_) ?_ ?_
          rotate_left
          · show Act.put _ (some 11) _ = _
            simp only [Act.put, List.setIfInBounds_toArray, List.set_cons_zero, List.set_cons_succ]
            rfl
          refine PrintLast.one_ (i := 6) (N := some 13) #[true, true, true, true, true, true, true, false, false, false] rfl rfl (by kernel_rfl) (by decide) (fun K hK => ?_)
          refine PrintLast.goes_ Try.func86 (by kernel_rfl) rfl #[.agg #[.int .i64 x.f0, .int .i64 x.f1, .slice A x.f2.length c], .int .i64 1] (by rfl) rfl rfl (by simp only [List.map_toArray, List.map_cons, List.map_nil]; rfl) ?_
          with_reducible refine ((HPB.out wx HBx.out)).mono ?_
          rintro e wy ⟨yb, vb, rfl, hgb, hzb, hby⟩
          refine ⟨_, rfl, ?_⟩
          have HBy := Lib.hid (HBx.out.trans (hby.mono HBx.out.size))
          obtain ⟨Ab, cb, rfl, -⟩ := hzb.form
          unfold eAgg
          have hza2 := (hza.below hby).lower (base' := W2.heap.size) (by first | exact Nat.le_refl _ | exact HB2.out.size)
          have hzb2 := hzb.lower (base' := W2.heap.size) HBx.out.size
          have hrow := row_two HBy.out.size hza2 hzb2
          have hqy : wy.heap[w.heap.size + 1]? = _ := (HBy.out.block _ HLT1.out).trans HQ2.out
          clear hby hza hzb hza2 hzb2
          refine hK.out _ _ (HS2.out _ HBy.out) (fun hHeld => ?_)
          clear hK K
          refine PrintLast.norm_ (a' := ?_) ?_ ?_
          rotate_left
          · show Act.put _ (some 13) _ = _
            simp only [Act.put, List.setIfInBounds_toArray, List.set_cons_zero, List.set_cons_succ]
            rfl
          refine PrintLast.one_ (i := 7) (N := some 14) #[true, true, true, true, true, true, true, true, false, false] rfl rfl (by kernel_rfl) (by decide) (fun K hK => ?_)
          refine PrintLast.value_ (w1 := ?_) (v := ?_) (by rfl) rfl ?_ ?_
          rotate_left 2
          · go_simp
            constructor
            · rfl
            · rfl
          have hB8 := HBy.out.alloc HBy.out.size (.cells #[.int .i64 ya.f0, .int .i64 ya.f1, .string ya.f2, .slice Aa ya.f3.length ca, .int .i64 yb.f0, .int .i64 yb.f1, .string yb.f2, .slice Ab yb.f3.length cb] 102)
          have HB8 := Lib.hid hB8
          have hq8 := (hB8.block _ HLT1.out).trans HQ2.out
          obtain ⟨y0, y1, y2, y3⟩ := box4 hq8
          have fz : ∀ o, (wy.alloc (.cells #[.int .i64 ya.f0, .int .i64 ya.f1, .string ya.f2, .slice Aa ya.f3.length ca, .int .i64 yb.f0, .int .i64 yb.f1, .string yb.f2, .slice Ab yb.f3.length cb] 102)).frozen? ⟨w.heap.size + 1, o, none⟩ = false := fun o => by simp only [World.frozen?, hq8]; rfl
          have fz0 := fz 0
          have fz1 := fz 1
          have fz2 := fz 2
          have fz3 := fz 3
          clear fz hB8
          refine hK.out _ _ (HS2.out _ HB8.out) (fun hHeld => ?_)
          clear hK K
          refine PrintLast.norm_ (a' := ?_) ?_ ?_
          rotate_left
          · show Act.put _ (some 14) _ = _
            simp only [Act.put, List.setIfInBounds_toArray, List.set_cons_zero, List.set_cons_succ]
            rfl
          refine PrintLast.pure_ (i := 8) (N := some 15) (v := ?_) (a' := ?_) #[true, true, true, true, true, true, true, true, true, false] rfl rfl (by kernel_rfl) (fun _ _ _ h => h) (Or.inl ⟨by rfl, ?_⟩) ?_ ?_
          rotate_left
          · intro w'
            go_simp
            with_reducible rfl
          rotate_left
          · simp only [Act.put, List.setIfInBounds_toArray, List.set_cons_zero, List.set_cons_succ]
            rfl
          refine PrintLast.last_ (i := 9) (N := none) #[true, true, true, true, true, true, true, true, true, true] rfl rfl (by kernel_rfl) (by decide) (fun K hK => ?_)
          refine PrintLast.skip_ (w1 := ?_) (by rfl) rfl ?_ ?_
          rotate_left
          · go_simp
            rfl
          refine hK.out _ _ ?_
          clear hK K
          refine PrintLast.done_ (by kernel_rfl) ?_
          have hb0 := HB20.out.trans (HB8.out.mono HB20.out.size)
          have hg : goodE (d + 1 + 1) ⟨5 + k - 11, 0, ⟨#[]⟩, [ya, yb]⟩ := ⟨Nat.zero_le _, by show (-1000000000000000 : Int) ≤ 0; omega, by show (0 : Int) ≤ 1000000000000000; omega, .inr (.inr ⟨by show (5 : Int) ≤ 5 + k - 11; omega, by show 5 + k - 11 ≤ (11 : Int); omega, ya, yb, rfl, hga, hgb⟩)⟩
          obtain ⟨q0, q1, q2, q3, hz', hbz⟩ := put_end (y := ⟨5 + k - 11, 0, ⟨#[]⟩, [ya, yb]⟩) hq8 (by omega) (show w.heap.size + 1 < W2.heap.size from HLT1.out) hb0 ⟨hrow⟩
          clear hHeld hq8 hqy hrow
          go_wp2_with fail
          refine bodyPost_ret (v := eAgg ⟨5 + k - 11, 0, ⟨#[]⟩, [ya, yb]⟩ (.slice (some ⟨wy.heap.size, 0, none⟩) 2 2)) (by unfold put4E at q3; simp [results, Try.results79, go_sem, q0, q1, q2, q3, eAgg]) rfl ⟨⟨5 + k - 11, 0, ⟨#[]⟩, [ya, yb]⟩, _, rfl, hg, hz', hbz⟩
theorem make_all : ∀ d : Nat, MakeS d
  | 0 => fun x A c w h _ => h.elim
  | d + 1 => make_of (part_of (make_all d))
end Go.Proofs.Ytifdkkkcecpjoaa
end
section
/-
  An expression of raw ones: the first, or a number.
-/
namespace Go.Proofs.Ytifdkkkcecpjoaa
set_option linter.unusedVariables false
set_option linter.unusedSimpArgs false
open Go.RowKit Go.Proofs.YtifdkkkcecpjoaaW Go.Proofs.YtifdkkkcecpjoaaW.PrintWords Tx
attribute [local go_sem ↓] Go.wp_at_zero Go.wp_at_succ
theorem goodE_num (d : Nat) (v : Int) (h0 : -1000000000000000 ≤ v) (h1 : v ≤ 1000000000000000) : goodE (d + 1) ⟨1, v, ⟨#[]⟩, []⟩ := ⟨Nat.zero_le _, h0, h1, .inl ⟨.inl rfl, rfl⟩⟩
set_option maxRecDepth 100000 in
set_option maxHeartbeats 1600000 in
theorem one_any {A : Option Addr} {c : Nat} {l : List S99} {w : World} (hC : Kd.C k99 w A l.length l) (hd : ∀ y ∈ l, deepR 8 y) (hl : l.length ≤ 1000000000000000) : Calls Try.prog 67 #[.slice A l.length c] w (MkE 9 w) := by
  obtain ⟨W1, hW1⟩ : ∃ W1, W1 = w.alloc (.cells #[.int .i64 0, .int .i64 0, .string ⟨#[]⟩, .slice none 0 0] 102) := ⟨_, rfl⟩
  have b1 : Below w.heap.size w W1 := by rw [hW1]; exact (Below.refl _ _).alloc (Nat.le_refl _) _
  have hq1 : W1.heap[w.heap.size]? = some (.cells #[.int .i64 0, .int .i64 0, .string ⟨#[]⟩, .slice none 0 0] 102 (0, 0)) := by rw [hW1]; exact heap_alloc_new w _
  have hs1 : w.heap.size < W1.heap.size := by rw [hW1]; simp
  have HW1 := Lib.hid hW1
  clear hW1
  have HQ1 := Lib.hid hq1
  have HS1 := Lib.hid hs1
  have HB1 := Lib.hid b1
  clear hq1 hs1 b1
  cases l with
  | nil =>
    obtain ⟨q0, q1, q2, q3, hz', hbz⟩ := put_end (y := ⟨1, 1, ⟨#[]⟩, []⟩) (B0 := w.heap.size + 1) HQ1.out (Nat.le_refl _) (Nat.lt_succ_self _) HB1.out (HasE.nil W1 _ _ rfl)
    obtain ⟨y0, y1, y2, y3⟩ := box4 HQ1.out
    have fz : ∀ o, W1.frozen? ⟨w.heap.size, o, none⟩ = false := fun o => by have := HQ1.out; simp [World.frozen?, this]
    have fz0 := fz 0
    have fz1 := fz 1
    have fz2 := fz 2
    have fz3 := fz 3
    clear fz hC hd hl
    simp only [List.length_nil]
    go_enter Try.func67, Try.ntmps67
    go_upto_region 1 with fail
    rw [← HW1.out]
    go_wp2_with fail
    refine bodyPost_ret (v := eAgg ⟨1, 1, ⟨#[]⟩, []⟩ (.slice none 0 0)) (by unfold put4E at q3; simp [results, Try.results67, go_sem, q0, q1, q2, q3, eAgg]) rfl ⟨⟨1, 1, ⟨#[]⟩, []⟩, _, rfl, goodE_num 8 1 (by omega) (by omega), hz', hbz⟩
  | cons y l =>
    obtain ⟨ad, A2, c2, rfl, k0, k1, k2, hl2, hC2⟩ := at_T99 hC 0 (by omega) (by simp only [List.length_cons]; omega)
    rw [show rd_T99 (y :: l) 0 = y from rfl] at k0 k1 k2 hl2 hC2
    have hcall := fun W (hb : Below w.heap.size w W) => make_all 8 y A2 c2 W (hd y (by simp)) (Kd.C_below hC2 hb)
    unfold rAgg at hcall
    rw [show (0 : Int).toNat * 3 = 0 from rfl, show ad.add 0 = ad from rfl] at k0 k1 k2
    have hbl : ad.block < w.heap.size := World.block_lt_of_cell? w _ k0
    have j0 := (HB1.out.cell hbl).trans k0
    have j1 := (HB1.out.cell (p := ⟨ad.block, ad.off + 1, none⟩) hbl).trans k1
    have j2 := (HB1.out.cell (p := ⟨ad.block, ad.off + 2, none⟩) hbl).trans k2
    obtain ⟨n, hn⟩ : ∃ n, n = (y :: l).length := ⟨_, rfl⟩
    have hn0 : 0 < n := by rw [hn, List.length_cons]; omega
    rw [← hn] at hl ⊢
    clear hC2 hl2 k0 k1 k2 hbl hC hd hn
    have hne : (n : Int) ≠ 0 := by omega
    go_enter Try.func67, Try.ntmps67
    go_upto_region 1 with fail
    rw [← HW1.out]
    go_wp2_with fail
    refine (hcall W1 HB1.out).mono ?_
    rintro e W ⟨z, v, rfl, hg, hz, hb⟩
    have hb' := HB1.out.trans (hb.mono HB1.out.size)
    have hq := (hb.block _ HS1.out).trans HQ1.out
    obtain ⟨q0, q1, q2, q3, hz', hbz⟩ := put_end hq (Nat.le_refl _) HS1.out hb' hz
    obtain ⟨y0, y1, y2, y3⟩ := box4 hq
    have fz : ∀ o, W.frozen? ⟨w.heap.size, o, none⟩ = false := fun o => by simp [World.frozen?, hq]
    have fz0 := fz 0
    have fz1 := fz 1
    have fz2 := fz 2
    have fz3 := fz 3
    obtain ⟨A', c', rfl, -⟩ := hz.form
    clear fz hq hz hb hb' hcall j0 j1 j2
    unfold eAgg
    go_wp2_with fail
    refine bodyPost_ret (v := eAgg z (.slice A' z.f3.length c')) (by unfold put4E at q3; simp [results, Try.results67, go_sem, q0, q1, q2, q3, eAgg]) rfl ⟨z, _, rfl, hg, hz', hbz⟩
end Go.Proofs.Ytifdkkkcecpjoaa
end
section
/-
  The number of a reader, printed.
-/
namespace Go.Proofs.Ytifdkkkcecpjoaa.Tx
open Go.RowKit Go.Proofs.YtifdkkkcecpjoaaW.PrintWords Go.Proofs.YtifdkkkcecpjoaaW.PrintLast Go.Proofs.YtifdkkkcecpjoaaW.PrintMore
attribute [local go_sem] max2_int min2_int max_two min_two max_three min_three max_four min_four   -- for this text's walks alone
set_option linter.unusedVariables false
set_option linter.unusedSimpArgs false

/-! ### letterpressref3_reader_number: function 91 -/
mutual
def letterpressref3_reader_number.l0 : Nat → Int → Int → Int → ByteArray → Int → Int → Bool → Option (Int × Int × ByteArray × (List (S102)) × ByteArray × Int × Int × Bool)
  | 0, _, _, _, _, _, _, _ => none
  | k + 1, x1, x5, x6, x1000, x1001, x1002, x1003 => if x1001 < (x1000.size : Int) then (if 0 ≤ x1001 then ((letterpressref3_digit.f k (bt x1000 x1001) x1).bind fun t106 => (letterpressref3_reader_number.j1 k x1 x5 x6 (decide (t106 ≥ 0)) x1000 x1001 x1002 x1003)) else (none)) else (letterpressref3_reader_number.j1 k x1 x5 x6 false x1000 x1001 x1002 x1003)
def letterpressref3_reader_number.j1 : Nat → Int → Int → Int → Bool → ByteArray → Int → Int → Bool → Option (Int × Int × ByteArray × (List (S102)) × ByteArray × Int × Int × Bool)
  | 0, _, _, _, _, _, _, _, _ => none
  | k + 1, x1, x5, x6, x34, x1000, x1001, x1002, x1003 => if x34 = true then (if 0 ≤ x1001 then (if x1001 < (x1000.size : Int) then ((letterpressref3_digit.f k (bt x1000 x1001) x1).bind fun t107 => (if (wrap64 ((wrap64 (x1 * x5)) + t107)) ≥ 4294967296 then (some (0, 0, (⟨#[]⟩ : ByteArray), ([] : List (S102)), x1000, wrap64 (x1001 + 1), x1002, true)) else (letterpressref3_reader_number.l0 k x1 (wrap64 ((wrap64 (x1 * x5)) + t107)) x6 x1000 (wrap64 (x1001 + 1)) x1002 x1003))) else (none)) else (none)) else (if x6 = x1001 then (some (1, x5, (⟨#[]⟩ : ByteArray), ([] : List (S102)), x1000, x1001, x1002, true)) else (some (1, x5, (⟨#[]⟩ : ByteArray), ([] : List (S102)), x1000, x1001, x1002, x1003)))
end
def letterpressref3_reader_number.f (k : Nat) (s0_0 : ByteArray) (s0_1 : Int) (s0_2 : Int) (s0_3 : Bool) (a1 : Int) : Option (Int × Int × ByteArray × (List (S102)) × ByteArray × Int × Int × Bool) := letterpressref3_reader_number.l0 k a1 0 s0_1 s0_0 s0_1 s0_2 s0_3
theorem letterpressref3_reader_number.mono_l : ∀ k, (∀ y0 y1 y2 y3 y4 y5 y6, LeO (letterpressref3_reader_number.l0 k y0 y1 y2 y3 y4 y5 y6) (letterpressref3_reader_number.l0 (k + 1) y0 y1 y2 y3 y4 y5 y6)) ∧ (∀ y0 y1 y2 y3 y4 y5 y6 y7, LeO (letterpressref3_reader_number.j1 k y0 y1 y2 y3 y4 y5 y6 y7) (letterpressref3_reader_number.j1 (k + 1) y0 y1 y2 y3 y4 y5 y6 y7))
  | 0 => ⟨fun _ _ _ _ _ _ _ r h => by simp [letterpressref3_reader_number.l0] at h, fun _ _ _ _ _ _ _ _ r h => by simp [letterpressref3_reader_number.j1] at h⟩
  | k + 1 => by
    obtain ⟨ih0, ih1⟩ := letterpressref3_reader_number.mono_l k
    refine ⟨?_, ?_⟩
    · intro y0 y1 y2 y3 y4 y5 y6
      unfold letterpressref3_reader_number.l0
      repeat' first
      | (with_reducible exact ih0 _ _ _ _ _ _ _)
      | (with_reducible exact ih1 _ _ _ _ _ _ _ _)
      | (with_reducible exact letterpressref3_digit.mono _ _ _)
      | (with_reducible exact LeO.refl _)
      | (with_reducible exact LeO.none _)
      | (with_reducible refine LeO.ite ?_ ?_)
      | (with_reducible refine LeO.bind ?_ (fun _ => ?_))
      | exact ih0 _ _ _ _ _ _ _
      | exact ih1 _ _ _ _ _ _ _ _
      | exact letterpressref3_digit.mono _ _ _
      | exact LeO.none _
      | refine LeO.ite ?_ ?_
      | refine LeO.bind ?_ (fun _ => ?_)
    · intro y0 y1 y2 y3 y4 y5 y6 y7
      unfold letterpressref3_reader_number.j1
      repeat' first
      | (with_reducible exact ih0 _ _ _ _ _ _ _)
      | (with_reducible exact ih1 _ _ _ _ _ _ _ _)
      | (with_reducible exact letterpressref3_digit.mono _ _ _)
      | (with_reducible exact LeO.refl _)
      | (with_reducible exact LeO.none _)
      | (with_reducible refine LeO.ite ?_ ?_)
      | (with_reducible refine LeO.bind ?_ (fun _ => ?_))
      | exact ih0 _ _ _ _ _ _ _
      | exact ih1 _ _ _ _ _ _ _ _
      | exact letterpressref3_digit.mono _ _ _
      | exact LeO.none _
      | refine LeO.ite ?_ ?_
      | refine LeO.bind ?_ (fun _ => ?_)
theorem letterpressref3_reader_number.mono : ∀ a0 a1 a2 a3 a4 k, LeO (letterpressref3_reader_number.f k a0 a1 a2 a3 a4) (letterpressref3_reader_number.f (k + 1) a0 a1 a2 a3 a4) := by
  intro a0 a1 a2 a3 a4 k
  obtain ⟨ih0, ih1⟩ := letterpressref3_reader_number.mono_l k
  unfold letterpressref3_reader_number.f
  repeat' first
      | (with_reducible exact ih0 _ _ _ _ _ _ _)
      | (with_reducible exact ih1 _ _ _ _ _ _ _ _)
      | (with_reducible exact letterpressref3_digit.mono _ _ _)
      | (with_reducible exact LeO.refl _)
      | (with_reducible exact LeO.none _)
      | (with_reducible refine LeO.ite ?_ ?_)
      | (with_reducible refine LeO.bind ?_ (fun _ => ?_))
      | exact ih0 _ _ _ _ _ _ _
      | exact ih1 _ _ _ _ _ _ _ _
      | exact letterpressref3_digit.mono _ _ _
      | exact LeO.none _
      | refine LeO.ite ?_ ?_
      | refine LeO.bind ?_ (fun _ => ?_)
set_option maxHeartbeats 8000000 in
set_option maxRecDepth 100000 in
theorem letterpressref3_reader_number.calls (k : Nat) (g : Nat) (s0_0 : ByteArray) (s0_1 : Int) (s0_2 : Int) (s0_3 : Bool) (a1 : Int) (r1 : Int) (r2 : Int) (r3 : ByteArray) (r4 : List (S102)) (r5 : ByteArray) (r6 : Int) (r7 : Int) (r8 : Bool) (w0 w : World) (hI : IsS126 w0 w g s0_0 s0_1 s0_2 s0_3) (hB : Below w0.heap.size w0 w) (h : letterpressref3_reader_number.f k s0_0 s0_1 s0_2 s0_3 a1 = some (r1, r2, r3, r4, r5, r6, r7, r8)) :
    Calls Try.prog 91 #[.pointer (some ⟨g, 0, none⟩), .int .i64 a1] w fun e w' => ∃ v3_ : Value, e = .returned (.agg #[.int .i64 r1, .int .i64 r2, .string r3, v3_]) ∧ Kd.R k102 102 w' w.heap.size (fun _ => True) v3_ r4 ∧ IsS126 w0 w' g r5 r6 r7 r8 ∧ Below w0.heap.size w0 w' ∧ KeepBut w w' g none := by
  have hu102 := Try.underlying102
  have HI0 := Aside0.mk hI
  have HK := Aside0.mk (KeepBut.refl w g none)
  have HL := Aside0.mk hB.size
  clear hI
  have HW0 := Aside0.mk hB.size
  have HB := Aside0.mk hB
  clear hB
  have H : (letterpressref3_reader_number.l0 k a1 0 s0_1 s0_0 s0_1 s0_2 s0_3) = some (r1, r2, r3, r4, r5, r6, r7, r8) := h
  clear h
  have H' := Aside0.mk H
  clear H
  go_enter Try.func91, Try.ntmps91
  go_wp2_with (first | ((with_reducible refine gate_dst (N := 4) rfl ?_); refine box_event ?hg (N := 4) ?hd (cs := #[.int .i64 0, .int .i64 0, .string (⟨#[]⟩ : ByteArray), .slice none 0 0]) (t := 102) ?hr ?_; (case hd => rfl); (case hg => rfl); (case hr => first | (go_simp; done) | (go_simp; rfl)); intro gb105 hg w3 hbox hb; have n0_ := Aside0.mk (IsS126.below (by repeat (first | (with_reducible first | exact HI0.out | apply IsS126.alloc | apply IsS126.drewN | apply IsS126.drew | apply IsS126.set_0 | apply IsS126.set_1 | apply IsS126.set_2 | apply IsS126.set_3) | exact HI0.out)) hb); have n1_ := Aside0.mk (KeepBut.trans (by repeat (first | (with_reducible first | exact HK.out | apply KeepBut.set_ | apply keep_drewN | apply keep_drew | apply keep_alloc) | exact HK.out)) (KeepBut.of_below hb g none) (.inl rfl)); have n2_ := Aside0.mk (below_step (by repeat (first | (with_reducible first | exact HB.out | apply below_alloc | apply pw_below_drewN | apply below_drew1 | refine below_set ?_ (IsS126.ge HI0.out)) | exact HB.out)) hb); have n3_ := Aside0.mk (hbox); have n4_ := Aside0.mk ((by rw [hg]; exact (keep_size (w := w) (g := g) (row := none) (by repeat (first | (with_reducible first | exact HK.out | apply KeepBut.set_ | apply keep_drewN | apply keep_drew | apply keep_alloc) | exact HK.out))) : w.heap.size ≤ gb105)); have n5_ := Aside0.mk ((Nat.le_trans HW0.out (by rw [hg]; exact (keep_size (w := w) (g := g) (row := none) (by repeat (first | (with_reducible first | exact HK.out | apply KeepBut.set_ | apply keep_drewN | apply keep_drew | apply keep_alloc) | exact HK.out))) : w.heap.size ≤ gb105) : w0.heap.size ≤ gb105)); have n6_ := Aside0.mk ((by rw [hg]; exact Nat.ne_of_lt (IsS126.lt (show IsS126 w0 _ g s0_0 s0_1 s0_2 s0_3 from by repeat (first | (with_reducible first | exact HI0.out | apply IsS126.alloc | apply IsS126.drewN | apply IsS126.drew | apply IsS126.set_0 | apply IsS126.set_1 | apply IsS126.set_2 | apply IsS126.set_3) | exact HI0.out))) : g ≠ gb105)); have n7_ := Aside0.mk ((by rw [hg]; exact Nat.ne_of_gt (IsS126.lt (show IsS126 w0 _ g s0_0 s0_1 s0_2 s0_3 from by repeat (first | (with_reducible first | exact HI0.out | apply IsS126.alloc | apply IsS126.drewN | apply IsS126.drew | apply IsS126.set_0 | apply IsS126.set_1 | apply IsS126.set_2 | apply IsS126.set_3) | exact HI0.out))) : gb105 ≠ g)); clear HI0; clear HK; clear HB; have HI0 := n0_; have HK := n1_; have HB := n2_; have BK105 := n3_; have GW105 := n4_; have GE105 := n5_; have NB0_105 := n6_; have NB105_0 := n7_; clear n0_ n1_ n2_ n3_ n4_ n5_ n6_ n7_; clear hb hbox hg; obtain ⟨HGz4, hgz4⟩ := HI0.out; have hcz4_0 := cellS126_0 HGz4; have hcz4_1 := cellS126_1 HGz4; have hcz4_2 := cellS126_2 HGz4; have hcz4_3 := cellS126_3 HGz4; have hfz4_0 := blk_frozen HGz4 0; have hfz4_1 := blk_frozen HGz4 1; have hfz4_2 := blk_frozen HGz4 2; have hfz4_3 := blk_frozen HGz4 3; clear HGz4 hgz4))
  repeat (go_quiet (first | ((with_reducible refine gate_dst (N := 4) rfl ?_); refine box_event ?hg (N := 4) ?hd (cs := #[.int .i64 0, .int .i64 0, .string (⟨#[]⟩ : ByteArray), .slice none 0 0]) (t := 102) ?hr ?_; (case hd => rfl); (case hg => rfl); (case hr => first | (go_simp; done) | (go_simp; rfl)); intro gb105 hg w3 hbox hb; have n0_ := Aside0.mk (IsS126.below (by repeat (first | (with_reducible first | exact HI0.out | apply IsS126.alloc | apply IsS126.drewN | apply IsS126.drew | apply IsS126.set_0 | apply IsS126.set_1 | apply IsS126.set_2 | apply IsS126.set_3) | exact HI0.out)) hb); have n1_ := Aside0.mk (KeepBut.trans (by repeat (first | (with_reducible first | exact HK.out | apply KeepBut.set_ | apply keep_drewN | apply keep_drew | apply keep_alloc) | exact HK.out)) (KeepBut.of_below hb g none) (.inl rfl)); have n2_ := Aside0.mk (below_step (by repeat (first | (with_reducible first | exact HB.out | apply below_alloc | apply pw_below_drewN | apply below_drew1 | refine below_set ?_ (IsS126.ge HI0.out)) | exact HB.out)) hb); have n3_ := Aside0.mk (hbox); have n4_ := Aside0.mk ((by rw [hg]; exact (keep_size (w := w) (g := g) (row := none) (by repeat (first | (with_reducible first | exact HK.out | apply KeepBut.set_ | apply keep_drewN | apply keep_drew | apply keep_alloc) | exact HK.out))) : w.heap.size ≤ gb105)); have n5_ := Aside0.mk ((Nat.le_trans HW0.out (by rw [hg]; exact (keep_size (w := w) (g := g) (row := none) (by repeat (first | (with_reducible first | exact HK.out | apply KeepBut.set_ | apply keep_drewN | apply keep_drew | apply keep_alloc) | exact HK.out))) : w.heap.size ≤ gb105) : w0.heap.size ≤ gb105)); have n6_ := Aside0.mk ((by rw [hg]; exact Nat.ne_of_lt (IsS126.lt (show IsS126 w0 _ g s0_0 s0_1 s0_2 s0_3 from by repeat (first | (with_reducible first | exact HI0.out | apply IsS126.alloc | apply IsS126.drewN | apply IsS126.drew | apply IsS126.set_0 | apply IsS126.set_1 | apply IsS126.set_2 | apply IsS126.set_3) | exact HI0.out))) : g ≠ gb105)); have n7_ := Aside0.mk ((by rw [hg]; exact Nat.ne_of_gt (IsS126.lt (show IsS126 w0 _ g s0_0 s0_1 s0_2 s0_3 from by repeat (first | (with_reducible first | exact HI0.out | apply IsS126.alloc | apply IsS126.drewN | apply IsS126.drew | apply IsS126.set_0 | apply IsS126.set_1 | apply IsS126.set_2 | apply IsS126.set_3) | exact HI0.out))) : gb105 ≠ g)); clear HI0; clear HK; clear HB; have HI0 := n0_; have HK := n1_; have HB := n2_; have BK105 := n3_; have GW105 := n4_; have GE105 := n5_; have NB0_105 := n6_; have NB105_0 := n7_; clear n0_ n1_ n2_ n3_ n4_ n5_ n6_ n7_; clear hb hbox hg; obtain ⟨HGz4, hgz4⟩ := HI0.out; have hcz4_0 := cellS126_0 HGz4; have hcz4_1 := cellS126_1 HGz4; have hcz4_2 := cellS126_2 HGz4; have hcz4_3 := cellS126_3 HGz4; have hfz4_0 := blk_frozen HGz4 0; have hfz4_1 := blk_frozen HGz4 1; have hfz4_2 := blk_frozen HGz4 2; have hfz4_3 := blk_frozen HGz4 3; clear HGz4 hgz4)); try go_wp2_with (first | ((with_reducible refine gate_dst (N := 4) rfl ?_); refine box_event ?hg (N := 4) ?hd (cs := #[.int .i64 0, .int .i64 0, .string (⟨#[]⟩ : ByteArray), .slice none 0 0]) (t := 102) ?hr ?_; (case hd => rfl); (case hg => rfl); (case hr => first | (go_simp; done) | (go_simp; rfl)); intro gb105 hg w3 hbox hb; have n0_ := Aside0.mk (IsS126.below (by repeat (first | (with_reducible first | exact HI0.out | apply IsS126.alloc | apply IsS126.drewN | apply IsS126.drew | apply IsS126.set_0 | apply IsS126.set_1 | apply IsS126.set_2 | apply IsS126.set_3) | exact HI0.out)) hb); have n1_ := Aside0.mk (KeepBut.trans (by repeat (first | (with_reducible first | exact HK.out | apply KeepBut.set_ | apply keep_drewN | apply keep_drew | apply keep_alloc) | exact HK.out)) (KeepBut.of_below hb g none) (.inl rfl)); have n2_ := Aside0.mk (below_step (by repeat (first | (with_reducible first | exact HB.out | apply below_alloc | apply pw_below_drewN | apply below_drew1 | refine below_set ?_ (IsS126.ge HI0.out)) | exact HB.out)) hb); have n3_ := Aside0.mk (hbox); have n4_ := Aside0.mk ((by rw [hg]; exact (keep_size (w := w) (g := g) (row := none) (by repeat (first | (with_reducible first | exact HK.out | apply KeepBut.set_ | apply keep_drewN | apply keep_drew | apply keep_alloc) | exact HK.out))) : w.heap.size ≤ gb105)); have n5_ := Aside0.mk ((Nat.le_trans HW0.out (by rw [hg]; exact (keep_size (w := w) (g := g) (row := none) (by repeat (first | (with_reducible first | exact HK.out | apply KeepBut.set_ | apply keep_drewN | apply keep_drew | apply keep_alloc) | exact HK.out))) : w.heap.size ≤ gb105) : w0.heap.size ≤ gb105)); have n6_ := Aside0.mk ((by rw [hg]; exact Nat.ne_of_lt (IsS126.lt (show IsS126 w0 _ g s0_0 s0_1 s0_2 s0_3 from by repeat (first | (with_reducible first | exact HI0.out | apply IsS126.alloc | apply IsS126.drewN | apply IsS126.drew | apply IsS126.set_0 | apply IsS126.set_1 | apply IsS126.set_2 | apply IsS126.set_3) | exact HI0.out))) : g ≠ gb105)); have n7_ := Aside0.mk ((by rw [hg]; exact Nat.ne_of_gt (IsS126.lt (show IsS126 w0 _ g s0_0 s0_1 s0_2 s0_3 from by repeat (first | (with_reducible first | exact HI0.out | apply IsS126.alloc | apply IsS126.drewN | apply IsS126.drew | apply IsS126.set_0 | apply IsS126.set_1 | apply IsS126.set_2 | apply IsS126.set_3) | exact HI0.out))) : gb105 ≠ g)); clear HI0; clear HK; clear HB; have HI0 := n0_; have HK := n1_; have HB := n2_; have BK105 := n3_; have GW105 := n4_; have GE105 := n5_; have NB0_105 := n6_; have NB105_0 := n7_; clear n0_ n1_ n2_ n3_ n4_ n5_ n6_ n7_; clear hb hbox hg; obtain ⟨HGz4, hgz4⟩ := HI0.out; have hcz4_0 := cellS126_0 HGz4; have hcz4_1 := cellS126_1 HGz4; have hcz4_2 := cellS126_2 HGz4; have hcz4_3 := cellS126_3 HGz4; have hfz4_0 := blk_frozen HGz4 0; have hfz4_1 := blk_frozen HGz4 1; have hfz4_2 := blk_frozen HGz4 2; have hfz4_3 := blk_frozen HGz4 3; clear HGz4 hgz4)))
  go_loopg [5] k (fun kq v5 w' => ∃ (x5_1 : Int) (x1001_1 : Int) (x1003_1 : Bool) (x106000_1 : Int) (x106001_1 : Int) (x106002_1 : ByteArray), v5 = .int .i64 x5_1 ∧ Aside0 (letterpressref3_reader_number.l0 kq a1 x5_1 s0_1 s0_0 x1001_1 s0_2 x1003_1 = some (r1, r2, r3, r4, r5, r6, r7, r8)) ∧ Aside0 (kq ≤ k) ∧ Aside0 (w'.heap[gb105]? = some (.cells #[.int .i64 x106000_1, .int .i64 x106001_1, .string x106002_1, (.slice none 0 0)] 102 (0, 0))) ∧ Aside0 (IsS126 w0 w' g s0_0 x1001_1 s0_2 x1003_1) ∧ Aside0 (KeepBut w w' g none) ∧ Aside0 (Below w0.heap.size w0 w'))
  case atStart => exact ⟨(0), (s0_1), (s0_3), (0), (0), ((⟨#[]⟩ : ByteArray)), (by first | rfl | (simp; done) | (simp [*]; done)), H', ⟨Nat.le_refl _⟩, ⟨by (with_reducible repeat (first | refine blk_drewN ?_ _ | refine blk_drew ?_ | refine blk_alloc ?_ _)); exact BK105.out⟩, ⟨by repeat (first | (with_reducible first | exact HI0.out | apply IsS126.alloc | apply IsS126.drewN | apply IsS126.drew | apply IsS126.set_0 | apply IsS126.set_1 | apply IsS126.set_2 | apply IsS126.set_3 | refine IsS126.far ?_ NB0_105.out _) | exact HI0.out)⟩, ⟨by repeat (first | (with_reducible first | exact HK.out | apply KeepBut.set_ | apply keep_drewN | apply keep_drew | apply keep_alloc | refine keep_far ?_ GW105.out _) | exact HK.out)⟩, ⟨by repeat (first | (with_reducible first | exact HB.out | apply below_alloc | apply pw_below_drewN | apply below_drew1 | refine below_set ?_ (IsS126.ge HI0.out) | refine below_set ?_ GE105.out) | exact HB.out)⟩⟩
  case round =>
    clear H'
    try clear p2
    try clear hcz4_0
    try clear hcz4_1
    try clear hcz4_2
    try clear hcz4_3
    try clear hfz4_0
    try clear hfz4_1
    try clear hfz4_2
    try clear hfz4_3
    obtain ⟨x5_1, x1001_1, x1003_1, x106000_1, x106001_1, x106002_1, rfl, HA, HK1, BK105, HI0, HK, HB⟩ := hrel
    cases gk with
    | zero => exact absurd HA.out (by simp [letterpressref3_reader_number.l0])
    | succ k1 =>
      have H := HA.out
      clear HA
      simp only [letterpressref3_reader_number.l0] at H
      have HC5 := Aside0.mk H
      clear H
      go_upto_region 2 with (fail)
      repeat (go_quiet (fail); go_upto_region 2 with (fail))
      go_cut [34] (fun v34 wc => ∃ (kq : Nat) (x34_4 : Bool), v34 = .bool x34_4 ∧ Aside0 (letterpressref3_reader_number.j1 kq a1 x5_1 s0_1 x34_4 s0_0 x1001_1 s0_2 x1003_1 = some (r1, r2, r3, r4, r5, r6, r7, r8)) ∧ Aside0 (kq ≤ k1) ∧ Aside0 (wc.heap[gb105]? = some (.cells #[.int .i64 x106000_1, .int .i64 x106001_1, .string x106002_1, (.slice none 0 0)] 102 (0, 0))) ∧ Aside0 (IsS126 w0 wc g s0_0 x1001_1 s0_2 x1003_1) ∧ Aside0 (KeepBut w wc g none) ∧ Aside0 (Below w0.heap.size w0 wc))
      case first =>
        have H := HC5.out
        clear HC5
        by_cases c6 : x1001_1 < (s0_0.size : Int)
        · rw [if_pos c6] at H
          have c6b0 : decide (x1001_1 < (s0_0.size : Int)) = true := decide_eq_true c6
          clear c6
          (first | rw [c6b0] | (simp only [i64_w, i32_w]; rw [c6b0]) | skip)
          by_cases c7 : 0 ≤ x1001_1
          · rw [if_pos c7] at H
            have c7b0 : decide (0 ≤ x1001_1) = true := decide_eq_true c7
            clear c7
            replace H := Option.bind_eq_some_iff.mp H
            obtain ⟨t106, A90, H⟩ := H
            replace H : (letterpressref3_reader_number.j1 k1 a1 x5_1 s0_1 (decide (t106 ≥ 0)) s0_0 x1001_1 s0_2 x1003_1) = some (r1, r2, r3, r4, r5, r6, r7, r8) := H
            have A9 := Aside0.mk A90
            clear A90
            have H' := Aside0.mk H
            clear H
            obtain ⟨HGz10, hgz10⟩ := HI0.out
            have hcz10_0 := cellS126_0 HGz10
            have hcz10_1 := cellS126_1 HGz10
            have hcz10_2 := cellS126_2 HGz10
            have hcz10_3 := cellS126_3 HGz10
            have hfz10_0 := blk_frozen HGz10 0
            have hfz10_1 := blk_frozen HGz10 1
            have hfz10_2 := blk_frozen HGz10 2
            have hfz10_3 := blk_frozen HGz10 3
            clear HGz10 hgz10
            have p8 : 0 ≤ (x1001_1 : Int) := of_decide_eq_true (by first | (with_reducible assumption) | assumption)
            have q8 : x1001_1 < (s0_0.size : Int) := of_decide_eq_true (by first | (with_reducible assumption) | assumption)
            have hx8 := bt_at s0_0 x1001_1
            replace p8 := eq_true p8
            replace q8 := eq_true q8
            go_wp2_with (first | (go_at_call 92; (with_reducible refine (letterpressref3_digit.calls k1 (bt s0_0 x1001_1) a1 t106 _ A9.out).mono ?_); rintro e w' ⟨rfl, ⟨nd, rfl⟩⟩; (try first | exact ⟨rfl, _, World.drewN_drewN _ _ _⟩ | exact ⟨rfl, _, Eq.trans (World.drewN_drewN _ _ _) (congrArg (World.drewN _) (Nat.add_assoc _ _ _))⟩)))
            repeat (go_quiet (first | (go_at_call 92; (with_reducible refine (letterpressref3_digit.calls k1 (bt s0_0 x1001_1) a1 t106 _ A9.out).mono ?_); rintro e w' ⟨rfl, ⟨nd, rfl⟩⟩; (try first | exact ⟨rfl, _, World.drewN_drewN _ _ _⟩ | exact ⟨rfl, _, Eq.trans (World.drewN_drewN _ _ _) (congrArg (World.drewN _) (Nat.add_assoc _ _ _))⟩))); try go_wp2_with (first | (go_at_call 92; (with_reducible refine (letterpressref3_digit.calls k1 (bt s0_0 x1001_1) a1 t106 _ A9.out).mono ?_); rintro e w' ⟨rfl, ⟨nd, rfl⟩⟩; (try first | exact ⟨rfl, _, World.drewN_drewN _ _ _⟩ | exact ⟨rfl, _, Eq.trans (World.drewN_drewN _ _ _) (congrArg (World.drewN _) (Nat.add_assoc _ _ _))⟩))))
            go_meet
            case rel => exact ⟨_, (decide (t106 ≥ 0)), (by first | rfl | (simp; done) | (simp [*]; done)), H', ⟨by have := HK1.out; first | omega | exact Nat.le_refl _⟩, ⟨by (with_reducible repeat (first | refine blk_drewN ?_ _ | refine blk_drew ?_ | refine blk_alloc ?_ _)); exact BK105.out⟩, ⟨by repeat (first | (with_reducible first | exact HI0.out | apply IsS126.alloc | apply IsS126.drewN | apply IsS126.drew | apply IsS126.set_0 | apply IsS126.set_1 | apply IsS126.set_2 | apply IsS126.set_3 | refine IsS126.far ?_ NB0_105.out _) | exact HI0.out)⟩, ⟨by repeat (first | (with_reducible first | exact HK.out | apply KeepBut.set_ | apply keep_drewN | apply keep_drew | apply keep_alloc | refine keep_far ?_ GW105.out _) | exact HK.out)⟩, ⟨by repeat (first | (with_reducible first | exact HB.out | apply below_alloc | apply pw_below_drewN | apply below_drew1 | refine below_set ?_ (IsS126.ge HI0.out) | refine below_set ?_ GE105.out) | exact HB.out)⟩⟩
          · rw [if_neg c7] at H
            exact absurd H (by simp)
        · rw [if_neg c6] at H
          have c6b0 : decide (x1001_1 < (s0_0.size : Int)) = false := decide_eq_false c6
          clear c6
          (first | rw [c6b0] | (simp only [i64_w, i32_w]; rw [c6b0]) | skip)
          have H' := Aside0.mk H
          clear H
          obtain ⟨HGz11, hgz11⟩ := HI0.out
          have hcz11_0 := cellS126_0 HGz11
          have hcz11_1 := cellS126_1 HGz11
          have hcz11_2 := cellS126_2 HGz11
          have hcz11_3 := cellS126_3 HGz11
          have hfz11_0 := blk_frozen HGz11 0
          have hfz11_1 := blk_frozen HGz11 1
          have hfz11_2 := blk_frozen HGz11 2
          have hfz11_3 := blk_frozen HGz11 3
          clear HGz11 hgz11
          go_wp2
          repeat (go_quiet (fail); try go_wp2)
          go_meet
          case rel => exact ⟨_, (false), (by first | rfl | (simp; done) | (simp [*]; done)), H', ⟨by have := HK1.out; first | omega | exact Nat.le_refl _⟩, ⟨by (with_reducible repeat (first | refine blk_drewN ?_ _ | refine blk_drew ?_ | refine blk_alloc ?_ _)); exact BK105.out⟩, ⟨by repeat (first | (with_reducible first | exact HI0.out | apply IsS126.alloc | apply IsS126.drewN | apply IsS126.drew | apply IsS126.set_0 | apply IsS126.set_1 | apply IsS126.set_2 | apply IsS126.set_3 | refine IsS126.far ?_ NB0_105.out _) | exact HI0.out)⟩, ⟨by repeat (first | (with_reducible first | exact HK.out | apply KeepBut.set_ | apply keep_drewN | apply keep_drew | apply keep_alloc | refine keep_far ?_ GW105.out _) | exact HK.out)⟩, ⟨by repeat (first | (with_reducible first | exact HB.out | apply below_alloc | apply pw_below_drewN | apply below_drew1 | refine below_set ?_ (IsS126.ge HI0.out) | refine below_set ?_ GE105.out) | exact HB.out)⟩⟩
      case rest =>
        clear HC5
        try clear p2
        try clear c6
        try clear c6b0
        try clear c7
        try clear c7b0
        try clear p8
        try clear q8
        try clear hx8
        try clear c9
        try clear hcz10_0
        try clear hcz10_1
        try clear hcz10_2
        try clear hcz10_3
        try clear hcz11_0
        try clear hcz11_1
        try clear hcz11_2
        try clear hcz11_3
        try clear hcz4_0
        try clear hcz4_1
        try clear hcz4_2
        try clear hcz4_3
        try clear hfz10_0
        try clear hfz10_1
        try clear hfz10_2
        try clear hfz10_3
        try clear hfz11_0
        try clear hfz11_1
        try clear hfz11_2
        try clear hfz11_3
        try clear hfz4_0
        try clear hfz4_1
        try clear hfz4_2
        try clear hfz4_3
        try clear p2
        try clear p8
        try clear q8
        obtain ⟨kq, x34_4, rfl, HA, HJ4, BK105, HI0, HK, HB⟩ := hcut
        cases kq with
        | zero => exact absurd HA.out (by simp [letterpressref3_reader_number.j1])
        | succ kj4 =>
          have H := HA.out
          clear HA
          simp only [letterpressref3_reader_number.j1] at H
          by_cases c12 : x34_4 = true
          · subst c12
            have H1 : (if 0 ≤ x1001_1 then (if x1001_1 < (s0_0.size : Int) then ((letterpressref3_digit.f kj4 (bt s0_0 x1001_1) a1).bind fun t107 => (if (wrap64 ((wrap64 (a1 * x5_1)) + t107)) ≥ 4294967296 then (some (0, 0, (⟨#[]⟩ : ByteArray), ([] : List (S102)), s0_0, wrap64 (x1001_1 + 1), s0_2, true)) else (letterpressref3_reader_number.l0 kj4 a1 (wrap64 ((wrap64 (a1 * x5_1)) + t107)) s0_1 s0_0 (wrap64 (x1001_1 + 1)) s0_2 x1003_1))) else (none)) else (none)) = some (r1, r2, r3, r4, r5, r6, r7, r8) := by rw [if_pos rfl] at H; exact H
            clear H
            have H := H1
            clear H1
            by_cases c13 : 0 ≤ x1001_1
            · rw [if_pos c13] at H
              have c13b0 : decide (0 ≤ x1001_1) = true := decide_eq_true c13
              clear c13
              by_cases c14 : x1001_1 < (s0_0.size : Int)
              · rw [if_pos c14] at H
                have c14b0 : decide (x1001_1 < (s0_0.size : Int)) = true := decide_eq_true c14
                clear c14
                replace H := Option.bind_eq_some_iff.mp H
                obtain ⟨t107, A160, H⟩ := H
                replace H : (if (wrap64 ((wrap64 (a1 * x5_1)) + t107)) ≥ 4294967296 then (some (0, 0, (⟨#[]⟩ : ByteArray), ([] : List (S102)), s0_0, wrap64 (x1001_1 + 1), s0_2, true)) else (letterpressref3_reader_number.l0 kj4 a1 (wrap64 ((wrap64 (a1 * x5_1)) + t107)) s0_1 s0_0 (wrap64 (x1001_1 + 1)) s0_2 x1003_1)) = some (r1, r2, r3, r4, r5, r6, r7, r8) := H
                have A16 := Aside0.mk A160
                clear A160
                by_cases c17 : (wrap64 ((wrap64 (a1 * x5_1)) + t107)) ≥ 4294967296
                · rw [if_pos c17] at H
                  have c17b0 : decide (4294967296 ≤ (wrap64 ((wrap64 (a1 * x5_1)) + t107))) = true := decide_eq_true c17
                  clear c17
                  simp only [Option.some.injEq, Prod.mk.injEq] at H
                  obtain ⟨rfl, rfl, rfl, rfl, rfl, rfl, rfl, rfl⟩ := H
                  obtain ⟨HGz18, hgz18⟩ := HI0.out
                  have hcz18_0 := cellS126_0 HGz18
                  have hcz18_1 := cellS126_1 HGz18
                  have hcz18_2 := cellS126_2 HGz18
                  have hcz18_3 := cellS126_3 HGz18
                  have hfz18_0 := blk_frozen HGz18 0
                  have hfz18_1 := blk_frozen HGz18 1
                  have hfz18_2 := blk_frozen HGz18 2
                  have hfz18_3 := blk_frozen HGz18 3
                  clear HGz18 hgz18
                  have p15 : 0 ≤ (x1001_1 : Int) := of_decide_eq_true (by first | (with_reducible assumption) | assumption)
                  have q15 : x1001_1 < (s0_0.size : Int) := of_decide_eq_true (by first | (with_reducible assumption) | assumption)
                  have hx15 := bt_at s0_0 x1001_1
                  replace p15 := eq_true p15
                  replace q15 := eq_true q15
                  go_wp2_with (first | (go_at_call 92; (with_reducible refine (letterpressref3_digit.calls kj4 (bt s0_0 x1001_1) a1 t107 _ A16.out).mono ?_); rintro e w' ⟨rfl, ⟨nd, rfl⟩⟩; (try first | exact ⟨rfl, _, World.drewN_drewN _ _ _⟩ | exact ⟨rfl, _, Eq.trans (World.drewN_drewN _ _ _) (congrArg (World.drewN _) (Nat.add_assoc _ _ _))⟩); have hnb19 := NB105_0.out; have hnc19 := NB0_105.out; have hcz20_0 : wc.cell? ⟨gb105, 0, none⟩ = some (.int .i64 x106000_1) := (blk_cell BK105.out 0).trans rfl; have hcz20_1 : wc.cell? ⟨gb105, 1, none⟩ = some (.int .i64 x106001_1) := (blk_cell BK105.out 1).trans rfl; have hcz20_2 : wc.cell? ⟨gb105, 2, none⟩ = some (.string x106002_1) := (blk_cell BK105.out 2).trans rfl; have hcz20_3 : wc.cell? ⟨gb105, 3, none⟩ = some (.slice none 0 0) := (blk_cell BK105.out 3).trans rfl; have hfz20_0 := blk_frozen BK105.out 0; have hfz20_1 := blk_frozen BK105.out 1; have hfz20_2 := blk_frozen BK105.out 2; have hfz20_3 := blk_frozen BK105.out 3))
                  repeat (go_quiet (first | (go_at_call 92; (with_reducible refine (letterpressref3_digit.calls kj4 (bt s0_0 x1001_1) a1 t107 _ A16.out).mono ?_); rintro e w' ⟨rfl, ⟨nd, rfl⟩⟩; (try first | exact ⟨rfl, _, World.drewN_drewN _ _ _⟩ | exact ⟨rfl, _, Eq.trans (World.drewN_drewN _ _ _) (congrArg (World.drewN _) (Nat.add_assoc _ _ _))⟩); have hnb19 := NB105_0.out; have hnc19 := NB0_105.out; have hcz20_0 : wc.cell? ⟨gb105, 0, none⟩ = some (.int .i64 x106000_1) := (blk_cell BK105.out 0).trans rfl; have hcz20_1 : wc.cell? ⟨gb105, 1, none⟩ = some (.int .i64 x106001_1) := (blk_cell BK105.out 1).trans rfl; have hcz20_2 : wc.cell? ⟨gb105, 2, none⟩ = some (.string x106002_1) := (blk_cell BK105.out 2).trans rfl; have hcz20_3 : wc.cell? ⟨gb105, 3, none⟩ = some (.slice none 0 0) := (blk_cell BK105.out 3).trans rfl; have hfz20_0 := blk_frozen BK105.out 0; have hfz20_1 := blk_frozen BK105.out 1; have hfz20_2 := blk_frozen BK105.out 2; have hfz20_3 := blk_frozen BK105.out 3)); try go_wp2_with (first | (go_at_call 92; (with_reducible refine (letterpressref3_digit.calls kj4 (bt s0_0 x1001_1) a1 t107 _ A16.out).mono ?_); rintro e w' ⟨rfl, ⟨nd, rfl⟩⟩; (try first | exact ⟨rfl, _, World.drewN_drewN _ _ _⟩ | exact ⟨rfl, _, Eq.trans (World.drewN_drewN _ _ _) (congrArg (World.drewN _) (Nat.add_assoc _ _ _))⟩); have hnb19 := NB105_0.out; have hnc19 := NB0_105.out; have hcz20_0 : wc.cell? ⟨gb105, 0, none⟩ = some (.int .i64 x106000_1) := (blk_cell BK105.out 0).trans rfl; have hcz20_1 : wc.cell? ⟨gb105, 1, none⟩ = some (.int .i64 x106001_1) := (blk_cell BK105.out 1).trans rfl; have hcz20_2 : wc.cell? ⟨gb105, 2, none⟩ = some (.string x106002_1) := (blk_cell BK105.out 2).trans rfl; have hcz20_3 : wc.cell? ⟨gb105, 3, none⟩ = some (.slice none 0 0) := (blk_cell BK105.out 3).trans rfl; have hfz20_0 := blk_frozen BK105.out 0; have hfz20_1 := blk_frozen BK105.out 1; have hfz20_2 := blk_frozen BK105.out 2; have hfz20_3 := blk_frozen BK105.out 3)))
                  try any_goals (exfalso; have hk_ := of_decide_eq_true c17b0; omega)
                  refine bodyPost_ret (results_cell_row rfl _ _ gb105 102 #[.int .i64 0, .int .i64 0, .string (⟨#[]⟩ : ByteArray), .slice none 0 0] (0, 0) _ rfl (by (with_reducible repeat (first | refine blk_drewN ?_ _ | refine blk_drew ?_ | refine blk_alloc ?_ _)); refine blk_put (cs := #[.int .i64 0, .int .i64 0, .string (⟨#[]⟩ : ByteArray), .slice none 0 0]) ?_ 3 _ rfl; (with_reducible repeat (first | refine blk_drewN ?_ _ | refine blk_drew ?_ | refine blk_alloc ?_ _)); refine blk_put (cs := #[.int .i64 0, .int .i64 0, .string x106002_1, .slice none 0 0]) ?_ 2 _ rfl; (with_reducible repeat (first | refine blk_drewN ?_ _ | refine blk_drew ?_ | refine blk_alloc ?_ _)); refine blk_put (cs := #[.int .i64 0, .int .i64 x106001_1, .string x106002_1, .slice none 0 0]) ?_ 1 _ rfl; (with_reducible repeat (first | refine blk_drewN ?_ _ | refine blk_drew ?_ | refine blk_alloc ?_ _)); refine blk_put (cs := #[.int .i64 x106000_1, .int .i64 x106001_1, .string x106002_1, .slice none 0 0]) ?_ 0 _ rfl; (with_reducible repeat (first | refine blk_drewN ?_ _ | refine blk_drew ?_ | refine blk_alloc ?_ _)); refine blk_far ?_ NB105_0.out _; (with_reducible repeat (first | refine blk_drewN ?_ _ | refine blk_drew ?_ | refine blk_alloc ?_ _)); refine blk_far ?_ NB105_0.out _; (with_reducible repeat (first | refine blk_drewN ?_ _ | refine blk_drew ?_ | refine blk_alloc ?_ _)); exact BK105.out) Try.underlying102 rfl (by kernel_rfl)) rfl ?_
                  exact ⟨_, by first | rfl | (simp [errW_none, errW_some] <;> rfl) | (simp [*, errW_none, errW_some] <;> rfl), by first | exact Kd.R_nil _ _ _ _ _ | exact Kd.N_nil _ _ _ _ _ | exact Kd.V_nil _ _ _ _ _ | exact Kd.Q_nil _ _ _ _ _ | exact Kd.S_nil _ _ _ _ _, by repeat (first | (with_reducible first | exact HI0.out | apply IsS126.alloc | apply IsS126.drewN | apply IsS126.drew | apply IsS126.set_0 | apply IsS126.set_1 | apply IsS126.set_2 | apply IsS126.set_3 | refine IsS126.far ?_ NB0_105.out _) | exact HI0.out), by repeat (first | (with_reducible first | exact HB.out | apply below_alloc | apply pw_below_drewN | apply below_drew1 | refine below_set ?_ (IsS126.ge HI0.out) | refine below_set ?_ GE105.out) | exact HB.out), by repeat (first | (with_reducible first | exact HK.out | apply KeepBut.set_ | apply keep_drewN | apply keep_drew | apply keep_alloc | refine keep_far ?_ GW105.out _) | exact HK.out)⟩
                · rw [if_neg c17] at H
                  have c17b0 : decide (4294967296 ≤ (wrap64 ((wrap64 (a1 * x5_1)) + t107))) = false := decide_eq_false c17
                  clear c17
                  have H' := Aside0.mk H
                  clear H
                  obtain ⟨HGz21, hgz21⟩ := HI0.out
                  have hcz21_0 := cellS126_0 HGz21
                  have hcz21_1 := cellS126_1 HGz21
                  have hcz21_2 := cellS126_2 HGz21
                  have hcz21_3 := cellS126_3 HGz21
                  have hfz21_0 := blk_frozen HGz21 0
                  have hfz21_1 := blk_frozen HGz21 1
                  have hfz21_2 := blk_frozen HGz21 2
                  have hfz21_3 := blk_frozen HGz21 3
                  clear HGz21 hgz21
                  have p15 : 0 ≤ (x1001_1 : Int) := of_decide_eq_true (by first | (with_reducible assumption) | assumption)
                  have q15 : x1001_1 < (s0_0.size : Int) := of_decide_eq_true (by first | (with_reducible assumption) | assumption)
                  have hx15 := bt_at s0_0 x1001_1
                  replace p15 := eq_true p15
                  replace q15 := eq_true q15
                  go_wp2_with (first | (go_at_call 92; (with_reducible refine (letterpressref3_digit.calls kj4 (bt s0_0 x1001_1) a1 t107 _ A16.out).mono ?_); rintro e w' ⟨rfl, ⟨nd, rfl⟩⟩; (try first | exact ⟨rfl, _, World.drewN_drewN _ _ _⟩ | exact ⟨rfl, _, Eq.trans (World.drewN_drewN _ _ _) (congrArg (World.drewN _) (Nat.add_assoc _ _ _))⟩)))
                  repeat (go_quiet (first | (go_at_call 92; (with_reducible refine (letterpressref3_digit.calls kj4 (bt s0_0 x1001_1) a1 t107 _ A16.out).mono ?_); rintro e w' ⟨rfl, ⟨nd, rfl⟩⟩; (try first | exact ⟨rfl, _, World.drewN_drewN _ _ _⟩ | exact ⟨rfl, _, Eq.trans (World.drewN_drewN _ _ _) (congrArg (World.drewN _) (Nat.add_assoc _ _ _))⟩))); try go_wp2_with (first | (go_at_call 92; (with_reducible refine (letterpressref3_digit.calls kj4 (bt s0_0 x1001_1) a1 t107 _ A16.out).mono ?_); rintro e w' ⟨rfl, ⟨nd, rfl⟩⟩; (try first | exact ⟨rfl, _, World.drewN_drewN _ _ _⟩ | exact ⟨rfl, _, Eq.trans (World.drewN_drewN _ _ _) (congrArg (World.drewN _) (Nat.add_assoc _ _ _))⟩))))
                  try any_goals (exfalso; have hk_ := of_decide_eq_false c17b0; omega)
                  go_roundg kj4
                  case measure => have := HK1.out; have := HJ4.out; omega
                  case rel => exact ⟨(wrap64 ((wrap64 (a1 * x5_1)) + t107)), (wrap64 (x1001_1 + 1)), (x1003_1), (x106000_1), (x106001_1), (x106002_1), (by first | rfl | (simp; done) | (simp [*]; done)), H', ⟨by have := HK1.out; have := HJ4.out; omega⟩, ⟨by (with_reducible repeat (first | refine blk_drewN ?_ _ | refine blk_drew ?_ | refine blk_alloc ?_ _)); refine blk_far ?_ NB105_0.out _; (with_reducible repeat (first | refine blk_drewN ?_ _ | refine blk_drew ?_ | refine blk_alloc ?_ _)); exact BK105.out⟩, ⟨by repeat (first | (with_reducible first | exact HI0.out | apply IsS126.alloc | apply IsS126.drewN | apply IsS126.drew | apply IsS126.set_0 | apply IsS126.set_1 | apply IsS126.set_2 | apply IsS126.set_3 | refine IsS126.far ?_ NB0_105.out _) | exact HI0.out)⟩, ⟨by repeat (first | (with_reducible first | exact HK.out | apply KeepBut.set_ | apply keep_drewN | apply keep_drew | apply keep_alloc | refine keep_far ?_ GW105.out _) | exact HK.out)⟩, ⟨by repeat (first | (with_reducible first | exact HB.out | apply below_alloc | apply pw_below_drewN | apply below_drew1 | refine below_set ?_ (IsS126.ge HI0.out) | refine below_set ?_ GE105.out) | exact HB.out)⟩⟩
              · rw [if_neg c14] at H
                exact absurd H (by simp)
            · rw [if_neg c13] at H
              exact absurd H (by simp)
          · replace c12 := Bool.eq_false_iff.mpr c12
            subst c12
            have H1 : (if s0_1 = x1001_1 then (some (1, x5_1, (⟨#[]⟩ : ByteArray), ([] : List (S102)), s0_0, x1001_1, s0_2, true)) else (some (1, x5_1, (⟨#[]⟩ : ByteArray), ([] : List (S102)), s0_0, x1001_1, s0_2, x1003_1))) = some (r1, r2, r3, r4, r5, r6, r7, r8) := by rw [if_neg (show ¬ (false = true) by decide)] at H; exact H
            clear H
            have H := H1
            clear H1
            by_cases c22 : s0_1 = x1001_1
            · rw [if_pos c22] at H
              have c22b0 : (s0_1 == x1001_1) = true := beq_iff_eq.mpr c22
              have c22b1 : (s0_1 != x1001_1) = false := bne_eq_false_iff_eq.mpr c22
              clear c22
              simp only [Option.some.injEq, Prod.mk.injEq] at H
              obtain ⟨rfl, rfl, rfl, rfl, rfl, rfl, rfl, rfl⟩ := H
              obtain ⟨HGz23, hgz23⟩ := HI0.out
              have hcz23_0 := cellS126_0 HGz23
              have hcz23_1 := cellS126_1 HGz23
              have hcz23_2 := cellS126_2 HGz23
              have hcz23_3 := cellS126_3 HGz23
              have hfz23_0 := blk_frozen HGz23 0
              have hfz23_1 := blk_frozen HGz23 1
              have hfz23_2 := blk_frozen HGz23 2
              have hfz23_3 := blk_frozen HGz23 3
              clear HGz23 hgz23
              have hnb24 := NB105_0.out
              have hnc24 := NB0_105.out
              have hcz25_0 : wc.cell? ⟨gb105, 0, none⟩ = some (.int .i64 x106000_1) := (blk_cell BK105.out 0).trans rfl
              have hcz25_1 : wc.cell? ⟨gb105, 1, none⟩ = some (.int .i64 x106001_1) := (blk_cell BK105.out 1).trans rfl
              have hcz25_2 : wc.cell? ⟨gb105, 2, none⟩ = some (.string x106002_1) := (blk_cell BK105.out 2).trans rfl
              have hcz25_3 : wc.cell? ⟨gb105, 3, none⟩ = some (.slice none 0 0) := (blk_cell BK105.out 3).trans rfl
              have hfz25_0 := blk_frozen BK105.out 0
              have hfz25_1 := blk_frozen BK105.out 1
              have hfz25_2 := blk_frozen BK105.out 2
              have hfz25_3 := blk_frozen BK105.out 3
              go_wp2
              repeat (go_quiet (fail); try go_wp2)
              refine bodyPost_ret (results_cell_row rfl _ _ gb105 102 #[.int .i64 1, .int .i64 x5_1, .string (⟨#[]⟩ : ByteArray), .slice none 0 0] (0, 0) _ rfl (by (with_reducible repeat (first | refine blk_drewN ?_ _ | refine blk_drew ?_ | refine blk_alloc ?_ _)); refine blk_put (cs := #[.int .i64 1, .int .i64 x5_1, .string (⟨#[]⟩ : ByteArray), .slice none 0 0]) ?_ 3 _ rfl; (with_reducible repeat (first | refine blk_drewN ?_ _ | refine blk_drew ?_ | refine blk_alloc ?_ _)); refine blk_put (cs := #[.int .i64 1, .int .i64 x5_1, .string x106002_1, .slice none 0 0]) ?_ 2 _ rfl; (with_reducible repeat (first | refine blk_drewN ?_ _ | refine blk_drew ?_ | refine blk_alloc ?_ _)); refine blk_put (cs := #[.int .i64 1, .int .i64 x106001_1, .string x106002_1, .slice none 0 0]) ?_ 1 _ rfl; (with_reducible repeat (first | refine blk_drewN ?_ _ | refine blk_drew ?_ | refine blk_alloc ?_ _)); refine blk_put (cs := #[.int .i64 x106000_1, .int .i64 x106001_1, .string x106002_1, .slice none 0 0]) ?_ 0 _ rfl; (with_reducible repeat (first | refine blk_drewN ?_ _ | refine blk_drew ?_ | refine blk_alloc ?_ _)); refine blk_far ?_ NB105_0.out _; (with_reducible repeat (first | refine blk_drewN ?_ _ | refine blk_drew ?_ | refine blk_alloc ?_ _)); exact BK105.out) Try.underlying102 rfl (by kernel_rfl)) rfl ?_
              exact ⟨_, by first | rfl | (simp [errW_none, errW_some] <;> rfl) | (simp [*, errW_none, errW_some] <;> rfl), by first | exact Kd.R_nil _ _ _ _ _ | exact Kd.N_nil _ _ _ _ _ | exact Kd.V_nil _ _ _ _ _ | exact Kd.Q_nil _ _ _ _ _ | exact Kd.S_nil _ _ _ _ _, by repeat (first | (with_reducible first | exact HI0.out | apply IsS126.alloc | apply IsS126.drewN | apply IsS126.drew | apply IsS126.set_0 | apply IsS126.set_1 | apply IsS126.set_2 | apply IsS126.set_3 | refine IsS126.far ?_ NB0_105.out _) | exact HI0.out), by repeat (first | (with_reducible first | exact HB.out | apply below_alloc | apply pw_below_drewN | apply below_drew1 | refine below_set ?_ (IsS126.ge HI0.out) | refine below_set ?_ GE105.out) | exact HB.out), by repeat (first | (with_reducible first | exact HK.out | apply KeepBut.set_ | apply keep_drewN | apply keep_drew | apply keep_alloc | refine keep_far ?_ GW105.out _) | exact HK.out)⟩
            · rw [if_neg c22] at H
              have c22b0 : (s0_1 == x1001_1) = false := beq_eq_false_iff_ne.mpr c22
              have c22b1 : (s0_1 != x1001_1) = true := bne_iff_ne.mpr c22
              simp only [Option.some.injEq, Prod.mk.injEq] at H
              obtain ⟨rfl, rfl, rfl, rfl, rfl, rfl, rfl, rfl⟩ := H
              obtain ⟨HGz26, hgz26⟩ := HI0.out
              have hcz26_0 := cellS126_0 HGz26
              have hcz26_1 := cellS126_1 HGz26
              have hcz26_2 := cellS126_2 HGz26
              have hcz26_3 := cellS126_3 HGz26
              have hfz26_0 := blk_frozen HGz26 0
              have hfz26_1 := blk_frozen HGz26 1
              have hfz26_2 := blk_frozen HGz26 2
              have hfz26_3 := blk_frozen HGz26 3
              clear HGz26 hgz26
              have hnb27 := NB105_0.out
              have hnc27 := NB0_105.out
              have hcz28_0 : wc.cell? ⟨gb105, 0, none⟩ = some (.int .i64 x106000_1) := (blk_cell BK105.out 0).trans rfl
              have hcz28_1 : wc.cell? ⟨gb105, 1, none⟩ = some (.int .i64 x106001_1) := (blk_cell BK105.out 1).trans rfl
              have hcz28_2 : wc.cell? ⟨gb105, 2, none⟩ = some (.string x106002_1) := (blk_cell BK105.out 2).trans rfl
              have hcz28_3 : wc.cell? ⟨gb105, 3, none⟩ = some (.slice none 0 0) := (blk_cell BK105.out 3).trans rfl
              have hfz28_0 := blk_frozen BK105.out 0
              have hfz28_1 := blk_frozen BK105.out 1
              have hfz28_2 := blk_frozen BK105.out 2
              have hfz28_3 := blk_frozen BK105.out 3
              go_wp2
              repeat (go_quiet (fail); try go_wp2)
              refine bodyPost_ret (results_cell_row rfl _ _ gb105 102 #[.int .i64 1, .int .i64 x5_1, .string (⟨#[]⟩ : ByteArray), .slice none 0 0] (0, 0) _ rfl (by (with_reducible repeat (first | refine blk_drewN ?_ _ | refine blk_drew ?_ | refine blk_alloc ?_ _)); refine blk_put (cs := #[.int .i64 1, .int .i64 x5_1, .string (⟨#[]⟩ : ByteArray), .slice none 0 0]) ?_ 3 _ rfl; (with_reducible repeat (first | refine blk_drewN ?_ _ | refine blk_drew ?_ | refine blk_alloc ?_ _)); refine blk_put (cs := #[.int .i64 1, .int .i64 x5_1, .string x106002_1, .slice none 0 0]) ?_ 2 _ rfl; (with_reducible repeat (first | refine blk_drewN ?_ _ | refine blk_drew ?_ | refine blk_alloc ?_ _)); refine blk_put (cs := #[.int .i64 1, .int .i64 x106001_1, .string x106002_1, .slice none 0 0]) ?_ 1 _ rfl; (with_reducible repeat (first | refine blk_drewN ?_ _ | refine blk_drew ?_ | refine blk_alloc ?_ _)); refine blk_put (cs := #[.int .i64 x106000_1, .int .i64 x106001_1, .string x106002_1, .slice none 0 0]) ?_ 0 _ rfl; (with_reducible repeat (first | refine blk_drewN ?_ _ | refine blk_drew ?_ | refine blk_alloc ?_ _)); exact BK105.out) Try.underlying102 rfl (by kernel_rfl)) rfl ?_
              exact ⟨_, by first | rfl | (simp [errW_none, errW_some] <;> rfl) | (simp [*, errW_none, errW_some] <;> rfl), by first | exact Kd.R_nil _ _ _ _ _ | exact Kd.N_nil _ _ _ _ _ | exact Kd.V_nil _ _ _ _ _ | exact Kd.Q_nil _ _ _ _ _ | exact Kd.S_nil _ _ _ _ _, by repeat (first | (with_reducible first | exact HI0.out | apply IsS126.alloc | apply IsS126.drewN | apply IsS126.drew | apply IsS126.set_0 | apply IsS126.set_1 | apply IsS126.set_2 | apply IsS126.set_3 | refine IsS126.far ?_ NB0_105.out _) | exact HI0.out), by repeat (first | (with_reducible first | exact HB.out | apply below_alloc | apply pw_below_drewN | apply below_drew1 | refine below_set ?_ (IsS126.ge HI0.out) | refine below_set ?_ GE105.out) | exact HB.out), by repeat (first | (with_reducible first | exact HK.out | apply KeepBut.set_ | apply keep_drewN | apply keep_drew | apply keep_alloc | refine keep_far ?_ GW105.out _) | exact HK.out)⟩

end Go.Proofs.Ytifdkkkcecpjoaa.Tx
end
section
/-
  Reading a number's signs: what the reader's small functions answer, in plain.
-/
namespace Go.Proofs.Ytifdkkkcecpjoaa
set_option linter.unusedVariables false
set_option linter.unusedSimpArgs false
open Go.RowKit Go.Proofs.YtifdkkkcecpjoaaW Go.Proofs.YtifdkkkcecpjoaaW.PrintWords Tx

theorem wrapN (a b : Nat) (h : a + b ≤ 9000000000000000000) : wrap64 ((a : Int) + (b : Int)) = ((a + b : Nat) : Int) := by unfold wrap64; omega
theorem wrapM (n c : Nat) (h : 10 * n + c ≤ 9000000000000000000) : wrap64 (wrap64 (10 * (n : Int)) + (c : Int)) = ((10 * n + c : Nat) : Int) := by unfold wrap64; omega
theorem bt_ofN {l : List Nat} {i c : Nat} (h : l[i]? = some c) (hc : c < 256) : bt (ofN l) (i : Int) = (c : Int) := by
  obtain ⟨hi, he⟩ := List.getElem?_eq_some_iff.1 h
  have hs : i < (ofN l).size := by rw [ofN_size]; exact hi
  rw [← bt_at (ofN l) (i : Int) (by simpa using hs)]
  simp only [Int.toNat_natCast]
  rw [ofN_get hi hs (by omega), he]
theorem past_at {l : List Nat} {p : Nat} {d : Int} {b : Bool} (k : Nat) (hp : p ≤ l.length) (h : ∀ c, l[p]? = some c → c ≠ 32 ∧ c < 256) :
    letterpressref3_reader_past.f (k + 1) (ofN l) (p : Int) d b = some (ofN l, (p : Int), d, b) := by
  show letterpressref3_reader_past.l0 (k + 1) (ofN l) (p : Int) d b = _
  rw [letterpressref3_reader_past.l0, ofN_size]
  by_cases hlt : p < l.length
  · obtain ⟨c, hc⟩ : ∃ c, l[p]? = some c := ⟨l[p], List.getElem?_eq_getElem hlt⟩
    have := h c hc
    rw [if_pos (by omega), if_pos (by omega), bt_ofN hc this.2, if_neg (by omega)]
  · rw [if_neg (by omega)]
theorem is_eq {k : Nat} {s : ByteArray} {p d : Int} {b : Bool} (t : ByteArray) (h : letterpressref3_reader_past.f k s p d b = some (s, p, d, b)) :
    letterpressref3_reader_is.f k s p d b t = (if (wrap64 (p + (t.size : Int))) > (s.size : Int) then (some (false, s, p, d, b)) else (if 0 ≤ p then (if p ≤ (wrap64 (p + (t.size : Int))) then (if (wrap64 (p + (t.size : Int))) ≤ (s.size : Int) then (if (s.extract (p : Int).toNat ((wrap64 (p + (t.size : Int))) : Int).toNat).toList = t.toList then (some (true, s, wrap64 (p + (t.size : Int)), d, b)) else (some (false, s, p, d, b))) else (none)) else (none)) else (none))) := by
  unfold letterpressref3_reader_is.f
  rw [h]
  rfl
theorem is_no {k : Nat} {s : ByteArray} {p : Nat} {d : Int} {b : Bool} (t : ByteArray) (h : letterpressref3_reader_past.f k s p d b = some (s, (p : Int), d, b)) (hs : p + t.size ≤ 9000000000000000000) (hn : p + t.size ≤ s.size → (s.extract p (p + t.size)).toList ≠ t.toList) :
    letterpressref3_reader_is.f k s (p : Int) d b t = some (false, s, (p : Int), d, b) := by
  rw [is_eq t h, wrapN p t.size hs]
  by_cases hle : p + t.size ≤ s.size
  · rw [if_neg (by omega), if_pos (by omega), if_pos (by omega), if_pos (by omega), if_neg]
    rw [Int.toNat_natCast, Int.toNat_natCast]
    exact hn hle
  · rw [if_pos (by omega)]
theorem is_ok {k : Nat} {s : ByteArray} {p : Nat} {d : Int} {b : Bool} (t : ByteArray) (h : letterpressref3_reader_past.f k s p d b = some (s, (p : Int), d, b)) (hs : p + t.size ≤ 9000000000000000000) (hle : p + t.size ≤ s.size) (hn : (s.extract p (p + t.size)).toList = t.toList) :
    letterpressref3_reader_is.f k s (p : Int) d b t = some (true, s, ((p + t.size : Nat) : Int), d, b) := by
  rw [is_eq t h, wrapN p t.size hs, if_neg (by omega), if_pos (by omega), if_pos (by omega), if_pos (by omega), if_pos]
  rw [Int.toNat_natCast, Int.toNat_natCast]
  exact hn
theorem toList_ofN (l : List Nat) : (ofN l).toList.length = l.length := by
  rw [Go.ByteArray.toList_eq]
  simp [ofN]
theorem toList_head {a b : Nat} {l m : List Nat} (ha : a < 256) (hb : b < 256) (h : (ofN (a :: l)).toList = (ofN (b :: m)).toList) : a = b := by
  rw [Go.ByteArray.toList_eq, Go.ByteArray.toList_eq] at h
  simp only [ofN, List.map_cons, List.toList_toArray] at h
  have h1 := congrArg UInt8.toNat (List.cons.inj h).1
  simpa [Nat.mod_eq_of_lt ha, Nat.mod_eq_of_lt hb] using h1
theorem toList_second {a b a' b' : Nat} {l m : List Nat} (ha : a' < 256) (hb : b' < 256) (h : (ofN (a :: a' :: l)).toList = (ofN (b :: b' :: m)).toList) : a' = b' := by
  rw [Go.ByteArray.toList_eq, Go.ByteArray.toList_eq] at h
  simp only [ofN, List.map_cons, List.toList_toArray] at h
  have h1 := congrArg UInt8.toNat (List.cons.inj (List.cons.inj h).2).1
  simpa [Nat.mod_eq_of_lt ha, Nat.mod_eq_of_lt hb] using h1
theorem ext_ofN (l : List Nat) (p n : Nat) : (ofN l).extract p (p + n) = ofN ((l.drop p).take n) := by rw [ofN_drop, show p + n - p = n by omega]
theorem past_c {l : List Nat} {p c : Nat} {d : Int} {b : Bool} (k : Nat) (hc : l[p]? = some c) (h32 : c ≠ 32) (h256 : c < 256) : letterpressref3_reader_past.f (k + 1) (ofN l) (p : Int) d b = some (ofN l, (p : Int), d, b) :=
  past_at k (Nat.le_of_lt (List.getElem?_eq_some_iff.1 hc).1) (fun c' h' => by rw [hc] at h'; cases h'; exact ⟨h32, h256⟩)
/-- Another sign stands here. -/
theorem is_not {l : List Nat} {p c t0 : Nat} {d : Int} {b : Bool} (k : Nat) (t : List Nat) (hc : l[p]? = some c) (h32 : c ≠ 32) (h256 : c < 256) (hl : l.length ≤ 1000) (ht : t.length ≤ 100) (ht0 : t0 < 256) (hne : c ≠ t0) :
    letterpressref3_reader_is.f (k + 1) (ofN l) (p : Int) d b (ofN (t0 :: t)) = some (false, ofN l, (p : Int), d, b) := by
  obtain ⟨hi, he⟩ := List.getElem?_eq_some_iff.1 hc
  refine is_no (ofN (t0 :: t)) (past_c k hc h32 h256) (by rw [ofN_size, List.length_cons]; omega) ?_
  intro hle h
  rw [ext_ofN, List.drop_eq_getElem_cons hi, he, ofN_size, List.length_cons, List.take_succ_cons] at h
  exact hne (toList_head h256 ht0 h)
theorem is_yes {l : List Nat} {p c : Nat} {d : Int} {b : Bool} (k : Nat) (hc : l[p]? = some c) (h32 : c ≠ 32) (h256 : c < 256) (hl : l.length ≤ 1000) :
    letterpressref3_reader_is.f (k + 1) (ofN l) (p : Int) d b (ofN [c]) = some (true, ofN l, ((p + 1 : Nat) : Int), d, b) := by
  obtain ⟨hi, he⟩ := List.getElem?_eq_some_iff.1 hc
  have h1 : (ofN [c]).size = 1 := ofN_size [c]
  have := is_ok (k := k + 1) (d := d) (b := b) (ofN [c]) (past_c k hc h32 h256) (by rw [h1]; omega) (by rw [h1, ofN_size]; omega) (by rw [ext_ofN, List.drop_eq_getElem_cons hi, he, h1, List.take_succ_cons, List.take_zero])
  rw [this, h1]
/-- `0x` does not stand ahead of digits. -/
theorem is_not2 {l : List Nat} {p c : Nat} {d : Int} {b : Bool} (k : Nat) (t1 : Nat) (hc : l[p]? = some c) (h32 : c ≠ 32) (h256 : c < 256) (hl : l.length ≤ 1000) (t0 : Nat) (ht1 : t1 < 256) (h2 : ∀ c', l[p + 1]? = some c' → c' < 256 ∧ c' ≠ t1) :
    letterpressref3_reader_is.f (k + 1) (ofN l) (p : Int) d b (ofN [t0, t1]) = some (false, ofN l, (p : Int), d, b) := by
  obtain ⟨hi, he⟩ := List.getElem?_eq_some_iff.1 hc
  have h1 : (ofN [t0, t1]).size = 2 := ofN_size [t0, t1]
  refine is_no (ofN [t0, t1]) (past_c k hc h32 h256) (by rw [h1]; omega) ?_
  intro hle h
  rw [h1, ofN_size] at hle
  have hi2 : p + 1 < l.length := by omega
  obtain ⟨a, b⟩ := h2 _ (List.getElem?_eq_getElem hi2)
  rw [ext_ofN, h1, List.drop_eq_getElem_cons hi, List.drop_eq_getElem_cons hi2, List.take_succ_cons, List.take_succ_cons] at h
  exact b (toList_second a ht1 h)
theorem is_end {l : List Nat} {d : Int} {b : Bool} (k : Nat) (t0 : Nat) (t : List Nat) (hl : l.length ≤ 1000) (ht : t.length ≤ 100) :
    letterpressref3_reader_is.f (k + 1) (ofN l) (l.length : Int) d b (ofN (t0 :: t)) = some (false, ofN l, (l.length : Int), d, b) := by
  refine is_no (ofN (t0 :: t)) (past_at k (Nat.le_refl _) (fun c h => by rw [List.getElem?_eq_none (Nat.le_refl _)] at h; cases h)) (by rw [ofN_size, List.length_cons]; omega) ?_
  intro hle
  rw [ofN_size, ofN_size, List.length_cons] at hle
  omega
theorem next_step {l : List Nat} {d : Int} (k : Nat) (lvl x5 : Int) (t0 : Nat) (t : List Nat) (m : Int) (h0 : -100 ≤ x5) (h : x5 ≤ 11) (hl : l.length ≤ 1000) (ht : t.length ≤ 100) (hs : letterpressref3_sign.f x5 = some (ofN (t0 :: t), m)) :
    letterpressref3_reader_next.l0 (k + 1 + 1) lvl x5 (ofN l) (l.length : Int) d false = letterpressref3_reader_next.l0 (k + 1) lvl (x5 + 1) (ofN l) (l.length : Int) d false := by
  have hw : wrap64 (x5 + 1) = x5 + 1 := by unfold wrap64; omega
  rw [letterpressref3_reader_next.l0, if_pos h, hs, hw]
  simp only [Option.bind_some]
  by_cases hm : m = lvl
  · rw [if_pos hm, if_neg (by decide), is_end k t0 t hl ht]
    simp only [Option.bind_some]
    rw [if_neg (by decide)]
  · rw [if_neg hm]
theorem next_end {l : List Nat} {d : Int} (lvl : Int) (hl : l.length ≤ 1000) :
    letterpressref3_reader_next.f 9 (ofN l) (l.length : Int) d false lvl = some (0, ofN l, (l.length : Int), d, false) := by
  unfold letterpressref3_reader_next.f
  rw [next_step 7 lvl 5 43 [] 3 (by omega) (by omega) hl (by simp) rfl,
    next_step 6 lvl (5 + 1) 45 [] 3 (by omega) (by omega) hl (by simp) rfl,
    next_step 5 lvl (5 + 1 + 1) 42 [] 4 (by omega) (by omega) hl (by simp) rfl,
    next_step 4 lvl (5 + 1 + 1 + 1) 38 [] 1 (by omega) (by omega) hl (by simp) rfl,
    next_step 3 lvl (5 + 1 + 1 + 1 + 1) 124 [] 0 (by omega) (by omega) hl (by simp) rfl,
    next_step 2 lvl (5 + 1 + 1 + 1 + 1 + 1) 60 [60] 2 (by omega) (by omega) hl (by simp) rfl,
    next_step 1 lvl (5 + 1 + 1 + 1 + 1 + 1 + 1) 62 [62] 2 (by omega) (by omega) hl (by simp) rfl,
    letterpressref3_reader_next.l0, if_neg (by omega)]
theorem digit_at {c : Nat} (h0 : 48 ≤ c) (h1 : c ≤ 57) (k : Nat) : letterpressref3_digit.f (k + 1) (c : Int) 10 = some (((c - 48 : Nat)) : Int) := by
  unfold letterpressref3_digit.f
  rw [if_pos (by omega), letterpressref3_digit.j0, if_pos (by simp; omega)]
  congr 1
  omega
theorem valN_cons_bound : ∀ (ds : List Nat) (a : Nat), a ≤ ds.foldl (fun a c => 10 * a + (c - 48)) a
  | [], a => Nat.le_refl _
  | c :: ds, a => by
    have := valN_cons_bound ds (10 * a + (c - 48))
    simp only [List.foldl_cons]
    omega
theorem num_step {k : Nat} {s : ByteArray} {p d n at_ c v n' p' : Int} {b : Bool} (hp : 0 ≤ p) (hlt : p < (s.size : Int)) (hc : bt s p = c) (h1 : letterpressref3_digit.f (k + 1) c 10 = some v) (h2 : letterpressref3_digit.f k c 10 = some v) (h3 : v ≥ 0) (e1 : wrap64 (wrap64 (10 * n) + v) = n') (e2 : wrap64 (p + 1) = p') (h4 : ¬ n' ≥ 4294967296) :
    letterpressref3_reader_number.l0 (k + 1 + 1) 10 n at_ s p d b = letterpressref3_reader_number.l0 k 10 n' at_ s p' d b := by
  rw [letterpressref3_reader_number.l0, if_pos hlt, if_pos hp, hc, h1]
  rw [Option.bind_some, letterpressref3_reader_number.j1, if_pos (decide_eq_true h3), if_pos hp, if_pos hlt, hc, h2]
  rw [Option.bind_some, e1, e2, if_neg h4]
theorem num_done {k : Nat} {s : ByteArray} {p d n at_ : Int} {b : Bool} (hlt : ¬ p < (s.size : Int)) (hat : ¬ at_ = p) :
    letterpressref3_reader_number.l0 (k + 1 + 1) 10 n at_ s p d b = some (1, n, ⟨#[]⟩, [], s, p, d, b) := by
  rw [letterpressref3_reader_number.l0, if_neg hlt, letterpressref3_reader_number.j1, if_neg (by decide), if_neg hat]
theorem num_l0 {l : List Nat} {at_ d : Int} : ∀ (ds : List Nat) (p n k : Nat), l.drop p = ds → (∀ c ∈ ds, 48 ≤ c ∧ c ≤ 57) → l.length ≤ 1000 → p ≤ l.length → ds.foldl (fun a c => 10 * a + (c - 48)) n < 4294967296 → at_ < (l.length : Int) →
    letterpressref3_reader_number.l0 (k + 2 * ds.length + 3) 10 (n : Int) at_ (ofN l) (p : Int) d false = some (1, ((ds.foldl (fun a c => 10 * a + (c - 48)) n : Nat) : Int), ⟨#[]⟩, [], ofN l, (l.length : Int), d, false)
  | [], p, n, k, he, _, hl, hp, hn, hat => by
    have : p = l.length := by have := congrArg List.length he; rw [List.length_drop, List.length_nil] at this; omega
    subst this
    exact num_done (k := k + 1) (by rw [ofN_size]; omega) (by omega)
  | c :: ds, p, n, k, he, hd, hl, hp, hn, hat => by
    obtain ⟨c0, c1⟩ := hd c (by simp)
    have hget : l[p]? = some c := by
      have := congrArg (fun x => x[0]?) he
      simpa using this
    have hlt : p < l.length := (List.getElem?_eq_some_iff.1 hget).1
    have hn' := valN_cons_bound ds (10 * n + (c - 48))
    rw [List.foldl_cons] at hn ⊢
    have he' : l.drop (p + 1) = ds := by rw [← List.drop_drop, he, List.drop_succ_cons, List.drop_zero]
    have ih := num_l0 (l := l) (at_ := at_) (d := d) ds (p + 1) (10 * n + (c - 48)) k he' (fun x hx => hd x (by simp [hx])) hl (by omega) hn hat
    have w1 := wrapM n (c - 48) (Nat.le_of_lt (Nat.lt_of_le_of_lt hn' (Nat.lt_trans hn (by decide))))
    have w2 := wrapN p 1 (by omega)
    have w3 : ¬ ((10 * n + (c - 48) : Nat) : Int) ≥ 4294967296 := by have := Nat.lt_of_le_of_lt hn' hn; omega
    have hs := num_step (k := k + 2 * ds.length + 3) (d := d) (at_ := at_) (b := false) (Int.natCast_nonneg p) (by rw [ofN_size]; omega) (bt_ofN hget (by omega)) (digit_at c0 c1 _) (digit_at c0 c1 (k + 2 * ds.length + 2)) (Int.natCast_nonneg _) w1 w2 w3
    rw [show k + 2 * (c :: ds).length + 3 = (k + 2 * ds.length + 3) + 1 + 1 by rw [List.length_cons]; omega, hs]
    exact ih
theorem number_f {l ds : List Nat} {p : Nat} {d : Int} (he : l.drop p = ds) (hd : ∀ c ∈ ds, 48 ≤ c ∧ c ≤ 57) (hl : l.length ≤ 1000) (hn : valN ds < 4294967296) (h0 : p < l.length) :
    ∃ k, letterpressref3_reader_number.f k (ofN l) (p : Int) d false 10 = some (1, (valN ds : Int), ⟨#[]⟩, [], ofN l, (l.length : Int), d, false) :=
  ⟨_, num_l0 (l := l) (at_ := (p : Int)) (d := d) ds p 0 0 he hd hl (Nat.le_of_lt h0) hn (by omega)⟩
end Go.Proofs.Ytifdkkkcecpjoaa
end
section
/-
  Reading a number's signs: the reader's larger functions at such a text.
-/
namespace Go.Proofs.Ytifdkkkcecpjoaa
set_option linter.unusedVariables false
set_option linter.unusedSimpArgs false
open Go.RowKit Go.Proofs.YtifdkkkcecpjoaaW Go.Proofs.YtifdkkkcecpjoaaW.PrintWords Tx
attribute [local go_sem ↓] Go.wp_at_zero Go.wp_at_succ

/-- An expression read: the reader stands at a place, what is not its own is kept. -/
def RdE (w0 w : World) (g : Nat) (s : ByteArray) (p d : Int) (y : S102) (e : Ending) (w' : World) : Prop :=
  ∃ v, e = .returned (eAgg y v) ∧ HasE w' w.heap.size y v ∧ IsS126 w0 w' g s p d false ∧ Below w0.heap.size w0 w' ∧ KeepBut w w' g none
theorem st4 {w0 W : World} {g : Nat} {s : ByteArray} {p d : Int} {b : Bool} (h : IsS126 w0 W g s p d b) :
    W.cell? ⟨g, 0, none⟩ = some (.string s) ∧ W.cell? ⟨g, 1, none⟩ = some (.int .i64 p) ∧ W.cell? ⟨g, 2, none⟩ = some (.int .i64 d) ∧ W.cell? ⟨g, 3, none⟩ = some (.bool b) ∧ ∀ o, W.frozen? ⟨g, o, none⟩ = false :=
  ⟨cell_of_row _ _ 0 _ 126 (0, 0) h.1, cell_of_row _ _ 1 _ 126 (0, 0) h.1, cell_of_row _ _ 2 _ 126 (0, 0) h.1, cell_of_row _ _ 3 _ 126 (0, 0) h.1, fun o => by simp [World.frozen?, h.1]⟩
theorem putK {w0 w W : World} {r B0 g : Nat} {t : TypeId} {a b c d' : Value} {y : S102} {v : Value} {s : ByteArray} {p d : Int} (hq : W.heap[r]? = some (.cells #[a, b, c, d'] t (0, 0))) (hr : w.heap.size ≤ r) (hB : r < B0)
    (hw : w0.heap.size ≤ w.heap.size) (hb : Below w0.heap.size w0 W) (hk : KeepBut w W g none) (hI : IsS126 w0 W g s p d false) (hg : g < w.heap.size) (hy : HasE W B0 y v) :
    (W.setCell ⟨r, 0, none⟩ (.int .i64 y.f0)).cell? ⟨r, 0, none⟩ = some (.int .i64 y.f0) ∧ ((W.setCell ⟨r, 0, none⟩ (.int .i64 y.f0)).setCell ⟨r, 1, none⟩ (.int .i64 y.f1)).cell? ⟨r, 1, none⟩ = some (.int .i64 y.f1) ∧
    (((W.setCell ⟨r, 0, none⟩ (.int .i64 y.f0)).setCell ⟨r, 1, none⟩ (.int .i64 y.f1)).setCell ⟨r, 2, none⟩ (.string y.f2)).cell? ⟨r, 2, none⟩ = some (.string y.f2) ∧ (put4E W r y v).cell? ⟨r, 3, none⟩ = some v ∧
    HasE (put4E W r y v) B0 y v ∧ IsS126 w0 (put4E W r y v) g s p d false ∧ Below w0.heap.size w0 (put4E W r y v) ∧ KeepBut w (put4E W r y v) g none := by
  refine ⟨by simp [World.setCell, World.cell?, Array.getElem?_modify, hq], by simp [World.setCell, World.cell?, Array.getElem?_modify, hq], by simp [World.setCell, World.cell?, Array.getElem?_modify, hq], by simp [put4E, World.setCell, World.cell?, Array.getElem?_modify, hq], ⟨?_⟩, ?_, put4_below hb (by omega) _ _ _ _, ?_⟩
  · have h := Kd.R_bound (Kd.R_lower hy.r (Nat.le_refl B0))
    have h2 : k102.R 102 (put4E W r y v) B0 (fun k => T1 k ∧ B0 ≤ k ∧ k < W.heap.size ∧ ∃ q, q ∈ 102 :: k102.E ∧ ∃ cells, W.heap[k]? = some (.cells cells q (0, 0))) v y.f3 := Kd.R_step h (fun k hk _ => by
      unfold put4E
      have hne : k ≠ r := by have := hk.2.1; omega
      exact (Below.heap_setCell _ ⟨r, 3, none⟩ _ k hne).trans ((Below.heap_setCell _ ⟨r, 2, none⟩ _ k hne).trans ((Below.heap_setCell _ ⟨r, 1, none⟩ _ k hne).trans (Below.heap_setCell _ ⟨r, 0, none⟩ _ k hne))))
    exact Kd.R_mono h2 (fun _ _ => trivial)
  · have hne : g ≠ r := by omega
    exact (((hI.far (p := ⟨r, 0, none⟩) hne _).far (p := ⟨r, 1, none⟩) hne _).far (p := ⟨r, 2, none⟩) hne _).far (p := ⟨r, 3, none⟩) hne _
  · unfold put4E
    repeat (refine keep_far ?_ hr _)
    exact hk
theorem HasE.keep {w w' : World} {base g : Nat} {y : S102} {v : Value} (h : HasE w base y v) (hk : KeepBut w w' g none) (hg : g < base) : HasE w' base y v := by
  have h1 := Kd.R_keep (Kd.R_bound h.r) hk (fun k hk => by have := hk.2.1; omega)
  exact ⟨Kd.R_mono h1 (fun _ _ => trivial)⟩
def fil102 : Obj := .cells #[.int .i64 0, .int .i64 0, .string ⟨#[]⟩, .slice none 0 0] 102
set_option maxRecDepth 100000 in
set_option maxHeartbeats 1600000 in
theorem one_dig {s : ByteArray} {p p' d n v : Int} {k : Nat}
    (f1 : letterpressref3_reader_is.f 5 s p d false ⟨#[40]⟩ = some (false, s, p, d, false)) (f2 : letterpressref3_reader_is.f 5 s p d false ⟨#[45]⟩ = some (false, s, p, d, false))
    (f3 : letterpressref3_reader_is.f 5 s p d false ⟨#[46]⟩ = some (false, s, p, d, false)) (f4 : letterpressref3_reader_is.f 5 s p d false ⟨#[48, 120]⟩ = some (false, s, p, d, false))
    (hp0 : 0 ≤ p) (hp1 : p < (s.size : Int)) (hd : letterpressref3_digit.f 3 (bt s p) 10 = some v) (hv : 0 ≤ v)
    (hn : letterpressref3_reader_number.f k s p d false 10 = some (1, n, ⟨#[]⟩, [], s, p', d, false)) (g : Nat) (w0 w : World) (hI : IsS126 w0 w g s p d false) (hB : Below w0.heap.size w0 w) :
    Calls Try.prog 87 #[.pointer (some ⟨g, 0, none⟩)] w (RdE w0 w g s p' d ⟨1, n, ⟨#[]⟩, []⟩) := by
  obtain ⟨W1, hW1⟩ : ∃ W1, W1 = w.alloc (.cells #[.int .i64 0, .int .i64 0, .string ⟨#[]⟩, .slice none 0 0] 102) := ⟨_, rfl⟩
  have HI1 := Lib.hid (show IsS126 w0 W1 g s p d false by rw [hW1]; exact hI.alloc _)
  have HB1 := Lib.hid (show Below w0.heap.size w0 W1 by rw [hW1]; exact below_alloc hB _)
  have HK1 := Lib.hid (show KeepBut w W1 g none by rw [hW1]; exact keep_alloc (KeepBut.refl w g none) _)
  have HQ1 := Lib.hid (show W1.heap[w.heap.size]? = some (.cells #[.int .i64 0, .int .i64 0, .string ⟨#[]⟩, .slice none 0 0] 102 (0, 0)) by rw [hW1]; exact heap_alloc_new w _)
  have HS1 := Lib.hid (show w.heap.size < W1.heap.size by rw [hW1]; simp)
  have HG := Lib.hid hI.lt
  have HW0 := Lib.hid hB.size
  have HW1 := Lib.hid hW1
  have F1 := Lib.hid f1
  have F2 := Lib.hid f2
  have F3 := Lib.hid f3
  have F4 := Lib.hid f4
  have HD := Lib.hid hd
  have HN := Lib.hid hn
  clear hW1 hI hB f1 f2 f3 f4 hd hn
  obtain ⟨-, -, -, c3, -⟩ := st4 HI1.out
  go_enter Try.func87, Try.ntmps87
  go_upto_region 1 with fail
  rw [← HW1.out]
  go_wp2_with fail
  refine (letterpressref3_reader_is.calls 5 g s p d false ⟨#[40]⟩ false s p d false w0 W1 HI1.out HB1.out F1.out).mono ?_
  rintro e W2 ⟨rfl, hI2, hB2, hK2⟩
  have HI2 := Lib.hid hI2
  have HB2 := Lib.hid hB2
  have HK2 := Lib.hid (HK1.out.trans hK2 (.inl rfl))
  have HQ2 := Lib.hid ((hK2.2 _ HS1.out (by have := HG.out; omega) (by simp)).trans HQ1.out)
  have HS2 := Lib.hid (Nat.lt_of_lt_of_le HS1.out hK2.1)
  clear hI2 hB2 hK2 c3 HI1 HB1 HK1 HQ1 HS1
  go_wp2_with fail
  refine (letterpressref3_reader_is.calls 5 g s p d false ⟨#[45]⟩ false s p d false w0 W2 HI2.out HB2.out F2.out).mono ?_
  rintro e W3 ⟨rfl, hI2, hB2, hK2⟩
  have HI3 := Lib.hid hI2
  have HB3 := Lib.hid hB2
  have HK3 := Lib.hid (HK2.out.trans hK2 (.inl rfl))
  have HQ3 := Lib.hid ((hK2.2 _ HS2.out (by have := HG.out; omega) (by simp)).trans HQ2.out)
  have HS3 := Lib.hid (Nat.lt_of_lt_of_le HS2.out hK2.1)
  clear hI2 hB2 hK2 HI2 HB2 HK2 HQ2 HS2
  go_wp2_with fail
  refine (letterpressref3_reader_is.calls 5 g s p d false ⟨#[46]⟩ false s p d false w0 W3 HI3.out HB3.out F3.out).mono ?_
  rintro e W4 ⟨rfl, hI2, hB2, hK2⟩
  have HI4 := Lib.hid hI2
  have HB4 := Lib.hid hB2
  have HK4 := Lib.hid (HK3.out.trans hK2 (.inl rfl))
  have HQ4 := Lib.hid ((hK2.2 _ HS3.out (by have := HG.out; omega) (by simp)).trans HQ3.out)
  have HS4 := Lib.hid (Nat.lt_of_lt_of_le HS3.out hK2.1)
  clear hI2 hB2 hK2 HI3 HB3 HK3 HQ3 HS3
  go_wp2_with fail
  refine (letterpressref3_reader_is.calls 5 g s p d false ⟨#[48, 120]⟩ false s p d false w0 W4 HI4.out HB4.out F4.out).mono ?_
  rintro e W5 ⟨rfl, hI2, hB2, hK2⟩
  have HI5 := Lib.hid hI2
  have HB5 := Lib.hid hB2
  have HK5 := Lib.hid (HK4.out.trans hK2 (.inl rfl))
  have HQ5 := Lib.hid ((hK2.2 _ HS4.out (by have := HG.out; omega) (by simp)).trans HQ4.out)
  have HS5 := Lib.hid (Nat.lt_of_lt_of_le HS4.out hK2.1)
  clear hI2 hB2 hK2 HI4 HB4 HK4 HQ4 HS4
  obtain ⟨c0, c1, c2, c3, fz⟩ := st4 HI5.out
  clear fz
  have t1 : decide (p < (s.size : Int)) = true := decide_eq_true hp1
  have t2 : decide (v ≥ 0) = true := decide_eq_true hv
  have hx8 := bt_at s p
  have p8 := eq_true hp0
  have q8 := eq_true hp1
  go_wp2_with (first | (go_at_call 92; (with_reducible refine (letterpressref3_digit.calls 3 (bt s p) 10 v _ HD.out).mono ?_); rintro e w' ⟨rfl, ⟨nd, rfl⟩⟩; (try first | exact ⟨rfl, _, World.drewN_drewN _ _ _⟩ | exact ⟨rfl, _, Eq.trans (World.drewN_drewN _ _ _) (congrArg (World.drewN _) (Nat.add_assoc _ _ _))⟩)))
  repeat (go_quiet (first | (go_at_call 92; (with_reducible refine (letterpressref3_digit.calls 3 (bt s p) 10 v _ HD.out).mono ?_); rintro e w' ⟨rfl, ⟨nd, rfl⟩⟩; (try first | exact ⟨rfl, _, World.drewN_drewN _ _ _⟩ | exact ⟨rfl, _, Eq.trans (World.drewN_drewN _ _ _) (congrArg (World.drewN _) (Nat.add_assoc _ _ _))⟩))); try go_wp2_with fail)
  refine (letterpressref3_reader_number.calls k g s p d false 10 1 n ⟨#[]⟩ [] s p' d false w0 _ (HI5.out.drewN _) (by repeat (first | exact HB5.out | apply pw_below_drewN)) HN.out).mono ?_
  rintro e W6 ⟨v3, rfl, hR, hI6, hB6, hK6⟩
  have hz : HasE W6 W5.heap.size ⟨1, n, ⟨#[]⟩, []⟩ v3 := ⟨Kd.R_mono hR (fun _ _ => trivial)⟩
  have hK7 := (keep_drewN HK5.out nq).trans hK6 (.inl rfl)
  have hq := (hK6.2 w.heap.size HS5.out (by have := HG.out; omega) (by simp)).trans HQ5.out
  obtain ⟨q0, q1, q2, q3, hz', hI', hB', hK'⟩ := putK hq (Nat.le_refl _) HS5.out HW0.out hB6 hK7 hI6 HG.out hz
  obtain ⟨y0, y1, y2, y3⟩ := box4 hq
  have fz : ∀ o, W6.frozen? ⟨w.heap.size, o, none⟩ = false := fun o => by simp [World.frozen?, hq]
  have fz0 := fz 0
  have fz1 := fz 1
  have fz2 := fz 2
  have fz3 := fz 3
  obtain ⟨A', c', rfl, -⟩ := hz.form
  clear fz hq hK7 hK6 hB6 hI6 hR hz c0 c1 c2 c3 hx8 p8 q8 t1 t2 hp0 hp1 hv
  go_wp2_with fail
  refine bodyPost_ret (v := eAgg ⟨1, n, ⟨#[]⟩, []⟩ (.slice A' ([] : List S102).length c')) (by simp only [put4E, List.length_nil] at q3; simp [results, Try.results87, go_sem, q0, q1, q2, q3, eAgg]) rfl ⟨_, rfl, hz'.lower (Nat.le_of_lt HS5.out), hI', hB', hK'⟩
end Go.Proofs.Ytifdkkkcecpjoaa
end
section
/-
  Reading a number's signs: one level deeper, two, and the whole.
-/
namespace Go.Proofs.Ytifdkkkcecpjoaa
set_option linter.unusedVariables false
set_option linter.unusedSimpArgs false
open Go.RowKit Go.Proofs.YtifdkkkcecpjoaaW Go.Proofs.YtifdkkkcecpjoaaW.PrintWords Tx
attribute [local go_sem ↓] Go.wp_at_zero Go.wp_at_succ

theorem put4_row {W : World} {r : Nat} {t : TypeId} {a b c d' : Value} {fr : Nat × Nat} (y : S102) (v : Value) (hq : W.heap[r]? = some (.cells #[a, b, c, d'] t fr)) :
    (put4E W r y v).heap[r]? = some (.cells #[.int .i64 y.f0, .int .i64 y.f1, .string y.f2, v] t fr) := by
  simp [put4E, World.setCell, Array.getElem?_modify, hq]
theorem put4_other {W : World} {r k : Nat} (y : S102) (v : Value) (h : k ≠ r) : (put4E W r y v).heap[k]? = W.heap[k]? := by
  unfold put4E
  exact (Below.heap_setCell _ ⟨r, 3, none⟩ _ k h).trans ((Below.heap_setCell _ ⟨r, 2, none⟩ _ k h).trans ((Below.heap_setCell _ ⟨r, 1, none⟩ _ k h).trans (Below.heap_setCell _ ⟨r, 0, none⟩ _ k h)))
set_option maxRecDepth 100000 in
set_option maxHeartbeats 1600000 in
theorem inner_neg {s : ByteArray} {p p' : Int} {y : S102} {g : Nat} {w0 : World}
    (hone : ∀ w, IsS126 w0 w g s p 1 false → Below w0.heap.size w0 w → Calls Try.prog 87 #[.pointer (some ⟨g, 0, none⟩)] w (RdE w0 w g s p' 1 y)) (w : World) (hI : IsS126 w0 w g s p 0 false) (hB : Below w0.heap.size w0 w) :
    Calls Try.prog 90 #[.pointer (some ⟨g, 0, none⟩), .bool false] w (RdE w0 w g s p' 0 ⟨4, 0, ⟨#[]⟩, [y]⟩) := by
  obtain ⟨W1, hW1⟩ : ∃ W1, W1 = w.alloc (.cells #[.int .i64 0, .int .i64 0, .string ⟨#[]⟩, .slice none 0 0] 102) := ⟨_, rfl⟩
  have HI1 := Lib.hid (show IsS126 w0 W1 g s p 0 false by rw [hW1]; exact hI.alloc _)
  have HB1 := Lib.hid (show Below w0.heap.size w0 W1 by rw [hW1]; exact below_alloc hB _)
  have HK1 := Lib.hid (show KeepBut w W1 g none by rw [hW1]; exact keep_alloc (KeepBut.refl w g none) _)
  have HQ1 := Lib.hid (show W1.heap[w.heap.size]? = some (.cells #[.int .i64 0, .int .i64 0, .string ⟨#[]⟩, .slice none 0 0] 102 (0, 0)) by rw [hW1]; exact heap_alloc_new w _)
  have HS1 := Lib.hid (show w.heap.size < W1.heap.size by rw [hW1]; simp)
  have HG := Lib.hid hI.lt
  have HW0 := Lib.hid hB.size
  have HW1 := Lib.hid hW1
  have HO := Lib.hid hone
  clear hW1 hI hB hone
  obtain ⟨-, -, c2, -, fz⟩ := st4 HI1.out
  have fz2 := fz 2
  clear fz
  go_enter Try.func90, Try.ntmps90
  go_upto_region 1 with fail
  rw [← HW1.out]
  go_upto_region 5 with fail
  obtain ⟨V, hV⟩ : ∃ V, V = W1.setCell ⟨g, 2, none⟩ (.int .i64 1) := ⟨_, rfl⟩
  rw [← hV]
  obtain ⟨W2, hW2⟩ : ∃ W2, W2 = V.alloc (.cells #[.int .i64 0, .int .i64 0, .string ⟨#[]⟩, .slice none 0 0] 102) := ⟨_, rfl⟩
  have hvs : V.heap.size = W1.heap.size := by rw [hV]; simp [World.setCell]
  have HI2 := Lib.hid (show IsS126 w0 W2 g s p 1 false by rw [hW2, hV]; exact (HI1.out.set_2 1).alloc _)
  have HB2 := Lib.hid (show Below w0.heap.size w0 W2 by rw [hW2, hV]; exact below_alloc (below_set HB1.out HI1.out.ge) _)
  have HK2 := Lib.hid (show KeepBut w W2 g none by rw [hW2, hV]; exact keep_alloc (HK1.out.set_ 2 _) _)
  have HQ2 := Lib.hid (show W2.heap[w.heap.size]? = some (.cells #[.int .i64 0, .int .i64 0, .string ⟨#[]⟩, .slice none 0 0] 102 (0, 0)) by
    rw [hW2]
    have := HG.out
    have h1 := HS1.out
    exact (Below.heap_alloc _ _ _ (by rw [hvs]; exact h1)).trans (by rw [hV]; exact (Below.heap_setCell W1 ⟨g, 2, none⟩ _ w.heap.size (show w.heap.size ≠ g by omega)).trans HQ1.out))
  have HR2 := Lib.hid (show W2.heap[V.heap.size]? = some (.cells #[.int .i64 0, .int .i64 0, .string ⟨#[]⟩, .slice none 0 0] 102 (0, 0)) by rw [hW2]; exact heap_alloc_new V _)
  have HS2 := Lib.hid (show V.heap.size < W2.heap.size by rw [hW2]; simp)
  have HT2 := Lib.hid (show w.heap.size < V.heap.size by rw [hvs]; exact HS1.out)
  have HW2 := Lib.hid hW2
  clear hW2 hV hvs c2 fz2 HI1 HB1 HK1 HQ1 HS1
  go_upto_region 10 with fail
  rw [← HW2.out]
  go_wp2_with fail
  refine (HO.out W2 HI2.out HB2.out).mono ?_
  rintro e W3 ⟨v, rfl, hz, hI3, hB3, hK3⟩
  obtain ⟨A', c', rfl, -⟩ := hz.form
  have hKw := HK2.out.trans hK3 (.inl rfl)
  have hq4 := (hK3.2 w.heap.size (Nat.lt_trans HT2.out HS2.out) (by have := HG.out; omega) (by simp)).trans HQ2.out
  have hq5 := (hK3.2 V.heap.size HS2.out (by have := HG.out; have := HT2.out; omega) (by simp)).trans HR2.out
  obtain ⟨W4, hW4⟩ : ∃ W4, W4 = W3.alloc (.cells #[.int .i64 y.f0, .int .i64 y.f1, .string y.f2, .slice A' y.f3.length c'] 102) := ⟨_, rfl⟩
  have hrow := row_one (W := W3) (base := W2.heap.size) hK3.1 hz
  rw [← hW4] at hrow
  have hI4 : IsS126 w0 W4 g s p' 1 false := by rw [hW4]; exact hI3.alloc _
  have hB4 : Below w0.heap.size w0 W4 := by rw [hW4]; exact below_alloc hB3 _
  have hK4 : KeepBut w W4 g none := by rw [hW4]; exact keep_alloc hKw _
  have hq4' : W4.heap[w.heap.size]? = some (.cells #[.int .i64 0, .int .i64 0, .string ⟨#[]⟩, .slice none 0 0] 102 (0, 0)) := by rw [hW4]; exact (Below.heap_alloc _ _ _ (Array.getElem?_eq_some_iff.1 hq4).1).trans hq4
  have hq5' : W4.heap[V.heap.size]? = some (.cells #[.int .i64 0, .int .i64 0, .string ⟨#[]⟩, .slice none 0 0] 102 (0, 0)) := by rw [hW4]; exact (Below.heap_alloc _ _ _ (Array.getElem?_eq_some_iff.1 hq5).1).trans hq5
  obtain ⟨-, -, -, -, hz5, hI5, hB5, hK5⟩ := putK (y := ⟨4, 0, ⟨#[]⟩, [y]⟩) hq5' (Nat.le_of_lt HT2.out) HS2.out HW0.out hB4 hK4 hI4 HG.out ⟨hrow⟩
  obtain ⟨y0, y1, y2, y3⟩ := box4 hq5'
  have fz : ∀ o, W4.frozen? ⟨V.heap.size, o, none⟩ = false := fun o => by simp [World.frozen?, hq5']
  have fz0 := fz 0
  have fz1 := fz 1
  have fz2 := fz 2
  have fz3 := fz 3
  have hr5 := put4_row ⟨4, 0, ⟨#[]⟩, [y]⟩ (.slice (some ⟨W3.heap.size, 0, none⟩) 1 1) hq5'
  have hr4 := (put4_other (r := V.heap.size) (k := w.heap.size) ⟨4, 0, ⟨#[]⟩, [y]⟩ (.slice (some ⟨W3.heap.size, 0, none⟩) 1 1) (show w.heap.size ≠ V.heap.size by have := HT2.out; omega)).trans hq4'
  have hne5 : V.heap.size ≠ g := by have := HG.out; have := HT2.out; omega
  have hne4 : w.heap.size ≠ g := by have := HG.out; omega
  obtain ⟨P1, hP1⟩ : ∃ P1, P1 = put4E W4 V.heap.size ⟨4, 0, ⟨#[]⟩, [y]⟩ (.slice (some ⟨W3.heap.size, 0, none⟩) 1 1) := ⟨_, rfl⟩
  rw [← hP1] at hz5 hI5 hB5 hK5 hr5 hr4
  have HZ5 := Lib.hid hz5
  have HI5 := Lib.hid hI5
  have HB5 := Lib.hid hB5
  have HK5 := Lib.hid hK5
  have HR5 := Lib.hid hr5
  have HR4 := Lib.hid hr4
  subst hW4
  simp only [put4E] at hP1
  have HP1 := Lib.hid hP1
  clear hP1 hz5 hI5 hB5 hK5 hr5 hr4 fz hq5' hq4' hK4 hB4 hI4 hrow hKw hz hI3 hB3 hK3 hq4 hq5 HI2 HB2 HK2 HQ2 HR2
  unfold eAgg
  dsimp only
  rename_i KA hA KB hB
  refine hB _ _ ?_
  clear hB
  go_upto_region 11 with fail
  rw [← HP1.out]
  obtain ⟨-, -, d2, -, dz⟩ := st4 HI5.out
  have dz2 := dz 2
  have e5 := (Below.heap_setCell P1 ⟨g, 2, none⟩ (.int .i64 0) V.heap.size hne5).trans HR5.out
  have e4 := (Below.heap_setCell P1 ⟨g, 2, none⟩ (.int .i64 0) w.heap.size hne4).trans HR4.out
  have hlt2 : w.heap.size < W2.heap.size := Nat.lt_trans HT2.out HS2.out
  have hz6 := HZ5.out.keep (KeepBut.set_ (KeepBut.refl P1 g none) 2 (.int .i64 0)) (by have := HG.out; omega)
  obtain ⟨q0, q1, q2, q3, hz7, hI7, hB7, hK7⟩ := putK (y := ⟨4, 0, ⟨#[]⟩, [y]⟩) e4 (Nat.le_refl _) hlt2 HW0.out (below_set HB5.out HI5.out.ge) (KeepBut.set_ HK5.out 2 _) (HI5.out.set_2 0) HG.out hz6
  have hz8 := hz7.lower (Nat.le_of_lt hlt2)
  have HZ := Lib.hid hz8
  have HI := Lib.hid hI7
  have HB := Lib.hid hB7
  have HK := Lib.hid hK7
  have HE4 := Lib.hid e4
  have HE5 := Lib.hid e5
  clear hz8 hI7 hB7 hK7 hz6 hz7 e4 e5 dz y0 y1 y2 y3 fz0 fz1 fz2 fz3
  go_upto_region 12 with fail
  obtain ⟨P2, hP2⟩ : ∃ P2, P2 = P1.setCell ⟨g, 2, none⟩ (.int .i64 0) := ⟨_, rfl⟩
  rw [← hP2] at HZ HI HB HK HE4 HE5 q0 q1 q2 q3 ⊢
  clear hP2 d2 dz2
  obtain ⟨m0, m1, m2, m3⟩ := box4 HE5.out
  obtain ⟨n0, n1, n2, n3⟩ := box4 HE4.out
  have gz : ∀ o, P2.frozen? ⟨w.heap.size, o, none⟩ = false := fun o => by have := HE4.out; simp [World.frozen?, this]
  have gz0 := gz 0
  have gz1 := gz 1
  have gz2 := gz 2
  have gz3 := gz 3
  clear gz
  go_wp2_with fail
  refine bodyPost_ret (v := eAgg ⟨4, 0, ⟨#[]⟩, [y]⟩ (.slice (some ⟨W3.heap.size, 0, none⟩) 1 1)) (by simp only [put4E] at q3; simp [results, Try.results90, go_sem, q0, q1, q2, q3, eAgg]) rfl ⟨_, rfl, HZ.out, HI.out, HB.out, HK.out⟩
end Go.Proofs.Ytifdkkkcecpjoaa
end
section
/-
  Reading a number's signs: one with a sign ahead, two, and the whole.
-/
namespace Go.Proofs.Ytifdkkkcecpjoaa
set_option linter.unusedVariables false
set_option linter.unusedSimpArgs false
open Go.RowKit Go.Proofs.YtifdkkkcecpjoaaW Go.Proofs.YtifdkkkcecpjoaaW.PrintWords Tx
attribute [local go_sem ↓] Go.wp_at_zero Go.wp_at_succ
set_option maxRecDepth 100000 in
set_option maxHeartbeats 1600000 in
theorem one_neg {s : ByteArray} {p p1 p' : Int} {y : S102} {g : Nat} {w0 : World}
    (f1 : letterpressref3_reader_is.f 5 s p 0 false ⟨#[40]⟩ = some (false, s, p, 0, false)) (f2 : letterpressref3_reader_is.f 5 s p 0 false ⟨#[45]⟩ = some (true, s, p1, 0, false))
    (hin : ∀ w, IsS126 w0 w g s p1 0 false → Below w0.heap.size w0 w → Calls Try.prog 90 #[.pointer (some ⟨g, 0, none⟩), .bool false] w (RdE w0 w g s p' 0 y)) (w : World) (hI : IsS126 w0 w g s p 0 false) (hB : Below w0.heap.size w0 w) :
    Calls Try.prog 87 #[.pointer (some ⟨g, 0, none⟩)] w (RdE w0 w g s p' 0 y) := by
  obtain ⟨W1, hW1⟩ : ∃ W1, W1 = w.alloc (.cells #[.int .i64 0, .int .i64 0, .string ⟨#[]⟩, .slice none 0 0] 102) := ⟨_, rfl⟩
  have HI1 := Lib.hid (show IsS126 w0 W1 g s p 0 false by rw [hW1]; exact hI.alloc _)
  have HB1 := Lib.hid (show Below w0.heap.size w0 W1 by rw [hW1]; exact below_alloc hB _)
  have HK1 := Lib.hid (show KeepBut w W1 g none by rw [hW1]; exact keep_alloc (KeepBut.refl w g none) _)
  have HQ1 := Lib.hid (show W1.heap[w.heap.size]? = some (.cells #[.int .i64 0, .int .i64 0, .string ⟨#[]⟩, .slice none 0 0] 102 (0, 0)) by rw [hW1]; exact heap_alloc_new w _)
  have HS1 := Lib.hid (show w.heap.size < W1.heap.size by rw [hW1]; simp)
  have HG := Lib.hid hI.lt
  have HW0 := Lib.hid hB.size
  have HW1 := Lib.hid hW1
  have F1 := Lib.hid f1
  have F2 := Lib.hid f2
  have HO := Lib.hid hin
  clear hW1 hI hB f1 f2 hin
  obtain ⟨-, -, -, c3, -⟩ := st4 HI1.out
  go_enter Try.func87, Try.ntmps87
  go_upto_region 1 with fail
  rw [← HW1.out]
  go_wp2_with fail
  refine (letterpressref3_reader_is.calls 5 g s p 0 false ⟨#[40]⟩ false s p 0 false w0 W1 HI1.out HB1.out F1.out).mono ?_
  rintro e W2 ⟨rfl, hI2, hB2, hK2⟩
  have HI2 := Lib.hid hI2
  have HB2 := Lib.hid hB2
  have HK2 := Lib.hid (HK1.out.trans hK2 (.inl rfl))
  have HQ2 := Lib.hid ((hK2.2 _ HS1.out (by have := HG.out; omega) (by simp)).trans HQ1.out)
  have HS2 := Lib.hid (Nat.lt_of_lt_of_le HS1.out hK2.1)
  clear hI2 hB2 hK2 c3 HI1 HB1 HK1 HQ1 HS1
  go_wp2_with fail
  refine (letterpressref3_reader_is.calls 5 g s p 0 false ⟨#[45]⟩ true s p1 0 false w0 W2 HI2.out HB2.out F2.out).mono ?_
  rintro e W3 ⟨rfl, hI2, hB2, hK2⟩
  have HI3 := Lib.hid hI2
  have HB3 := Lib.hid hB2
  have HK3 := Lib.hid (HK2.out.trans hK2 (.inl rfl))
  have HQ3 := Lib.hid ((hK2.2 _ HS2.out (by have := HG.out; omega) (by simp)).trans HQ2.out)
  have HS3 := Lib.hid (Nat.lt_of_lt_of_le HS2.out hK2.1)
  clear hI2 hB2 hK2 HI2 HB2 HK2 HQ2 HS2
  go_wp2_with fail
  refine (HO.out W3 HI3.out HB3.out).mono ?_
  rintro e W6 ⟨v, rfl, hz, hI6, hB6, hK6⟩
  have hK7 := HK3.out.trans hK6 (.inl rfl)
  have hq := (hK6.2 w.heap.size HS3.out (by have := HG.out; omega) (by simp)).trans HQ3.out
  obtain ⟨q0, q1, q2, q3, hz', hI', hB', hK'⟩ := putK hq (Nat.le_refl _) HS3.out HW0.out hB6 hK7 hI6 HG.out hz
  obtain ⟨y0, y1, y2, y3⟩ := box4 hq
  have fz : ∀ o, W6.frozen? ⟨w.heap.size, o, none⟩ = false := fun o => by simp [World.frozen?, hq]
  have fz0 := fz 0
  have fz1 := fz 1
  have fz2 := fz 2
  have fz3 := fz 3
  obtain ⟨A', c', rfl, -⟩ := hz.form
  have hzl := hz'.lower (Nat.le_of_lt HS3.out)
  unfold eAgg
  clear fz hq hK7 hK6 hB6 hI6 hz hz'
  go_wp2_with fail
  refine bodyPost_ret (v := eAgg y (.slice A' y.f3.length c')) (by simp only [put4E] at q3; simp [results, Try.results87, go_sem, q0, q1, q2, q3, eAgg]) rfl ⟨_, rfl, hzl, hI', hB', hK'⟩
set_option maxRecDepth 100000 in
set_option maxHeartbeats 1600000 in
theorem two_5 {s : ByteArray} {p p' : Int} {y : S102} {g : Nat} {w0 : World} (hone : ∀ w, IsS126 w0 w g s p 0 false → Below w0.heap.size w0 w → Calls Try.prog 87 #[.pointer (some ⟨g, 0, none⟩)] w (RdE w0 w g s p' 0 y)) (w : World) (hI : IsS126 w0 w g s p 0 false) (hB : Below w0.heap.size w0 w) :
    Calls Try.prog 82 #[.pointer (some ⟨g, 0, none⟩), .int .i64 5] w (RdE w0 w g s p' 0 y) := by
  obtain ⟨W1, hW1⟩ : ∃ W1, W1 = w.alloc (.cells #[.int .i64 0, .int .i64 0, .string ⟨#[]⟩, .slice none 0 0] 102) := ⟨_, rfl⟩
  have HI1 := Lib.hid (show IsS126 w0 W1 g s p 0 false by rw [hW1]; exact hI.alloc _)
  have HB1 := Lib.hid (show Below w0.heap.size w0 W1 by rw [hW1]; exact below_alloc hB _)
  have HK1 := Lib.hid (show KeepBut w W1 g none by rw [hW1]; exact keep_alloc (KeepBut.refl w g none) _)
  have HQ1 := Lib.hid (show W1.heap[w.heap.size]? = some (.cells #[.int .i64 0, .int .i64 0, .string ⟨#[]⟩, .slice none 0 0] 102 (0, 0)) by rw [hW1]; exact heap_alloc_new w _)
  have HS1 := Lib.hid (show w.heap.size < W1.heap.size by rw [hW1]; simp)
  have HG := Lib.hid hI.lt
  have HW0 := Lib.hid hB.size
  have HW1 := Lib.hid hW1
  have HO := Lib.hid hone
  clear hW1 hI hB hone
  go_enter Try.func82, Try.ntmps82
  go_upto_region 1 with fail
  rw [← HW1.out]
  go_wp2_with fail
  refine (HO.out W1 HI1.out HB1.out).mono ?_
  rintro e W6 ⟨v, rfl, hz, hI6, hB6, hK6⟩
  have hK7 := HK1.out.trans hK6 (.inl rfl)
  have hq := (hK6.2 w.heap.size HS1.out (by have := HG.out; omega) (by simp)).trans HQ1.out
  obtain ⟨q0, q1, q2, q3, hz', hI', hB', hK'⟩ := putK hq (Nat.le_refl _) HS1.out HW0.out hB6 hK7 hI6 HG.out hz
  obtain ⟨y0, y1, y2, y3⟩ := box4 hq
  have fz : ∀ o, W6.frozen? ⟨w.heap.size, o, none⟩ = false := fun o => by simp [World.frozen?, hq]
  have fz0 := fz 0
  have fz1 := fz 1
  have fz2 := fz 2
  have fz3 := fz 3
  obtain ⟨A', c', rfl, -⟩ := hz.form
  have hzl := hz'.lower (Nat.le_of_lt HS1.out)
  unfold eAgg
  clear fz hq hK7 hK6 hB6 hI6 hz hz'
  go_wp2_with fail
  refine bodyPost_ret (v := eAgg y (.slice A' y.f3.length c')) (by simp only [put4E] at q3; simp [results, Try.results82, go_sem, q0, q1, q2, q3, eAgg]) rfl ⟨_, rfl, hzl, hI', hB', hK'⟩
set_option maxRecDepth 100000 in
set_option maxHeartbeats 1600000 in
theorem two_up {s : ByteArray} {p p' l l1 : Int} {y : S102} {g : Nat} {w0 : World} {k : Nat} (hl : ¬ l > 4) (hl1 : wrap64 (l + 1) = l1) (hnx : letterpressref3_reader_next.f k s p' 0 false l = some (0, s, p', 0, false))
    (htwo : ∀ w, IsS126 w0 w g s p 0 false → Below w0.heap.size w0 w → Calls Try.prog 82 #[.pointer (some ⟨g, 0, none⟩), .int .i64 l1] w (RdE w0 w g s p' 0 y)) (w : World) (hI : IsS126 w0 w g s p 0 false) (hB : Below w0.heap.size w0 w) :
    Calls Try.prog 82 #[.pointer (some ⟨g, 0, none⟩), .int .i64 l] w (RdE w0 w g s p' 0 y) := by
  obtain ⟨W1, hW1⟩ : ∃ W1, W1 = w.alloc (.cells #[.int .i64 0, .int .i64 0, .string ⟨#[]⟩, .slice none 0 0] 102) := ⟨_, rfl⟩
  have HI1 := Lib.hid (show IsS126 w0 W1 g s p 0 false by rw [hW1]; exact hI.alloc _)
  have HB1 := Lib.hid (show Below w0.heap.size w0 W1 by rw [hW1]; exact below_alloc hB _)
  have HK1 := Lib.hid (show KeepBut w W1 g none by rw [hW1]; exact keep_alloc (KeepBut.refl w g none) _)
  have HQ1 := Lib.hid (show W1.heap[w.heap.size]? = some (.cells #[.int .i64 0, .int .i64 0, .string ⟨#[]⟩, .slice none 0 0] 102 (0, 0)) by rw [hW1]; exact heap_alloc_new w _)
  have HS1 := Lib.hid (show w.heap.size < W1.heap.size by rw [hW1]; simp)
  have HG := Lib.hid hI.lt
  have HW0 := Lib.hid hB.size
  have HW1 := Lib.hid hW1
  have HO := Lib.hid htwo
  have HN := Lib.hid hnx
  have hl' : ¬ 4 < l := hl
  clear hW1 hI hB htwo hnx hl
  go_enter Try.func82, Try.ntmps82
  go_upto_region 1 with fail
  rw [← HW1.out]
  go_wp2_with fail
  refine (HO.out W1 HI1.out HB1.out).mono ?_
  rintro e W3 ⟨v, rfl, hz, hI3, hB3, hK3⟩
  obtain ⟨A', c', rfl, -⟩ := hz.form
  have hKw := HK1.out.trans hK3 (.inl rfl)
  have hq4 := (hK3.2 w.heap.size HS1.out (by have := HG.out; omega) (by simp)).trans HQ1.out
  unfold eAgg
  obtain ⟨P1, hP1⟩ : ∃ P1, P1 = W3.alloc (.cells #[.int .i64 y.f0, .int .i64 y.f1, .string y.f2, .slice A' y.f3.length c'] 102) := ⟨_, rfl⟩
  have hlt3 : w.heap.size < W3.heap.size := Nat.lt_of_lt_of_le HS1.out hK3.1
  have HI5 := Lib.hid (show IsS126 w0 P1 g s p' 0 false by rw [hP1]; exact hI3.alloc _)
  have HB5 := Lib.hid (show Below w0.heap.size w0 P1 by rw [hP1]; exact below_alloc hB3 _)
  have HK5 := Lib.hid (show KeepBut w P1 g none by rw [hP1]; exact keep_alloc hKw _)
  have HR4 := Lib.hid (show P1.heap[w.heap.size]? = some (.cells #[.int .i64 0, .int .i64 0, .string ⟨#[]⟩, .slice none 0 0] 102 (0, 0)) by rw [hP1]; exact (Below.heap_alloc _ _ _ hlt3).trans hq4)
  have HR5 := Lib.hid (show P1.heap[W3.heap.size]? = some (.cells #[.int .i64 y.f0, .int .i64 y.f1, .string y.f2, .slice A' y.f3.length c'] 102 (0, 0)) by rw [hP1]; exact heap_alloc_new W3 _)
  have HZ5 := Lib.hid (show HasE P1 W1.heap.size y (.slice A' y.f3.length c') by rw [hP1]; exact hz.below (below_alloc (Below.refl _ _) _))
  have HLT := Lib.hid hlt3
  have HL1 := Lib.hid (show W3.heap.size < P1.heap.size by rw [hP1]; simp)
  have HP1 := Lib.hid hP1
  clear hP1 hlt3 hKw hq4 hz hI3 hB3 hK3
  go_wp2_with fail
  rw [← HP1.out]
  go_loopg [6] 0 (fun gq v6 w' => w' = P1)
  case atStart => exact rfl
  case round =>
    subst hrel
    go_wp2_with fail
    refine (letterpressref3_reader_next.calls k g s p' 0 false l 0 s p' 0 false w0 _ HI5.out HB5.out HN.out).mono ?_
    rintro e W5 ⟨rfl, hI6, hB6, hK6⟩
    have hK7 := HK5.out.trans hK6 (.inl rfl)
    have hgw := HG.out
    have hlt := HLT.out
    have hl2 := HL1.out
    have hq := (hK6.2 w.heap.size (by omega) (by omega) (by simp)).trans HR4.out
    have hq5 := (hK6.2 W3.heap.size hl2 (by omega) (by simp)).trans HR5.out
    have hs1 := HS1.out
    have hz := HZ5.out.keep hK6 (by omega)
    obtain ⟨q0, q1, q2, q3, hz', hI', hB', hK'⟩ := putK hq (Nat.le_refl _) HS1.out HW0.out hB6 hK7 hI6 HG.out hz
    obtain ⟨m0, m1, m2, m3⟩ := box4 hq5
    obtain ⟨y0, y1, y2, y3⟩ := box4 hq
    have fz : ∀ o, W5.frozen? ⟨w.heap.size, o, none⟩ = false := fun o => by simp [World.frozen?, hq]
    have fz0 := fz 0
    have fz1 := fz 1
    have fz2 := fz 2
    have fz3 := fz 3
    have hzl := hz'.lower (Nat.le_of_lt HS1.out)
    clear fz hq hq5 hK7 hK6 hB6 hI6 hz hz' hgw hlt hl2 hs1
    go_wp2_with fail
    refine bodyPost_ret (v := eAgg y (.slice A' y.f3.length c')) (by simp only [put4E] at q3; simp [results, Try.results82, go_sem, q0, q1, q2, q3, eAgg]) rfl ⟨_, rfl, hzl, hI', hB', hK'⟩
end Go.Proofs.Ytifdkkkcecpjoaa
end
section
/-
  Reading a number's signs: the whole.
-/
namespace Go.Proofs.Ytifdkkkcecpjoaa
set_option linter.unusedVariables false
set_option linter.unusedSimpArgs false
open Go.RowKit Go.Proofs.YtifdkkkcecpjoaaW Go.Proofs.YtifdkkkcecpjoaaW.PrintWords Tx
attribute [local go_sem ↓] Go.wp_at_zero Go.wp_at_succ
theorem dig_one {l ds : List Nat} {p : Nat} {d : Int} (he : l.drop p = ds) (hd : ∀ c ∈ ds, 48 ≤ c ∧ c ≤ 57) (hl : l.length ≤ 1000) (hn : valN ds < 4294967296) (h0 : p < l.length) (g : Nat) (w0 w : World) (hI : IsS126 w0 w g (ofN l) (p : Int) d false) (hB : Below w0.heap.size w0 w) :
    Calls Try.prog 87 #[.pointer (some ⟨g, 0, none⟩)] w (RdE w0 w g (ofN l) (l.length : Int) d ⟨1, (valN ds : Int), ⟨#[]⟩, []⟩) := by
  obtain ⟨c, hc⟩ : ∃ c, l[p]? = some c := ⟨l[p], List.getElem?_eq_getElem h0⟩
  have hm : ∀ i c', l[p + i]? = some c' → 48 ≤ c' ∧ c' ≤ 57 := fun i c' h => by
    refine hd c' ?_
    rw [← he]
    exact List.mem_iff_getElem?.2 ⟨i, by rw [List.getElem?_drop]; exact h⟩
  obtain ⟨c0, c1⟩ := hm 0 c hc
  obtain ⟨k, hk⟩ := number_f (d := d) he hd hl hn h0
  have e1 : (⟨#[40]⟩ : ByteArray) = ofN [40] := rfl
  have e2 : (⟨#[45]⟩ : ByteArray) = ofN [45] := rfl
  have e3 : (⟨#[46]⟩ : ByteArray) = ofN [46] := rfl
  have e4 : (⟨#[48, 120]⟩ : ByteArray) = ofN [48, 120] := rfl
  have hb := bt_ofN hc (by omega)
  refine one_dig (v := ((c - 48 : Nat) : Int)) (k := k) ?_ ?_ ?_ ?_ (Int.natCast_nonneg p) (by rw [ofN_size]; omega) ?_ (Int.natCast_nonneg _) hk g w0 w hI hB
  · rw [e1]; exact is_not 4 [] hc (by omega) (by omega) hl (by simp) (by decide) (by omega)
  · rw [e2]; exact is_not 4 [] hc (by omega) (by omega) hl (by simp) (by decide) (by omega)
  · rw [e3]; exact is_not 4 [] hc (by omega) (by omega) hl (by simp) (by decide) (by omega)
  · rw [e4]; exact is_not2 4 120 hc (by omega) (by omega) hl 48 (by decide) (fun c' h => by have := hm 1 c' h; omega)
  · rw [hb]; exact digit_at c0 c1 2
theorem two_of {l : List Nat} {p : Int} {y : S102} {g : Nat} {w0 : World} (hl : l.length ≤ 1000) (hone : ∀ w, IsS126 w0 w g (ofN l) p 0 false → Below w0.heap.size w0 w → Calls Try.prog 87 #[.pointer (some ⟨g, 0, none⟩)] w (RdE w0 w g (ofN l) (l.length : Int) 0 y)) (w : World) (hI : IsS126 w0 w g (ofN l) p 0 false) (hB : Below w0.heap.size w0 w) :
    Calls Try.prog 82 #[.pointer (some ⟨g, 0, none⟩), .int .i64 0] w (RdE w0 w g (ofN l) (l.length : Int) 0 y) :=
  two_up (k := 9) (l1 := 1) (by decide) (by unfold wrap64; omega) (next_end 0 hl) (two_up (k := 9) (l1 := 2) (by decide) (by unfold wrap64; omega) (next_end 1 hl) (two_up (k := 9) (l1 := 3) (by decide) (by unfold wrap64; omega) (next_end 2 hl)
    (two_up (k := 9) (l1 := 4) (by decide) (by unfold wrap64; omega) (next_end 3 hl) (two_up (k := 9) (l1 := 5) (by decide) (by unfold wrap64; omega) (next_end 4 hl) (two_5 hone))))) w hI hB
theorem digs_ne (n : Nat) : digsN n ≠ [] := by
  rw [digsN]
  split <;> simp
theorem two_any {a : Int} (h0 : -4294967296 < a) (h1 : a < 4294967296) : ∃ y, goodE 2 y ∧ ∀ (g : Nat) (w0 w : World), IsS126 w0 w g (ofN (sigN a)) 0 0 false → Below w0.heap.size w0 w →
    Calls Try.prog 82 #[.pointer (some ⟨g, 0, none⟩), .int .i64 0] w (RdE w0 w g (ofN (sigN a)) ((sigN a).length : Int) 0 y) := by
  have hlen := (sigN_len (a := a) (by omega) (by omega)).1
  have hv := valN_digs a.natAbs
  have hp : 0 < (digsN a.natAbs).length := List.length_pos_iff.2 (digs_ne _)
  by_cases hneg : a < 0
  · have hs : sigN a = 45 :: digsN a.natAbs := by unfold sigN; rw [if_pos hneg]
    rw [hs] at hlen ⊢
    have e1 : (⟨#[40]⟩ : ByteArray) = ofN [40] := rfl
    have e2 : (⟨#[45]⟩ : ByteArray) = ofN [45] := rfl
    refine ⟨⟨4, 0, ⟨#[]⟩, [⟨1, (valN (digsN a.natAbs) : Int), ⟨#[]⟩, []⟩]⟩, ⟨Nat.zero_le _, by show (-1000000000000000 : Int) ≤ 0; omega, by show (0 : Int) ≤ 1000000000000000; omega, .inr (.inl ⟨rfl, _, rfl, goodE_num 0 _ (by omega) (by rw [hv]; omega)⟩)⟩, fun g w0 w hI hB => ?_⟩
    have hc : (45 :: digsN a.natAbs)[0]? = some 45 := rfl
    refine two_of (by omega) (one_neg (p1 := ((1 : Nat) : Int)) ?_ ?_ (inner_neg (fun w hI hB => dig_one (l := 45 :: digsN a.natAbs) (ds := digsN a.natAbs) (p := 1) (d := 1) rfl (digsN_dig _) (by omega) (by rw [hv]; omega) (by simp; omega) g w0 w hI hB))) w hI hB
    · rw [e1]; exact is_not 4 [] hc (by decide) (by decide) (by omega) (by simp) (by decide) (by decide)
    · rw [e2]; exact is_yes 4 hc (by decide) (by decide) (by omega)
  · have hs : sigN a = digsN a.natAbs := by unfold sigN; rw [if_neg hneg]
    rw [hs] at hlen ⊢
    exact ⟨⟨1, (valN (digsN a.natAbs) : Int), ⟨#[]⟩, []⟩, goodE_num 1 _ (by omega) (by rw [hv]; omega), fun g w0 w hI hB =>
      two_of (by omega) (fun w hI hB => dig_one (l := digsN a.natAbs) (ds := digsN a.natAbs) (p := 0) (d := 0) rfl (digsN_dig _) (by omega) (by rw [hv]; omega) hp g w0 w hI hB) w hI hB⟩
/-- A number's signs are read. -/
def PaE (w : World) (e : Ending) (w' : World) : Prop := ∃ y v, e = .returned (.tuple #[eAgg y v, .bool true]) ∧ goodE 2 y ∧ HasE w' w.heap.size y v ∧ Below w.heap.size w w'
set_option maxRecDepth 100000 in
set_option maxHeartbeats 1600000 in
theorem parse_of {l : List Nat} {y : S102} (hl : l.length ≤ 1000) (hg : goodE 2 y) (htwo : ∀ (g : Nat) (w0 w : World), IsS126 w0 w g (ofN l) 0 0 false → Below w0.heap.size w0 w →
    Calls Try.prog 82 #[.pointer (some ⟨g, 0, none⟩), .int .i64 0] w (RdE w0 w g (ofN l) (l.length : Int) 0 y)) (w : World) : Calls Try.prog 78 #[.string (ofN l)] w (PaE w) := by
  have hps : letterpressref3_reader_past.f 1 (ofN l) (l.length : Int) 0 false = some (ofN l, (l.length : Int), 0, false) := past_at 0 (Nat.le_refl _) (fun c h => by rw [List.getElem?_eq_none (Nat.le_refl _)] at h; cases h)
  have hsz : (ofN l).size = l.length := ofN_size l
  generalize ofN l = s at *
  obtain ⟨W1, hW1⟩ : ∃ W1, W1 = w.alloc (.cells #[.int .i64 0, .int .i64 0, .string ⟨#[]⟩, .slice none 0 0] 102) := ⟨_, rfl⟩
  have hb1 : Below w.heap.size w W1 := by rw [hW1]; exact below_alloc (Below.refl _ _) _
  have hq1 : W1.heap[w.heap.size]? = some (.cells #[.int .i64 0, .int .i64 0, .string ⟨#[]⟩, .slice none 0 0] 102 (0, 0)) := by rw [hW1]; exact heap_alloc_new w _
  have hs1 : w.heap.size < W1.heap.size := by rw [hW1]; simp
  obtain ⟨W2, hW2⟩ : ∃ W2, W2 = W1.alloc (.cells #[.string s, .int .i64 0, .int .i64 0, .bool false] 126) := ⟨_, rfl⟩
  have HI2 := Lib.hid (show IsS126 w W2 W1.heap.size s 0 0 false by rw [hW2]; exact IsS126.new w W1 s 0 0 false hb1)
  have HB2 := Lib.hid (show Below w.heap.size w W2 by rw [hW2]; exact below_alloc hb1 _)
  have HQ2 := Lib.hid (show W2.heap[w.heap.size]? = some (.cells #[.int .i64 0, .int .i64 0, .string ⟨#[]⟩, .slice none 0 0] 102 (0, 0)) by rw [hW2]; exact (Below.heap_alloc _ _ _ hs1).trans hq1)
  have HS1 := Lib.hid hs1
  have HS2 := Lib.hid (show W1.heap.size < W2.heap.size by rw [hW2]; simp)
  have HW1 := Lib.hid hW1
  have HW2 := Lib.hid hW2
  have HT := Lib.hid htwo
  have HP := Lib.hid hps
  have HZ := Lib.hid hsz
  have HG := Lib.hid hg
  clear hW1 hW2 hb1 hq1 hs1 htwo hps hsz hg
  go_enter Try.func78, Try.ntmps78
  go_upto_region 1 with fail
  rw [← HW1.out]
  go_upto_region 2 with fail
  rw [← HW2.out]
  go_wp2_with fail
  refine (HT.out W1.heap.size w W2 HI2.out HB2.out).mono ?_
  rintro e W3 ⟨v, rfl, hz, hI3, hB3, hK3⟩
  obtain ⟨A', c', rfl, -⟩ := hz.form
  have h1 := HS1.out
  have h2 := HS2.out
  have hq4 := (hK3.2 w.heap.size (by omega) (by omega) (by simp)).trans HQ2.out
  have h3 : W1.heap.size < W3.heap.size := Nat.lt_of_lt_of_le h2 hK3.1
  unfold eAgg
  obtain ⟨P1, hP1⟩ : ∃ P1, P1 = W3.alloc (.cells #[.int .i64 y.f0, .int .i64 y.f1, .string y.f2, .slice A' y.f3.length c'] 102) := ⟨_, rfl⟩
  have HI5 := Lib.hid (show IsS126 w P1 W1.heap.size s (l.length : Int) 0 false by rw [hP1]; exact hI3.alloc _)
  have HB5 := Lib.hid (show Below w.heap.size w P1 by rw [hP1]; exact below_alloc hB3 _)
  have HR4 := Lib.hid (show P1.heap[w.heap.size]? = some (.cells #[.int .i64 0, .int .i64 0, .string ⟨#[]⟩, .slice none 0 0] 102 (0, 0)) by rw [hP1]; exact (Below.heap_alloc _ _ _ (by omega)).trans hq4)
  have HR5 := Lib.hid (show P1.heap[W3.heap.size]? = some (.cells #[.int .i64 y.f0, .int .i64 y.f1, .string y.f2, .slice A' y.f3.length c'] 102 (0, 0)) by rw [hP1]; exact heap_alloc_new W3 _)
  have HZ5 := Lib.hid (show HasE P1 W2.heap.size y (.slice A' y.f3.length c') by rw [hP1]; exact hz.below (below_alloc (Below.refl _ _) _))
  have HL1 := Lib.hid (show W3.heap.size < P1.heap.size by rw [hP1]; simp)
  have HL3 := Lib.hid h3
  have HP1 := Lib.hid hP1
  clear hP1 hq4 hz hI3 hB3 hK3 h1 h2 h3
  go_wp2_with fail
  rw [← HP1.out]
  refine (letterpressref3_reader_past.calls 1 W1.heap.size s (l.length : Int) 0 false s (l.length : Int) 0 false w _ HI5.out HB5.out HP.out).mono ?_
  rintro e W5 ⟨rfl, hI6, hB6, hK6⟩
  have h1 := HS1.out
  have h2 := HS2.out
  have h3 := HL3.out
  have h4 := HL1.out
  have hq := (hK6.2 w.heap.size (by omega) (by omega) (by simp)).trans HR4.out
  have hq5 := (hK6.2 W3.heap.size h4 (by omega) (by simp)).trans HR5.out
  have hz := HZ5.out.keep hK6 h2
  obtain ⟨q0, q1, q2, q3, hz', hb'⟩ := put_end hq (Nat.le_refl _) (by omega) hB6 hz
  obtain ⟨d0, d1, d2, d3, -⟩ := st4 hI6
  obtain ⟨m0, m1, m2, m3⟩ := box4 hq5
  obtain ⟨y0, y1, y2, y3⟩ := box4 hq
  have fz : ∀ o, W5.frozen? ⟨w.heap.size, o, none⟩ = false := fun o => by simp [World.frozen?, hq]
  have fz0 := fz 0
  have fz1 := fz 1
  have fz2 := fz 2
  have fz3 := fz 3
  have t1 : ¬ (l.length : Int) < (s.size : Int) := by have := HZ.out; omega
  have t2 : decide ((l.length : Int) < (s.size : Int)) = false := decide_eq_false t1
  clear fz hq hq5 hK6 hB6 hI6 hz h1 h2 h3 h4 hl
  go_wp2_with fail
  refine bodyPost_ret (v := .tuple #[eAgg y (.slice A' y.f3.length c'), .bool true]) (by simp only [put4E] at q3; simp [results, Try.results78, go_sem, q0, q1, q2, q3, eAgg]) rfl ⟨y, _, rfl, HG.out, hz', hb'⟩
theorem parse_any {a : Int} (h0 : -4294967296 < a) (h1 : a < 4294967296) (w : World) : Calls Try.prog 78 #[.string (ofN (sigN a))] w (PaE w) := by
  obtain ⟨y, hg, ht⟩ := two_any h0 h1
  have hlen := (sigN_len (a := a) (by omega) (by omega)).1
  exact parse_of (by omega) hg ht w
end Go.Proofs.Ytifdkkkcecpjoaa
end
section
/-
  Operands of a kind: what Operand answers, loosely.
-/
namespace Go.Proofs.Ytifdkkkcecpjoaa
set_option linter.unusedVariables false
set_option linter.unusedSimpArgs false
open Go.RowKit Go.Proofs.YtifdkkkcecpjoaaW Go.Proofs.YtifdkkkcecpjoaaW.PrintWords Tx
attribute [local go_sem ↓] Go.wp_at_zero Go.wp_at_succ
theorem within81 (a n : Int) (w : World) (hn : 0 < n) (hb : n ≤ 4611686018427387904) : Calls Try.prog 81 #[.int .i64 a, .int .i64 n] w (WiEnd (a % n) w) := by
  refine (letterpresslaw2_within.calls a n (a % n) w (by unfold letterpresslaw2_within.f; rw [if_neg (by omega)]; exact emod_of_tmod a n hn hb)).mono ?_
  rintro e w' ⟨rfl, hd⟩
  exact ⟨rfl, hd.below⟩
/-- An operand: not below 0 where it is a register's. -/
def OpE (r : Bool) (w : World) (e : Ending) (w' : World) : Prop := ∃ v : Int, e = .returned (.int .i64 v) ∧ -4294967296 < v ∧ v < 4294967296 ∧ (r = true → 0 ≤ v ∧ v ≤ 31) ∧ Below w.heap.size w w'
def arr0 : Array Value := #[.int .i64 0, .int .i64 1, .int .i64 7, .int .i64 24, .int .i64 31, .int .i64 5, .int .i64 28, .int .i64 3, .int .i64 30]
theorem arr0_at : ∀ k : Nat, k < 9 → ∃ v : Int, arr0[k]? = some (.int .i64 v) ∧ 0 ≤ v ∧ v ≤ 31
  | 0, _ => ⟨_, rfl, by decide, by decide⟩
  | 1, _ => ⟨_, rfl, by decide, by decide⟩
  | 2, _ => ⟨_, rfl, by decide, by decide⟩
  | 3, _ => ⟨_, rfl, by decide, by decide⟩
  | 4, _ => ⟨_, rfl, by decide, by decide⟩
  | 5, _ => ⟨_, rfl, by decide, by decide⟩
  | 6, _ => ⟨_, rfl, by decide, by decide⟩
  | 7, _ => ⟨_, rfl, by decide, by decide⟩
  | 8, _ => ⟨_, rfl, by decide, by decide⟩
  | k + 9, h => absurd h (by omega)
set_option maxRecDepth 100000 in
set_option maxHeartbeats 1600000 in
theorem op_X (n : Int) (w : World) : Calls Try.prog 77 #[.string ⟨#[88]⟩, .int .i64 n] w (OpE true w) := by
  go_enter Try.func77, Try.ntmps77
  go_wp2_with fail
  refine (within81 n 9 w (by omega) (by omega)).mono ?_
  rintro e W ⟨rfl, hb⟩
  have m0 := Int.emod_nonneg n (show (9 : Int) ≠ 0 by omega)
  have m1 := Int.emod_lt_of_pos n (show (0 : Int) < 9 by omega)
  obtain ⟨m, hm⟩ : ∃ m : Nat, n % 9 = m := ⟨(n % 9).toNat, by omega⟩
  rw [hm]
  obtain ⟨v, hv, v0, v1⟩ := arr0_at m (by omega)
  have m2 : (0 : Int) ≤ (m : Int) := by omega
  have m3 : (m : Int) < 9 := by omega
  have hcell : (W.alloc (.cells #[.int .i64 0, .int .i64 1, .int .i64 7, .int .i64 24, .int .i64 31, .int .i64 5, .int .i64 28, .int .i64 3, .int .i64 30] 3)).cell? ⟨W.heap.size, m, none⟩ = some (.int .i64 v) := (cell_of_row _ W.heap.size m arr0 3 (0, 0) (heap_alloc_new W _)).trans hv
  have hbz := below_alloc hb (.cells #[.int .i64 0, .int .i64 1, .int .i64 7, .int .i64 24, .int .i64 31, .int .i64 5, .int .i64 28, .int .i64 3, .int .i64 30] 3)
  have HB := Lib.hid hbz
  have V0 := Lib.hid v0
  have V1 := Lib.hid v1
  have hw : wrap64 (1 * v) = 1 * v := by unfold wrap64; omega
  clear hv hbz hb m0 m1 hm v0 v1
  go_wp2_with fail
  go_ret
  have h0 := V0.out
  have h1 := V1.out
  exact ⟨_, rfl, by omega, by omega, (fun _ => ⟨by omega, by omega⟩), HB.out⟩
set_option maxRecDepth 100000 in
set_option maxHeartbeats 1600000 in
theorem op_Y (n : Int) (w : World) : Calls Try.prog 77 #[.string ⟨#[89]⟩, .int .i64 n] w (OpE true w) := by
  go_enter Try.func77, Try.ntmps77
  go_wp2_with fail
  refine (within81 n 9 w (by omega) (by omega)).mono ?_
  rintro e W ⟨rfl, hb⟩
  have m0 := Int.emod_nonneg n (show (9 : Int) ≠ 0 by omega)
  have m1 := Int.emod_lt_of_pos n (show (0 : Int) < 9 by omega)
  obtain ⟨m, hm⟩ : ∃ m : Nat, n % 9 = m := ⟨(n % 9).toNat, by omega⟩
  rw [hm]
  obtain ⟨v, hv, v0, v1⟩ := arr0_at m (by omega)
  have m2 : (0 : Int) ≤ (m : Int) := by omega
  have m3 : (m : Int) < 9 := by omega
  have hcell : (W.alloc (.cells #[.int .i64 0, .int .i64 1, .int .i64 7, .int .i64 24, .int .i64 31, .int .i64 5, .int .i64 28, .int .i64 3, .int .i64 30] 3)).cell? ⟨W.heap.size, m, none⟩ = some (.int .i64 v) := (cell_of_row _ W.heap.size m arr0 3 (0, 0) (heap_alloc_new W _)).trans hv
  have hbz := below_alloc hb (.cells #[.int .i64 0, .int .i64 1, .int .i64 7, .int .i64 24, .int .i64 31, .int .i64 5, .int .i64 28, .int .i64 3, .int .i64 30] 3)
  have HB := Lib.hid hbz
  have V0 := Lib.hid v0
  have V1 := Lib.hid v1
  have hw : wrap64 (1 * v) = 1 * v := by unfold wrap64; omega
  clear hv hbz hb m0 m1 hm v0 v1
  go_wp2_with fail
  go_ret
  have h0 := V0.out
  have h1 := V1.out
  exact ⟨_, rfl, by omega, by omega, (fun _ => ⟨by omega, by omega⟩), HB.out⟩
def arr1 : Array Value := #[.int .i64 0, .int .i64 31, .int .i64 1, .int .i64 15, .int .i64 16, .int .i64 7, .int .i64 30, .int .i64 12, .int .i64 3]
theorem arr1_at : ∀ k : Nat, k < 9 → ∃ v : Int, arr1[k]? = some (.int .i64 v) ∧ 0 ≤ v ∧ v ≤ 31
  | 0, _ => ⟨_, rfl, by decide, by decide⟩
  | 1, _ => ⟨_, rfl, by decide, by decide⟩
  | 2, _ => ⟨_, rfl, by decide, by decide⟩
  | 3, _ => ⟨_, rfl, by decide, by decide⟩
  | 4, _ => ⟨_, rfl, by decide, by decide⟩
  | 5, _ => ⟨_, rfl, by decide, by decide⟩
  | 6, _ => ⟨_, rfl, by decide, by decide⟩
  | 7, _ => ⟨_, rfl, by decide, by decide⟩
  | 8, _ => ⟨_, rfl, by decide, by decide⟩
  | k + 9, h => absurd h (by omega)
set_option maxRecDepth 100000 in
set_option maxHeartbeats 1600000 in
theorem op_D (n : Int) (w : World) : Calls Try.prog 77 #[.string ⟨#[68]⟩, .int .i64 n] w (OpE true w) := by
  go_enter Try.func77, Try.ntmps77
  go_wp2_with fail
  refine (within81 n 9 w (by omega) (by omega)).mono ?_
  rintro e W ⟨rfl, hb⟩
  have m0 := Int.emod_nonneg n (show (9 : Int) ≠ 0 by omega)
  have m1 := Int.emod_lt_of_pos n (show (0 : Int) < 9 by omega)
  obtain ⟨m, hm⟩ : ∃ m : Nat, n % 9 = m := ⟨(n % 9).toNat, by omega⟩
  rw [hm]
  obtain ⟨v, hv, v0, v1⟩ := arr1_at m (by omega)
  have m2 : (0 : Int) ≤ (m : Int) := by omega
  have m3 : (m : Int) < 9 := by omega
  have hcell : (W.alloc (.cells #[.int .i64 0, .int .i64 31, .int .i64 1, .int .i64 15, .int .i64 16, .int .i64 7, .int .i64 30, .int .i64 12, .int .i64 3] 3)).cell? ⟨W.heap.size, m, none⟩ = some (.int .i64 v) := (cell_of_row _ W.heap.size m arr1 3 (0, 0) (heap_alloc_new W _)).trans hv
  have hbz := below_alloc hb (.cells #[.int .i64 0, .int .i64 31, .int .i64 1, .int .i64 15, .int .i64 16, .int .i64 7, .int .i64 30, .int .i64 12, .int .i64 3] 3)
  have HB := Lib.hid hbz
  have V0 := Lib.hid v0
  have V1 := Lib.hid v1
  have hw : wrap64 (1 * v) = 1 * v := by unfold wrap64; omega
  clear hv hbz hb m0 m1 hm v0 v1
  go_wp2_with fail
  go_ret
  have h0 := V0.out
  have h1 := V1.out
  exact ⟨_, rfl, by omega, by omega, (fun _ => ⟨by omega, by omega⟩), HB.out⟩
set_option maxRecDepth 100000 in
set_option maxHeartbeats 1600000 in
theorem op_A (n : Int) (w : World) : Calls Try.prog 77 #[.string ⟨#[65]⟩, .int .i64 n] w (OpE true w) := by
  go_enter Try.func77, Try.ntmps77
  go_wp2_with fail
  refine (within81 n 9 w (by omega) (by omega)).mono ?_
  rintro e W ⟨rfl, hb⟩
  have m0 := Int.emod_nonneg n (show (9 : Int) ≠ 0 by omega)
  have m1 := Int.emod_lt_of_pos n (show (0 : Int) < 9 by omega)
  obtain ⟨m, hm⟩ : ∃ m : Nat, n % 9 = m := ⟨(n % 9).toNat, by omega⟩
  rw [hm]
  obtain ⟨v, hv, v0, v1⟩ := arr1_at m (by omega)
  have m2 : (0 : Int) ≤ (m : Int) := by omega
  have m3 : (m : Int) < 9 := by omega
  have hcell : (W.alloc (.cells #[.int .i64 0, .int .i64 31, .int .i64 1, .int .i64 15, .int .i64 16, .int .i64 7, .int .i64 30, .int .i64 12, .int .i64 3] 3)).cell? ⟨W.heap.size, m, none⟩ = some (.int .i64 v) := (cell_of_row _ W.heap.size m arr1 3 (0, 0) (heap_alloc_new W _)).trans hv
  have hbz := below_alloc hb (.cells #[.int .i64 0, .int .i64 31, .int .i64 1, .int .i64 15, .int .i64 16, .int .i64 7, .int .i64 30, .int .i64 12, .int .i64 3] 3)
  have HB := Lib.hid hbz
  have V0 := Lib.hid v0
  have V1 := Lib.hid v1
  have hw : wrap64 (1 * v) = 1 * v := by unfold wrap64; omega
  clear hv hbz hb m0 m1 hm v0 v1
  go_wp2_with fail
  go_ret
  have h0 := V0.out
  have h1 := V1.out
  exact ⟨_, rfl, by omega, by omega, (fun _ => ⟨by omega, by omega⟩), HB.out⟩
set_option maxRecDepth 100000 in
set_option maxHeartbeats 1600000 in
theorem op_B (n : Int) (w : World) : Calls Try.prog 77 #[.string ⟨#[66]⟩, .int .i64 n] w (OpE true w) := by
  go_enter Try.func77, Try.ntmps77
  go_wp2_with fail
  refine (within81 n 9 w (by omega) (by omega)).mono ?_
  rintro e W ⟨rfl, hb⟩
  have m0 := Int.emod_nonneg n (show (9 : Int) ≠ 0 by omega)
  have m1 := Int.emod_lt_of_pos n (show (0 : Int) < 9 by omega)
  obtain ⟨m, hm⟩ : ∃ m : Nat, n % 9 = m := ⟨(n % 9).toNat, by omega⟩
  rw [hm]
  obtain ⟨v, hv, v0, v1⟩ := arr1_at m (by omega)
  have m2 : (0 : Int) ≤ (m : Int) := by omega
  have m3 : (m : Int) < 9 := by omega
  have hcell : (W.alloc (.cells #[.int .i64 0, .int .i64 31, .int .i64 1, .int .i64 15, .int .i64 16, .int .i64 7, .int .i64 30, .int .i64 12, .int .i64 3] 3)).cell? ⟨W.heap.size, m, none⟩ = some (.int .i64 v) := (cell_of_row _ W.heap.size m arr1 3 (0, 0) (heap_alloc_new W _)).trans hv
  have hbz := below_alloc hb (.cells #[.int .i64 0, .int .i64 31, .int .i64 1, .int .i64 15, .int .i64 16, .int .i64 7, .int .i64 30, .int .i64 12, .int .i64 3] 3)
  have HB := Lib.hid hbz
  have V0 := Lib.hid v0
  have V1 := Lib.hid v1
  have hw : wrap64 (1 * v) = 1 * v := by unfold wrap64; omega
  clear hv hbz hb m0 m1 hm v0 v1
  go_wp2_with fail
  go_ret
  have h0 := V0.out
  have h1 := V1.out
  exact ⟨_, rfl, by omega, by omega, (fun _ => ⟨by omega, by omega⟩), HB.out⟩
set_option maxRecDepth 100000 in
set_option maxHeartbeats 1600000 in
theorem op_U5 (n : Int) (w : World) : Calls Try.prog 77 #[.string ⟨#[85, 53]⟩, .int .i64 n] w (OpE false w) := by
  go_enter Try.func77, Try.ntmps77
  go_wp2_with fail
  refine (within81 n 9 w (by omega) (by omega)).mono ?_
  rintro e W ⟨rfl, hb⟩
  have m0 := Int.emod_nonneg n (show (9 : Int) ≠ 0 by omega)
  have m1 := Int.emod_lt_of_pos n (show (0 : Int) < 9 by omega)
  obtain ⟨m, hm⟩ : ∃ m : Nat, n % 9 = m := ⟨(n % 9).toNat, by omega⟩
  rw [hm]
  obtain ⟨v, hv, v0, v1⟩ := arr1_at m (by omega)
  have m2 : (0 : Int) ≤ (m : Int) := by omega
  have m3 : (m : Int) < 9 := by omega
  have hcell : (W.alloc (.cells #[.int .i64 0, .int .i64 31, .int .i64 1, .int .i64 15, .int .i64 16, .int .i64 7, .int .i64 30, .int .i64 12, .int .i64 3] 3)).cell? ⟨W.heap.size, m, none⟩ = some (.int .i64 v) := (cell_of_row _ W.heap.size m arr1 3 (0, 0) (heap_alloc_new W _)).trans hv
  have hbz := below_alloc hb (.cells #[.int .i64 0, .int .i64 31, .int .i64 1, .int .i64 15, .int .i64 16, .int .i64 7, .int .i64 30, .int .i64 12, .int .i64 3] 3)
  have HB := Lib.hid hbz
  have V0 := Lib.hid v0
  have V1 := Lib.hid v1
  have hw : wrap64 (1 * v) = 1 * v := by unfold wrap64; omega
  clear hv hbz hb m0 m1 hm v0 v1
  go_wp2_with fail
  go_ret
  have h0 := V0.out
  have h1 := V1.out
  exact ⟨_, rfl, by omega, by omega, (fun h => by cases h), HB.out⟩
def arr2 : Array Value := #[.int .i64 0, .int .i64 127, .int .i64 64, .int .i64 1, .int .i64 63, .int .i64 100, .int .i64 7, .int .i64 15, .int .i64 16]
theorem arr2_at : ∀ k : Nat, k < 9 → ∃ v : Int, arr2[k]? = some (.int .i64 v) ∧ 0 ≤ v ∧ v ≤ 127
  | 0, _ => ⟨_, rfl, by decide, by decide⟩
  | 1, _ => ⟨_, rfl, by decide, by decide⟩
  | 2, _ => ⟨_, rfl, by decide, by decide⟩
  | 3, _ => ⟨_, rfl, by decide, by decide⟩
  | 4, _ => ⟨_, rfl, by decide, by decide⟩
  | 5, _ => ⟨_, rfl, by decide, by decide⟩
  | 6, _ => ⟨_, rfl, by decide, by decide⟩
  | 7, _ => ⟨_, rfl, by decide, by decide⟩
  | 8, _ => ⟨_, rfl, by decide, by decide⟩
  | k + 9, h => absurd h (by omega)
set_option maxRecDepth 100000 in
set_option maxHeartbeats 1600000 in
theorem op_U7 (n : Int) (w : World) : Calls Try.prog 77 #[.string ⟨#[85, 55]⟩, .int .i64 n] w (OpE false w) := by
  go_enter Try.func77, Try.ntmps77
  go_wp2_with fail
  refine (within81 n 9 w (by omega) (by omega)).mono ?_
  rintro e W ⟨rfl, hb⟩
  have m0 := Int.emod_nonneg n (show (9 : Int) ≠ 0 by omega)
  have m1 := Int.emod_lt_of_pos n (show (0 : Int) < 9 by omega)
  obtain ⟨m, hm⟩ : ∃ m : Nat, n % 9 = m := ⟨(n % 9).toNat, by omega⟩
  rw [hm]
  obtain ⟨v, hv, v0, v1⟩ := arr2_at m (by omega)
  have m2 : (0 : Int) ≤ (m : Int) := by omega
  have m3 : (m : Int) < 9 := by omega
  have hcell : (W.alloc (.cells #[.int .i64 0, .int .i64 127, .int .i64 64, .int .i64 1, .int .i64 63, .int .i64 100, .int .i64 7, .int .i64 15, .int .i64 16] 3)).cell? ⟨W.heap.size, m, none⟩ = some (.int .i64 v) := (cell_of_row _ W.heap.size m arr2 3 (0, 0) (heap_alloc_new W _)).trans hv
  have hbz := below_alloc hb (.cells #[.int .i64 0, .int .i64 127, .int .i64 64, .int .i64 1, .int .i64 63, .int .i64 100, .int .i64 7, .int .i64 15, .int .i64 16] 3)
  have HB := Lib.hid hbz
  have V0 := Lib.hid v0
  have V1 := Lib.hid v1
  have hw : wrap64 (1 * v) = 1 * v := by unfold wrap64; omega
  clear hv hbz hb m0 m1 hm v0 v1
  go_wp2_with fail
  go_ret
  have h0 := V0.out
  have h1 := V1.out
  exact ⟨_, rfl, by omega, by omega, (fun h => by cases h), HB.out⟩
def arr3 : Array Value := #[.int .i64 1, .int .i64 32, .int .i64 2, .int .i64 16, .int .i64 31, .int .i64 17, .int .i64 8, .int .i64 5, .int .i64 30]
theorem arr3_at : ∀ k : Nat, k < 9 → ∃ v : Int, arr3[k]? = some (.int .i64 v) ∧ 1 ≤ v ∧ v ≤ 32
  | 0, _ => ⟨_, rfl, by decide, by decide⟩
  | 1, _ => ⟨_, rfl, by decide, by decide⟩
  | 2, _ => ⟨_, rfl, by decide, by decide⟩
  | 3, _ => ⟨_, rfl, by decide, by decide⟩
  | 4, _ => ⟨_, rfl, by decide, by decide⟩
  | 5, _ => ⟨_, rfl, by decide, by decide⟩
  | 6, _ => ⟨_, rfl, by decide, by decide⟩
  | 7, _ => ⟨_, rfl, by decide, by decide⟩
  | 8, _ => ⟨_, rfl, by decide, by decide⟩
  | k + 9, h => absurd h (by omega)
set_option maxRecDepth 100000 in
set_option maxHeartbeats 1600000 in
theorem op_O5 (n : Int) (w : World) : Calls Try.prog 77 #[.string ⟨#[79, 53]⟩, .int .i64 n] w (OpE false w) := by
  go_enter Try.func77, Try.ntmps77
  go_wp2_with fail
  refine (within81 n 9 w (by omega) (by omega)).mono ?_
  rintro e W ⟨rfl, hb⟩
  have m0 := Int.emod_nonneg n (show (9 : Int) ≠ 0 by omega)
  have m1 := Int.emod_lt_of_pos n (show (0 : Int) < 9 by omega)
  obtain ⟨m, hm⟩ : ∃ m : Nat, n % 9 = m := ⟨(n % 9).toNat, by omega⟩
  rw [hm]
  obtain ⟨v, hv, v0, v1⟩ := arr3_at m (by omega)
  have m2 : (0 : Int) ≤ (m : Int) := by omega
  have m3 : (m : Int) < 9 := by omega
  have hcell : (W.alloc (.cells #[.int .i64 1, .int .i64 32, .int .i64 2, .int .i64 16, .int .i64 31, .int .i64 17, .int .i64 8, .int .i64 5, .int .i64 30] 3)).cell? ⟨W.heap.size, m, none⟩ = some (.int .i64 v) := (cell_of_row _ W.heap.size m arr3 3 (0, 0) (heap_alloc_new W _)).trans hv
  have hbz := below_alloc hb (.cells #[.int .i64 1, .int .i64 32, .int .i64 2, .int .i64 16, .int .i64 31, .int .i64 17, .int .i64 8, .int .i64 5, .int .i64 30] 3)
  have HB := Lib.hid hbz
  have V0 := Lib.hid v0
  have V1 := Lib.hid v1
  have hw : wrap64 (1 * v) = 1 * v := by unfold wrap64; omega
  clear hv hbz hb m0 m1 hm v0 v1
  go_wp2_with fail
  go_ret
  have h0 := V0.out
  have h1 := V1.out
  exact ⟨_, rfl, by omega, by omega, (fun h => by cases h), HB.out⟩
def arr4 : Array Value := #[.int .i64 0, .int .i64 15, .int .i64 1, .int .i64 7, .int .i64 8, .int .i64 4, .int .i64 12, .int .i64 3, .int .i64 14]
theorem arr4_at : ∀ k : Nat, k < 9 → ∃ v : Int, arr4[k]? = some (.int .i64 v) ∧ 0 ≤ v ∧ v ≤ 15
  | 0, _ => ⟨_, rfl, by decide, by decide⟩
  | 1, _ => ⟨_, rfl, by decide, by decide⟩
  | 2, _ => ⟨_, rfl, by decide, by decide⟩
  | 3, _ => ⟨_, rfl, by decide, by decide⟩
  | 4, _ => ⟨_, rfl, by decide, by decide⟩
  | 5, _ => ⟨_, rfl, by decide, by decide⟩
  | 6, _ => ⟨_, rfl, by decide, by decide⟩
  | 7, _ => ⟨_, rfl, by decide, by decide⟩
  | 8, _ => ⟨_, rfl, by decide, by decide⟩
  | k + 9, h => absurd h (by omega)
set_option maxRecDepth 100000 in
set_option maxHeartbeats 1600000 in
theorem op_M1 (n : Int) (w : World) : Calls Try.prog 77 #[.string ⟨#[77, 49]⟩, .int .i64 n] w (OpE false w) := by
  go_enter Try.func77, Try.ntmps77
  go_wp2_with fail
  refine (within81 n 9 w (by omega) (by omega)).mono ?_
  rintro e W ⟨rfl, hb⟩
  have m0 := Int.emod_nonneg n (show (9 : Int) ≠ 0 by omega)
  have m1 := Int.emod_lt_of_pos n (show (0 : Int) < 9 by omega)
  obtain ⟨m, hm⟩ : ∃ m : Nat, n % 9 = m := ⟨(n % 9).toNat, by omega⟩
  rw [hm]
  obtain ⟨v, hv, v0, v1⟩ := arr4_at m (by omega)
  have m2 : (0 : Int) ≤ (m : Int) := by omega
  have m3 : (m : Int) < 9 := by omega
  have hcell : (W.alloc (.cells #[.int .i64 0, .int .i64 15, .int .i64 1, .int .i64 7, .int .i64 8, .int .i64 4, .int .i64 12, .int .i64 3, .int .i64 14] 3)).cell? ⟨W.heap.size, m, none⟩ = some (.int .i64 v) := (cell_of_row _ W.heap.size m arr4 3 (0, 0) (heap_alloc_new W _)).trans hv
  have hbz := below_alloc hb (.cells #[.int .i64 0, .int .i64 15, .int .i64 1, .int .i64 7, .int .i64 8, .int .i64 4, .int .i64 12, .int .i64 3, .int .i64 14] 3)
  have HB := Lib.hid hbz
  have V0 := Lib.hid v0
  have V1 := Lib.hid v1
  have hw : wrap64 (1 * v) = 1 * v := by unfold wrap64; omega
  clear hv hbz hb m0 m1 hm v0 v1
  go_wp2_with fail
  go_ret
  have h0 := V0.out
  have h1 := V1.out
  exact ⟨_, rfl, by omega, by omega, (fun h => by cases h), HB.out⟩
set_option maxRecDepth 100000 in
set_option maxHeartbeats 1600000 in
theorem op_I4 (n : Int) (w : World) : Calls Try.prog 77 #[.string ⟨#[73, 52]⟩, .int .i64 n] w (OpE false w) := by
  go_enter Try.func77, Try.ntmps77
  go_wp2_with fail
  refine (within81 n 9 w (by omega) (by omega)).mono ?_
  rintro e W ⟨rfl, hb⟩
  have m0 := Int.emod_nonneg n (show (9 : Int) ≠ 0 by omega)
  have m1 := Int.emod_lt_of_pos n (show (0 : Int) < 9 by omega)
  obtain ⟨m, hm⟩ : ∃ m : Nat, n % 9 = m := ⟨(n % 9).toNat, by omega⟩
  rw [hm]
  obtain ⟨v, hv, v0, v1⟩ := arr4_at m (by omega)
  have m2 : (0 : Int) ≤ (m : Int) := by omega
  have m3 : (m : Int) < 9 := by omega
  have hcell : (W.alloc (.cells #[.int .i64 0, .int .i64 15, .int .i64 1, .int .i64 7, .int .i64 8, .int .i64 4, .int .i64 12, .int .i64 3, .int .i64 14] 3)).cell? ⟨W.heap.size, m, none⟩ = some (.int .i64 v) := (cell_of_row _ W.heap.size m arr4 3 (0, 0) (heap_alloc_new W _)).trans hv
  have hbz := below_alloc hb (.cells #[.int .i64 0, .int .i64 15, .int .i64 1, .int .i64 7, .int .i64 8, .int .i64 4, .int .i64 12, .int .i64 3, .int .i64 14] 3)
  have HB := Lib.hid hbz
  have V0 := Lib.hid v0
  have V1 := Lib.hid v1
  have hw : wrap64 (1 * v) = 1 * v := by unfold wrap64; omega
  clear hv hbz hb m0 m1 hm v0 v1
  go_wp2_with fail
  go_ret
  have h0 := V0.out
  have h1 := V1.out
  exact ⟨_, rfl, by omega, by omega, (fun h => by cases h), HB.out⟩
set_option maxRecDepth 100000 in
set_option maxHeartbeats 1600000 in
theorem op_M2 (n : Int) (w : World) : Calls Try.prog 77 #[.string ⟨#[77, 50]⟩, .int .i64 n] w (OpE false w) := by
  go_enter Try.func77, Try.ntmps77
  go_wp2_with fail
  refine (within81 n 9 w (by omega) (by omega)).mono ?_
  rintro e W ⟨rfl, hb⟩
  have m0 := Int.emod_nonneg n (show (9 : Int) ≠ 0 by omega)
  have m1 := Int.emod_lt_of_pos n (show (0 : Int) < 9 by omega)
  obtain ⟨m, hm⟩ : ∃ m : Nat, n % 9 = m := ⟨(n % 9).toNat, by omega⟩
  rw [hm]
  obtain ⟨v, hv, v0, v1⟩ := arr4_at m (by omega)
  have m2 : (0 : Int) ≤ (m : Int) := by omega
  have m3 : (m : Int) < 9 := by omega
  have hcell : (W.alloc (.cells #[.int .i64 0, .int .i64 15, .int .i64 1, .int .i64 7, .int .i64 8, .int .i64 4, .int .i64 12, .int .i64 3, .int .i64 14] 3)).cell? ⟨W.heap.size, m, none⟩ = some (.int .i64 v) := (cell_of_row _ W.heap.size m arr4 3 (0, 0) (heap_alloc_new W _)).trans hv
  have hbz := below_alloc hb (.cells #[.int .i64 0, .int .i64 15, .int .i64 1, .int .i64 7, .int .i64 8, .int .i64 4, .int .i64 12, .int .i64 3, .int .i64 14] 3)
  have HB := Lib.hid hbz
  have V0 := Lib.hid v0
  have V1 := Lib.hid v1
  have hw : wrap64 (2 * v) = 2 * v := by unfold wrap64; omega
  clear hv hbz hb m0 m1 hm v0 v1
  go_wp2_with fail
  go_ret
  have h0 := V0.out
  have h1 := V1.out
  exact ⟨_, rfl, by omega, by omega, (fun h => by cases h), HB.out⟩
set_option maxRecDepth 100000 in
set_option maxHeartbeats 1600000 in
theorem op_M4 (n : Int) (w : World) : Calls Try.prog 77 #[.string ⟨#[77, 52]⟩, .int .i64 n] w (OpE false w) := by
  go_enter Try.func77, Try.ntmps77
  go_wp2_with fail
  refine (within81 n 9 w (by omega) (by omega)).mono ?_
  rintro e W ⟨rfl, hb⟩
  have m0 := Int.emod_nonneg n (show (9 : Int) ≠ 0 by omega)
  have m1 := Int.emod_lt_of_pos n (show (0 : Int) < 9 by omega)
  obtain ⟨m, hm⟩ : ∃ m : Nat, n % 9 = m := ⟨(n % 9).toNat, by omega⟩
  rw [hm]
  obtain ⟨v, hv, v0, v1⟩ := arr4_at m (by omega)
  have m2 : (0 : Int) ≤ (m : Int) := by omega
  have m3 : (m : Int) < 9 := by omega
  have hcell : (W.alloc (.cells #[.int .i64 0, .int .i64 15, .int .i64 1, .int .i64 7, .int .i64 8, .int .i64 4, .int .i64 12, .int .i64 3, .int .i64 14] 3)).cell? ⟨W.heap.size, m, none⟩ = some (.int .i64 v) := (cell_of_row _ W.heap.size m arr4 3 (0, 0) (heap_alloc_new W _)).trans hv
  have hbz := below_alloc hb (.cells #[.int .i64 0, .int .i64 15, .int .i64 1, .int .i64 7, .int .i64 8, .int .i64 4, .int .i64 12, .int .i64 3, .int .i64 14] 3)
  have HB := Lib.hid hbz
  have V0 := Lib.hid v0
  have V1 := Lib.hid v1
  have hw : wrap64 (4 * v) = 4 * v := by unfold wrap64; omega
  clear hv hbz hb m0 m1 hm v0 v1
  go_wp2_with fail
  go_ret
  have h0 := V0.out
  have h1 := V1.out
  exact ⟨_, rfl, by omega, by omega, (fun h => by cases h), HB.out⟩
set_option maxRecDepth 100000 in
set_option maxHeartbeats 1600000 in
theorem op_O1 (n : Int) (w : World) : Calls Try.prog 77 #[.string ⟨#[79, 49]⟩, .int .i64 n] w (OpE false w) := by
  go_enter Try.func77, Try.ntmps77
  go_wp2_with fail
  refine (within81 n 9 w (by omega) (by omega)).mono ?_
  rintro e W ⟨rfl, hb⟩
  have m0 := Int.emod_nonneg n (show (9 : Int) ≠ 0 by omega)
  have m1 := Int.emod_lt_of_pos n (show (0 : Int) < 9 by omega)
  clear m0 m1
  go_wp2_with fail
  refine (within81 n 2 W (by omega) (by omega)).mono ?_
  rintro e W2 ⟨rfl, hb2⟩
  have m0 := Int.emod_nonneg n (show (2 : Int) ≠ 0 by omega)
  have m1 := Int.emod_lt_of_pos n (show (0 : Int) < 2 by omega)
  generalize n % 2 = m at *
  have HB := Lib.hid (hb.trans (hb2.mono hb.size))
  have hw1 : wrap64 (m - 0) = m - 0 := by unfold wrap64; omega
  have hw2 : wrap64 (2 * (m - 0)) = 2 * (m - 0) := by unfold wrap64; omega
  have V0 := Lib.hid m0
  have V1 := Lib.hid m1
  clear hb hb2 m0 m1
  go_wp2_with fail
  go_ret
  have h0 := V0.out
  have h1 := V1.out
  exact ⟨_, rfl, by omega, by omega, (fun h => by cases h), HB.out⟩
set_option maxRecDepth 100000 in
set_option maxHeartbeats 1600000 in
theorem op_I2 (n : Int) (w : World) : Calls Try.prog 77 #[.string ⟨#[73, 50]⟩, .int .i64 n] w (OpE false w) := by
  go_enter Try.func77, Try.ntmps77
  go_wp2_with fail
  refine (within81 n 9 w (by omega) (by omega)).mono ?_
  rintro e W ⟨rfl, hb⟩
  have m0 := Int.emod_nonneg n (show (9 : Int) ≠ 0 by omega)
  have m1 := Int.emod_lt_of_pos n (show (0 : Int) < 9 by omega)
  clear m0 m1
  go_wp2_with fail
  refine (within81 n 4 W (by omega) (by omega)).mono ?_
  rintro e W2 ⟨rfl, hb2⟩
  have m0 := Int.emod_nonneg n (show (4 : Int) ≠ 0 by omega)
  have m1 := Int.emod_lt_of_pos n (show (0 : Int) < 4 by omega)
  generalize n % 4 = m at *
  have HB := Lib.hid (hb.trans (hb2.mono hb.size))
  have hw1 : wrap64 (m - 0) = m - 0 := by unfold wrap64; omega
  have hw2 : wrap64 (2 * (m - 0)) = 2 * (m - 0) := by unfold wrap64; omega
  have V0 := Lib.hid m0
  have V1 := Lib.hid m1
  clear hb hb2 m0 m1
  go_wp2_with fail
  go_ret
  have h0 := V0.out
  have h1 := V1.out
  exact ⟨_, rfl, by omega, by omega, (fun h => by cases h), HB.out⟩
set_option maxRecDepth 100000 in
set_option maxHeartbeats 1600000 in
theorem op_O2 (n : Int) (w : World) : Calls Try.prog 77 #[.string ⟨#[79, 50]⟩, .int .i64 n] w (OpE false w) := by
  go_enter Try.func77, Try.ntmps77
  go_wp2_with fail
  refine (within81 n 9 w (by omega) (by omega)).mono ?_
  rintro e W ⟨rfl, hb⟩
  have m0 := Int.emod_nonneg n (show (9 : Int) ≠ 0 by omega)
  have m1 := Int.emod_lt_of_pos n (show (0 : Int) < 9 by omega)
  clear m0 m1
  go_wp2_with fail
  refine (within81 n 4 W (by omega) (by omega)).mono ?_
  rintro e W2 ⟨rfl, hb2⟩
  have m0 := Int.emod_nonneg n (show (4 : Int) ≠ 0 by omega)
  have m1 := Int.emod_lt_of_pos n (show (0 : Int) < 4 by omega)
  generalize n % 4 = m at *
  have HB := Lib.hid (hb.trans (hb2.mono hb.size))
  have hw1 : wrap64 (m - 0) = m - 0 := by unfold wrap64; omega
  have hw2 : wrap64 (2 * (m - 0)) = 2 * (m - 0) := by unfold wrap64; omega
  have V0 := Lib.hid m0
  have V1 := Lib.hid m1
  clear hb hb2 m0 m1
  go_wp2_with fail
  go_ret
  have h0 := V0.out
  have h1 := V1.out
  exact ⟨_, rfl, by omega, by omega, (fun h => by cases h), HB.out⟩
set_option maxRecDepth 100000 in
set_option maxHeartbeats 1600000 in
theorem op_T8 (n : Int) (w : World) : Calls Try.prog 77 #[.string ⟨#[84, 56]⟩, .int .i64 n] w (OpE false w) := by
  go_enter Try.func77, Try.ntmps77
  go_wp2_with fail
  refine (within81 n 9 w (by omega) (by omega)).mono ?_
  rintro e W ⟨rfl, hb⟩
  have m0 := Int.emod_nonneg n (show (9 : Int) ≠ 0 by omega)
  have m1 := Int.emod_lt_of_pos n (show (0 : Int) < 9 by omega)
  clear m0 m1
  go_wp2_with fail
  refine (within81 n 256 W (by omega) (by omega)).mono ?_
  rintro e W2 ⟨rfl, hb2⟩
  have m0 := Int.emod_nonneg n (show (256 : Int) ≠ 0 by omega)
  have m1 := Int.emod_lt_of_pos n (show (0 : Int) < 256 by omega)
  generalize n % 256 = m at *
  have HB := Lib.hid (hb.trans (hb2.mono hb.size))
  have hw1 : wrap64 (m - 128) = m - 128 := by unfold wrap64; omega
  have hw2 : wrap64 (2 * (m - 128)) = 2 * (m - 128) := by unfold wrap64; omega
  have V0 := Lib.hid m0
  have V1 := Lib.hid m1
  clear hb hb2 m0 m1
  go_wp2_with fail
  go_ret
  have h0 := V0.out
  have h1 := V1.out
  exact ⟨_, rfl, by omega, by omega, (fun h => by cases h), HB.out⟩
set_option maxRecDepth 100000 in
set_option maxHeartbeats 1600000 in
theorem op_T15 (n : Int) (w : World) : Calls Try.prog 77 #[.string ⟨#[84, 49, 53]⟩, .int .i64 n] w (OpE false w) := by
  go_enter Try.func77, Try.ntmps77
  go_wp2_with fail
  refine (within81 n 9 w (by omega) (by omega)).mono ?_
  rintro e W ⟨rfl, hb⟩
  have m0 := Int.emod_nonneg n (show (9 : Int) ≠ 0 by omega)
  have m1 := Int.emod_lt_of_pos n (show (0 : Int) < 9 by omega)
  clear m0 m1
  go_wp2_with fail
  refine (within81 n 32768 W (by omega) (by omega)).mono ?_
  rintro e W2 ⟨rfl, hb2⟩
  have m0 := Int.emod_nonneg n (show (32768 : Int) ≠ 0 by omega)
  have m1 := Int.emod_lt_of_pos n (show (0 : Int) < 32768 by omega)
  generalize n % 32768 = m at *
  have HB := Lib.hid (hb.trans (hb2.mono hb.size))
  have hw1 : wrap64 (m - 16384) = m - 16384 := by unfold wrap64; omega
  have hw2 : wrap64 (2 * (m - 16384)) = 2 * (m - 16384) := by unfold wrap64; omega
  have V0 := Lib.hid m0
  have V1 := Lib.hid m1
  clear hb hb2 m0 m1
  go_wp2_with fail
  go_ret
  have h0 := V0.out
  have h1 := V1.out
  exact ⟨_, rfl, by omega, by omega, (fun h => by cases h), HB.out⟩
set_option maxRecDepth 100000 in
set_option maxHeartbeats 1600000 in
theorem op_T24 (n : Int) (w : World) : Calls Try.prog 77 #[.string ⟨#[84, 50, 52]⟩, .int .i64 n] w (OpE false w) := by
  go_enter Try.func77, Try.ntmps77
  go_wp2_with fail
  refine (within81 n 9 w (by omega) (by omega)).mono ?_
  rintro e W ⟨rfl, hb⟩
  have m0 := Int.emod_nonneg n (show (9 : Int) ≠ 0 by omega)
  have m1 := Int.emod_lt_of_pos n (show (0 : Int) < 9 by omega)
  clear m0 m1
  go_wp2_with fail
  refine (within81 n 16777216 W (by omega) (by omega)).mono ?_
  rintro e W2 ⟨rfl, hb2⟩
  have m0 := Int.emod_nonneg n (show (16777216 : Int) ≠ 0 by omega)
  have m1 := Int.emod_lt_of_pos n (show (0 : Int) < 16777216 by omega)
  generalize n % 16777216 = m at *
  have HB := Lib.hid (hb.trans (hb2.mono hb.size))
  have hw1 : wrap64 (m - 8388608) = m - 8388608 := by unfold wrap64; omega
  have hw2 : wrap64 (2 * (m - 8388608)) = 2 * (m - 8388608) := by unfold wrap64; omega
  have V0 := Lib.hid m0
  have V1 := Lib.hid m1
  clear hb hb2 m0 m1
  go_wp2_with fail
  go_ret
  have h0 := V0.out
  have h1 := V1.out
  exact ⟨_, rfl, by omega, by omega, (fun h => by cases h), HB.out⟩
set_option maxRecDepth 100000 in
set_option maxHeartbeats 1600000 in
theorem op_L20 (n : Int) (w : World) : Calls Try.prog 77 #[.string ⟨#[76, 50, 48]⟩, .int .i64 n] w (OpE false w) := by
  go_enter Try.func77, Try.ntmps77
  go_wp2_with fail
  refine (within81 n 9 w (by omega) (by omega)).mono ?_
  rintro e W ⟨rfl, hb⟩
  have m0 := Int.emod_nonneg n (show (9 : Int) ≠ 0 by omega)
  have m1 := Int.emod_lt_of_pos n (show (0 : Int) < 9 by omega)
  clear m0 m1
  go_wp2_with fail
  refine (within81 n 1048576 W (by omega) (by omega)).mono ?_
  rintro e W2 ⟨rfl, hb2⟩
  have m0 := Int.emod_nonneg n (show (1048576 : Int) ≠ 0 by omega)
  have m1 := Int.emod_lt_of_pos n (show (0 : Int) < 1048576 by omega)
  generalize n % 1048576 = m at *
  have HB := Lib.hid (hb.trans (hb2.mono hb.size))
  have hw1 : wrap64 (m - 524288) = m - 524288 := by unfold wrap64; omega
  have hw2 : wrap64 (2 * (m - 524288)) = 2 * (m - 524288) := by unfold wrap64; omega
  have V0 := Lib.hid m0
  have V1 := Lib.hid m1
  clear hb hb2 m0 m1
  go_wp2_with fail
  go_ret
  have h0 := V0.out
  have h1 := V1.out
  exact ⟨_, rfl, by omega, by omega, (fun h => by cases h), HB.out⟩
def arr5 : Array Value := #[.int .i64 0, .int .i64 32767, .int .i64 (-32768), .int .i64 (-1), .int .i64 1, .int .i64 255, .int .i64 (-256), .int .i64 4660, .int .i64 (-4660)]
theorem arr5_at : ∀ k : Nat, k < 9 → ∃ v : Int, arr5[k]? = some (.int .i64 v) ∧ -32768 ≤ v ∧ v ≤ 32767
  | 0, _ => ⟨_, rfl, by decide, by decide⟩
  | 1, _ => ⟨_, rfl, by decide, by decide⟩
  | 2, _ => ⟨_, rfl, by decide, by decide⟩
  | 3, _ => ⟨_, rfl, by decide, by decide⟩
  | 4, _ => ⟨_, rfl, by decide, by decide⟩
  | 5, _ => ⟨_, rfl, by decide, by decide⟩
  | 6, _ => ⟨_, rfl, by decide, by decide⟩
  | 7, _ => ⟨_, rfl, by decide, by decide⟩
  | 8, _ => ⟨_, rfl, by decide, by decide⟩
  | k + 9, h => absurd h (by omega)
set_option maxRecDepth 100000 in
set_option maxHeartbeats 1600000 in
theorem op_S16 (n : Int) (w : World) : Calls Try.prog 77 #[.string ⟨#[83, 49, 54]⟩, .int .i64 n] w (OpE false w) := by
  go_enter Try.func77, Try.ntmps77
  go_wp2_with fail
  refine (within81 n 9 w (by omega) (by omega)).mono ?_
  rintro e W ⟨rfl, hb⟩
  have m0 := Int.emod_nonneg n (show (9 : Int) ≠ 0 by omega)
  have m1 := Int.emod_lt_of_pos n (show (0 : Int) < 9 by omega)
  obtain ⟨m, hm⟩ : ∃ m : Nat, n % 9 = m := ⟨(n % 9).toNat, by omega⟩
  rw [hm]
  obtain ⟨v, hv, v0, v1⟩ := arr5_at m (by omega)
  have m2 : (0 : Int) ≤ (m : Int) := by omega
  have m3 : (m : Int) < 9 := by omega
  have hcell : (W.alloc (.cells #[.int .i64 0, .int .i64 32767, .int .i64 (-32768), .int .i64 (-1), .int .i64 1, .int .i64 255, .int .i64 (-256), .int .i64 4660, .int .i64 (-4660)] 3)).cell? ⟨W.heap.size, m, none⟩ = some (.int .i64 v) := (cell_of_row _ W.heap.size m arr5 3 (0, 0) (heap_alloc_new W _)).trans hv
  have hbz := below_alloc hb (.cells #[.int .i64 0, .int .i64 32767, .int .i64 (-32768), .int .i64 (-1), .int .i64 1, .int .i64 255, .int .i64 (-256), .int .i64 4660, .int .i64 (-4660)] 3)
  have HB := Lib.hid hbz
  have V0 := Lib.hid v0
  have V1 := Lib.hid v1
  have hw : wrap64 (1 * v) = 1 * v := by unfold wrap64; omega
  clear hv hbz hb m0 m1 hm v0 v1
  go_wp2_with fail
  go_ret
  have h0 := V0.out
  have h1 := V1.out
  exact ⟨_, rfl, by omega, by omega, (fun h => by cases h), HB.out⟩
def arr6 : Array Value := #[.int .i64 0, .int .i64 255, .int .i64 256, .int .i64 65280, .int .i64 (-1), .int .i64 (-2), .int .i64 16711680, .int .i64 (-256), .int .i64 2130706432]
theorem arr6_at : ∀ k : Nat, k < 9 → ∃ v : Int, arr6[k]? = some (.int .i64 v) ∧ -256 ≤ v ∧ v ≤ 2130706432
  | 0, _ => ⟨_, rfl, by decide, by decide⟩
  | 1, _ => ⟨_, rfl, by decide, by decide⟩
  | 2, _ => ⟨_, rfl, by decide, by decide⟩
  | 3, _ => ⟨_, rfl, by decide, by decide⟩
  | 4, _ => ⟨_, rfl, by decide, by decide⟩
  | 5, _ => ⟨_, rfl, by decide, by decide⟩
  | 6, _ => ⟨_, rfl, by decide, by decide⟩
  | 7, _ => ⟨_, rfl, by decide, by decide⟩
  | 8, _ => ⟨_, rfl, by decide, by decide⟩
  | k + 9, h => absurd h (by omega)
set_option maxRecDepth 100000 in
set_option maxHeartbeats 1600000 in
theorem op_C8 (n : Int) (w : World) : Calls Try.prog 77 #[.string ⟨#[67, 56]⟩, .int .i64 n] w (OpE false w) := by
  go_enter Try.func77, Try.ntmps77
  go_wp2_with fail
  refine (within81 n 9 w (by omega) (by omega)).mono ?_
  rintro e W ⟨rfl, hb⟩
  have m0 := Int.emod_nonneg n (show (9 : Int) ≠ 0 by omega)
  have m1 := Int.emod_lt_of_pos n (show (0 : Int) < 9 by omega)
  obtain ⟨m, hm⟩ : ∃ m : Nat, n % 9 = m := ⟨(n % 9).toNat, by omega⟩
  rw [hm]
  obtain ⟨v, hv, v0, v1⟩ := arr6_at m (by omega)
  have m2 : (0 : Int) ≤ (m : Int) := by omega
  have m3 : (m : Int) < 9 := by omega
  have hcell : (W.alloc (.cells #[.int .i64 0, .int .i64 255, .int .i64 256, .int .i64 65280, .int .i64 (-1), .int .i64 (-2), .int .i64 16711680, .int .i64 (-256), .int .i64 2130706432] 3)).cell? ⟨W.heap.size, m, none⟩ = some (.int .i64 v) := (cell_of_row _ W.heap.size m arr6 3 (0, 0) (heap_alloc_new W _)).trans hv
  have hbz := below_alloc hb (.cells #[.int .i64 0, .int .i64 255, .int .i64 256, .int .i64 65280, .int .i64 (-1), .int .i64 (-2), .int .i64 16711680, .int .i64 (-256), .int .i64 2130706432] 3)
  have HB := Lib.hid hbz
  have V0 := Lib.hid v0
  have V1 := Lib.hid v1
  have hw : wrap64 (1 * v) = 1 * v := by unfold wrap64; omega
  clear hv hbz hb m0 m1 hm v0 v1
  go_wp2_with fail
  go_ret
  have h0 := V0.out
  have h1 := V1.out
  exact ⟨_, rfl, by omega, by omega, (fun h => by cases h), HB.out⟩
def kindsL : List (List Nat × Bool) := [([88], true), ([89], true), ([68], true), ([65], true), ([66], true), ([85, 53], false), ([85, 55], false), ([79, 53], false), ([77, 49], false), ([73, 52], false), ([77, 50], false), ([77, 52], false), ([79, 49], false), ([73, 50], false), ([79, 50], false), ([84, 56], false), ([84, 49, 53], false), ([84, 50, 52], false), ([76, 50, 48], false), ([83, 49, 54], false), ([67, 56], false)]
theorem op_any : ∀ q ∈ kindsL, ∀ (n : Int) (w : World), Calls Try.prog 77 #[.string (ofN q.1), .int .i64 n] w (OpE q.2 w) := by
  intro q hq n w
  simp only [kindsL, List.mem_cons, List.not_mem_nil, or_false] at hq
  rcases hq with rfl | rfl | rfl | rfl | rfl | rfl | rfl | rfl | rfl | rfl | rfl | rfl | rfl | rfl | rfl | rfl | rfl | rfl | rfl | rfl | rfl
  · exact op_X n w
  · exact op_Y n w
  · exact op_D n w
  · exact op_A n w
  · exact op_B n w
  · exact op_U5 n w
  · exact op_U7 n w
  · exact op_O5 n w
  · exact op_M1 n w
  · exact op_I4 n w
  · exact op_M2 n w
  · exact op_M4 n w
  · exact op_O1 n w
  · exact op_I2 n w
  · exact op_O2 n w
  · exact op_T8 n w
  · exact op_T15 n w
  · exact op_T24 n w
  · exact op_L20 n w
  · exact op_S16 n w
  · exact op_C8 n w
end Go.Proofs.Ytifdkkkcecpjoaa
end
section
/-
  The words of an instruction's kinds, and which are registers'.
-/
namespace Go.Proofs.Ytifdkkkcecpjoaa
set_option linter.unusedVariables false
set_option linter.unusedSimpArgs false
open Go.RowKit Go.Proofs.YtifdkkkcecpjoaaW Go.Proofs.YtifdkkkcecpjoaaW.PrintWords Tx
set_option maxRecDepth 100000
def wordsOK (op : Nat) : Bool := match letterpressref2_Kinds.f 5 (op : Int) with
  | some s => match letterpressref2_Words.f 60 s with
    | some r => decide (r.length ≤ 5) && r.all (fun x => kindsL.any (fun q => decide (x.data.toList = q.1.map UInt8.ofNat)))
    | none => false
  | none => false
def nameOK (op : Nat) : Bool := match letterpressref2_Name.f 5 (op : Int) with
  | some s => decide (s.size ≤ 12)
  | none => false
theorem words_all : (List.range 66).all wordsOK = true := by kernel_rfl
theorem names_all : (List.range 66).all nameOK = true := by kernel_rfl
theorem words_op {op : Nat} (h : op < 66) : ∃ s r, letterpressref2_Kinds.f 5 (op : Int) = some s ∧ letterpressref2_Words.f 60 s = some r ∧ r.length ≤ 5 ∧ ∀ x ∈ r, ∃ q ∈ kindsL, x = ofN q.1 := by
  have hop := List.all_eq_true.1 words_all op (List.mem_range.2 h)
  unfold wordsOK at hop
  split at hop
  · rename_i s hs
    split at hop
    · rename_i r hr
      rw [Bool.and_eq_true, decide_eq_true_eq, List.all_eq_true] at hop
      refine ⟨s, r, hs, hr, hop.1, fun x hx => ?_⟩
      obtain ⟨q, hq, hd⟩ := List.any_eq_true.1 (hop.2 x hx)
      refine ⟨q, hq, ?_⟩
      have := of_decide_eq_true hd
      apply ByteArray.ext
      apply Array.ext'
      simpa [ofN] using this
    · cases hop
  · cases hop
theorem name_op {op : Nat} (h : op < 66) : ∃ s, letterpressref2_Name.f 5 (op : Int) = some s ∧ s.size ≤ 12 := by
  have hop := List.all_eq_true.1 names_all op (List.mem_range.2 h)
  unfold nameOK at hop
  split at hop
  · rename_i s hs
    exact ⟨s, hs, of_decide_eq_true hop⟩
  · cases hop
theorem reg_op : ∀ q ∈ kindsL, letterpresslaw4_register.f 30 (ofN q.1) = some q.2 := by
  intro q hq
  simp only [kindsL, List.mem_cons, List.not_mem_nil, or_false] at hq
  rcases hq with rfl | rfl | rfl | rfl | rfl | rfl | rfl | rfl | rfl | rfl | rfl | rfl | rfl | rfl | rfl | rfl | rfl | rfl | rfl | rfl | rfl <;> kernel_rfl
/-- An operand that may be: a register's number, or an expression. -/
def goodA (x : S104) : Prop := (0 ≤ x.f0 ∧ x.f0 ≤ 31) ∨ (x.f0 = -1 ∧ goodE 9 x.f1)
end Go.Proofs.Ytifdkkkcecpjoaa
end
section
/-
  An operand of a raw statement.
-/
namespace Go.Proofs.Ytifdkkkcecpjoaa
set_option linter.unusedVariables false
set_option linter.unusedSimpArgs false
open Go.RowKit Go.Proofs.YtifdkkkcecpjoaaW Go.Proofs.YtifdkkkcecpjoaaW.PrintWords Tx
attribute [local go_sem ↓] Go.wp_at_zero Go.wp_at_succ
def aAgg (x : S104) (v : Value) : Value := .agg #[.int .i64 x.f0, .int .i64 x.f1.f0, .int .i64 x.f1.f1, .string x.f1.f2, v]
def sAgg (x : S63) (A3 A4 : Option Addr) (c3 c4 : Nat) : Value := .agg #[.int .i64 x.f0, .int .i64 x.f1, .int .i64 x.f2, .slice A3 x.f3.length c3, .slice A4 x.f4.length c4, .bool x.f5]
def VaE (w : World) (e : Ending) (w' : World) : Prop := ∃ (x : S104) (v : Value), e = .returned (aAgg x v) ∧ goodA x ∧ HasE w' w.heap.size x.f1 v ∧ Below w.heap.size w w'
def put5A (W : World) (r : Nat) (x : S104) (v : Value) : World := ((((W.setCell ⟨r, 0, none⟩ (.int .i64 x.f0)).setCell ⟨r, 1, none⟩ (.int .i64 x.f1.f0)).setCell ⟨r, 2, none⟩ (.int .i64 x.f1.f1)).setCell ⟨r, 3, none⟩ (.string x.f1.f2)).setCell ⟨r, 4, none⟩ v
theorem put5_other {W : World} {r k : Nat} (x : S104) (v : Value) (h : k ≠ r) : (put5A W r x v).heap[k]? = W.heap[k]? := by
  unfold put5A
  exact (Below.heap_setCell _ ⟨r, 4, none⟩ _ k h).trans ((Below.heap_setCell _ ⟨r, 3, none⟩ _ k h).trans ((Below.heap_setCell _ ⟨r, 2, none⟩ _ k h).trans ((Below.heap_setCell _ ⟨r, 1, none⟩ _ k h).trans (Below.heap_setCell _ ⟨r, 0, none⟩ _ k h))))
theorem put5_end {w W : World} {r B0 : Nat} {t : TypeId} {a b c d e : Value} {x : S104} {v : Value} (hq : W.heap[r]? = some (.cells #[a, b, c, d, e] t (0, 0))) (hr : w.heap.size ≤ r) (hB : r < B0) (hb : Below w.heap.size w W) (hy : HasE W B0 x.f1 v) :
    (put5A W r x v).heap[r]? = some (.cells #[.int .i64 x.f0, .int .i64 x.f1.f0, .int .i64 x.f1.f1, .string x.f1.f2, v] t (0, 0)) ∧ HasE (put5A W r x v) B0 x.f1 v ∧ Below w.heap.size w (put5A W r x v) := by
  refine ⟨by simp [put5A, World.setCell, Array.getElem?_modify, hq], ⟨?_⟩, ?_⟩
  · have h := Kd.R_bound (Kd.R_lower hy.r (Nat.le_refl B0))
    exact Kd.R_mono (Kd.R_step h (fun k hk _ => put5_other x v (show k ≠ r by have := hk.2.1; omega))) (fun _ _ => trivial)
  · unfold put5A
    exact ((((hb.setCell hr _).setCell hr _).setCell hr _).setCell hr _).setCell hr _
theorem box5 {W : World} {q : Nat} {t : TypeId} {a b c d e : Value} (h : W.heap[q]? = some (.cells #[a, b, c, d, e] t (0, 0))) :
    W.cell? ⟨q, 0, none⟩ = some a ∧ W.cell? ⟨q, 1, none⟩ = some b ∧ W.cell? ⟨q, 2, none⟩ = some c ∧ W.cell? ⟨q, 3, none⟩ = some d ∧ W.cell? ⟨q, 4, none⟩ = some e ∧ ∀ o, W.frozen? ⟨q, o, none⟩ = false :=
  ⟨cell_of_row W q 0 _ t (0, 0) h, cell_of_row W q 1 _ t (0, 0) h, cell_of_row W q 2 _ t (0, 0) h, cell_of_row W q 3 _ t (0, 0) h, cell_of_row W q 4 _ t (0, 0) h, fun o => by simp [World.frozen?, h]⟩
/-- The two boxes at the start. -/
theorem start63 {w W1 : World} {cs : Array Value} (hW1 : W1 = (w.alloc (.cells cs 63)).alloc (.cells #[.int .i64 0, .int .i64 0, .int .i64 0, .string ⟨#[]⟩, .slice none 0 0] 104)) :
    Below w.heap.size w W1 ∧ W1.heap[w.heap.size]? = some (.cells cs 63 (0, 0)) ∧ W1.heap[w.heap.size + 1]? = some (.cells #[.int .i64 0, .int .i64 0, .int .i64 0, .string ⟨#[]⟩, .slice none 0 0] 104 (0, 0)) ∧ w.heap.size + 1 < W1.heap.size := by
  rw [hW1]
  refine ⟨((Below.refl _ _).alloc (Nat.le_refl _) _).alloc (by simp) _, (Below.heap_alloc _ _ _ (by simp)).trans (heap_alloc_new w _), ?_, by simp⟩
  have := heap_alloc_new (w.alloc (.cells cs 63)) (.cells #[.int .i64 0, .int .i64 0, .int .i64 0, .string ⟨#[]⟩, .slice none 0 0] 104)
  simpa using this
set_option maxRecDepth 100000 in
set_option maxHeartbeats 1600000 in
theorem value_reg {q : List Nat × Bool} (hq : q ∈ kindsL) (hr : q.2 = true) (x : S63) (A3 A4 : Option Addr) (c3 c4 : Nat) (n : Int) (w : World) :
    Calls Try.prog 63 #[sAgg x A3 A4 c3 c4, .string (ofN q.1), .int .i64 n] w (VaE w) := by
  have h1 := reg_op q hq
  have h2 := op_any q hq n
  rw [hr] at h1 h2
  generalize ofN q.1 = s at *
  obtain ⟨W1, hW1⟩ : ∃ W1, W1 = (w.alloc (.cells #[.int .i64 x.f0, .int .i64 x.f1, .int .i64 x.f2, .slice A3 x.f3.length c3, .slice A4 x.f4.length c4, .bool x.f5] 63)).alloc (.cells #[.int .i64 0, .int .i64 0, .int .i64 0, .string ⟨#[]⟩, .slice none 0 0] 104) := ⟨_, rfl⟩
  obtain ⟨b1, -, g1, g2⟩ := start63 hW1
  have HB1 := Lib.hid b1
  have HQ1 := Lib.hid g1
  have HS1 := Lib.hid g2
  have HW1 := Lib.hid hW1
  clear hW1 b1 g1 g2
  unfold sAgg
  go_enter Try.func63, Try.ntmps63
  go_upto_region 1 with fail
  rw [← HW1.out]
  go_wp2_with fail
  refine (letterpresslaw4_register.calls 30 s true W1 h1).mono ?_
  rintro e w' ⟨rfl, ⟨nd, rfl⟩⟩
  go_wp2_with fail
  refine (h2 (W1.drewN nd)).mono ?_
  rintro e W3 ⟨v, rfl, v0, v1, hv, hb⟩
  obtain ⟨hv0, hv1⟩ := hv rfl
  have hq3 := (hb.block _ HS1.out).trans HQ1.out
  have hbd : Below w.heap.size w (W1.drewN nd) := by repeat (first | exact HB1.out | apply pw_below_drewN)
  have hb3 : Below w.heap.size w W3 := hbd.trans (hb.mono hbd.size)
  clear hbd
  obtain ⟨y0, y1, y2, y3, y4, fz⟩ := box5 hq3
  have fz0 := fz 0
  have fz1 := fz 1
  have fz2 := fz 2
  have fz3 := fz 3
  have fz4 := fz 4
  obtain ⟨p0, p1, p2⟩ := put5_end (x := ⟨v, z102⟩) (v := .slice none 0 0) hq3 (Nat.le_succ _) (Nat.lt_succ_self _) hb3 (HasE.nil W3 _ _ rfl)
  obtain ⟨q0, q1, q2, q3, q4, -⟩ := box5 p0
  have p3 := p1.lower (base' := w.heap.size) (by omega)
  have HV0 := Lib.hid hv0
  have HV1 := Lib.hid hv1
  clear fz hq3 hb3 hb p0 p1 v0 v1 hv hv0 hv1
  go_wp2_with fail
  refine bodyPost_ret (v := aAgg ⟨v, z102⟩ (.slice none 0 0)) (by simp only [put5A, z102] at q0 q1 q2 q3 q4; simp [results, Try.results63, go_sem, q0, q1, q2, q3, q4, aAgg, z102]) rfl ⟨⟨v, z102⟩, _, rfl, .inl ⟨HV0.out, HV1.out⟩, p3, p2⟩
end Go.Proofs.Ytifdkkkcecpjoaa
end
section
/-
  An operand of a raw statement that is an expression.
-/
namespace Go.Proofs.Ytifdkkkcecpjoaa
set_option linter.unusedVariables false
set_option linter.unusedSimpArgs false
open Go.RowKit Go.Proofs.YtifdkkkcecpjoaaW Go.Proofs.YtifdkkkcecpjoaaW.PrintWords Tx
attribute [local go_sem ↓] Go.wp_at_zero Go.wp_at_succ
def put4A (W : World) (r : Nat) (y : S102) (v : Value) : World := (((W.setCell ⟨r, 1, none⟩ (.int .i64 y.f0)).setCell ⟨r, 2, none⟩ (.int .i64 y.f1)).setCell ⟨r, 3, none⟩ (.string y.f2)).setCell ⟨r, 4, none⟩ v
theorem put4A_other {W : World} {r k : Nat} (y : S102) (v : Value) (h : k ≠ r) : (put4A W r y v).heap[k]? = W.heap[k]? := by
  unfold put4A
  exact (Below.heap_setCell _ ⟨r, 4, none⟩ _ k h).trans ((Below.heap_setCell _ ⟨r, 3, none⟩ _ k h).trans ((Below.heap_setCell _ ⟨r, 2, none⟩ _ k h).trans (Below.heap_setCell _ ⟨r, 1, none⟩ _ k h)))
theorem put4A_end {w W : World} {r B0 : Nat} {t : TypeId} {a b c d e : Value} {y : S102} {v : Value} (hq : W.heap[r]? = some (.cells #[a, b, c, d, e] t (0, 0))) (hr : w.heap.size ≤ r) (hB : r < B0) (hb : Below w.heap.size w W) (hy : HasE W B0 y v) :
    (put4A W r y v).heap[r]? = some (.cells #[a, .int .i64 y.f0, .int .i64 y.f1, .string y.f2, v] t (0, 0)) ∧ HasE (put4A W r y v) B0 y v ∧ Below w.heap.size w (put4A W r y v) := by
  refine ⟨by simp [put4A, World.setCell, Array.getElem?_modify, hq], ⟨?_⟩, ?_⟩
  · have h := Kd.R_bound (Kd.R_lower hy.r (Nat.le_refl B0))
    exact Kd.R_mono (Kd.R_step h (fun k hk _ => put4A_other y v (show k ≠ r by have := hk.2.1; omega))) (fun _ _ => trivial)
  · unfold put4A
    exact (((hb.setCell hr _).setCell hr _).setCell hr _).setCell hr _
set_option maxRecDepth 100000 in
set_option maxHeartbeats 1600000 in
theorem value_exp {q : List Nat × Bool} (hq : q ∈ kindsL) (hr : q.2 = false) (x : S63) (A3 A4 : Option Addr) (c3 c4 : Nat) (n : Int) (w : World) (hC : Kd.C k99 w A4 x.f4.length x.f4) (hd : ∀ y ∈ x.f4, deepR 8 y) (hl : x.f4.length ≤ 1000000000000000) :
    Calls Try.prog 63 #[sAgg x A3 A4 c3 c4, .string (ofN q.1), .int .i64 n] w (VaE w) := by
  have h1 := reg_op q hq
  have h2 := op_any q hq n
  have hsz : 0 < (ofN q.1).size := by
    simp only [kindsL, List.mem_cons, List.not_mem_nil, or_false] at hq
    rcases hq with rfl | rfl | rfl | rfl | rfl | rfl | rfl | rfl | rfl | rfl | rfl | rfl | rfl | rfl | rfl | rfl | rfl | rfl | rfl | rfl | rfl <;> (rw [ofN_size]; decide)
  rw [hr] at h1 h2
  generalize ofN q.1 = s at *
  obtain ⟨b, hb8⟩ : ∃ b : Int, ∀ h : 0 < s.size, ((s[0]'h).toNat : Int) = b := ⟨((s[0]'hsz).toNat : Int), fun _ => rfl⟩
  obtain ⟨W1, hW1⟩ : ∃ W1, W1 = (w.alloc (.cells #[.int .i64 x.f0, .int .i64 x.f1, .int .i64 x.f2, .slice A3 x.f3.length c3, .slice A4 x.f4.length c4, .bool x.f5] 63)).alloc (.cells #[.int .i64 0, .int .i64 0, .int .i64 0, .string ⟨#[]⟩, .slice none 0 0] 104) := ⟨_, rfl⟩
  obtain ⟨b1, g0, g1, g2⟩ := start63 hW1
  have HB1 := Lib.hid b1
  have HW1 := Lib.hid hW1
  have H2 := Lib.hid h2
  have HC := Lib.hid hC
  have HD := Lib.hid hd
  have HLn := Lib.hid hl
  clear hW1 h2 hC hd hl
  unfold sAgg
  go_enter Try.func63, Try.ntmps63
  go_upto_region 1 with fail
  rw [← HW1.out]
  go_wp2_with fail
  refine (letterpresslaw4_register.calls 30 s false W1 h1).mono ?_
  rintro e w' ⟨rfl, ⟨nd, rfl⟩⟩
  obtain ⟨V0, hV0⟩ : ∃ V0, V0 = W1.drewN nd := ⟨_, rfl⟩
  rw [← hV0]
  have hbd : Below w.heap.size w V0 := by rw [hV0]; repeat (first | exact HB1.out | apply pw_below_drewN)
  have hh : V0.heap = W1.heap := by rw [hV0]; rfl
  rw [← hh] at g0 g1 g2
  clear hV0 hh
  obtain ⟨W2, hW2⟩ : ∃ W2, W2 = V0.alloc (.cells #[.int .i64 (-1), .int .i64 0, .int .i64 0, .string ⟨#[]⟩, .slice none 0 0] 104) := ⟨_, rfl⟩
  have HB2 := Lib.hid (show Below w.heap.size w W2 by rw [hW2]; exact below_alloc hbd _)
  have HG0 := Lib.hid (show W2.heap[w.heap.size]? = some (.cells #[.int .i64 x.f0, .int .i64 x.f1, .int .i64 x.f2, .slice A3 x.f3.length c3, .slice A4 x.f4.length c4, .bool x.f5] 63 (0, 0)) by rw [hW2]; exact (Below.heap_alloc _ _ _ (by omega)).trans g0)
  have HG1 := Lib.hid (show W2.heap[w.heap.size + 1]? = some (.cells #[.int .i64 0, .int .i64 0, .int .i64 0, .string ⟨#[]⟩, .slice none 0 0] 104 (0, 0)) by rw [hW2]; exact (Below.heap_alloc _ _ _ (by omega)).trans g1)
  have HG2 := Lib.hid (show W2.heap[V0.heap.size]? = some (.cells #[.int .i64 (-1), .int .i64 0, .int .i64 0, .string ⟨#[]⟩, .slice none 0 0] 104 (0, 0)) by rw [hW2]; exact heap_alloc_new V0 _)
  have HS1 := Lib.hid g2
  have HS2 := Lib.hid (show V0.heap.size < W2.heap.size by rw [hW2]; simp)
  have HW2 := Lib.hid hW2
  clear hW2 hbd g0 g1 g2 h1
  go_wp2_with fail
  rw [← HW2.out]
  refine (within51 n 5 W2 (by omega) (by omega)).mono ?_
  rintro e W3 ⟨rfl, hk3'⟩
  have HK3 := Lib.hid hk3'
  clear hk3'
  have hq0 := (HK3.out.block _ (Nat.lt_trans (Nat.lt_trans (Nat.lt_succ_self _) HS1.out) HS2.out)).trans HG0.out
  have k4 : W3.cell? ⟨w.heap.size, 4, none⟩ = some (.slice A4 x.f4.length c4) := cell_of_row _ _ 4 _ 63 (0, 0) hq0
  clear hq0
  generalize n % 5 = m
  obtain ⟨ln, hln⟩ : ∃ ln, ln = x.f4.length := ⟨_, rfl⟩
  have HLN := Lib.hid hln
  rw [← hln] at k4
  rcases (show (m = 0 ∧ 0 < ln) ∨ (m = 0 ∧ ¬ 0 < ln) ∨ m ≠ 0 by omega) with hA | hA | hA
  · obtain ⟨ha1, ha2⟩ := hA
    have t1 : (m == 0) = true := by simp [ha1]
    have t2 : decide ((ln : Int) > 0) = true := decide_eq_true (by omega)
    have t3 : (0 : Int) < (ln : Int) := by omega
    have hone := one_any (c := c4) (Kd.C_below HC.out (HB2.out.trans (HK3.out.mono HB2.out.size))) HD.out HLn.out
    rw [← hln] at hone
    clear hln
    go_wp2_with fail
    refine hone.mono ?_
    rintro e W4 ⟨y, v, rfl, hg, hz, hb⟩
    clear hone
    obtain ⟨A', c', rfl, -⟩ := hz.form
    have hk4 := HK3.out.trans (hb.mono HK3.out.size)
    have HQ6 := (hk4.block _ (Nat.lt_trans HS1.out HS2.out)).trans HG1.out
    have HQ7 := (hk4.block _ HS2.out).trans HG2.out
    obtain ⟨e1, e2, e3⟩ := put4A_end (w := w) HQ7 (Nat.le_of_lt (Nat.lt_trans (Nat.lt_succ_self _) HS1.out)) (Nat.lt_of_lt_of_le HS2.out HK3.out.size) (HB2.out.trans (hk4.mono HB2.out.size)) hz
    have e4 := (put4A_other (r := V0.heap.size) (k := w.heap.size + 1) y (.slice A' y.f3.length c') (show w.heap.size + 1 ≠ V0.heap.size by have := HS1.out; omega)).trans HQ6
    obtain ⟨P, hP⟩ : ∃ P, P = put4A W4 V0.heap.size y (.slice A' y.f3.length c') := ⟨_, rfl⟩
    rw [← hP] at e1 e2 e3 e4
    obtain ⟨f1, f2, f3⟩ := put5_end (x := ⟨-1, y⟩) (v := (.slice A' y.f3.length c')) e4 (Nat.le_succ _) (show w.heap.size + 1 < W3.heap.size from Nat.lt_trans HS1.out (Nat.lt_of_lt_of_le HS2.out HK3.out.size)) e3 e2
    have f4 := f2.lower (base' := w.heap.size) (Nat.le_of_lt (Nat.lt_trans (Nat.lt_succ_self _) (Nat.lt_trans HS1.out (Nat.lt_of_lt_of_le HS2.out HK3.out.size))))
    simp only [put4A] at hP
    have HP := Lib.hid hP
    have HE1 := Lib.hid e1
    have HE4 := Lib.hid e4
    have HF1 := Lib.hid f1
    have HF3 := Lib.hid f3
    have HF4 := Lib.hid f4
    obtain ⟨y0, y1, y2, y3, y4, fz⟩ := box5 HQ7
    have fz0 := fz 0
    have fz1 := fz 1
    have fz2 := fz 2
    have fz3 := fz 3
    have fz4 := fz 4
    clear hP e1 e2 e3 e4 f1 f2 f3 f4 fz HQ6 HQ7 hz hb hk4
    unfold eAgg
    dsimp only
    rename_i KB hB
    refine hB _ _ ?_
    clear hB
    go_upto_region 9 with fail
    rw [← HP.out]
    clear y0 y1 y2 y3 y4 fz0 fz1 fz2 fz3 fz4
    obtain ⟨m0, m1, m2, m3, m4, -⟩ := box5 HE1.out
    obtain ⟨y0, y1, y2, y3, y4, fz⟩ := box5 HE4.out
    have fz0 := fz 0
    have fz1 := fz 1
    have fz2 := fz 2
    have fz3 := fz 3
    have fz4 := fz 4
    clear fz
    obtain ⟨q0, q1, q2, q3, q4, -⟩ := box5 HF1.out
    go_wp2_with fail
    refine bodyPost_ret (v := aAgg ⟨-1, y⟩ (.slice A' y.f3.length c')) (by simp only [put5A] at q0 q1 q2 q3 q4; simp [results, Try.results63, go_sem, q0, q1, q2, q3, q4, aAgg]) rfl ⟨⟨-1, y⟩, _, rfl, .inr ⟨rfl, hg⟩, HF4.out, HF3.out⟩
  all_goals
    have t1 : (m == 0) = decide (m = 0) := rfl
    have t2 : decide ((ln : Int) > 0) = decide (0 < ln) := by congr 1; simp
    first
    | (obtain ⟨ha1, ha2⟩ := hA
       rw [decide_eq_true ha1] at t1
       rw [decide_eq_false ha2] at t2)
    | (rw [decide_eq_false hA] at t1
       clear t2)
    clear hln
    by_cases hT : b = 84
    · have t4 : (b == 84) = true := by simp [hT]
      obtain ⟨j, hj⟩ : ∃ j : Nat, n % 4 = j := ⟨(n % 4).toNat, by have := Int.emod_nonneg n (show (4 : Int) ≠ 0 by omega); omega⟩
      have hj4 : j < 4 := by have := Int.emod_lt_of_pos n (show (0 : Int) < 4 by omega); omega
      have HJ := Lib.hid hj
      have HJ4 := Lib.hid hj4
      have j0 : (0 : Int) ≤ (j : Int) := by omega
      have j1 : (j : Int) < 4 := by omega
      clear hj hj4
      go_wp2_with fail
      refine (labels_call W3).mono ?_
      rintro e W4 ⟨ad, cc, rfl, hnm, hbx⟩
      go_wp2_with fail
      refine (within51 n 4 W4 (by omega) (by omega)).mono ?_
      rintro e W5 ⟨rfl, hb⟩
      rw [HJ.out]
      obtain ⟨sn, hsn, hcn⟩ := hnm j HJ4.out
      have hcy : W5.cell? (ad.add j) = some (.string sn) := (hb.cell (World.block_lt_of_cell? _ _ hcn)).trans hcn
      have hk4 := HK3.out.trans ((hbx.trans (hb.mono hbx.size)).mono HK3.out.size)
      have hg : goodE 9 ⟨2, 0, sn, []⟩ := ⟨by show sn.size ≤ 12; omega, by show (-1000000000000000 : Int) ≤ 0; omega, by show (0 : Int) ≤ 1000000000000000; omega, .inl ⟨.inr (.inl rfl), rfl⟩⟩
      have hz : HasE W5 W2.heap.size ⟨2, 0, sn, []⟩ (.slice none 0 0) := HasE.nil W5 _ _ rfl
      clear hcn hnm
      have HQ6 := (hk4.block _ (Nat.lt_trans HS1.out HS2.out)).trans HG1.out
      have HQ7 := (hk4.block _ HS2.out).trans HG2.out
      obtain ⟨e1, e2, e3⟩ := put4A_end (w := w) HQ7 (Nat.le_of_lt (Nat.lt_trans (Nat.lt_succ_self _) HS1.out)) HS2.out (HB2.out.trans (hk4.mono HB2.out.size)) hz
      have e4 := (put4A_other (r := V0.heap.size) (k := w.heap.size + 1) ⟨2, 0, sn, []⟩ (.slice none 0 0) (show w.heap.size + 1 ≠ V0.heap.size by have := HS1.out; omega)).trans HQ6
      obtain ⟨P, hP⟩ : ∃ P, P = put4A W5 V0.heap.size ⟨2, 0, sn, []⟩ (.slice none 0 0) := ⟨_, rfl⟩
      rw [← hP] at e1 e2 e3 e4
      obtain ⟨f1, f2, f3⟩ := put5_end (x := ⟨-1, ⟨2, 0, sn, []⟩⟩) (v := (.slice none 0 0)) e4 (Nat.le_succ _) (show w.heap.size + 1 < W2.heap.size from Nat.lt_trans HS1.out HS2.out) e3 e2
      have f4 := f2.lower (base' := w.heap.size) (Nat.le_of_lt (Nat.lt_trans (Nat.lt_succ_self _) (Nat.lt_trans HS1.out HS2.out)))
      simp only [put4A] at hP
      have HP := Lib.hid hP
      have HE1 := Lib.hid e1
      have HE4 := Lib.hid e4
      have HF1 := Lib.hid f1
      have HF3 := Lib.hid f3
      have HF4 := Lib.hid f4
      obtain ⟨y0, y1, y2, y3, y4, fz⟩ := box5 HQ7
      have fz0 := fz 0
      have fz1 := fz 1
      have fz2 := fz 2
      have fz3 := fz 3
      have fz4 := fz 4
      clear hP e1 e2 e3 e4 f1 f2 f3 f4 fz HQ6 HQ7 hz hb hbx hk4

      go_upto_region 9 with fail
      rw [← HP.out]
      clear y0 y1 y2 y3 y4 fz0 fz1 fz2 fz3 fz4
      obtain ⟨m0, m1, m2, m3, m4, -⟩ := box5 HE1.out
      obtain ⟨y0, y1, y2, y3, y4, fz⟩ := box5 HE4.out
      have fz0 := fz 0
      have fz1 := fz 1
      have fz2 := fz 2
      have fz3 := fz 3
      have fz4 := fz 4
      clear fz
      obtain ⟨q0, q1, q2, q3, q4, -⟩ := box5 HF1.out
      go_wp2_with fail
      refine bodyPost_ret (v := aAgg ⟨-1, ⟨2, 0, sn, []⟩⟩ (.slice none 0 0)) (by simp only [put5A] at q0 q1 q2 q3 q4; simp [results, Try.results63, go_sem, q0, q1, q2, q3, q4, aAgg]) rfl ⟨⟨-1, ⟨2, 0, sn, []⟩⟩, _, rfl, .inr ⟨rfl, hg⟩, HF4.out, HF3.out⟩
    · have t4 : (b == 84) = false := by simp [hT]
      go_wp2_with fail
      refine (H2.out W3).mono ?_
      rintro e W4 ⟨v, rfl, hv1, hv2, -, hb4⟩
      go_wp2_with fail
      refine (dig_call (a := v) (by omega) (by omega) W4).mono ?_
      rintro e W5 ⟨rfl, hb5⟩
      go_wp2_with fail
      refine (parse_any hv1 hv2 W5).mono ?_
      rintro e W6 ⟨y, v', rfl, hg2, hz, hb6⟩
      obtain ⟨A', c', rfl, -⟩ := hz.form
      have hg := goodE_le (show 2 ≤ 9 by omega) hg2
      have hk3 := HK3.out.trans ((hb4.trans (hb5.mono hb4.size)).mono HK3.out.size)
      have hk4 := hk3.trans (hb6.mono hk3.size)
      clear hg2
      have HQ6 := (hk4.block _ (Nat.lt_trans HS1.out HS2.out)).trans HG1.out
      have HQ7 := (hk4.block _ HS2.out).trans HG2.out
      obtain ⟨e1, e2, e3⟩ := put4A_end (w := w) HQ7 (Nat.le_of_lt (Nat.lt_trans (Nat.lt_succ_self _) HS1.out)) (Nat.lt_of_lt_of_le HS2.out hk3.size) (HB2.out.trans (hk4.mono HB2.out.size)) hz
      have e4 := (put4A_other (r := V0.heap.size) (k := w.heap.size + 1) y (.slice A' y.f3.length c') (show w.heap.size + 1 ≠ V0.heap.size by have := HS1.out; omega)).trans HQ6
      obtain ⟨P, hP⟩ : ∃ P, P = put4A W6 V0.heap.size y (.slice A' y.f3.length c') := ⟨_, rfl⟩
      rw [← hP] at e1 e2 e3 e4
      obtain ⟨f1, f2, f3⟩ := put5_end (x := ⟨-1, y⟩) (v := (.slice A' y.f3.length c')) e4 (Nat.le_succ _) (show w.heap.size + 1 < W5.heap.size from Nat.lt_trans HS1.out (Nat.lt_of_lt_of_le HS2.out hk3.size)) e3 e2
      have f4 := f2.lower (base' := w.heap.size) (Nat.le_of_lt (Nat.lt_trans (Nat.lt_succ_self _) (Nat.lt_trans HS1.out (Nat.lt_of_lt_of_le HS2.out hk3.size))))
      simp only [put4A] at hP
      have HP := Lib.hid hP
      have HE1 := Lib.hid e1
      have HE4 := Lib.hid e4
      have HF1 := Lib.hid f1
      have HF3 := Lib.hid f3
      have HF4 := Lib.hid f4
      obtain ⟨y0, y1, y2, y3, y4, fz⟩ := box5 HQ7
      have fz0 := fz 0
      have fz1 := fz 1
      have fz2 := fz 2
      have fz3 := fz 3
      have fz4 := fz 4
      clear hP e1 e2 e3 e4 f1 f2 f3 f4 fz HQ6 HQ7 hz hb4 hb5 hb6 hk4 hk3 hv1 hv2
      unfold eAgg
      dsimp only
      rename_i KB hB
      refine hB _ _ ?_
      clear hB
      go_upto_region 9 with fail
      rw [← HP.out]
      clear y0 y1 y2 y3 y4 fz0 fz1 fz2 fz3 fz4
      obtain ⟨m0, m1, m2, m3, m4, -⟩ := box5 HE1.out
      obtain ⟨y0, y1, y2, y3, y4, fz⟩ := box5 HE4.out
      have fz0 := fz 0
      have fz1 := fz 1
      have fz2 := fz 2
      have fz3 := fz 3
      have fz4 := fz 4
      clear fz
      obtain ⟨q0, q1, q2, q3, q4, -⟩ := box5 HF1.out
      go_wp2_with fail
      refine bodyPost_ret (v := aAgg ⟨-1, y⟩ (.slice A' y.f3.length c')) (by simp only [put5A] at q0 q1 q2 q3 q4; simp [results, Try.results63, go_sem, q0, q1, q2, q3, q4, aAgg]) rfl ⟨⟨-1, y⟩, _, rfl, .inr ⟨rfl, hg⟩, HF4.out, HF3.out⟩
theorem value_any {q : List Nat × Bool} (hq : q ∈ kindsL) (x : S63) (A3 A4 : Option Addr) (c3 c4 : Nat) (n : Int) (w : World) (hC : Kd.C k99 w A4 x.f4.length x.f4) (hd : ∀ y ∈ x.f4, deepR 8 y) (hl : x.f4.length ≤ 1000000000000000) :
    Calls Try.prog 63 #[sAgg x A3 A4 c3 c4, .string (ofN q.1), .int .i64 n] w (VaE w) := by
  cases hr : q.2 with
  | true => exact value_reg hq hr x A3 A4 c3 c4 n w
  | false => exact value_exp hq hr x A3 A4 c3 c4 n w hC hd hl
end Go.Proofs.Ytifdkkkcecpjoaa
end
section
/-
  A number of a raw statement, by its place; rows of operands.
-/
namespace Go.Proofs.Ytifdkkkcecpjoaa
set_option linter.unusedVariables false
set_option linter.unusedSimpArgs false
open Go.RowKit Go.Proofs.YtifdkkkcecpjoaaW Go.Proofs.YtifdkkkcecpjoaaW.PrintWords Tx
attribute [local go_sem ↓] Go.wp_at_zero Go.wp_at_succ
/-- A raw statement as it lies in memory. -/
structure Lies (w : World) (x : S63) (A3 A4 : Option Addr) (c3 c4 : Nat) : Prop where
  l3 : x.f3.length ≤ c3
  g3 : (Kd.int .i64).C w A3 x.f3.length x.f3
  l4 : x.f4.length ≤ c4
  g4 : k99.C w A4 x.f4.length x.f4
  deep : ∀ y ∈ x.f4, deepR 8 y
  few : x.f4.length ≤ 1000000000000000
theorem Lies.below {w w' : World} {x : S63} {A3 A4 : Option Addr} {c3 c4 : Nat} (h : Lies w x A3 A4 c3 c4) (hb : Below w.heap.size w w') : Lies w' x A3 A4 c3 c4 := ⟨h.l3, Kd.C_below h.g3 hb, h.l4, Kd.C_below h.g4 hb, h.deep, h.few⟩
def NuE (w : World) (e : Ending) (w' : World) : Prop := ∃ v : Int, e = .returned (.int .i64 v) ∧ Below w.heap.size w w'
theorem number_any {x : S63} {A3 A4 : Option Addr} {c3 c4 : Nat} {w : World} (h : Lies w x A3 A4 c3 c4) (i : Int) (hi : 0 ≤ i) : Calls Try.prog 64 #[sAgg x A3 A4 c3 c4, .int .i64 i] w (NuE w) := by
  obtain ⟨r, hr⟩ : ∃ r, letterpresslaw4_Raw_number.f x.f0 x.f1 x.f2 x.f3 x.f4 x.f5 i = some r := by
    unfold letterpresslaw4_Raw_number.f
    by_cases h1 : i < (x.f3.length : Int)
    · rw [if_pos h1, if_pos hi]; exact ⟨_, rfl⟩
    · rw [if_neg h1]; exact ⟨_, rfl⟩
  refine (letterpresslaw4_Raw_number.calls x.f0 x.f1 x.f2 A3 c3 x.f3 A4 c4 x.f4 x.f5 i r w h.g3 h.l3 h.g4 h.l4 hr).mono ?_
  rintro e w' ⟨rfl, hb⟩
  exact ⟨r, rfl, hb⟩
theorem info104 : (Try.prog.info? 104).map (fun i => (i.zero, i.size, i.bytes)) = some (some (.agg #[(.int .i64 0), (.int .i64 0), (.int .i64 0), (.string ⟨#[]⟩), (.slice none 0 0)]), 5, 64) := by kernel_rfl
/-- Operands in a row of one's own. -/
structure HasA (w : World) (base : Nat) (xs : List S104) (u : Value) : Prop where
  r : k104.R 104 w base T1 u xs
  good : ∀ x ∈ xs, goodA x
theorem HasA.nil (w : World) (base : Nat) : HasA w base [] (.slice none 0 0) := ⟨Kd.R_nil _ _ _ _ _, by simp⟩
theorem HasA.below {w w' : World} {base : Nat} {xs : List S104} {u : Value} (h : HasA w base xs u) (hb : Below w.heap.size w w') : HasA w' base xs u := ⟨Kd.R_below h.r hb, h.good⟩
theorem HasA.lower {w : World} {base base' : Nat} {xs : List S104} {u : Value} (h : HasA w base xs u) (hb : base' ≤ base) : HasA w base' xs u := ⟨Kd.R_lower h.r hb, h.good⟩
theorem HasA.form {w : World} {base : Nat} {xs : List S104} {u : Value} (h : HasA w base xs u) : ∃ A c, u = .slice A xs.length c ∧ xs.length ≤ c ∧ Kd.C k104 w A xs.length xs := by
  obtain ⟨A, c, rfl, hl, hC⟩ := Kd.R_reads h.r
  exact ⟨A, c, rfl, hl, hC⟩
/-- An operand's cells, the row beside. -/
theorem HasE.m104 {w : World} {base : Nat} {x : S104} {v u : Value} {xs : List S104} (h : HasE w base x.f1 v) (hu : HasA w base xs u) :
    k104.M w base (fun k => T1 k ∧ some k ≠ u.ownBlock) x [.int .i64 x.f0, .int .i64 x.f1.f0, .int .i64 x.f1.f1, .string x.f1.f2, v] :=
  k104_mkM _ _ _ x (Kd.R_apart' h.r (Kd.R_typed hu.r) (by decide))
end Go.Proofs.Ytifdkkkcecpjoaa
end
section
/-
  A raw statement's numbers in a row.
-/
namespace Go.Proofs.Ytifdkkkcecpjoaa
set_option linter.unusedVariables false
set_option linter.unusedSimpArgs false
open Go.RowKit Go.Proofs.YtifdkkkcecpjoaaW Go.Proofs.YtifdkkkcecpjoaaW.PrintWords Tx
attribute [local go_sem ↓] Go.wp_at_zero Go.wp_at_succ
/-- A statement's cells. -/
def stC (ln : Int) (lb : ByteArray) (kd op : Int) (tx : ByteArray) (u : Value) : Array Value := #[.int .i64 ln, .string lb, .int .i64 kd, .int .i64 op, .string tx, u]
def rawC (x : S63) (A3 A4 : Option Addr) (c3 c4 : Nat) : Array Value := #[.int .i64 x.f0, .int .i64 x.f1, .int .i64 x.f2, .slice A3 x.f3.length c3, .slice A4 x.f4.length c4, .bool x.f5]
theorem HasA.keep {w w' : World} {base : Nat} {xs : List S104} {u : Value} (h : HasA w base xs u) (hk : ∀ k, k < w.heap.size → w'.heap[k]? = w.heap[k]?) : HasA w' base xs u := ⟨Kd.R_step h.r (fun k _ hl => hk k hl), h.good⟩
theorem HasA.set {w w' : World} {base g t : Nat} {cells : Array Value} {xs : List S104} {u : Value} (h : HasA w base xs u) (hg : w.heap[g]? = some (.cells cells t (0, 0))) (ht : ∀ q, q ∈ 104 :: k104.E → q ≠ t) (hk : ∀ k, k ≠ g → w'.heap[k]? = w.heap[k]?) : HasA w' base xs u :=
  ⟨Kd.R_mono (Kd.R_step (Kd.R_types h.r hg ht) (fun k hk' _ => hk k hk'.2)) (fun _ _ => trivial), h.good⟩
theorem box6 {W : World} {q : Nat} {t : TypeId} {a b c d e f : Value} (h : W.heap[q]? = some (.cells #[a, b, c, d, e, f] t (0, 0))) :
    W.cell? ⟨q, 0, none⟩ = some a ∧ W.cell? ⟨q, 1, none⟩ = some b ∧ W.cell? ⟨q, 2, none⟩ = some c ∧ W.cell? ⟨q, 3, none⟩ = some d ∧ W.cell? ⟨q, 4, none⟩ = some e ∧ W.cell? ⟨q, 5, none⟩ = some f ∧ ∀ o, W.frozen? ⟨q, o, none⟩ = false :=
  ⟨cell_of_row W q 0 _ t (0, 0) h, cell_of_row W q 1 _ t (0, 0) h, cell_of_row W q 2 _ t (0, 0) h, cell_of_row W q 3 _ t (0, 0) h, cell_of_row W q 4 _ t (0, 0) h, cell_of_row W q 5 _ t (0, 0) h, fun o => by simp [World.frozen?, h]⟩
def put6S (W : World) (r : Nat) (ln : Int) (lb : ByteArray) (kd op : Int) (tx : ByteArray) (u : Value) : World := (((((W.setCell ⟨r, 0, none⟩ (.int .i64 ln)).setCell ⟨r, 1, none⟩ (.string lb)).setCell ⟨r, 2, none⟩ (.int .i64 kd)).setCell ⟨r, 3, none⟩ (.int .i64 op)).setCell ⟨r, 4, none⟩ (.string tx)).setCell ⟨r, 5, none⟩ u
theorem put6_other {W : World} {r k : Nat} (ln : Int) (lb : ByteArray) (kd op : Int) (tx : ByteArray) (u : Value) (h : k ≠ r) : (put6S W r ln lb kd op tx u).heap[k]? = W.heap[k]? := by
  unfold put6S
  exact (Below.heap_setCell _ ⟨r, 5, none⟩ _ k h).trans ((Below.heap_setCell _ ⟨r, 4, none⟩ _ k h).trans ((Below.heap_setCell _ ⟨r, 3, none⟩ _ k h).trans ((Below.heap_setCell _ ⟨r, 2, none⟩ _ k h).trans ((Below.heap_setCell _ ⟨r, 1, none⟩ _ k h).trans (Below.heap_setCell _ ⟨r, 0, none⟩ _ k h)))))
theorem put6_end {w W : World} {r base : Nat} {a b c d e f : Value} {xs : List S104} {u : Value} (ln : Int) (lb : ByteArray) (kd op : Int) (tx : ByteArray) (hq : W.heap[r]? = some (.cells #[a, b, c, d, e, f] 95 (0, 0))) (hr : w.heap.size ≤ r) (hb : Below w.heap.size w W) (hA : HasA W base xs u) :
    (put6S W r ln lb kd op tx u).heap[r]? = some (.cells #[.int .i64 ln, .string lb, .int .i64 kd, .int .i64 op, .string tx, u] 95 (0, 0)) ∧ HasA (put6S W r ln lb kd op tx u) base xs u ∧ Below w.heap.size w (put6S W r ln lb kd op tx u) := by
  refine ⟨by simp [put6S, World.setCell, Array.getElem?_modify, hq], hA.set hq (by decide) (fun k hk => put6_other ln lb kd op tx u hk), ?_⟩
  unfold put6S
  exact (((((hb.setCell hr _).setCell hr _).setCell hr _).setCell hr _).setCell hr _).setCell hr _
def datS (x : S63) (A3 A4 : Option Addr) (c3 c4 : Nat) (kd : Int) (r5 : Nat) (w : World) (W : World) (i : Nat) : Prop :=
  ∃ xs u, xs.length = i ∧ HasA W w.heap.size xs u ∧ Below w.heap.size w W ∧ W.heap[w.heap.size]? = some (.cells (rawC x A3 A4 c3 c4) 63 (0, 0)) ∧
    W.heap[w.heap.size + 1]? = some (.cells (stC 0 ⟨#[]⟩ 0 0 ⟨#[]⟩ (.slice none 0 0)) 95 (0, 0)) ∧ W.heap[r5]? = some (.cells (stC 1 ⟨#[]⟩ kd 0 ⟨#[]⟩ u) 95 (0, 0))
def StE (ok : ByteArray → Int → Int → ByteArray → List S104 → Prop) (w : World) (e : Ending) (w' : World) : Prop :=
  ∃ lb kd op tx xs u, e = .returned (.agg (stC 1 lb kd op tx u)) ∧ ok lb kd op tx xs ∧ HasA w' w.heap.size xs u ∧ Below w.heap.size w w'
set_option maxRecDepth 100000 in
set_option maxHeartbeats 3200000 in
theorem datum_any {x : S63} {A3 A4 : Option Addr} {c3 c4 : Nat} {w : World} (h : Lies w x A3 A4 c3 c4) (kd : Int) :
    Calls Try.prog 66 #[sAgg x A3 A4 c3 c4, .int .i64 kd] w (StE (fun lb k op tx xs => lb = ⟨#[]⟩ ∧ k = kd ∧ op = 0 ∧ tx = ⟨#[]⟩ ∧ xs.length ≤ 4) w) := by
  obtain ⟨W1, hW1⟩ : ∃ W1, W1 = (w.alloc (.cells (rawC x A3 A4 c3 c4) 63)).alloc (.cells (stC 0 ⟨#[]⟩ 0 0 ⟨#[]⟩ (.slice none 0 0)) 95) := ⟨_, rfl⟩
  have b1 : Below w.heap.size w W1 := by rw [hW1]; exact ((Below.refl _ _).alloc (Nat.le_refl _) _).alloc (by simp) _
  have g0 : W1.heap[w.heap.size]? = some (.cells (rawC x A3 A4 c3 c4) 63 (0, 0)) := by rw [hW1]; exact (Below.heap_alloc _ _ _ (by simp)).trans (heap_alloc_new w _)
  have g1 : W1.heap[w.heap.size + 1]? = some (.cells (stC 0 ⟨#[]⟩ 0 0 ⟨#[]⟩ (.slice none 0 0)) 95 (0, 0)) := by
    rw [hW1]
    have := heap_alloc_new (w.alloc (.cells (rawC x A3 A4 c3 c4) 63)) (.cells (stC 0 ⟨#[]⟩ 0 0 ⟨#[]⟩ (.slice none 0 0)) 95)
    simpa using this
  have g2 : W1.heap.size = w.heap.size + 2 := by rw [hW1]; simp
  obtain ⟨W2, hW2⟩ : ∃ W2, W2 = W1.alloc (.cells (stC 1 ⟨#[]⟩ kd 0 ⟨#[]⟩ (.slice none 0 0)) 95) := ⟨_, rfl⟩
  obtain ⟨r5, hr5⟩ : ∃ r5, r5 = W1.heap.size := ⟨_, rfl⟩
  have hS : datS x A3 A4 c3 c4 kd r5 w W2 0 := by
    refine ⟨[], .slice none 0 0, rfl, HasA.nil _ _, by rw [hW2]; exact below_alloc b1 _, ?_, ?_, ?_⟩
    · rw [hW2]; exact (Below.heap_alloc _ _ _ (by omega)).trans g0
    · rw [hW2]; exact (Below.heap_alloc _ _ _ (by omega)).trans g1
    · rw [hW2, hr5]; exact heap_alloc_new W1 _
  have HS := Lib.hid hS
  have HL := Lib.hid h
  have HW1 := Lib.hid hW1
  have HW2 := Lib.hid hW2
  have HR5 := Lib.hid (show r5 = w.heap.size + 2 by omega)
  have HR1 := Lib.hid hr5
  clear hS h hW1 hW2 g0 g1 g2 b1 hr5
  unfold rawC stC at HW1 HW2
  unfold sAgg
  go_enter Try.func66, Try.ntmps66
  go_upto_region 1 with fail
  rw [← HW1.out]
  go_wp2_with fail
  rw [← HW2.out, ← HR1.out]
  go_loopw [6] (fun vi wr => ∃ i : Nat, vi = .int .i64 i ∧ i ≤ 4 ∧ Hid (datS x A3 A4 c3 c4 kd r5 w wr i)) (fun vi _ => 5 - (intOf vi).toNat)
  case atStart => exact ⟨0, rfl, by omega, HS⟩
  case round =>
    obtain ⟨i, rfl, hi, HSi⟩ := hrel
    obtain ⟨xs, u, hlen, hA, hb, q0, q1, q2⟩ := HSi.out
    unfold rawC at q0
    have k2 : wr.cell? ⟨w.heap.size, 2, none⟩ = some (.int .i64 x.f2) := cell_of_row _ _ 2 _ 63 (0, 0) q0
    clear q0 q1 q2 hA hb hlen
    go_wp2_with fail
    refine (within51 x.f2 4 wr (by omega) (by omega)).mono ?_
    rintro e W3 ⟨rfl, hb3⟩
    have m0 := Int.emod_nonneg x.f2 (show (4 : Int) ≠ 0 by omega)
    have m1 := Int.emod_lt_of_pos x.f2 (show (0 : Int) < 4 by omega)
    generalize x.f2 % 4 = m at *
    by_cases him : (i : Int) ≤ m
    · have t1 : decide ((i : Int) ≤ m) = true := decide_eq_true him
      have HSi3 := Lib.hid (show datS x A3 A4 c3 c4 kd r5 w W3 i by
        obtain ⟨xs, u, hlen, hA, hb, q0, q1, q2⟩ := HSi.out
        exact ⟨xs, u, hlen, hA.below hb3, hb.trans (hb3.mono hb.size), (hb3.block _ (Array.getElem?_eq_some_iff.1 q0).1).trans q0, (hb3.block _ (Array.getElem?_eq_some_iff.1 q1).1).trans q1, (hb3.block _ (Array.getElem?_eq_some_iff.1 q2).1).trans q2⟩)
      have HI := Lib.hid (show i ≤ 3 by omega)
      clear HSi hb3 k2 hi m0 m1
      obtain ⟨W4, hW4⟩ : ∃ W4, W4 = W3.alloc (.cells #[.int .i64 (-1), .int .i64 0, .int .i64 0, .string ⟨#[]⟩, .slice none 0 0] 104) := ⟨_, rfl⟩
      have HB4 := Lib.hid (show Below W3.heap.size W3 W4 by rw [hW4]; exact below_alloc (Below.refl _ _) _)
      have HQ7 := Lib.hid (show W4.heap[W3.heap.size]? = some (.cells #[.int .i64 (-1), .int .i64 0, .int .i64 0, .string ⟨#[]⟩, .slice none 0 0] 104 (0, 0)) by rw [hW4]; exact heap_alloc_new W3 _)
      have HS7 := Lib.hid (show W3.heap.size < W4.heap.size by rw [hW4]; simp)
      obtain ⟨xs, u, hlen, hA, hb, q0, q1, q2⟩ := HSi3.out
      have p0 := (HB4.out.block _ (Array.getElem?_eq_some_iff.1 q0).1).trans q0
      unfold rawC at p0
      obtain ⟨a0, a1, a2, a3, a4, a5, -⟩ := box6 p0
      have hb4 : Below w.heap.size w W4 := hb.trans (HB4.out.mono hb.size)
      have hnum := number_any (HL.out.below hb4) (i : Int) (Int.natCast_nonneg i)
      unfold sAgg at hnum
      rw [hW4] at a0 a1 a2 a3 a4 a5
      have HW4 := Lib.hid hW4
      clear hW4 p0 hb4 hlen hA hb q0 q1 q2
      go_wp2_with fail
      rw [← HW4.out]
      refine hnum.mono ?_
      rintro e W5 ⟨n, rfl, hb5⟩
      clear hnum a0 a1 a2 a3 a4 a5
      have HB5 := Lib.hid (HB4.out.trans (hb5.mono HB4.out.size))
      have HQ75 := Lib.hid ((hb5.block _ HS7.out).trans HQ7.out)
      have HS75 := Lib.hid (Nat.lt_of_lt_of_le HS7.out hb5.size)
      clear hb5
      go_wp2_with fail
      refine (within51 n 6 W5 (by omega) (by omega)).mono ?_
      rintro e W6 ⟨rfl, hb6⟩
      have HB6 := Lib.hid (HB5.out.trans (hb6.mono HB5.out.size))
      have HQ76 := Lib.hid ((hb6.block _ HS75.out).trans HQ75.out)
      have HS76 := Lib.hid (Nat.lt_of_lt_of_le HS75.out hb6.size)
      obtain ⟨xs, u, hlen, hA, hb, q0, q1, q2⟩ := HSi3.out
      have p0 := (HB6.out.block _ (Array.getElem?_eq_some_iff.1 q0).1).trans q0
      unfold rawC at p0
      have k4 : W6.cell? ⟨w.heap.size, 4, none⟩ = some (.slice A4 x.f4.length c4) := cell_of_row _ _ 4 _ 63 (0, 0) p0
      clear hlen hA hb q0 q1 q2 p0 hb6 HB5 HQ75 HS75 HQ7 HS7
      generalize hmm : n % 6 = mm
      have HMM := Lib.hid hmm
      clear hmm
      obtain ⟨ln, hln⟩ : ∃ ln, ln = x.f4.length := ⟨_, rfl⟩
      rw [← hln] at k4
      have HLN := Lib.hid hln
      rcases (show (mm = 0 ∧ 0 < ln) ∨ mm = 1 ∨ ((mm = 0 ∧ ¬ 0 < ln) ∨ (mm ≠ 0 ∧ mm ≠ 1)) by omega) with hA | hT | hA
      · obtain ⟨ha1, ha2⟩ := hA
        have t2 : (mm == 0) = true := by simp [ha1]
        have t3 : decide ((ln : Int) > 0) = true := decide_eq_true (by omega)
        have t4 : (0 : Int) < (ln : Int) := by omega
        obtain ⟨xs, u, hlen, hA, hb, q0, q1, q2⟩ := HSi3.out
        have hone := one_any (c := c4) (Kd.C_below HL.out.g4 (hb.trans (HB6.out.mono hb.size))) HL.out.deep HL.out.few
        rw [← hln] at hone
        clear hln hlen hA hb q0 q1 q2
        go_wp2_with fail
        refine hone.mono ?_
        rintro e W7 ⟨y, v, rfl, hg, hz, hb7⟩
        clear hone k4
        obtain ⟨A', c', rfl, -⟩ := hz.form
        have hq7 := (hb7.block _ HS76.out).trans HQ76.out
        obtain ⟨e1, e2, e3⟩ := put4A_end (w := W3) hq7 (Nat.le_refl _) HS76.out (HB6.out.trans (hb7.mono HB6.out.size)) hz
        obtain ⟨P, hP⟩ : ∃ P, P = put4A W7 W3.heap.size y (.slice A' y.f3.length c') := ⟨_, rfl⟩
        rw [← hP] at e1 e2 e3
        simp only [put4A] at hP
        have HP := Lib.hid hP
        have HE1 := Lib.hid e1
        have HE2 := Lib.hid e2
        have HE3 := Lib.hid e3
        have HGd := Lib.hid hg
        obtain ⟨y0, y1, y2, y3, y4, fz⟩ := box5 hq7
        have fz0 := fz 0
        have fz1 := fz 1
        have fz2 := fz 2
        have fz3 := fz 3
        have fz4 := fz 4
        clear hP e1 e2 e3 fz hq7 hz hb7 hg
        unfold eAgg
        dsimp only
        rename_i KB hB
        refine hB _ _ ?_
        clear hB
        go_upto_region 12 with fail
        rw [← HP.out]
        clear y0 y1 y2 y3 y4 fz0 fz1 fz2 fz3 fz4
        obtain ⟨xs, u, hlen, hA, hb, q0, q1, q2⟩ := HSi3.out
        have p0 := (HE3.out.block _ (Array.getElem?_eq_some_iff.1 q0).1).trans q0
        have p1 := (HE3.out.block _ (Array.getElem?_eq_some_iff.1 q1).1).trans q1
        have p2 := (HE3.out.block _ (Array.getElem?_eq_some_iff.1 q2).1).trans q2
        have hAP := hA.below HE3.out
        have hbP := hb.trans (HE3.out.mono hb.size)
        have hzP := HE2.out.lower (base' := w.heap.size) (Nat.le_trans hb.size (Nat.le_trans HB6.out.size (Nat.le_refl _)))
        have HM := Lib.hid (HasE.m104 (x := ⟨-1, y⟩) hzP hAP)
        have HAP := Lib.hid hAP
        have HBP := Lib.hid hbP
        have HP0 := Lib.hid p0
        have HP1 := Lib.hid p1
        have HP2 := Lib.hid p2
        have HLn := Lib.hid hlen
        unfold stC at p2
        have c5 : P.cell? ⟨r5, 5, none⟩ = some u := cell_of_row _ _ 5 _ 95 (0, 0) p2
        obtain ⟨y0, y1, y2, y3, y4, -⟩ := box5 HE1.out
        clear hlen hA hb q0 q1 q2 p0 p1 p2 hAP hbP hzP
        go_wp2_with ((with_reducible refine gate_builtin (b := .append) (xs := #[.tmp 53, .tmp 55]) rfl ?_); at_builtin; refine Kd.R_append k104 (w0 := w) w.heap.size rfl (.tmp 53) (.tmp 55) 93 104 (.agg #[(.int .i64 0), (.int .i64 0), (.int .i64 0), (.string ⟨#[]⟩), (.slice none 0 0)]) 64 rfl Try.underlying93 info104 rfl (by decide) (by omega) u xs (⟨-1, y⟩ : S104) [.int .i64 (-1), .int .i64 y.f0, .int .i64 y.f1, .string y.f2, .slice A' y.f3.length c'] T1 (fun k => T1 k ∧ some k ≠ u.ownBlock) rfl rfl HM.out (fun _ hk => hk) (fun _ _ => trivial) HAP.out.r HBP.out HBP.out.size (by have := HLn.out; have := HI.out; omega) ?_; intro v1 w1 ho hb1 hg1 hat; obtain ⟨Av, cv, ev⟩ := Kd.R_slice ho; subst ev; have n2 := blk_grown (g := r5) HP2.out hg1 (Kd.R_ne HAP.out.r HP2.out (by decide)); have n0 := blk_grown (g := w.heap.size) HP0.out hg1 (Kd.R_ne HAP.out.r HP0.out (by decide)); have n1 := blk_grown (g := w.heap.size + 1) HP1.out hg1 (Kd.R_ne HAP.out.r HP1.out (by decide)); have N0 := Lib.hid n0; have N1 := Lib.hid n1; have N2 := Lib.hid n2; have NB := Lib.hid hb1; have NR := Lib.hid ho; clear n0 n1 ho hb1 hg1 hat; unfold stC at n2; obtain ⟨_, _, _, _, _, z5, zz⟩ := box6 n2; have zz5 := zz 5; clear n2 zz)
        go_roundw
        case rel =>
          have hi3 := HI.out
          have hw : wrap64 ((i : Int) + 1) = ((i + 1 : Nat) : Int) := by unfold wrap64; omega
          have NR2 : k104.R 104 w1 w.heap.size T1 (.slice Av (xs.length + 1) cv) (xs ++ [⟨-1, y⟩]) := by
            have := NR.out
            rw [List.length_append] at this
            exact this
          have hr5 := HR5.out
          have hgood : ∀ z ∈ xs ++ [(⟨-1, y⟩ : S104)], goodA z := fun z hz => by
            rcases List.mem_append.1 hz with h | h
            · exact HAP.out.good z h
            · rw [List.mem_singleton.1 h]; exact .inr ⟨rfl, HGd.out⟩
          have e2 := N2.out
          unfold stC at e2
          have hS : datS x A3 A4 c3 c4 kd r5 w (w1.setCell ⟨r5, 5, none⟩ (.slice Av (xs.length + 1) cv)) (i + 1) :=
            ⟨xs ++ [⟨-1, y⟩], .slice Av (xs.length + 1) cv, by rw [List.length_append, HLn.out]; rfl, HasA.set ⟨NR2, hgood⟩ N2.out (by decide) (fun k hk => Below.heap_setCell w1 ⟨r5, 5, none⟩ _ k hk), NB.out.setCell (show w.heap.size ≤ r5 by omega) _,
              (Below.heap_setCell w1 ⟨r5, 5, none⟩ _ w.heap.size (show w.heap.size ≠ r5 by omega)).trans N0.out, (Below.heap_setCell w1 ⟨r5, 5, none⟩ _ (w.heap.size + 1) (show w.heap.size + 1 ≠ r5 by omega)).trans N1.out,
              by simp [World.setCell, Array.getElem?_modify, e2, stC]⟩
          exact ⟨i + 1, by rw [hw], by omega, Lib.hid hS⟩
        case measure =>
          have hi3 := HI.out
          have hw : wrap64 ((i : Int) + 1) = ((i + 1 : Nat) : Int) := by unfold wrap64; omega
          rw [hw]
          simp [intOf]
          omega
      · have t2 : (mm == 0) = false := by simp [hT]
        have t4 : (mm == 1) = true := by simp [hT]
        clear hln
        go_wp2_with fail
        refine (within51 n 6 W6 (by omega) (by omega)).mono ?_
        rintro e W7 ⟨rfl, hbx⟩
        rw [HMM.out]
        go_wp2_with fail
        refine (labels_call W7).mono ?_
        rintro e W8 ⟨ad, cc, rfl, hnm, hby⟩
        obtain ⟨q, hq⟩ : ∃ q, q = wrap64 (n.tdiv 6) := ⟨_, rfl⟩
        obtain ⟨j, hj⟩ : ∃ j : Nat, q % 4 = j := ⟨(q % 4).toNat, by have := Int.emod_nonneg q (show (4 : Int) ≠ 0 by omega); omega⟩
        have hj4 : j < 4 := by have := Int.emod_lt_of_pos q (show (0 : Int) < 4 by omega); omega
        have HJ := Lib.hid hj
        have HJ4 := Lib.hid hj4
        have HQq := Lib.hid hq
        have j0 : (0 : Int) ≤ (j : Int) := by omega
        have j1 : (j : Int) < 4 := by omega
        clear hj hj4 hq
        go_wp2_with fail
        rw [← HQq.out]
        refine (within51 q 4 W8 (by omega) (by omega)).mono ?_
        rintro e W9 ⟨rfl, hbz⟩
        rw [HJ.out]
        obtain ⟨sn, hsn, hcn⟩ := hnm j HJ4.out
        have hcy : W9.cell? (ad.add j) = some (.string sn) := (hbz.cell (World.block_lt_of_cell? _ _ hcn)).trans hcn
        have hb7 := hbx.trans ((hby.trans (hbz.mono hby.size)).mono hbx.size)
        have hg : goodE 9 ⟨2, 0, sn, []⟩ := ⟨by show sn.size ≤ 12; omega, by show (-1000000000000000 : Int) ≤ 0; omega, by show (0 : Int) ≤ 1000000000000000; omega, .inl ⟨.inr (.inl rfl), rfl⟩⟩
        have hz : HasE W9 W6.heap.size ⟨2, 0, sn, []⟩ (.slice none 0 0) := HasE.nil W9 _ _ rfl
        clear hcn hnm hbx hby hbz k4 hsn
        have hq7 := (hb7.block _ HS76.out).trans HQ76.out
        obtain ⟨e1, e2, e3⟩ := put4A_end (w := W3) hq7 (Nat.le_refl _) HS76.out (HB6.out.trans (hb7.mono HB6.out.size)) hz
        obtain ⟨P, hP⟩ : ∃ P, P = put4A W9 W3.heap.size ⟨2, 0, sn, []⟩ (.slice none 0 0) := ⟨_, rfl⟩
        rw [← hP] at e1 e2 e3
        simp only [put4A] at hP
        have HP := Lib.hid hP
        have HE1 := Lib.hid e1
        have HE2 := Lib.hid e2
        have HE3 := Lib.hid e3
        have HGd := Lib.hid hg
        obtain ⟨y0, y1, y2, y3, y4, fz⟩ := box5 hq7
        have fz0 := fz 0
        have fz1 := fz 1
        have fz2 := fz 2
        have fz3 := fz 3
        have fz4 := fz 4
        clear hP e1 e2 e3 fz hq7 hz hb7 hg
        dsimp only
        rename_i KB hB
        refine hB _ _ ?_
        clear hB
        go_upto_region 12 with fail
        rw [← HP.out]
        clear y0 y1 y2 y3 y4 fz0 fz1 fz2 fz3 fz4
        obtain ⟨xs, u, hlen, hA, hb, q0, q1, q2⟩ := HSi3.out
        have p0 := (HE3.out.block _ (Array.getElem?_eq_some_iff.1 q0).1).trans q0
        have p1 := (HE3.out.block _ (Array.getElem?_eq_some_iff.1 q1).1).trans q1
        have p2 := (HE3.out.block _ (Array.getElem?_eq_some_iff.1 q2).1).trans q2
        have hAP := hA.below HE3.out
        have hbP := hb.trans (HE3.out.mono hb.size)
        have hzP := HE2.out.lower (base' := w.heap.size) (Nat.le_trans hb.size (Nat.le_trans HB6.out.size (Nat.le_refl _)))
        have HM := Lib.hid (HasE.m104 (x := ⟨-1, ⟨2, 0, sn, []⟩⟩) hzP hAP)
        have HAP := Lib.hid hAP
        have HBP := Lib.hid hbP
        have HP0 := Lib.hid p0
        have HP1 := Lib.hid p1
        have HP2 := Lib.hid p2
        have HLn := Lib.hid hlen
        unfold stC at p2
        have c5 : P.cell? ⟨r5, 5, none⟩ = some u := cell_of_row _ _ 5 _ 95 (0, 0) p2
        obtain ⟨y0, y1, y2, y3, y4, -⟩ := box5 HE1.out
        clear hlen hA hb q0 q1 q2 p0 p1 p2 hAP hbP hzP
        go_wp2_with ((with_reducible refine gate_builtin (b := .append) (xs := #[.tmp 53, .tmp 55]) rfl ?_); at_builtin; refine Kd.R_append k104 (w0 := w) w.heap.size rfl (.tmp 53) (.tmp 55) 93 104 (.agg #[(.int .i64 0), (.int .i64 0), (.int .i64 0), (.string ⟨#[]⟩), (.slice none 0 0)]) 64 rfl Try.underlying93 info104 rfl (by decide) (by omega) u xs (⟨-1, ⟨2, 0, sn, []⟩⟩ : S104) [.int .i64 (-1), .int .i64 2, .int .i64 0, .string sn, .slice none 0 0] T1 (fun k => T1 k ∧ some k ≠ u.ownBlock) rfl rfl HM.out (fun _ hk => hk) (fun _ _ => trivial) HAP.out.r HBP.out HBP.out.size (by have := HLn.out; have := HI.out; omega) ?_; intro v1 w1 ho hb1 hg1 hat; obtain ⟨Av, cv, ev⟩ := Kd.R_slice ho; subst ev; have n2 := blk_grown (g := r5) HP2.out hg1 (Kd.R_ne HAP.out.r HP2.out (by decide)); have n0 := blk_grown (g := w.heap.size) HP0.out hg1 (Kd.R_ne HAP.out.r HP0.out (by decide)); have n1 := blk_grown (g := w.heap.size + 1) HP1.out hg1 (Kd.R_ne HAP.out.r HP1.out (by decide)); have N0 := Lib.hid n0; have N1 := Lib.hid n1; have N2 := Lib.hid n2; have NB := Lib.hid hb1; have NR := Lib.hid ho; clear n0 n1 ho hb1 hg1 hat; unfold stC at n2; obtain ⟨_, _, _, _, _, z5, zz⟩ := box6 n2; have zz5 := zz 5; clear n2 zz)
        go_roundw
        case rel =>
          have hi3 := HI.out
          have hw : wrap64 ((i : Int) + 1) = ((i + 1 : Nat) : Int) := by unfold wrap64; omega
          have NR2 : k104.R 104 w1 w.heap.size T1 (.slice Av (xs.length + 1) cv) (xs ++ [⟨-1, ⟨2, 0, sn, []⟩⟩]) := by
            have := NR.out
            rw [List.length_append] at this
            exact this
          have hr5 := HR5.out
          have hgood : ∀ z ∈ xs ++ [(⟨-1, ⟨2, 0, sn, []⟩⟩ : S104)], goodA z := fun z hz => by
            rcases List.mem_append.1 hz with h | h
            · exact HAP.out.good z h
            · rw [List.mem_singleton.1 h]; exact .inr ⟨rfl, HGd.out⟩
          have e2 := N2.out
          unfold stC at e2
          have hS : datS x A3 A4 c3 c4 kd r5 w (w1.setCell ⟨r5, 5, none⟩ (.slice Av (xs.length + 1) cv)) (i + 1) :=
            ⟨xs ++ [⟨-1, ⟨2, 0, sn, []⟩⟩], .slice Av (xs.length + 1) cv, by rw [List.length_append, HLn.out]; rfl, HasA.set ⟨NR2, hgood⟩ N2.out (by decide) (fun k hk => Below.heap_setCell w1 ⟨r5, 5, none⟩ _ k hk), NB.out.setCell (show w.heap.size ≤ r5 by omega) _,
              (Below.heap_setCell w1 ⟨r5, 5, none⟩ _ w.heap.size (show w.heap.size ≠ r5 by omega)).trans N0.out, (Below.heap_setCell w1 ⟨r5, 5, none⟩ _ (w.heap.size + 1) (show w.heap.size + 1 ≠ r5 by omega)).trans N1.out,
              by simp [World.setCell, Array.getElem?_modify, e2, stC]⟩
          exact ⟨i + 1, by rw [hw], by omega, Lib.hid hS⟩
        case measure =>
          have hi3 := HI.out
          have hw : wrap64 ((i : Int) + 1) = ((i + 1 : Nat) : Int) := by unfold wrap64; omega
          rw [hw]
          simp [intOf]
          omega
      all_goals
        have hT : ¬ mm = 1 := by omega
        have t2 : (mm == 0) = decide (mm = 0) := rfl
        have t3 : decide ((ln : Int) > 0) = decide (0 < ln) := by congr 1; simp
        rcases hA with ⟨ha1, ha2⟩ | ⟨ha1, -⟩
        · rw [decide_eq_true ha1] at t2
          rw [decide_eq_false ha2] at t3
          clear hln
          go_wp2_with fail
          refine (within51 n 6 W6 (by omega) (by omega)).mono ?_
          rintro e W7 ⟨rfl, hbx⟩
          rw [HMM.out]
          have t4 : (mm == 1) = false := by simp [hT]
          go_wp2_with fail
          refine (within51 n 256 W7 (by omega) (by omega)).mono ?_
          rintro e W8 ⟨rfl, hby⟩
          have m0 := Int.emod_nonneg n (show (256 : Int) ≠ 0 by omega)
          have m1 := Int.emod_lt_of_pos n (show (0 : Int) < 256 by omega)
          generalize n % 256 = mv at *
          have hb7 := hbx.trans (hby.mono hbx.size)
          have hg : goodE 9 ⟨1, mv, ⟨#[]⟩, []⟩ := goodE_num 8 mv (by omega) (by omega)
          have hz : HasE W8 W6.heap.size ⟨1, mv, ⟨#[]⟩, []⟩ (.slice none 0 0) := HasE.nil W8 _ _ rfl
          clear hbx hby m0 m1 k4
          have hq7 := (hb7.block _ HS76.out).trans HQ76.out
          obtain ⟨e1, e2, e3⟩ := put4A_end (w := W3) hq7 (Nat.le_refl _) HS76.out (HB6.out.trans (hb7.mono HB6.out.size)) hz
          obtain ⟨P, hP⟩ : ∃ P, P = put4A W8 W3.heap.size ⟨1, mv, ⟨#[]⟩, []⟩ (.slice none 0 0) := ⟨_, rfl⟩
          rw [← hP] at e1 e2 e3
          simp only [put4A] at hP
          have HP := Lib.hid hP
          have HE1 := Lib.hid e1
          have HE2 := Lib.hid e2
          have HE3 := Lib.hid e3
          have HGd := Lib.hid hg
          obtain ⟨y0, y1, y2, y3, y4, fz⟩ := box5 hq7
          have fz0 := fz 0
          have fz1 := fz 1
          have fz2 := fz 2
          have fz3 := fz 3
          have fz4 := fz 4
          clear hP e1 e2 e3 fz hq7 hz hb7 hg
          dsimp only
          rename_i KB hB
          refine hB _ _ ?_
          clear hB
          go_upto_region 12 with fail
          rw [← HP.out]
          clear y0 y1 y2 y3 y4 fz0 fz1 fz2 fz3 fz4
          obtain ⟨xs, u, hlen, hA, hb, q0, q1, q2⟩ := HSi3.out
          have p0 := (HE3.out.block _ (Array.getElem?_eq_some_iff.1 q0).1).trans q0
          have p1 := (HE3.out.block _ (Array.getElem?_eq_some_iff.1 q1).1).trans q1
          have p2 := (HE3.out.block _ (Array.getElem?_eq_some_iff.1 q2).1).trans q2
          have hAP := hA.below HE3.out
          have hbP := hb.trans (HE3.out.mono hb.size)
          have hzP := HE2.out.lower (base' := w.heap.size) (Nat.le_trans hb.size (Nat.le_trans HB6.out.size (Nat.le_refl _)))
          have HM := Lib.hid (HasE.m104 (x := ⟨-1, ⟨1, mv, ⟨#[]⟩, []⟩⟩) hzP hAP)
          have HAP := Lib.hid hAP
          have HBP := Lib.hid hbP
          have HP0 := Lib.hid p0
          have HP1 := Lib.hid p1
          have HP2 := Lib.hid p2
          have HLn := Lib.hid hlen
          unfold stC at p2
          have c5 : P.cell? ⟨r5, 5, none⟩ = some u := cell_of_row _ _ 5 _ 95 (0, 0) p2
          obtain ⟨y0, y1, y2, y3, y4, -⟩ := box5 HE1.out
          clear hlen hA hb q0 q1 q2 p0 p1 p2 hAP hbP hzP
          go_wp2_with ((with_reducible refine gate_builtin (b := .append) (xs := #[.tmp 53, .tmp 55]) rfl ?_); at_builtin; refine Kd.R_append k104 (w0 := w) w.heap.size rfl (.tmp 53) (.tmp 55) 93 104 (.agg #[(.int .i64 0), (.int .i64 0), (.int .i64 0), (.string ⟨#[]⟩), (.slice none 0 0)]) 64 rfl Try.underlying93 info104 rfl (by decide) (by omega) u xs (⟨-1, ⟨1, mv, ⟨#[]⟩, []⟩⟩ : S104) [.int .i64 (-1), .int .i64 1, .int .i64 mv, .string ⟨#[]⟩, .slice none 0 0] T1 (fun k => T1 k ∧ some k ≠ u.ownBlock) rfl rfl HM.out (fun _ hk => hk) (fun _ _ => trivial) HAP.out.r HBP.out HBP.out.size (by have := HLn.out; have := HI.out; omega) ?_; intro v1 w1 ho hb1 hg1 hat; obtain ⟨Av, cv, ev⟩ := Kd.R_slice ho; subst ev; have n2 := blk_grown (g := r5) HP2.out hg1 (Kd.R_ne HAP.out.r HP2.out (by decide)); have n0 := blk_grown (g := w.heap.size) HP0.out hg1 (Kd.R_ne HAP.out.r HP0.out (by decide)); have n1 := blk_grown (g := w.heap.size + 1) HP1.out hg1 (Kd.R_ne HAP.out.r HP1.out (by decide)); have N0 := Lib.hid n0; have N1 := Lib.hid n1; have N2 := Lib.hid n2; have NB := Lib.hid hb1; have NR := Lib.hid ho; clear n0 n1 ho hb1 hg1 hat; unfold stC at n2; obtain ⟨_, _, _, _, _, z5, zz⟩ := box6 n2; have zz5 := zz 5; clear n2 zz)
          go_roundw
          case rel =>
            have hi3 := HI.out
            have hw : wrap64 ((i : Int) + 1) = ((i + 1 : Nat) : Int) := by unfold wrap64; omega
            have NR2 : k104.R 104 w1 w.heap.size T1 (.slice Av (xs.length + 1) cv) (xs ++ [⟨-1, ⟨1, mv, ⟨#[]⟩, []⟩⟩]) := by
              have := NR.out
              rw [List.length_append] at this
              exact this
            have hr5 := HR5.out
            have hgood : ∀ z ∈ xs ++ [(⟨-1, ⟨1, mv, ⟨#[]⟩, []⟩⟩ : S104)], goodA z := fun z hz => by
              rcases List.mem_append.1 hz with h | h
              · exact HAP.out.good z h
              · rw [List.mem_singleton.1 h]; exact .inr ⟨rfl, HGd.out⟩
            have e2 := N2.out
            unfold stC at e2
            have hS : datS x A3 A4 c3 c4 kd r5 w (w1.setCell ⟨r5, 5, none⟩ (.slice Av (xs.length + 1) cv)) (i + 1) :=
              ⟨xs ++ [⟨-1, ⟨1, mv, ⟨#[]⟩, []⟩⟩], .slice Av (xs.length + 1) cv, by rw [List.length_append, HLn.out]; rfl, HasA.set ⟨NR2, hgood⟩ N2.out (by decide) (fun k hk => Below.heap_setCell w1 ⟨r5, 5, none⟩ _ k hk), NB.out.setCell (show w.heap.size ≤ r5 by omega) _,
                (Below.heap_setCell w1 ⟨r5, 5, none⟩ _ w.heap.size (show w.heap.size ≠ r5 by omega)).trans N0.out, (Below.heap_setCell w1 ⟨r5, 5, none⟩ _ (w.heap.size + 1) (show w.heap.size + 1 ≠ r5 by omega)).trans N1.out,
                by simp [World.setCell, Array.getElem?_modify, e2, stC]⟩
            exact ⟨i + 1, by rw [hw], by omega, Lib.hid hS⟩
          case measure =>
            have hi3 := HI.out
            have hw : wrap64 ((i : Int) + 1) = ((i + 1 : Nat) : Int) := by unfold wrap64; omega
            rw [hw]
            simp [intOf]
            omega
        · rw [decide_eq_false ha1] at t2
          clear t3 hln
          go_wp2_with fail
          refine (within51 n 6 W6 (by omega) (by omega)).mono ?_
          rintro e W7 ⟨rfl, hbx⟩
          rw [HMM.out]
          have t4 : (mm == 1) = false := by simp [hT]
          go_wp2_with fail
          refine (within51 n 256 W7 (by omega) (by omega)).mono ?_
          rintro e W8 ⟨rfl, hby⟩
          have m0 := Int.emod_nonneg n (show (256 : Int) ≠ 0 by omega)
          have m1 := Int.emod_lt_of_pos n (show (0 : Int) < 256 by omega)
          generalize n % 256 = mv at *
          have hb7 := hbx.trans (hby.mono hbx.size)
          have hg : goodE 9 ⟨1, mv, ⟨#[]⟩, []⟩ := goodE_num 8 mv (by omega) (by omega)
          have hz : HasE W8 W6.heap.size ⟨1, mv, ⟨#[]⟩, []⟩ (.slice none 0 0) := HasE.nil W8 _ _ rfl
          clear hbx hby m0 m1 k4
          have hq7 := (hb7.block _ HS76.out).trans HQ76.out
          obtain ⟨e1, e2, e3⟩ := put4A_end (w := W3) hq7 (Nat.le_refl _) HS76.out (HB6.out.trans (hb7.mono HB6.out.size)) hz
          obtain ⟨P, hP⟩ : ∃ P, P = put4A W8 W3.heap.size ⟨1, mv, ⟨#[]⟩, []⟩ (.slice none 0 0) := ⟨_, rfl⟩
          rw [← hP] at e1 e2 e3
          simp only [put4A] at hP
          have HP := Lib.hid hP
          have HE1 := Lib.hid e1
          have HE2 := Lib.hid e2
          have HE3 := Lib.hid e3
          have HGd := Lib.hid hg
          obtain ⟨y0, y1, y2, y3, y4, fz⟩ := box5 hq7
          have fz0 := fz 0
          have fz1 := fz 1
          have fz2 := fz 2
          have fz3 := fz 3
          have fz4 := fz 4
          clear hP e1 e2 e3 fz hq7 hz hb7 hg
          dsimp only
          rename_i KB hB
          refine hB _ _ ?_
          clear hB
          go_upto_region 12 with fail
          rw [← HP.out]
          clear y0 y1 y2 y3 y4 fz0 fz1 fz2 fz3 fz4
          obtain ⟨xs, u, hlen, hA, hb, q0, q1, q2⟩ := HSi3.out
          have p0 := (HE3.out.block _ (Array.getElem?_eq_some_iff.1 q0).1).trans q0
          have p1 := (HE3.out.block _ (Array.getElem?_eq_some_iff.1 q1).1).trans q1
          have p2 := (HE3.out.block _ (Array.getElem?_eq_some_iff.1 q2).1).trans q2
          have hAP := hA.below HE3.out
          have hbP := hb.trans (HE3.out.mono hb.size)
          have hzP := HE2.out.lower (base' := w.heap.size) (Nat.le_trans hb.size (Nat.le_trans HB6.out.size (Nat.le_refl _)))
          have HM := Lib.hid (HasE.m104 (x := ⟨-1, ⟨1, mv, ⟨#[]⟩, []⟩⟩) hzP hAP)
          have HAP := Lib.hid hAP
          have HBP := Lib.hid hbP
          have HP0 := Lib.hid p0
          have HP1 := Lib.hid p1
          have HP2 := Lib.hid p2
          have HLn := Lib.hid hlen
          unfold stC at p2
          have c5 : P.cell? ⟨r5, 5, none⟩ = some u := cell_of_row _ _ 5 _ 95 (0, 0) p2
          obtain ⟨y0, y1, y2, y3, y4, -⟩ := box5 HE1.out
          clear hlen hA hb q0 q1 q2 p0 p1 p2 hAP hbP hzP
          go_wp2_with ((with_reducible refine gate_builtin (b := .append) (xs := #[.tmp 53, .tmp 55]) rfl ?_); at_builtin; refine Kd.R_append k104 (w0 := w) w.heap.size rfl (.tmp 53) (.tmp 55) 93 104 (.agg #[(.int .i64 0), (.int .i64 0), (.int .i64 0), (.string ⟨#[]⟩), (.slice none 0 0)]) 64 rfl Try.underlying93 info104 rfl (by decide) (by omega) u xs (⟨-1, ⟨1, mv, ⟨#[]⟩, []⟩⟩ : S104) [.int .i64 (-1), .int .i64 1, .int .i64 mv, .string ⟨#[]⟩, .slice none 0 0] T1 (fun k => T1 k ∧ some k ≠ u.ownBlock) rfl rfl HM.out (fun _ hk => hk) (fun _ _ => trivial) HAP.out.r HBP.out HBP.out.size (by have := HLn.out; have := HI.out; omega) ?_; intro v1 w1 ho hb1 hg1 hat; obtain ⟨Av, cv, ev⟩ := Kd.R_slice ho; subst ev; have n2 := blk_grown (g := r5) HP2.out hg1 (Kd.R_ne HAP.out.r HP2.out (by decide)); have n0 := blk_grown (g := w.heap.size) HP0.out hg1 (Kd.R_ne HAP.out.r HP0.out (by decide)); have n1 := blk_grown (g := w.heap.size + 1) HP1.out hg1 (Kd.R_ne HAP.out.r HP1.out (by decide)); have N0 := Lib.hid n0; have N1 := Lib.hid n1; have N2 := Lib.hid n2; have NB := Lib.hid hb1; have NR := Lib.hid ho; clear n0 n1 ho hb1 hg1 hat; unfold stC at n2; obtain ⟨_, _, _, _, _, z5, zz⟩ := box6 n2; have zz5 := zz 5; clear n2 zz)
          go_roundw
          case rel =>
            have hi3 := HI.out
            have hw : wrap64 ((i : Int) + 1) = ((i + 1 : Nat) : Int) := by unfold wrap64; omega
            have NR2 : k104.R 104 w1 w.heap.size T1 (.slice Av (xs.length + 1) cv) (xs ++ [⟨-1, ⟨1, mv, ⟨#[]⟩, []⟩⟩]) := by
              have := NR.out
              rw [List.length_append] at this
              exact this
            have hr5 := HR5.out
            have hgood : ∀ z ∈ xs ++ [(⟨-1, ⟨1, mv, ⟨#[]⟩, []⟩⟩ : S104)], goodA z := fun z hz => by
              rcases List.mem_append.1 hz with h | h
              · exact HAP.out.good z h
              · rw [List.mem_singleton.1 h]; exact .inr ⟨rfl, HGd.out⟩
            have e2 := N2.out
            unfold stC at e2
            have hS : datS x A3 A4 c3 c4 kd r5 w (w1.setCell ⟨r5, 5, none⟩ (.slice Av (xs.length + 1) cv)) (i + 1) :=
              ⟨xs ++ [⟨-1, ⟨1, mv, ⟨#[]⟩, []⟩⟩], .slice Av (xs.length + 1) cv, by rw [List.length_append, HLn.out]; rfl, HasA.set ⟨NR2, hgood⟩ N2.out (by decide) (fun k hk => Below.heap_setCell w1 ⟨r5, 5, none⟩ _ k hk), NB.out.setCell (show w.heap.size ≤ r5 by omega) _,
                (Below.heap_setCell w1 ⟨r5, 5, none⟩ _ w.heap.size (show w.heap.size ≠ r5 by omega)).trans N0.out, (Below.heap_setCell w1 ⟨r5, 5, none⟩ _ (w.heap.size + 1) (show w.heap.size + 1 ≠ r5 by omega)).trans N1.out,
                by simp [World.setCell, Array.getElem?_modify, e2, stC]⟩
            exact ⟨i + 1, by rw [hw], by omega, Lib.hid hS⟩
          case measure =>
            have hi3 := HI.out
            have hw : wrap64 ((i : Int) + 1) = ((i + 1 : Nat) : Int) := by unfold wrap64; omega
            rw [hw]
            simp [intOf]
            omega
    · have t1 : decide ((i : Int) ≤ m) = false := decide_eq_false him
      obtain ⟨xs, u, hlen, hA, hb, q0, q1, q2⟩ := HSi.out
      have p1 := (hb3.block _ (Array.getElem?_eq_some_iff.1 q1).1).trans q1
      have p2 := (hb3.block _ (Array.getElem?_eq_some_iff.1 q2).1).trans q2
      have hA3 := hA.below hb3
      have hb4 := hb.trans (hb3.mono hb.size)
      clear hb3 hb hA q0 q1 q2 k2
      obtain ⟨A', c', rfl, -, -⟩ := hA3.form
      unfold stC at p1 p2
      obtain ⟨a0, a1, a2, a3, a4, a5, az⟩ := box6 p2
      obtain ⟨y0, y1, y2, y3, y4, y5, fz⟩ := box6 p1
      have fz0 := fz 0
      have fz1 := fz 1
      have fz2 := fz 2
      have fz3 := fz 3
      have fz4 := fz 4
      have fz5 := fz 5
      obtain ⟨f1, f2, f3⟩ := put6_end 1 ⟨#[]⟩ kd 0 ⟨#[]⟩ p1 (Nat.le_succ _) hb4 hA3
      obtain ⟨z0, z1, z2, z3, z4, z5, -⟩ := box6 f1
      have HLn := Lib.hid (show xs.length ≤ 4 by rw [hlen]; exact hi)
      have HF2 := Lib.hid f2
      have HF3 := Lib.hid f3
      clear p1 p2 fz az f1 HSi hlen f2 f3 hA3 hb4 hi m0 m1
      go_wp2_with fail
      refine bodyPost_ret (v := .agg (stC 1 ⟨#[]⟩ kd 0 ⟨#[]⟩ (.slice A' xs.length c'))) (by simp only [put6S] at z0 z1 z2 z3 z4 z5; simp [results, Try.results66, go_sem, z0, z1, z2, z3, z4, z5, stC]) rfl ⟨⟨#[]⟩, kd, 0, ⟨#[]⟩, xs, _, rfl, ⟨rfl, rfl, rfl, rfl, HLn.out⟩, HF2.out, HF3.out⟩
end Go.Proofs.Ytifdkkkcecpjoaa
end
section
/-
  A raw statement, made: what holds of the statement while it is made.
-/
namespace Go.Proofs.Ytifdkkkcecpjoaa
set_option linter.unusedVariables false
set_option linter.unusedSimpArgs false
open Go.RowKit Go.Proofs.YtifdkkkcecpjoaaW Go.Proofs.YtifdkkkcecpjoaaW.PrintWords Tx
attribute [local go_sem ↓] Go.wp_at_zero Go.wp_at_succ
/-- A statement that may be. -/
def okS (kd op : Int) (tx : ByteArray) (xs : List S104) : Prop := 1 ≤ kd ∧ kd ≤ 9 ∧ (kd = 1 → 0 ≤ op ∧ op < 66) ∧ (kd = 2 → 0 ≤ op ∧ op < 3) ∧ tx.size ≤ 60 ∧ xs.length ≤ 5
def okL (lb : ByteArray) (kd op : Int) (tx : ByteArray) (xs : List S104) : Prop := lb.size ≤ 6 ∧ okS kd op tx xs
structure mkS (x : S63) (A3 A4 : Option Addr) (c3 c4 : Nat) (w W : World) (kd op : Int) (tx : ByteArray) (xs : List S104) (u : Value) : Prop where
  row : HasA W w.heap.size xs u
  bel : Below w.heap.size w W
  q0 : W.heap[w.heap.size]? = some (.cells (rawC x A3 A4 c3 c4) 63 (0, 0))
  q1 : W.heap[w.heap.size + 1]? = some (.cells (stC 0 ⟨#[]⟩ 0 0 ⟨#[]⟩ (.slice none 0 0)) 95 (0, 0))
  q2 : W.heap[w.heap.size + 2]? = some (.cells (stC 1 ⟨#[]⟩ kd op tx u) 95 (0, 0))
variable {x : S63} {A3 A4 : Option Addr} {c3 c4 : Nat} {w W W' : World} {kd op : Int} {tx : ByteArray} {xs ys : List S104} {u v : Value}
theorem mkS.below (h : mkS x A3 A4 c3 c4 w W kd op tx xs u) (hb : Below W.heap.size W W') : mkS x A3 A4 c3 c4 w W' kd op tx xs u :=
  ⟨h.row.below hb, h.bel.trans (hb.mono h.bel.size), (hb.block _ (Array.getElem?_eq_some_iff.1 h.q0).1).trans h.q0, (hb.block _ (Array.getElem?_eq_some_iff.1 h.q1).1).trans h.q1, (hb.block _ (Array.getElem?_eq_some_iff.1 h.q2).1).trans h.q2⟩
theorem mkS.lt (h : mkS x A3 A4 c3 c4 w W kd op tx xs u) : w.heap.size + 2 < W.heap.size := (Array.getElem?_eq_some_iff.1 h.q2).1
theorem mkS.cut (h : mkS x A3 A4 c3 c4 w W kd op tx xs u) {i : Nat} {z : Value} {kd' op' : Int} {tx' : ByteArray} {u' : Value} (hr : HasA W w.heap.size ys u')
    (hz : (stC 1 ⟨#[]⟩ kd op tx u).setIfInBounds i z = stC 1 ⟨#[]⟩ kd' op' tx' u') : mkS x A3 A4 c3 c4 w (W.setCell ⟨w.heap.size + 2, i, none⟩ z) kd' op' tx' ys u' :=
  ⟨hr.set h.q2 (by decide) (fun k hk => Below.heap_setCell W ⟨_, i, none⟩ _ k hk), h.bel.setCell (show w.heap.size ≤ w.heap.size + 2 by omega) _,
    (Below.heap_setCell W ⟨w.heap.size + 2, i, none⟩ _ w.heap.size (show w.heap.size ≠ w.heap.size + 2 by omega)).trans h.q0,
    (Below.heap_setCell W ⟨w.heap.size + 2, i, none⟩ _ (w.heap.size + 1) (show w.heap.size + 1 ≠ w.heap.size + 2 by omega)).trans h.q1,
    by rw [← hz]; simp [World.setCell, Array.getElem?_modify, h.q2]⟩
theorem mkS.kind (h : mkS x A3 A4 c3 c4 w W kd op tx xs u) (k : Int) : mkS x A3 A4 c3 c4 w (W.setCell ⟨w.heap.size + 2, 2, none⟩ (.int .i64 k)) k op tx xs u := h.cut h.row rfl
theorem mkS.oper (h : mkS x A3 A4 c3 c4 w W kd op tx xs u) (k : Int) : mkS x A3 A4 c3 c4 w (W.setCell ⟨w.heap.size + 2, 3, none⟩ (.int .i64 k)) kd k tx xs u := h.cut h.row rfl
theorem mkS.text (h : mkS x A3 A4 c3 c4 w W kd op tx xs u) (t : ByteArray) : mkS x A3 A4 c3 c4 w (W.setCell ⟨w.heap.size + 2, 4, none⟩ (.string t)) kd op t xs u := h.cut h.row rfl
theorem mkS.args (h : mkS x A3 A4 c3 c4 w W kd op tx xs u) (hr : HasA W w.heap.size ys v) : mkS x A3 A4 c3 c4 w (W.setCell ⟨w.heap.size + 2, 5, none⟩ v) kd op tx ys v := h.cut hr rfl
theorem mkS.to (h : mkS x A3 A4 c3 c4 w W kd op tx xs u) {z : World} (hz : W = z) : mkS x A3 A4 c3 c4 w z kd op tx xs u := hz ▸ h
theorem mkS.al (h : mkS x A3 A4 c3 c4 w W kd op tx xs u) {o : Obj} {z : World} (hz : W.alloc o = z) : mkS x A3 A4 c3 c4 w z kd op tx xs u := hz ▸ h.below (below_alloc (Below.refl _ _) _)
theorem mkS.kind' (h : mkS x A3 A4 c3 c4 w W kd op tx xs u) {k : Int} {z : World} (hz : W.setCell ⟨w.heap.size + 2, 2, none⟩ (.int .i64 k) = z) : mkS x A3 A4 c3 c4 w z k op tx xs u := hz ▸ h.kind k
theorem mkS.text' (h : mkS x A3 A4 c3 c4 w W kd op tx xs u) {t : ByteArray} {z : World} (hz : W.setCell ⟨w.heap.size + 2, 4, none⟩ (.string t) = z) : mkS x A3 A4 c3 c4 w z kd op t xs u := hz ▸ h.text t
theorem mkS.args' (h : mkS x A3 A4 c3 c4 w W kd op tx xs u) (hr : HasA W w.heap.size ys v) {z : World} (hz : W.setCell ⟨w.heap.size + 2, 5, none⟩ v = z) : mkS x A3 A4 c3 c4 w z kd op tx ys v := hz ▸ h.args hr
theorem mkS.carry (h : mkS x A3 A4 c3 c4 w W kd op tx xs u) (hr : HasA W w.heap.size ys v) {i : Nat} {q : Value} {z : World} (hz : W.setCell ⟨w.heap.size + 2, i, none⟩ q = z) : HasA z w.heap.size ys v :=
  hz ▸ hr.set h.q2 (by decide) (fun k hk => Below.heap_setCell W ⟨_, i, none⟩ _ k hk)
theorem HasE.stay {w w' : World} {base : Nat} {y : S102} {v : Value} (h : HasE w base y v) {g t : Nat} {cells : Array Value} (hg : w.heap[g]? = some (.cells cells t (0, 0))) (ht : ∀ q, q ∈ 102 :: k102.E → q ≠ t) (hk : ∀ k, k ≠ g → w'.heap[k]? = w.heap[k]?) : HasE w' base y v :=
  ⟨Kd.R_mono (Kd.R_step (Kd.R_types h.r hg ht) (fun k hk' _ => hk k hk'.2)) (fun _ _ => trivial)⟩
theorem mkS.carryE (h : mkS x A3 A4 c3 c4 w W kd op tx xs u) {base : Nat} {y : S102} (hr : HasE W base y v) {i : Nat} {q : Value} {z : World} (hz : W.setCell ⟨w.heap.size + 2, i, none⟩ q = z) : HasE z base y v :=
  hz ▸ hr.stay h.q2 (by decide) (fun k hk => Below.heap_setCell W ⟨_, i, none⟩ _ k hk)
theorem HasA.al {base : Nat} (hr : HasA W base ys v) {o : Obj} {z : World} (hz : W.alloc o = z) : HasA z base ys v := hz ▸ hr.below (below_alloc (Below.refl _ _) _)
theorem mkS.whole (h : mkS x A3 A4 c3 c4 w W kd op tx xs u) (hr : HasA W w.heap.size ys v) (kd' op' : Int) (tx' : ByteArray) : mkS x A3 A4 c3 c4 w (put6S W (w.heap.size + 2) 1 ⟨#[]⟩ kd' op' tx' v) kd' op' tx' ys v := by
  have h0 : mkS x A3 A4 c3 c4 w _ kd op tx xs u := h.cut (i := 0) (z := .int .i64 1) h.row rfl
  have r0 := h.carry hr (i := 0) (q := .int .i64 1) rfl
  have h1 : mkS x A3 A4 c3 c4 w _ kd op tx xs u := h0.cut (i := 1) (z := .string ⟨#[]⟩) h0.row rfl
  have r1 := h0.carry r0 (i := 1) (q := .string ⟨#[]⟩) rfl
  have r2 := h1.carry r1 (i := 2) (q := .int .i64 kd') rfl
  have h2 := h1.kind kd'
  have r3 := h2.carry r2 (i := 3) (q := .int .i64 op') rfl
  have h3 := h2.oper op'
  have r4 := h3.carry r3 (i := 4) (q := .string tx') rfl
  exact (h3.text tx').args r4
/-- A row that was made in the meantime. -/
structure asS (w W : World) (ab : Nat) (cs : Array Value) (t : TypeId) : Prop where
  gt : w.heap.size + 2 < ab
  q : W.heap[ab]? = some (.cells cs t (0, 0))
theorem asS.new {cs : Array Value} {t : TypeId} {z : World} (h : mkS x A3 A4 c3 c4 w W kd op tx xs u) (hz : W.alloc (.cells cs t) = z) : asS w z W.heap.size cs t := ⟨h.lt, hz ▸ heap_alloc_new W _⟩
theorem asS.below {ab : Nat} {cs : Array Value} {t : TypeId} (h : asS w W ab cs t) (hb : Below W.heap.size W W') : asS w W' ab cs t := ⟨h.gt, (hb.block _ (Array.getElem?_eq_some_iff.1 h.q).1).trans h.q⟩
theorem asS.al {ab : Nat} {cs : Array Value} {t : TypeId} (h : asS w W ab cs t) {o : Obj} {z : World} (hz : W.alloc o = z) : asS w z ab cs t := hz ▸ h.below (below_alloc (Below.refl _ _) _)
theorem asS.set {ab : Nat} {cs : Array Value} {t : TypeId} (h : asS w W ab cs t) {i : Nat} {q : Value} {z : World} (hz : W.setCell ⟨w.heap.size + 2, i, none⟩ q = z) : asS w z ab cs t :=
  ⟨h.gt, hz ▸ (Below.heap_setCell W ⟨w.heap.size + 2, i, none⟩ _ ab (show ab ≠ w.heap.size + 2 by have := h.gt; omega)).trans h.q⟩
theorem asS.at {ab : Nat} {cs : Array Value} {t : TypeId} (h : asS w W ab cs t) {i : Nat} {q : Value} (hi : cs[i]? = some q) : W.cell? ⟨ab, i, none⟩ = some q := (cell_of_row W ab i cs t (0, 0) h.q).trans hi
/-- The cells of the raw one, and of what is made. -/
theorem mkS.raw (h : mkS x A3 A4 c3 c4 w W kd op tx xs u) : W.cell? ⟨w.heap.size, 0, none⟩ = some (.int .i64 x.f0) ∧ W.cell? ⟨w.heap.size, 1, none⟩ = some (.int .i64 x.f1) ∧ W.cell? ⟨w.heap.size, 2, none⟩ = some (.int .i64 x.f2) ∧
    W.cell? ⟨w.heap.size, 3, none⟩ = some (.slice A3 x.f3.length c3) ∧ W.cell? ⟨w.heap.size, 4, none⟩ = some (.slice A4 x.f4.length c4) ∧ W.cell? ⟨w.heap.size, 5, none⟩ = some (.bool x.f5) := by
  obtain ⟨a0, a1, a2, a3, a4, a5, -⟩ := box6 h.q0
  exact ⟨a0, a1, a2, a3, a4, a5⟩
theorem mkS.st (h : mkS x A3 A4 c3 c4 w W kd op tx xs u) : W.cell? ⟨w.heap.size + 2, 0, none⟩ = some (.int .i64 1) ∧ W.cell? ⟨w.heap.size + 2, 1, none⟩ = some (.string ⟨#[]⟩) ∧ W.cell? ⟨w.heap.size + 2, 2, none⟩ = some (.int .i64 kd) ∧
    W.cell? ⟨w.heap.size + 2, 3, none⟩ = some (.int .i64 op) ∧ W.cell? ⟨w.heap.size + 2, 4, none⟩ = some (.string tx) ∧ W.cell? ⟨w.heap.size + 2, 5, none⟩ = some u := by
  obtain ⟨a0, a1, a2, a3, a4, a5, -⟩ := box6 h.q2
  exact ⟨a0, a1, a2, a3, a4, a5⟩
theorem mkS.fz (h : mkS x A3 A4 c3 c4 w W kd op tx xs u) : W.frozen? ⟨w.heap.size + 2, 0, none⟩ = false ∧ W.frozen? ⟨w.heap.size + 2, 1, none⟩ = false ∧ W.frozen? ⟨w.heap.size + 2, 2, none⟩ = false ∧ W.frozen? ⟨w.heap.size + 2, 3, none⟩ = false ∧ W.frozen? ⟨w.heap.size + 2, 4, none⟩ = false ∧ W.frozen? ⟨w.heap.size + 2, 5, none⟩ = false := by
  obtain ⟨-, -, -, -, -, -, a⟩ := box6 h.q2
  exact ⟨a 0, a 1, a 2, a 3, a 4, a 5⟩
/-- A row of operands made in one. -/
theorem rowA_lit {base : Nat} {zs : List S104} {inner : List Value} (hb : base ≤ W.heap.size) (hrep : Reps (k104.M W base T1) 5 zs inner) (hm : zs.length ≤ 1000) :
    k104.R 104 (W.alloc (.cells inner.toArray 104)) base T1 (.slice (some ⟨W.heap.size, 0, none⟩) zs.length zs.length) zs := by
  refine ⟨fun _ _ => trivial, inner, ?_, ?_⟩
  · have h2 := World.ownsRow_lit (base := base) (e := 104) (size := 5) W inner.toArray zs.length hb (by unfold maxLen; omega) (by simpa using hrep.1)
    have hs : k104.sz = 5 := rfl
    rw [hs]
    simpa using h2
  · refine hrep.imp_ (fun p c hp => k104.M_mono (fun k hk => ⟨trivial, fun he => ?_⟩) (Kd.M_below (k104.M_bound hp) (below_alloc (Below.refl _ _) _)))
    have h3 : k = W.heap.size := by simpa [Value.ownBlock] using he
    have := hk.2.2.1
    omega
theorem m104_any {base : Nat} {y : S104} {v : Value} (h : HasE W base y.f1 v) : k104.M W base T1 y [.int .i64 y.f0, .int .i64 y.f1.f0, .int .i64 y.f1.f1, .string y.f1.f2, v] :=
  k104_mkM _ _ _ y h.r
theorem rowA_one {base : Nat} {y : S104} {v : Value} (hb : base ≤ W.heap.size) (h : HasE W base y.f1 v) (hg : goodA y) :
    HasA (W.alloc (.cells #[.int .i64 y.f0, .int .i64 y.f1.f0, .int .i64 y.f1.f1, .string y.f1.f2, v] 104)) base [y] (.slice (some ⟨W.heap.size, 0, none⟩) 1 1) :=
  ⟨rowA_lit (zs := [y]) (inner := [.int .i64 y.f0, .int .i64 y.f1.f0, .int .i64 y.f1.f1, .string y.f1.f2, v]) hb (by simpa using (Reps.none (k104.M W base T1) 5).snoc (m104_any h) rfl) (by simp), fun z hz => by rw [List.mem_singleton.1 hz]; exact hg⟩
theorem rowA_two {base : Nat} {y z : S104} {v u : Value} (hb : base ≤ W.heap.size) (h : HasE W base y.f1 v) (h' : HasE W base z.f1 u) (hg : goodA y) (hg' : goodA z) :
    HasA (W.alloc (.cells #[.int .i64 y.f0, .int .i64 y.f1.f0, .int .i64 y.f1.f1, .string y.f1.f2, v, .int .i64 z.f0, .int .i64 z.f1.f0, .int .i64 z.f1.f1, .string z.f1.f2, u] 104)) base [y, z] (.slice (some ⟨W.heap.size, 0, none⟩) 2 2) :=
  ⟨rowA_lit (zs := [y, z]) (inner := [.int .i64 y.f0, .int .i64 y.f1.f0, .int .i64 y.f1.f1, .string y.f1.f2, v] ++ [.int .i64 z.f0, .int .i64 z.f1.f0, .int .i64 z.f1.f1, .string z.f1.f2, u]) hb (by simpa using ((Reps.none (k104.M W base T1) 5).snoc (m104_any h) rfl).snoc (m104_any h') rfl) (by simp), fun q hq => by
    rcases List.mem_cons.1 hq with rfl | hq
    · exact hg
    · rw [List.mem_singleton.1 hq]; exact hg'⟩
theorem rowA_one' {base : Nat} {y : S104} {v : Value} {z : World} (hz : W.alloc (.cells #[.int .i64 y.f0, .int .i64 y.f1.f0, .int .i64 y.f1.f1, .string y.f1.f2, v] 104) = z) (hb : base ≤ W.heap.size) (h : HasE W base y.f1 v) (hg : goodA y) : HasA z base [y] (.slice (some ⟨W.heap.size, 0, none⟩) 1 1) := hz ▸ rowA_one hb h hg
/-- Tables. -/
def tab19 : Array Value := #[.string ⟨#[]⟩, .string ⟨#[104, 105]⟩, .string ⟨#[97, 32, 35, 32, 98, 44, 32, 99]⟩, .string ⟨#[48, 49, 50, 51, 52, 53, 54, 55, 56, 57]⟩, .string ⟨#[116, 97, 98]⟩]
theorem tab19_at : ∀ k : Nat, k < 5 → ∃ v : ByteArray, tab19[k]? = some (.string v) ∧ v.size ≤ 60
  | 0, _ => ⟨_, rfl, by decide⟩
  | 1, _ => ⟨_, rfl, by decide⟩
  | 2, _ => ⟨_, rfl, by decide⟩
  | 3, _ => ⟨_, rfl, by decide⟩
  | 4, _ => ⟨_, rfl, by decide⟩
  | k + 5, h => absurd h (by omega)
def tab3 : Array Value := #[.string ⟨#[107]⟩, .string ⟨#[115, 105, 122, 101]⟩, .string ⟨#[120]⟩]
theorem tab3_at : ∀ k : Nat, k < 3 → ∃ v : ByteArray, tab3[k]? = some (.string v) ∧ v.size ≤ 60
  | 0, _ => ⟨_, rfl, by decide⟩
  | 1, _ => ⟨_, rfl, by decide⟩
  | 2, _ => ⟨_, rfl, by decide⟩
  | k + 3, h => absurd h (by omega)
def tab21 : Array Value := #[.int .i64 1, .int .i64 2, .int .i64 4, .int .i64 8, .int .i64 16, .int .i64 3]
theorem tab21_at : ∀ k : Nat, k < 6 → ∃ v : Int, tab21[k]? = some (.int .i64 v) ∧ 0 ≤ v ∧ v ≤ 1000
  | 0, _ => ⟨_, rfl, by decide, by decide⟩
  | 1, _ => ⟨_, rfl, by decide, by decide⟩
  | 2, _ => ⟨_, rfl, by decide, by decide⟩
  | 3, _ => ⟨_, rfl, by decide, by decide⟩
  | 4, _ => ⟨_, rfl, by decide, by decide⟩
  | 5, _ => ⟨_, rfl, by decide, by decide⟩
  | k + 6, h => absurd h (by omega)
def tab23 : Array Value := #[.int .i64 0, .int .i64 2, .int .i64 100, .int .i64 250, .int .i64 252, .int .i64 254, .int .i64 256, .int .i64 7]
theorem tab23_at : ∀ k : Nat, k < 8 → ∃ v : Int, tab23[k]? = some (.int .i64 v) ∧ 0 ≤ v ∧ v ≤ 1000
  | 0, _ => ⟨_, rfl, by decide, by decide⟩
  | 1, _ => ⟨_, rfl, by decide, by decide⟩
  | 2, _ => ⟨_, rfl, by decide, by decide⟩
  | 3, _ => ⟨_, rfl, by decide, by decide⟩
  | 4, _ => ⟨_, rfl, by decide, by decide⟩
  | 5, _ => ⟨_, rfl, by decide, by decide⟩
  | 6, _ => ⟨_, rfl, by decide, by decide⟩
  | 7, _ => ⟨_, rfl, by decide, by decide⟩
  | k + 8, h => absurd h (by omega)
/-- An operand that is a number, or a name. -/
theorem good_num {n : Int} (h0 : -1000000000000000 ≤ n) (h1 : n ≤ 1000000000000000) : goodA ⟨-1, ⟨1, n, ⟨#[]⟩, []⟩⟩ := .inr ⟨rfl, goodE_num 8 n h0 h1⟩
theorem good_name {s : ByteArray} (h : s.size ≤ 6) : goodA ⟨-1, ⟨2, 0, s, []⟩⟩ :=
  .inr ⟨rfl, ⟨by show s.size ≤ 12; omega, by show (-1000000000000000 : Int) ≤ 0; omega, by show (0 : Int) ≤ 1000000000000000; omega, .inl ⟨.inr (.inl rfl), rfl⟩⟩⟩
/-- With its label. -/
structure lbS (x : S63) (A3 A4 : Option Addr) (c3 c4 : Nat) (w W : World) (lb : ByteArray) (kd op : Int) (tx : ByteArray) (xs : List S104) (u : Value) : Prop where
  row : HasA W w.heap.size xs u
  bel : Below w.heap.size w W
  q1 : W.heap[w.heap.size + 1]? = some (.cells (stC 0 ⟨#[]⟩ 0 0 ⟨#[]⟩ (.slice none 0 0)) 95 (0, 0))
  q2 : W.heap[w.heap.size + 2]? = some (.cells (stC 1 lb kd op tx u) 95 (0, 0))
theorem mkS.bare (h : mkS x A3 A4 c3 c4 w W kd op tx xs u) : lbS x A3 A4 c3 c4 w W ⟨#[]⟩ kd op tx xs u := ⟨h.row, h.bel, h.q1, h.q2⟩
theorem mkS.label (h : mkS x A3 A4 c3 c4 w W kd op tx xs u) (s : ByteArray) : lbS x A3 A4 c3 c4 w (W.setCell ⟨w.heap.size + 2, 1, none⟩ (.string s)) s kd op tx xs u :=
  ⟨h.row.set h.q2 (by decide) (fun k hk => Below.heap_setCell W ⟨_, 1, none⟩ _ k hk), h.bel.setCell (show w.heap.size ≤ w.heap.size + 2 by omega) _,
    (Below.heap_setCell W ⟨w.heap.size + 2, 1, none⟩ _ (w.heap.size + 1) (show w.heap.size + 1 ≠ w.heap.size + 2 by omega)).trans h.q1,
    by simp [World.setCell, Array.getElem?_modify, h.q2, stC]⟩
def LbC (x : S63) (A3 A4 : Option Addr) (c3 c4 : Nat) (w W : World) : Prop := ∃ lb kd op tx xs u, okS kd op tx xs ∧ lb.size ≤ 6 ∧ lbS x A3 A4 c3 c4 w W lb kd op tx xs u
/-- More is held from here on. -/
theorem more_ {P : Program} {ops : Array Oper} {Q : Exit → Act → World → Prop} {md : Region.Mode} {S S' : World → Prop} (hS : ∀ w, S' w → S w) : ∀ {fuel : Nat} {l : Array Bool} {a : Act} {w : World}, S' w → PrintLast.wpAnyLast P md ops Q S' [] fuel l a w → PrintLast.wpAnyLast P md ops Q S [] fuel l a w
  | 0, _, _, _, _, h => h
  | fuel + 1, l, a, w, hw, h => ⟨h.1, fun i hi => wpOp_mono (fun a' w' h' => have h2 := h'.1 (by simp) hw; ⟨fun _ _ => hS _ h2, more_ hS h2 h'.2⟩) (h.2 i hi)⟩
/-- What is made, ahead of its label. -/
def MkC (x : S63) (A3 A4 : Option Addr) (c3 c4 : Nat) (w W : World) : Prop := ∃ kd op tx xs u, okS kd op tx xs ∧ mkS x A3 A4 c3 c4 w W kd op tx xs u
end Go.Proofs.Ytifdkkkcecpjoaa
end
section
/-
  A raw statement, made: a row while it is written, words beside.
-/
namespace Go.Proofs.Ytifdkkkcecpjoaa
set_option linter.unusedVariables false
set_option linter.unusedSimpArgs false
open Go.RowKit Go.Proofs.YtifdkkkcecpjoaaW Go.Proofs.YtifdkkkcecpjoaaW.PrintWords Tx
variable {x : S63} {A3 A4 : Option Addr} {c3 c4 : Nat} {w W W' : World} {kd op : Int} {tx : ByteArray} {xs ys : List S104} {u v : Value}
theorem asS.grown {ab : Nat} {cs : Array Value} {t : TypeId} (h : asS w W ab cs t) (hg : W.grownBy W' u.ownBlock) (hu : HasA W w.heap.size xs u) (ht : (104 : Nat) ≠ t) : asS w W' ab cs t := ⟨h.gt, blk_grown h.q hg (Kd.R_ne hu.r h.q ht)⟩
theorem asS.ln {ab : Nat} {cs : Array Value} {t : TypeId} (h : asS w W ab cs t) : ab < W.heap.size := (Array.getElem?_eq_some_iff.1 h.q).1
/-- The same, while its row is being written. -/
structure mkG (x : S63) (A3 A4 : Option Addr) (c3 c4 : Nat) (w W : World) (kd op : Int) (tx : ByteArray) (u : Value) : Prop where
  bel : Below w.heap.size w W
  q0 : W.heap[w.heap.size]? = some (.cells (rawC x A3 A4 c3 c4) 63 (0, 0))
  q1 : W.heap[w.heap.size + 1]? = some (.cells (stC 0 ⟨#[]⟩ 0 0 ⟨#[]⟩ (.slice none 0 0)) 95 (0, 0))
  q2 : W.heap[w.heap.size + 2]? = some (.cells (stC 1 ⟨#[]⟩ kd op tx u) 95 (0, 0))
theorem mkS.grown (h : mkS x A3 A4 c3 c4 w W kd op tx xs u) (hg : W.grownBy W' u.ownBlock) (hb : Below w.heap.size w W') : mkG x A3 A4 c3 c4 w W' kd op tx u :=
  ⟨hb, blk_grown h.q0 hg (Kd.R_ne h.row.r h.q0 (by decide)), blk_grown h.q1 hg (Kd.R_ne h.row.r h.q1 (by decide)), blk_grown h.q2 hg (Kd.R_ne h.row.r h.q2 (by decide))⟩
theorem mkG.args (h : mkG x A3 A4 c3 c4 w W kd op tx u) (hr : HasA W w.heap.size ys v) {z : World} (hz : W.setCell ⟨w.heap.size + 2, 5, none⟩ v = z) : mkS x A3 A4 c3 c4 w z kd op tx ys v := by
  subst hz
  exact ⟨hr.set h.q2 (by decide) (fun k hk => Below.heap_setCell W ⟨_, 5, none⟩ _ k hk), h.bel.setCell (show w.heap.size ≤ w.heap.size + 2 by omega) _,
    (Below.heap_setCell W ⟨w.heap.size + 2, 5, none⟩ _ w.heap.size (show w.heap.size ≠ w.heap.size + 2 by omega)).trans h.q0,
    (Below.heap_setCell W ⟨w.heap.size + 2, 5, none⟩ _ (w.heap.size + 1) (show w.heap.size + 1 ≠ w.heap.size + 2 by omega)).trans h.q1,
    by simp [World.setCell, Array.getElem?_modify, h.q2, stC]⟩
theorem mkG.raw (h : mkG x A3 A4 c3 c4 w W kd op tx u) : W.cell? ⟨w.heap.size, 0, none⟩ = some (.int .i64 x.f0) ∧ W.cell? ⟨w.heap.size, 1, none⟩ = some (.int .i64 x.f1) ∧ W.cell? ⟨w.heap.size, 2, none⟩ = some (.int .i64 x.f2) ∧
    W.cell? ⟨w.heap.size, 3, none⟩ = some (.slice A3 x.f3.length c3) ∧ W.cell? ⟨w.heap.size, 4, none⟩ = some (.slice A4 x.f4.length c4) ∧ W.cell? ⟨w.heap.size, 5, none⟩ = some (.bool x.f5) := by
  obtain ⟨a0, a1, a2, a3, a4, a5, -⟩ := box6 h.q0
  exact ⟨a0, a1, a2, a3, a4, a5⟩
theorem mkG.st5 (h : mkG x A3 A4 c3 c4 w W kd op tx u) : W.cell? ⟨w.heap.size + 2, 5, none⟩ = some u ∧ W.frozen? ⟨w.heap.size + 2, 5, none⟩ = false := by
  obtain ⟨-, -, -, -, -, a5, a⟩ := box6 h.q2
  exact ⟨a5, a 5⟩
/-- A row of words beside. -/
def WsS (w W : World) (A : Option Addr) (strs : List ByteArray) : Prop := ∀ (i : Nat) (s : ByteArray), strs[i]? = some s → ∃ (g : Nat) (cur : Array Value), A = some ⟨g, 0, none⟩ ∧ cur[i]? = some (Value.string s) ∧ asS w W g cur 9
theorem WsS.new {A : Option Addr} {c base : Nat} {strs : List ByteArray} (hb : w.heap.size + 2 < base) (h : Kd.R Kd.string 9 W base (fun _ => True) (.slice A strs.length c) strs) : WsS w W A strs := by
  obtain ⟨_, inner, ⟨hl, ho⟩, hr⟩ := h
  intro i s hs
  rcases ho with ⟨hn, h0⟩ | ⟨g, cap, cur, hv, hg, hq, hc, _, hcs, hin⟩
  · rw [List.eq_nil_of_length_eq_zero h0] at hs; simp at hs
  · injection hv with hA _ _
    refine ⟨g, cur, hA, ?_, by omega, hq⟩
    have hi : i < strs.length := (List.getElem?_eq_some_iff.1 hs).1
    have h2 := hr.2 i s hs
    have hk : Kd.string.sz = 1 := rfl
    rw [hk] at h2 hin
    have h3 : (inner.drop (i * 1)).take 1 = [.string s] := h2
    have h4 : inner[i]? = some (.string s) := by
      have := congrArg (fun l : List Value => l[0]?) h3
      simpa [List.getElem?_take, List.getElem?_drop] using this
    rw [← hin, List.getElem?_take] at h4
    have h5 : i < strs.length ∧ cur[i]? = some (Value.string s) := by simpa [show i < strs.length * 1 by omega] using h4
    exact h5.2
theorem WsS.step {A : Option Addr} {strs : List ByteArray} (h : WsS w W A strs) (hs : ∀ (g : Nat) (cur : Array Value), asS w W g cur 9 → asS w W' g cur 9) : WsS w W' A strs := by
  intro i s hi
  obtain ⟨g, cur, ha, hc, hq⟩ := h i s hi
  exact ⟨g, cur, ha, hc, hs g cur hq⟩
def GrC (x : S63) (A3 A4 : Option Addr) (c3 c4 : Nat) (w : World) (m : Int) (W : World) : Prop := ∃ xs u, xs.length ≤ 2 ∧ mkS x A3 A4 c3 c4 w W 2 m ⟨#[]⟩ xs u
def LpS (x : S63) (A3 A4 : Option Addr) (c3 c4 : Nat) (w : World) (op : Int) (A : Option Addr) (strs : List ByteArray) (W : World) (i : Nat) : Prop := ∃ xs u, xs.length = i ∧ mkS x A3 A4 c3 c4 w W 1 op ⟨#[]⟩ xs u ∧ WsS w W A strs
theorem rowA_two' {base : Nat} {y z : S104} {v u : Value} {Z : World} (hz : W.alloc (.cells #[.int .i64 y.f0, .int .i64 y.f1.f0, .int .i64 y.f1.f1, .string y.f1.f2, v, .int .i64 z.f0, .int .i64 z.f1.f0, .int .i64 z.f1.f1, .string z.f1.f2, u] 104) = Z) (hb : base ≤ W.heap.size) (h : HasE W base y.f1 v) (h' : HasE W base z.f1 u) (hg : goodA y) (hg' : goodA z) : HasA Z base [y, z] (.slice (some ⟨W.heap.size, 0, none⟩) 2 2) := hz ▸ rowA_two hb h h' hg hg'
theorem HasA.snoc {base : Nat} {y : S104} (h : k104.R 104 W base T1 v (xs ++ [y])) (hx : ∀ z ∈ xs, goodA z) (hy : goodA y) : HasA W base (xs ++ [y]) v := ⟨h, fun z hz => by
  rcases List.mem_append.1 hz with h | h
  · exact hx z h
  · rw [List.mem_singleton.1 h]; exact hy⟩
end Go.Proofs.Ytifdkkkcecpjoaa
end
