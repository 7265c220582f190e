/-
  For every number, all raw statements and all bytes FrameReads returns true and leaves what was there as it was. No conditions.
-/
import Derived.Test.YtifdkkkcecpjoaaRdEQ
import Derived.Test.YtifdkkkcecpjoaaRows
import Derived.WalkKit
import Derived.ProofKit
import Derived.OpenShut
import Derived.ShutString
import Derived.ChangeOld
import Derived.Below
import Derived.SizedLaws
import Derived.StillTailTactics
import Derived.Deep.DeepCutAuto
import Derived.Deep.CutBlock
namespace Go.Proofs.Ytifdkkkcecpjoaa.frameReads
open Go.ChangeShapes Go.WideShapes Go.ChangeAt Go.RowKit
open Go.ChangeMaps (open_string shut_string)
set_option linter.unusedVariables false

theorem own : ownKnob Try.prog.godebug = none := by kernel_rfl
theorem laidOut : laidOutB Try.prog = true := by kernel_rfl

/-- What the walk is told of a slice of numbers that came in. -/
def IsRow (k : IntKind) (w : World) (a : Option Addr) (len cap : Nat) (zs : List Int) : Prop :=
  (a = none ∧ len = 0 ∧ cap = 0 ∧ zs = []) ∨
  ∃ x, a = some x ∧ len ≤ cap ∧ cap ≤ maxLen ∧ zs.length = cap ∧ (∀ i, i < zs.length → w.cell? (x.add i) = some (.int k (zs.getD i 0))) ∧ ∀ n ∈ zs, (Lit.int k n).wf = true

attribute [local go_sem ↓] Go.wp_at_zero Go.wp_at_succ
open Go.Proofs.YtifdkkkcecpjoaaW Go.Proofs.YtifdkkkcecpjoaaW.PrintWords Go.Proofs.Ytifdkkkcecpjoaa.Tx
set_option linter.unusedSimpArgs false

def NumsW (w : World) (a : Option Addr) (len : Nat) (zs : List Int) : Prop := 0 < len → ∃ x, a = some x ∧ (∀ i, i < len → w.cell? (x.add i) = some (.int .i64 (zs.getD i 0))) ∧ ∀ i, i < len → -9223372036854775808 ≤ zs.getD i 0 ∧ zs.getD i 0 ≤ 9223372036854775807
theorem numsw_of_row {w : World} {a : Option Addr} {len cap : Nat} {zs : List Int}
    (h : (a = none ∧ len = 0 ∧ cap = 0 ∧ zs = []) ∨ ∃ x, a = some x ∧ len ≤ cap ∧ cap ≤ maxLen ∧ zs.length = cap ∧ (∀ i, i < zs.length → w.cell? (x.add i) = some (.int .i64 (zs.getD i 0))) ∧ ∀ n ∈ zs, (Lit.int .i64 n).wf = true) :
    NumsW w a len zs ∧ len ≤ maxLen := by
  rcases h with ⟨rfl, rfl, rfl, rfl⟩ | ⟨x, rfl, h1, h2, h3, h4, h5⟩
  · exact ⟨fun h => absurd h (by omega), Nat.zero_le _⟩
  · refine ⟨fun _ => ⟨x, rfl, fun i hi => h4 i (by omega), fun i hi => ?_⟩, by omega⟩
    have hl : i < zs.length := by omega
    have e : zs.getD i 0 = zs[i] := by simp [List.getD, hl]
    have hw := h5 zs[i] (List.getElem_mem hl)
    simp [Lit.wf, IntKind.min, IntKind.max, IntKind.signed, IntKind.bits] at hw
    rw [e]; omega
theorem enc_len_any (k : Int) (s t : ByteArray) (x : Int) : (rqOfV k s t x).enc.length ≤ 4 + s.size + (2 + t.size) + 8 ∧ 1 ≤ (rqOfV k s t x).enc.length := by
  rw [enc_length]
  simp only [Rq.body, Rq.tail, rqOfV, List.length_append, be_length, tx_length, bl_length]
  refine ⟨?_, by omega⟩
  by_cases h5 : k = 5
  · subst h5
    have hw : writesB 5 = false := by decide
    simp [hw, be_length]; omega
  · by_cases hw : writesB k = true
    · simp [hw, h5, tx_length, bl_length]; omega
    · simp [hw, h5]; omega

/-- What stands while z's bytes are turned. -/
structure ZL (v6 : World) (g N cap : Nat) (wr : World) : Prop where
  bel : Below v6.heap.size v6 wr
  z : ∃ lz : List UInt8, lz.length = N ∧ wr.ownsRow v6.heap.size 5 1 (.slice (some ⟨g, 0, none⟩) N cap) N (bv lz)

theorem ZL.cell {v6 wr : World} {g N cap : Nat} (h : ZL v6 g N cap wr) {i : Nat} (hi : i < N) : ∃ x : UInt8, wr.cell? ⟨g, i, none⟩ = some (.int .u8 (x.toNat : Int)) ∧ wr.frozen? ⟨g, i, none⟩ = false := by
  obtain ⟨lz, hl, ho⟩ := h.z
  rcases ho.2 with ⟨e, h0⟩ | ⟨g', cap', cur, e, hb, hg, hnc, hcm, hcur, htk⟩
  · omega
  · injection e with e1 e2 e3
    injection e1 with e1
    injection e1 with e1
    subst e1
    have hlt : i < lz.length := by omega
    refine ⟨lz[i], ?_, by simp [World.frozen?, hg]⟩
    rw [cell_of_row _ _ _ _ _ _ hg]
    have h1 : (bv lz)[i]? = some (.int .u8 ((lz[i]).toNat : Int)) := by simp [bv, List.getElem?_map, List.getElem?_eq_getElem hlt]
    rw [← htk, List.getElem?_take, if_pos (by omega)] at h1
    simpa using h1

theorem ZL.set {v6 wr : World} {g N cap : Nat} (h : ZL v6 g N cap wr) {i : Nat} (hi : i < N) (x : UInt8) : ZL v6 g N cap (wr.setCell ⟨g, i, none⟩ (.int .u8 (x.toNat : Int))) := by
  obtain ⟨lz, hl, ho⟩ := h.z
  rcases ho.2 with ⟨e, h0⟩ | ⟨g', cap', cur, e, hb, hg, hnc, hcm, hcur, htk⟩
  · omega
  · injection e with e1 e2 e3
    injection e1 with e1
    injection e1 with e1
    subst e1
    subst e3
    refine ⟨h.bel.setCell (p := ⟨g, i, none⟩) hb _, lz.set i x, by simpa using hl, by simp [bv, hl], .inr ⟨g, cap, cur.setIfInBounds i (.int .u8 (x.toNat : Int)), rfl, hb, ?_, hnc, hcm, by simpa using hcur, ?_⟩⟩
    · simp [World.setCell, Array.getElem?_modify, hg]
    · rw [Array.toList_setIfInBounds, List.take_set, htk]
      simp [bv, List.map_set]

theorem ZL.drew {v6 wr : World} {g N cap : Nat} (h : ZL v6 g N cap wr) : ZL v6 g N cap wr.drew := ⟨h.bel.drew, h.z⟩

theorem own_at {w : World} {base n : Nat} {v : Value} {xs : List Value} (h : w.ownsRow base 5 1 v n xs) (h0 : 0 < n) : ∃ g c, v = .slice (some ⟨g, 0, none⟩) n c ∧ base ≤ g := by
  rcases h.2 with ⟨e, h1⟩ | ⟨g', cap', cur, e, hb, hg, hnc, hcm, hcur, htk⟩
  · omega
  · exact ⟨g', cap', e, hb⟩


set_option maxRecDepth 100000 in
set_option maxHeartbeats 3200000 in
theorem walk (a0 : Int) (a1 : Option Addr) (l : List S63) (cap1 : Nat) (a2 : Option Addr) (len2 cap2 : Nat) (z2 : List Int) (a3 : Option Addr) (len3 cap3 : Nat) (z3 : List Int) (a4 : Int) (a5 : Option Addr) (len5 cap5 : Nat) (z5 : List Int) (a6 : Option Addr) (len6 cap6 : Nat) (z6 : List Int) (w : World) (w0 : (Lit.int .i64 a0).wf = true) (w1 : Kd.C k63 w a1 l.length l) (y1 : l.length ≤ cap1) (x1 : cap1 ≤ 1000000000000000) (w2 : IsRow .i64 w a2 len2 cap2 z2) (w3 : IsRow .u8 w a3 len3 cap3 z3) (w4 : (Lit.int .i64 a4).wf = true) (w5 : IsRow .u8 w a5 len5 cap5 z5) (w6 : IsRow .u8 w a6 len6 cap6 z6) :
    Calls Try.prog 4 #[.int .i64 a0, .slice a1 l.length cap1, .slice a2 len2 cap2, .slice a3 len3 cap3, .int .i64 a4, .slice a5 len5 cap5, .slice a6 len6 cap6] w fun e w' => e = .returned (.bool true) ∧ Below w.heap.size w w' := by
  have hk := known_any w
  obtain ⟨hnum, hl2⟩ := numsw_of_row w2
  obtain ⟨byl, hsby⟩ := sl_of_row w3
  obtain ⟨mor, hsm⟩ := sl_of_row w5
  obtain ⟨rw_, hsr⟩ := sl_of_row w6
  have HLM := Lib.hid hsm.len
  have HLR := Lib.hid hsr.len
  simp [Lit.wf, IntKind.min, IntKind.max, IntKind.signed, IntKind.bits] at w0 w4
  obtain ⟨i5, hi5, hz5, hy5, hx5⟩ := info_parts info5
  have HC := Lib.hid w1
  have HY := Lib.hid y1
  have HN2 := Lib.hid hnum
  have HSBY := Lib.hid hsby
  have HSM := Lib.hid hsm
  have HSR := Lib.hid hsr
  have n0 := Int.emod_nonneg a0 (show (1073741824 : Int) ≠ 0 by omega)
  have n1 := Int.emod_lt_of_pos a0 (show (0 : Int) < 1073741824 by omega)
  have hl := Nat.le_trans y1 x1
  unfold maxLen at hl2
  clear w2 w1 y1 w3 w5 w6 hnum hsby hsm hsr
  go_enter Try.func4, Try.ntmps4
  go_wp2_with fail
  refine hk.mono ?_
  rintro e v1 ⟨rfl, b1⟩
  have hf := few4_any (c := cap1) (Kd.C_below HC.out b1) hl
  go_wp2_with fail
  refine hf.mono ?_
  rintro e v1' ⟨b, rfl, hb, rfl⟩
  cases b with
  | false =>
    go_wp2_with fail
    go_ret
    exact ⟨rfl, b1⟩
  | true =>
  have HF := Lib.hid (hb rfl)
  clear hb hf hk
  by_cases h60 : (60 : Int) < (len5 : Int)
  · go_wp2_with fail
    go_ret
    exact ⟨rfl, b1⟩
  by_cases h300 : (300 : Int) < (len6 : Int)
  · go_wp2_with fail
    go_ret
    exact ⟨rfl, b1⟩
  have h60' : (len5 : Int) ≤ 60 := by omega
  have h300' : (len6 : Int) ≤ 300 := by omega
  go_wp2_with fail
  refine (within15 a0 1073741824 _ (by omega) (by omega) w0.1 w0.2).mono ?_
  rintro e v1' ⟨rfl, rfl⟩
  have hmk := make_list (w := v1) (n := a0 % 1073741824) (c := cap1) n0 (by omega) (Kd.C_below HC.out b1) HY.out (fun y hy => ⟨(HF.out y hy).e, by have := (HF.out y hy).len; omega⟩) hl x1
  go_wp2_with fail
  refine hmk.mono ?_
  rintro e v2 ⟨k, s, t, x, rfl, hr, hs, ht, b2⟩
  have b02 : Below w.heap.size w v2 := b1.trans (b2.mono b1.size)
  have HEL := Lib.hid (enc_len_any k s t x)
  obtain ⟨L, hL⟩ : ∃ L, L = (rqOfV k s t x).enc := ⟨_, rfl⟩
  have hreq := rreq_any k s t x v2 (by omega) (by omega)
  rw [← hL] at hreq HEL
  have hLl : L.length ≤ 100000 := by have := HEL.out; omega
  have hL1 : 1 ≤ L.length := HEL.out.2
  clear hmk b1 b2 hr n0 n1 HEL hL
  unfold rqv at *
  go_wp2_with fail
  refine hreq.mono ?_
  intro e v6 hE
  obtain ⟨A6, c6, rfl, hs6, b6⟩ := bytes_sl hE
  have b06 : Below w.heap.size w v6 := b02.trans (b6.mono b02.size)
  have hw6 := b06.size
  obtain ⟨N, hN⟩ : ∃ N, N = L.length := ⟨_, rfl⟩
  have HN := Lib.hid hN
  rw [← hN] at hs6 hLl hL1 ⊢
  clear hE hN hreq b02 b6 hs ht
  have hown0 : (v6.alloc (.cells #[] 5)).ownsRow v6.heap.size 5 1 (.slice (some ⟨v6.heap.size, 0, none⟩) 0 0) 0 [] := World.ownsRow_made v6 #[] 0 (Nat.le_refl _) (Nat.zero_le _) rfl
  have hrd0 : Reads (v6.alloc (.cells #[] 5)) v6.heap.size 1 A6 N (bv L) := hs6.rd.alloc (Nat.le_refl _) _
  go_upto_block 0 with (at_builtin; refine wpList_append_any _ rfl _ _ 23 rfl v6.heap.size 5 i5 _ 1 1 Try.underlying23 hi5 hz5 hy5 hx5 rfl (by decide) (.slice (some ⟨v6.heap.size, 0, none⟩) 0 0) 0 [] rfl hown0 v6.heap.size A6 N c6 (bv L) rfl hrd0 (bv_one _) (by unfold maxLen; omega) (by omega) (by simp) ?_; intro v7 w7 hown7 hgrow7 _; obtain ⟨g7, r7, rfl, hg7⟩ := own_at hown7 (by omega); have b7 : Below v6.heap.size v6 w7 := ((Below.refl v6.heap.size v6).alloc (Nat.le_refl _) _).grown hgrow7 (by simp) (by intro k hk; cases hk; exact Nat.le_refl _); have H7 := Lib.hid hown7; have B7 := Lib.hid b7; clear hown7 hgrow7 b7)
  clear hown0 hrd0
  have hZ0 : Hid (ZL v6 g7 N r7 w7) := Lib.hid ⟨B7.out, L, HN.out.symm, by have h := H7.out; rw [Nat.zero_add, List.nil_append] at h; exact h⟩
  (try rw [show 0 + N = N from Nat.zero_add N])
  clear H7 B7
  go_cut [] (fun wc => Hid (ZL v6 g7 N r7 wc))
  case first =>
    go_wp2_with fail
    go_loopw [17] (fun i wr => ∃ j : Nat, j ≤ 3 ∧ i = .int .i64 j ∧ Hid (ZL v6 g7 N r7 wr)) (fun i _ => 3 - (intOf i).toNat)
    case atStart => exact ⟨0, by omega, rfl, hZ0⟩
    case round =>
      obtain ⟨j, hj3, rfl, HZ⟩ := hrel
      clear hZ0
      have hx : (j < len2 ∧ j < len3 ∧ j < 3) ∨ (¬ j < len2) ∨ (j < len2 ∧ ¬ j < len3) ∨ (j < len2 ∧ j < len3 ∧ ¬ j < 3) := by omega
      rcases hx with ⟨x1, x2, x3⟩ | x1 | ⟨x1, x2⟩ | ⟨x1, x2, x3⟩
      · obtain ⟨ad, hA, hc, hzb⟩ := HN2.out (by omega)
        have hdw := World.block_lt_of_cell? w _ (hc j x1)
        have hbw : Below w.heap.size w wr := b06.trans (HZ.out.bel.mono hw6)
        have hcz := (World.cell?_of_block (hbw.block _ hdw)).trans (hc j x1)
        obtain ⟨hz0, hz1⟩ := hzb j x1
        obtain ⟨ad3, u3, hA3, -, hu3, hcell3⟩ := (HSBY.out.below hbw).rd.at_ x2
        obtain ⟨y3, hy3, rfl⟩ := bv_get hu3
        subst hA hA3
        generalize z2.getD j 0 = z at *
        have m0 := Int.emod_nonneg z (show (N : Int) ≠ 0 by omega)
        have m1 := Int.emod_lt_of_pos z (show (0 : Int) < (N : Int) by omega)
        obtain ⟨m, hm⟩ : ∃ m : Nat, z % (N : Int) = (m : Int) := ⟨(z % (N : Int)).toNat, by omega⟩
        have hmN : m < N := by omega
        obtain ⟨xz, hzc, hzf⟩ := HZ.out.cell hmN
        have hwi : ∀ W : World, Calls Try.prog 15 #[.int .i64 z, .int .i64 (N : Int)] W fun e w' => e = .returned (.int .i64 (m : Int)) ∧ w' = W := fun W => by
          have h := within15 z (N : Int) W (by omega) (by omega) hz0 hz1
          rw [hm] at h
          exact h.mono fun e w' ⟨h1, h2⟩ => ⟨h1, h2.symm⟩
        clear hc hzb hdw hu3 hy3 m0 m1 hm
        have HWI := Lib.hid hwi
        clear hwi
        go_upto_region 10 with fail
        refine wp_region_still_tail 16 (by kernel_rfl) (by kernel_rfl) ?_
        change wpStill _ _ wr.drew _ _ _
        have HZD : Hid (ZL v6 g7 N r7 wr.drew) := Lib.hid HZ.out.drew
        have hczd : wr.drew.cell? (ad.add j) = _ := hcz
        have hzcd : wr.drew.cell? ⟨g7, m, none⟩ = _ := hzc
        have hzfd : wr.drew.frozen? ⟨g7, m, none⟩ = _ := hzf
        have hcell3d := show wr.drew.cell? _ = _ from hcell3
        change wpStill _ _ _ (fun a' => wpList _ _ _ _ a' wr.drew) _ _
        generalize wr.drew = wd at *
        clear hcz hzc hzf hcell3 HZ
        simp only [List.take_succ_cons, List.take_zero, List.drop_succ_cons, List.drop_zero]
        repeat still_step
        still_call (HWI.out _)
        repeat still_step
        refine wpStill_nil ?_
        show wpList _ _ _ _ _ wd
        clear hczd hcell3d
        go_wp2_with fail
        go_roundw
        case rel =>
          have hu : ∃ q : UInt8, ((xz.toNat : Int) + (y3.toNat : Int)) % 256 = (q.toNat : Int) := u8_wrap _
          obtain ⟨q, hq⟩ := hu
          exact ⟨j + 1, by omega, by go_num, by rw [hq]; exact Lib.hid (HZD.out.set hmN q)⟩
        case measure => simp [intOf]; omega
      · go_wp2_with fail
        go_meet
        case rel => exact HZ
      · go_wp2_with fail
        go_meet
        case rel => exact HZ
      · go_wp2_with fail
        go_meet
        case rel => exact HZ
  clear hZ0
  have HZ := hcut
  clear hcut
  have k0 := Int.emod_nonneg a4 (show ((N : Int) + 1) ≠ 0 by omega)
  have k1 := Int.emod_lt_of_pos a4 (show (0 : Int) < (N : Int) + 1 by omega)
  go_wp2_with fail
  refine (within15 a4 ((N : Int) + 1) _ (by omega) (by omega) w4.1 w4.2).mono ?_
  rintro e wq ⟨rfl, hq⟩
  rw [hq] at HZ
  clear hq
  obtain ⟨kk, hkk⟩ : ∃ kk : Nat, a4 % ((N : Int) + 1) = (kk : Int) := ⟨(a4 % ((N : Int) + 1)).toNat, by omega⟩
  rw [hkk] at k0 k1 ⊢
  have hkN : kk ≤ N := by omega
  have hkc : kk ≤ c6 := Nat.le_trans hkN hs6.cap
  have hNc := hs6.cap
  have hcm := hs6.max
  unfold maxLen at hcm
  clear hkk k0 k1
  have hbq : Below w.heap.size w wq := b06.trans (HZ.out.bel.mono hw6)
  have hwq := hbq.size
  obtain ⟨lz, hlz, hoz⟩ := HZ.out.z
  have hsz : Sl wq wq.heap.size (some ⟨g7, 0, none⟩) N r7 lz := by
    have h := hoz
    rw [← hlz] at h
    obtain ⟨A, c, e, hs⟩ := sl_of_own h
    injection e with e1 e2 e3
    subst e1; subst e3
    rw [hlz] at hs
    exact hs
  have hszq := HZ.out.bel.size
  have hs6q : Sl wq wq.heap.size A6 N c6 L := (hs6.below HZ.out.bel).up hszq
  have HB0 : Hid (∀ z, Below wq.heap.size wq z → Sl z wq.heap.size (some ⟨g7, 0, none⟩) N r7 lz) := Lib.hid fun z hb => hsz.below hb
  have HB1 : Hid (∀ z, Below wq.heap.size wq z → Sl z wq.heap.size A6 kk c6 (L.take kk)) := Lib.hid fun z hb => by
    have hh := (hs6q.below hb).head hkN
    exact ⟨hh.len, hkc, hs6q.max, hh.rd⟩
  have HB2 : Hid (∀ z, Below wq.heap.size wq z → Sl z wq.heap.size a5 len5 cap5 mor) := Lib.hid fun z hb => (HSM.out.below (hbq.trans (hb.mono hwq))).up hwq
  have HB4 : Hid (∀ z, Below wq.heap.size wq z → Sl z wq.heap.size a6 len6 cap6 rw_) := Lib.hid fun z hb => (HSR.out.below (hbq.trans (hb.mono hwq))).up hwq
  obtain ⟨A13, hA13⟩ : ∃ A13, A13 = (if c6 = kk then A6 else A6.map (·.add kk)) := ⟨_, rfl⟩
  have HB3 : Hid (∀ z, Below wq.heap.size wq z → Sl z wq.heap.size A13 (N - kk) (c6 - kk) (L.drop kk)) := Lib.hid fun z hb => by rw [hA13]; exact (hs6q.below hb).cut hkN
  have HA13 := Lib.hid hA13
  have HBQ := Lib.hid hbq
  clear hsz hs6q hoz hlz hbq hs6 hA13 HZ b06
  go_upto_region 12 with fail
  go_cut [19] (fun v wx => ∃ G, v = .slice (some ⟨G, 0, none⟩) 5 5 ∧ Hid (∃ rs, R5 wq wx G rs))
  case first =>
    have T0 := TwoR.start wq
    refine PrintLast.start_ (n := 24) (S := fun _ => True) (ds := []) #[false, false, false, false, false, false, false, false, false, false, false, false, false, false, false, false, false, false, false, false, false, false, false, false] (by kernel_rfl) rfl rfl trivial (fun hHeld => ?_)
    generalize hz : wq.drew = WD at T0 ⊢
    clear hz
    refine PrintLast.pure_ (i := 0) (N := some 87) (v := ?_) (a' := ?_) #[true, false, false, false, false, false, false, false, false, false, false, false, false, false, false, false, false, false, false, false, false, false, false, false] rfl rfl (by kernel_rfl) (fun _ _ _ h => h) (Or.inl ⟨by rfl, ?_⟩) ?_ ?_
    rotate_left
    · intro w'
      go_simp
      with_reducible rfl
    rotate_left
    · simp only [Act.put, List.setIfInBounds_toArray, List.set_cons_zero, List.set_cons_succ]
      rfl
    refine PrintLast.pure_ (i := 1) (N := some 88) (v := ?_) (a' := ?_) #[true, true, false, false, false, false, false, false, false, false, false, false, false, false, false, false, false, false, false, false, false, false, false, false] rfl rfl (by kernel_rfl) (fun _ _ _ h => h) (Or.inl ⟨by rfl, ?_⟩) ?_ ?_
    rotate_left
    · intro w'
      go_simp
      with_reducible rfl
    rotate_left
    · simp only [Act.put, List.setIfInBounds_toArray, List.set_cons_zero, List.set_cons_succ]
      rfl
    refine PrintLast.pure_ (i := 2) (N := some 89) (v := ?_) (a' := ?_) #[true, true, true, false, false, false, false, false, false, false, false, false, false, false, false, false, false, false, false, false, false, false, false, false] rfl rfl (by kernel_rfl) (fun _ _ _ h => h) (Or.inl ⟨by rfl, ?_⟩) ?_ ?_
    rotate_left
    · intro w'
      go_simp
      with_reducible rfl
    rotate_left
    · simp only [Act.put, List.setIfInBounds_toArray, List.set_cons_zero, List.set_cons_succ]
      rfl
    refine PrintLast.pure_ (i := 3) (N := some 90) (v := ?_) (a' := ?_) #[true, true, true, true, false, false, false, false, false, false, false, false, false, false, false, false, false, false, false, false, false, false, false, false] rfl rfl (by kernel_rfl) (fun _ _ _ h => h) (Or.inl ⟨by rfl, ?_⟩) ?_ ?_
    rotate_left
    · intro w'
      go_simp
      with_reducible rfl
    rotate_left
    · simp only [Act.put, List.setIfInBounds_toArray, List.set_cons_zero, List.set_cons_succ]
      rfl
    refine PrintLast.pure_ (i := 5) (N := some 92) (v := ?_) (a' := ?_) #[true, true, true, true, false, true, false, false, false, false, false, false, false, false, false, false, false, false, false, false, false, false, false, false] rfl rfl (by kernel_rfl) (fun _ _ _ h => h) (Or.inl ⟨by rfl, ?_⟩) ?_ ?_
    rotate_left
    · intro w'
      go_simp
      with_reducible rfl
    rotate_left
    · simp only [Act.put, List.setIfInBounds_toArray, List.set_cons_zero, List.set_cons_succ]
      rfl
    refine PrintLast.pure_ (i := 6) (N := some 93) (v := ?_) (a' := ?_) #[true, true, true, true, false, true, true, false, false, false, false, false, false, false, false, false, false, false, false, false, false, false, false, false] rfl rfl (by kernel_rfl) (fun _ _ _ h => h) (Or.inl ⟨by rfl, ?_⟩) ?_ ?_
    rotate_left
    · intro w'
      go_simp
      with_reducible rfl
    rotate_left
    · simp only [Act.put, List.setIfInBounds_toArray, List.set_cons_zero, List.set_cons_succ]
      rfl
    refine PrintLast.pure_ (i := 7) (N := some 94) (v := ?_) (a' := ?_) #[true, true, true, true, false, true, true, true, false, false, false, false, false, false, false, false, false, false, false, false, false, false, false, false] rfl rfl (by kernel_rfl) (fun _ _ _ h => h) (Or.inl ⟨by rfl, ?_⟩) ?_ ?_
    rotate_left
    · intro w'
      go_simp
      with_reducible rfl
    rotate_left
    · simp only [Act.put, List.setIfInBounds_toArray, List.set_cons_zero, List.set_cons_succ]
      rfl
    refine PrintLast.pure_ (i := 9) (N := some 96) (v := ?_) (a' := ?_) #[true, true, true, true, false, true, true, true, false, true, false, false, false, false, false, false, false, false, false, false, false, false, false, false] rfl rfl (by kernel_rfl) (fun _ _ _ h => h) (Or.inl ⟨by rfl, ?_⟩) ?_ ?_
    rotate_left
    · intro w'
      go_simp
      with_reducible rfl
    rotate_left
    · simp only [Act.put, List.setIfInBounds_toArray, List.set_cons_zero, List.set_cons_succ]
      rfl
    refine PrintLast.pure_ (i := 11) (N := some 98) (v := ?_) (a' := ?_) #[true, true, true, true, false, true, true, true, false, true, false, true, false, false, false, false, false, false, false, false, false, false, false, false] rfl rfl (by kernel_rfl) (fun _ _ _ h => h) (Or.inl ⟨by rfl, ?_⟩) ?_ ?_
    rotate_left
    · intro w'
      go_simp
      with_reducible rfl
    rotate_left
    · simp only [Act.put, List.setIfInBounds_toArray, List.set_cons_zero, List.set_cons_succ]
      rfl
    refine PrintLast.pure_ (i := 12) (N := some 99) (v := ?_) (a' := ?_) #[true, true, true, true, false, true, true, true, false, true, false, true, true, false, false, false, false, false, false, false, false, false, false, false] rfl rfl (by kernel_rfl) (fun _ _ _ h => h) (Or.inl ⟨by rfl, ?_⟩) ?_ ?_
    rotate_left
    · intro w'
      go_simp
      with_reducible rfl
    rotate_left
    · simp only [Act.put, List.setIfInBounds_toArray, List.set_cons_zero, List.set_cons_succ]
      rfl
    refine PrintLast.pure_ (i := 13) (N := some 100) (v := ?_) (a' := ?_) #[true, true, true, true, false, true, true, true, false, true, false, true, true, true, false, false, false, false, false, false, false, false, false, false] rfl rfl (by kernel_rfl) (fun _ _ _ h => h) (Or.inl ⟨by rfl, ?_⟩) ?_ ?_
    rotate_left
    · intro w'
      refine (?_ : _ = Result.ok (Next.value (.slice A13 (N - kk) (c6 - kk))) w')
      rw [HA13.out]
      by_cases hck : c6 = kk
      · rw [if_pos hck]
        subst hck
        go_simp
        (try trivial)
      · rw [if_neg hck]
        go_simp
        (try trivial)
    rotate_left
    · simp only [Act.put, List.setIfInBounds_toArray, List.set_cons_zero, List.set_cons_succ]
      rfl
    refine PrintLast.pure_ (i := 15) (N := some 102) (v := ?_) (a' := ?_) #[true, true, true, true, false, true, true, true, false, true, false, true, true, true, false, true, false, false, false, false, false, false, false, false] rfl rfl (by kernel_rfl) (fun _ _ _ h => h) (Or.inl ⟨by rfl, ?_⟩) ?_ ?_
    rotate_left
    · intro w'
      go_simp
      with_reducible rfl
    rotate_left
    · simp only [Act.put, List.setIfInBounds_toArray, List.set_cons_zero, List.set_cons_succ]
      rfl
    refine PrintLast.pure_ (i := 16) (N := some 103) (v := ?_) (a' := ?_) #[true, true, true, true, false, true, true, true, false, true, false, true, true, true, false, true, true, false, false, false, false, false, false, false] rfl rfl (by kernel_rfl) (fun _ _ _ h => h) (Or.inl ⟨by rfl, ?_⟩) ?_ ?_
    rotate_left
    · intro w'
      go_simp
      with_reducible rfl
    rotate_left
    · simp only [Act.put, List.setIfInBounds_toArray, List.set_cons_zero, List.set_cons_succ]
      rfl
    refine PrintLast.pure_ (i := 17) (N := some 104) (v := ?_) (a' := ?_) #[true, true, true, true, false, true, true, true, false, true, false, true, true, true, false, true, true, true, false, false, false, false, false, false] rfl rfl (by kernel_rfl) (fun _ _ _ h => h) (Or.inl ⟨by rfl, ?_⟩) ?_ ?_
    rotate_left
    · intro w'
      go_simp
      with_reducible rfl
    rotate_left
    · simp only [Act.put, List.setIfInBounds_toArray, List.set_cons_zero, List.set_cons_succ]
      rfl
    refine PrintLast.pure_ (i := 18) (N := some 105) (v := ?_) (a' := ?_) #[true, true, true, true, false, true, true, true, false, true, false, true, true, true, false, true, true, true, true, false, false, false, false, false] rfl rfl (by kernel_rfl) (fun _ _ _ h => h) (Or.inl ⟨by rfl, ?_⟩) ?_ ?_
    rotate_left
    · intro w'
      go_simp
      with_reducible rfl
    rotate_left
    · simp only [Act.put, List.setIfInBounds_toArray, List.set_cons_zero, List.set_cons_succ]
      rfl
    refine PrintLast.pure_ (i := 20) (N := some 107) (v := ?_) (a' := ?_) #[true, true, true, true, false, true, true, true, false, true, false, true, true, true, false, true, true, true, true, false, true, false, false, false] rfl rfl (by kernel_rfl) (fun _ _ _ h => h) (Or.inl ⟨by rfl, ?_⟩) ?_ ?_
    rotate_left
    · intro w'
      go_simp
      with_reducible rfl
    rotate_left
    · simp only [Act.put, List.setIfInBounds_toArray, List.set_cons_zero, List.set_cons_succ]
      rfl
    refine PrintLast.two_ (i := 4) (j := 19) (Ni := some 91) (Nj := some 106) #[true, true, true, true, true, true, true, true, false, true, false, true, true, true, false, true, true, true, true, false, true, false, false, false] #[true, true, true, true, false, true, true, true, false, true, false, true, true, true, false, true, true, true, true, true, true, false, false, false] rfl rfl rfl rfl (by kernel_rfl) (by decide) (by decide) (fun K hK => ?_) (fun K hK => ?_)
    · skip
      refine PrintLast.value_ (w1 := ?_) (v := ?_) (by rfl) rfl ?_ ?_
      rotate_left 2
      · go_simp
        constructor
        · rfl
        · rfl
      have T1 := TwoR.make1 T0
      refine hK.out _ _ trivial (fun hHeld => ?_)
      clear hK K
      refine PrintLast.norm_ (a' := ?_) ?_ ?_
      rotate_left
      · show Act.put _ (some 91) _ = _
        simp only [Act.put, List.setIfInBounds_toArray, List.set_cons_zero, List.set_cons_succ]
        rfl
      generalize hgen : World.alloc _ _ = w1g at T1 ⊢
      clear hgen
      refine PrintLast.two_ (i := 8) (j := 19) (Ni := some 95) (Nj := some 106) #[true, true, true, true, true, true, true, true, true, true, false, true, true, true, false, true, true, true, true, false, true, false, false, false] #[true, true, true, true, true, true, true, true, false, true, false, true, true, true, false, true, true, true, true, true, true, false, false, false] rfl rfl rfl rfl (by kernel_rfl) (by decide) (by decide) (fun K hK => ?_) (fun K hK => ?_)
      · skip
        refine step_append_any _ rfl _ _ 23 rfl wq.heap.size 5 i5 _ 1 1 Try.underlying23 hi5 hz5 hy5 hx5 rfl (by decide) _ 0 _ rfl T1.o1 wq.heap.size A6 kk c6 (bv (L.take kk)) rfl (HB1.out _ T1.bel).rd (bv_one _) (by unfold maxLen; omega) (by omega) T1.bel.size ?_
        intro v2' w2' hown hgrow hblk
        obtain ⟨pa2, pm2, pc2, rfl⟩ := own_form hown
        have T2 := T1.app1 hown hgrow hblk
        clear hown hgrow hblk
        refine hK.out _ _ trivial (fun hHeld => ?_)
        clear hK K
        refine PrintLast.norm_ (a' := ?_) ?_ ?_
        rotate_left
        · show Act.put _ (some 95) _ = _
          simp only [Act.put, List.setIfInBounds_toArray, List.set_cons_zero, List.set_cons_succ]
          rfl
        refine PrintLast.two_ (i := 10) (j := 19) (Ni := some 97) (Nj := some 106) #[true, true, true, true, true, true, true, true, true, true, true, true, true, true, false, true, true, true, true, false, true, false, false, false] #[true, true, true, true, true, true, true, true, true, true, false, true, true, true, false, true, true, true, true, true, true, false, false, false] rfl rfl rfl rfl (by kernel_rfl) (by decide) (by decide) (fun K hK => ?_) (fun K hK => ?_)
        · skip
          refine step_append_any _ rfl _ _ 23 rfl wq.heap.size 5 i5 _ 1 1 Try.underlying23 hi5 hz5 hy5 hx5 rfl (by decide) _ (0 + kk) _ rfl T2.o1 wq.heap.size a5 len5 cap5 (bv mor) rfl (HB2.out _ T2.bel).rd (bv_one _) (by unfold maxLen; omega) (by omega) T2.bel.size ?_
          intro v3' w3' hown hgrow hblk
          obtain ⟨pa3, pm3, pc3, rfl⟩ := own_form hown
          have T3 := T2.app1 hown hgrow hblk
          clear hown hgrow hblk
          refine hK.out _ _ trivial (fun hHeld => ?_)
          clear hK K
          refine PrintLast.norm_ (a' := ?_) ?_ ?_
          rotate_left
          · show Act.put _ (some 97) _ = _
            simp only [Act.put, List.setIfInBounds_toArray, List.set_cons_zero, List.set_cons_succ]
            rfl
          refine PrintLast.two_ (i := 14) (j := 19) (Ni := some 101) (Nj := some 106) #[true, true, true, true, true, true, true, true, true, true, true, true, true, true, true, true, true, true, true, false, true, false, false, false] #[true, true, true, true, true, true, true, true, true, true, true, true, true, true, false, true, true, true, true, true, true, false, false, false] rfl rfl rfl rfl (by kernel_rfl) (by decide) (by decide) (fun K hK => ?_) (fun K hK => ?_)
          · skip
            refine step_append_any _ rfl _ _ 23 rfl wq.heap.size 5 i5 _ 1 1 Try.underlying23 hi5 hz5 hy5 hx5 rfl (by decide) _ (0 + kk + len5) _ rfl T3.o1 wq.heap.size A13 (N - kk) (c6 - kk) (bv (L.drop kk)) rfl (HB3.out _ T3.bel).rd (bv_one _) (by unfold maxLen; omega) (by omega) T3.bel.size ?_
            intro v4' w4' hown hgrow hblk
            obtain ⟨pa4, pm4, pc4, rfl⟩ := own_form hown
            have T4 := T3.app1 hown hgrow hblk
            clear hown hgrow hblk
            refine hK.out _ _ trivial (fun hHeld => ?_)
            clear hK K
            refine PrintLast.norm_ (a' := ?_) ?_ ?_
            rotate_left
            · show Act.put _ (some 101) _ = _
              simp only [Act.put, List.setIfInBounds_toArray, List.set_cons_zero, List.set_cons_succ]
              rfl
            refine PrintLast.one_ (i := 19) (N := some 106) #[true, true, true, true, true, true, true, true, true, true, true, true, true, true, true, true, true, true, true, true, true, false, false, false] rfl rfl (by kernel_rfl) (by decide) (fun K hK => ?_)
            refine PrintLast.value_ (w1 := ?_) (v := ?_) (by rfl) rfl ?_ ?_
            rotate_left 2
            · go_simp
              constructor
              · rfl
              · rfl
            have T5 := TwoR.make2 T4 (.int .u8 0) (.int .u8 (IntKind.u8.wrap (len6 : Int)))
            refine hK.out _ _ trivial (fun hHeld => ?_)
            clear hK K
            refine PrintLast.norm_ (a' := ?_) ?_ ?_
            rotate_left
            · show Act.put _ (some 106) _ = _
              simp only [Act.put, List.setIfInBounds_toArray, List.set_cons_zero, List.set_cons_succ]
              rfl
            generalize hgen : World.alloc _ _ = w5g at T5 ⊢
            clear hgen
            refine PrintLast.one_ (i := 21) (N := some 108) #[true, true, true, true, true, true, true, true, true, true, true, true, true, true, true, true, true, true, true, true, true, true, false, false] rfl rfl (by kernel_rfl) (by decide) (fun K hK => ?_)
            refine step_append_any _ rfl _ _ 23 rfl wq.heap.size 5 i5 _ 1 1 Try.underlying23 hi5 hz5 hy5 hx5 rfl (by decide) _ 2 _ rfl T5.o2 wq.heap.size a6 len6 cap6 (bv rw_) rfl (HB4.out _ T5.bel).rd (bv_one _) (by unfold maxLen; omega) (by omega) T5.bel.size ?_
            intro v6' w6' hown hgrow hblk
            obtain ⟨pa6, pm6, pc6, rfl⟩ := own_form hown
            have T6 := T5.app2 hown hgrow hblk
            clear hown hgrow hblk
            refine hK.out _ _ trivial (fun hHeld => ?_)
            clear hK K
            refine PrintLast.norm_ (a' := ?_) ?_ ?_
            rotate_left
            · show Act.put _ (some 108) _ = _
              simp only [Act.put, List.setIfInBounds_toArray, List.set_cons_zero, List.set_cons_succ]
              rfl
            obtain ⟨rs, hrs⟩ := R5.of T6 (l1 := [] ++ L.take kk ++ mor ++ L.drop kk) (l2 := [0, UInt8.ofNat len6] ++ rw_) (by simp [bv]) (by simp [bv, u8_two]) (r1 := ⟨some ⟨g7, 0, none⟩, N, r7, lz⟩) (r2 := ⟨A6, kk, c6, L.take kk⟩) (r4 := ⟨a6, len6, cap6, rw_⟩) ((HB0.out _ T6.bel).up T6.bel.size) ((HB1.out _ T6.bel).up T6.bel.size) ((HB4.out _ T6.bel).up T6.bel.size)
            refine PrintLast.one_ (i := 22) (N := some 109) #[true, true, true, true, true, true, true, true, true, true, true, true, true, true, true, true, true, true, true, true, true, true, true, false] rfl rfl (by kernel_rfl) (by decide) (fun K hK => ?_)
            refine PrintLast.value_ (w1 := ?_) (v := ?_) (by rfl) rfl ?_ ?_
            rotate_left 2
            · go_simp
              constructor
              · rfl
              · rfl
            refine hK.out _ _ trivial (fun hHeld => ?_)
            clear hK K
            refine PrintLast.norm_ (a' := ?_) ?_ ?_
            rotate_left
            · show Act.put _ (some 109) _ = _
              simp only [Act.put, List.setIfInBounds_toArray, List.set_cons_zero, List.set_cons_succ]
              rfl
            refine PrintLast.pure_ (i := 23) (N := some 19) (v := ?_) (a' := ?_) #[true, true, true, true, true, true, true, true, true, true, true, true, true, true, true, true, true, true, true, true, true, true, true, true] rfl rfl (by kernel_rfl) (fun _ _ _ h => h) (Or.inl ⟨by rfl, ?_⟩) ?_ ?_
            rotate_left
            · intro w'
              go_simp
              with_reducible rfl
            rotate_left
            · simp only [Act.put, List.setIfInBounds_toArray, List.set_cons_zero, List.set_cons_succ]
              rfl
            refine PrintLast.done_ (by kernel_rfl) ?_
            go_wp2_with fail
            go_meet
            case rel => exact ⟨_, rfl, Lib.hid ⟨rs, hrs⟩⟩
          · skip
            refine PrintLast.value_ (w1 := ?_) (v := ?_) (by rfl) rfl ?_ ?_
            rotate_left 2
            · go_simp
              constructor
              · rfl
              · rfl
            have T7 := TwoR.make2 T3 (.int .u8 0) (.int .u8 (IntKind.u8.wrap (len6 : Int)))
            refine hK.out _ _ trivial (fun hHeld => ?_)
            clear hK K
            refine PrintLast.norm_ (a' := ?_) ?_ ?_
            rotate_left
            · show Act.put _ (some 106) _ = _
              simp only [Act.put, List.setIfInBounds_toArray, List.set_cons_zero, List.set_cons_succ]
              rfl
            generalize hgen : World.alloc _ _ = w7g at T7 ⊢
            clear hgen
            refine PrintLast.one_ (i := 14) (N := some 101) #[true, true, true, true, true, true, true, true, true, true, true, true, true, true, true, true, true, true, true, true, true, false, false, false] rfl rfl (by kernel_rfl) (by decide) (fun K hK => ?_)
            refine step_append_any _ rfl _ _ 23 rfl wq.heap.size 5 i5 _ 1 1 Try.underlying23 hi5 hz5 hy5 hx5 rfl (by decide) _ (0 + kk + len5) _ rfl T7.o1 wq.heap.size A13 (N - kk) (c6 - kk) (bv (L.drop kk)) rfl (HB3.out _ T7.bel).rd (bv_one _) (by unfold maxLen; omega) (by omega) T7.bel.size ?_
            intro v8' w8' hown hgrow hblk
            obtain ⟨pa8, pm8, pc8, rfl⟩ := own_form hown
            have T8 := T7.app1 hown hgrow hblk
            clear hown hgrow hblk
            refine hK.out _ _ trivial (fun hHeld => ?_)
            clear hK K
            refine PrintLast.norm_ (a' := ?_) ?_ ?_
            rotate_left
            · show Act.put _ (some 101) _ = _
              simp only [Act.put, List.setIfInBounds_toArray, List.set_cons_zero, List.set_cons_succ]
              rfl
            refine PrintLast.one_ (i := 21) (N := some 108) #[true, true, true, true, true, true, true, true, true, true, true, true, true, true, true, true, true, true, true, true, true, true, false, false] rfl rfl (by kernel_rfl) (by decide) (fun K hK => ?_)
            refine step_append_any _ rfl _ _ 23 rfl wq.heap.size 5 i5 _ 1 1 Try.underlying23 hi5 hz5 hy5 hx5 rfl (by decide) _ 2 _ rfl T8.o2 wq.heap.size a6 len6 cap6 (bv rw_) rfl (HB4.out _ T8.bel).rd (bv_one _) (by unfold maxLen; omega) (by omega) T8.bel.size ?_
            intro v9' w9' hown hgrow hblk
            obtain ⟨pa9, pm9, pc9, rfl⟩ := own_form hown
            have T9 := T8.app2 hown hgrow hblk
            clear hown hgrow hblk
            refine hK.out _ _ trivial (fun hHeld => ?_)
            clear hK K
            refine PrintLast.norm_ (a' := ?_) ?_ ?_
            rotate_left
            · show Act.put _ (some 108) _ = _
              simp only [Act.put, List.setIfInBounds_toArray, List.set_cons_zero, List.set_cons_succ]
              rfl
            obtain ⟨rs, hrs⟩ := R5.of T9 (l1 := [] ++ L.take kk ++ mor ++ L.drop kk) (l2 := [0, UInt8.ofNat len6] ++ rw_) (by simp [bv]) (by simp [bv, u8_two]) (r1 := ⟨some ⟨g7, 0, none⟩, N, r7, lz⟩) (r2 := ⟨A6, kk, c6, L.take kk⟩) (r4 := ⟨a6, len6, cap6, rw_⟩) ((HB0.out _ T9.bel).up T9.bel.size) ((HB1.out _ T9.bel).up T9.bel.size) ((HB4.out _ T9.bel).up T9.bel.size)
            refine PrintLast.one_ (i := 22) (N := some 109) #[true, true, true, true, true, true, true, true, true, true, true, true, true, true, true, true, true, true, true, true, true, true, true, false] rfl rfl (by kernel_rfl) (by decide) (fun K hK => ?_)
            refine PrintLast.value_ (w1 := ?_) (v := ?_) (by rfl) rfl ?_ ?_
            rotate_left 2
            · go_simp
              constructor
              · rfl
              · rfl
            refine hK.out _ _ trivial (fun hHeld => ?_)
            clear hK K
            refine PrintLast.norm_ (a' := ?_) ?_ ?_
            rotate_left
            · show Act.put _ (some 109) _ = _
              simp only [Act.put, List.setIfInBounds_toArray, List.set_cons_zero, List.set_cons_succ]
              rfl
            refine PrintLast.pure_ (i := 23) (N := some 19) (v := ?_) (a' := ?_) #[true, true, true, true, true, true, true, true, true, true, true, true, true, true, true, true, true, true, true, true, true, true, true, true] rfl rfl (by kernel_rfl) (fun _ _ _ h => h) (Or.inl ⟨by rfl, ?_⟩) ?_ ?_
            rotate_left
            · intro w'
              go_simp
              with_reducible rfl
            rotate_left
            · simp only [Act.put, List.setIfInBounds_toArray, List.set_cons_zero, List.set_cons_succ]
              rfl
            refine PrintLast.done_ (by kernel_rfl) ?_
            go_wp2_with fail
            go_meet
            case rel => exact ⟨_, rfl, Lib.hid ⟨rs, hrs⟩⟩
        · skip
          refine PrintLast.value_ (w1 := ?_) (v := ?_) (by rfl) rfl ?_ ?_
          rotate_left 2
          · go_simp
            constructor
            · rfl
            · rfl
          have T10 := TwoR.make2 T2 (.int .u8 0) (.int .u8 (IntKind.u8.wrap (len6 : Int)))
          refine hK.out _ _ trivial (fun hHeld => ?_)
          clear hK K
          refine PrintLast.norm_ (a' := ?_) ?_ ?_
          rotate_left
          · show Act.put _ (some 106) _ = _
            simp only [Act.put, List.setIfInBounds_toArray, List.set_cons_zero, List.set_cons_succ]
            rfl
          generalize hgen : World.alloc _ _ = w10g at T10 ⊢
          clear hgen
          refine PrintLast.one_ (i := 10) (N := some 97) #[true, true, true, true, true, true, true, true, true, true, true, true, true, true, false, true, true, true, true, true, true, false, false, false] rfl rfl (by kernel_rfl) (by decide) (fun K hK => ?_)
          refine step_append_any _ rfl _ _ 23 rfl wq.heap.size 5 i5 _ 1 1 Try.underlying23 hi5 hz5 hy5 hx5 rfl (by decide) _ (0 + kk) _ rfl T10.o1 wq.heap.size a5 len5 cap5 (bv mor) rfl (HB2.out _ T10.bel).rd (bv_one _) (by unfold maxLen; omega) (by omega) T10.bel.size ?_
          intro v11' w11' hown hgrow hblk
          obtain ⟨pa11, pm11, pc11, rfl⟩ := own_form hown
          have T11 := T10.app1 hown hgrow hblk
          clear hown hgrow hblk
          refine hK.out _ _ trivial (fun hHeld => ?_)
          clear hK K
          refine PrintLast.norm_ (a' := ?_) ?_ ?_
          rotate_left
          · show Act.put _ (some 97) _ = _
            simp only [Act.put, List.setIfInBounds_toArray, List.set_cons_zero, List.set_cons_succ]
            rfl
          refine PrintLast.one_ (i := 14) (N := some 101) #[true, true, true, true, true, true, true, true, true, true, true, true, true, true, true, true, true, true, true, true, true, false, false, false] rfl rfl (by kernel_rfl) (by decide) (fun K hK => ?_)
          refine step_append_any _ rfl _ _ 23 rfl wq.heap.size 5 i5 _ 1 1 Try.underlying23 hi5 hz5 hy5 hx5 rfl (by decide) _ (0 + kk + len5) _ rfl T11.o1 wq.heap.size A13 (N - kk) (c6 - kk) (bv (L.drop kk)) rfl (HB3.out _ T11.bel).rd (bv_one _) (by unfold maxLen; omega) (by omega) T11.bel.size ?_
          intro v12' w12' hown hgrow hblk
          obtain ⟨pa12, pm12, pc12, rfl⟩ := own_form hown
          have T12 := T11.app1 hown hgrow hblk
          clear hown hgrow hblk
          refine hK.out _ _ trivial (fun hHeld => ?_)
          clear hK K
          refine PrintLast.norm_ (a' := ?_) ?_ ?_
          rotate_left
          · show Act.put _ (some 101) _ = _
            simp only [Act.put, List.setIfInBounds_toArray, List.set_cons_zero, List.set_cons_succ]
            rfl
          refine PrintLast.one_ (i := 21) (N := some 108) #[true, true, true, true, true, true, true, true, true, true, true, true, true, true, true, true, true, true, true, true, true, true, false, false] rfl rfl (by kernel_rfl) (by decide) (fun K hK => ?_)
          refine step_append_any _ rfl _ _ 23 rfl wq.heap.size 5 i5 _ 1 1 Try.underlying23 hi5 hz5 hy5 hx5 rfl (by decide) _ 2 _ rfl T12.o2 wq.heap.size a6 len6 cap6 (bv rw_) rfl (HB4.out _ T12.bel).rd (bv_one _) (by unfold maxLen; omega) (by omega) T12.bel.size ?_
          intro v13' w13' hown hgrow hblk
          obtain ⟨pa13, pm13, pc13, rfl⟩ := own_form hown
          have T13 := T12.app2 hown hgrow hblk
          clear hown hgrow hblk
          refine hK.out _ _ trivial (fun hHeld => ?_)
          clear hK K
          refine PrintLast.norm_ (a' := ?_) ?_ ?_
          rotate_left
          · show Act.put _ (some 108) _ = _
            simp only [Act.put, List.setIfInBounds_toArray, List.set_cons_zero, List.set_cons_succ]
            rfl
          obtain ⟨rs, hrs⟩ := R5.of T13 (l1 := [] ++ L.take kk ++ mor ++ L.drop kk) (l2 := [0, UInt8.ofNat len6] ++ rw_) (by simp [bv]) (by simp [bv, u8_two]) (r1 := ⟨some ⟨g7, 0, none⟩, N, r7, lz⟩) (r2 := ⟨A6, kk, c6, L.take kk⟩) (r4 := ⟨a6, len6, cap6, rw_⟩) ((HB0.out _ T13.bel).up T13.bel.size) ((HB1.out _ T13.bel).up T13.bel.size) ((HB4.out _ T13.bel).up T13.bel.size)
          refine PrintLast.one_ (i := 22) (N := some 109) #[true, true, true, true, true, true, true, true, true, true, true, true, true, true, true, true, true, true, true, true, true, true, true, false] rfl rfl (by kernel_rfl) (by decide) (fun K hK => ?_)
          refine PrintLast.value_ (w1 := ?_) (v := ?_) (by rfl) rfl ?_ ?_
          rotate_left 2
          · go_simp
            constructor
            · rfl
            · rfl
          refine hK.out _ _ trivial (fun hHeld => ?_)
          clear hK K
          refine PrintLast.norm_ (a' := ?_) ?_ ?_
          rotate_left
          · show Act.put _ (some 109) _ = _
            simp only [Act.put, List.setIfInBounds_toArray, List.set_cons_zero, List.set_cons_succ]
            rfl
          refine PrintLast.pure_ (i := 23) (N := some 19) (v := ?_) (a' := ?_) #[true, true, true, true, true, true, true, true, true, true, true, true, true, true, true, true, true, true, true, true, true, true, true, true] rfl rfl (by kernel_rfl) (fun _ _ _ h => h) (Or.inl ⟨by rfl, ?_⟩) ?_ ?_
          rotate_left
          · intro w'
            go_simp
            with_reducible rfl
          rotate_left
          · simp only [Act.put, List.setIfInBounds_toArray, List.set_cons_zero, List.set_cons_succ]
            rfl
          refine PrintLast.done_ (by kernel_rfl) ?_
          go_wp2_with fail
          go_meet
          case rel => exact ⟨_, rfl, Lib.hid ⟨rs, hrs⟩⟩
      · skip
        refine PrintLast.value_ (w1 := ?_) (v := ?_) (by rfl) rfl ?_ ?_
        rotate_left 2
        · go_simp
          constructor
          · rfl
          · rfl
        have T14 := TwoR.make2 T1 (.int .u8 0) (.int .u8 (IntKind.u8.wrap (len6 : Int)))
        refine hK.out _ _ trivial (fun hHeld => ?_)
        clear hK K
        refine PrintLast.norm_ (a' := ?_) ?_ ?_
        rotate_left
        · show Act.put _ (some 106) _ = _
          simp only [Act.put, List.setIfInBounds_toArray, List.set_cons_zero, List.set_cons_succ]
          rfl
        generalize hgen : World.alloc _ _ = w14g at T14 ⊢
        clear hgen
        refine PrintLast.one_ (i := 8) (N := some 95) #[true, true, true, true, true, true, true, true, true, true, false, true, true, true, false, true, true, true, true, true, true, false, false, false] rfl rfl (by kernel_rfl) (by decide) (fun K hK => ?_)
        refine step_append_any _ rfl _ _ 23 rfl wq.heap.size 5 i5 _ 1 1 Try.underlying23 hi5 hz5 hy5 hx5 rfl (by decide) _ 0 _ rfl T14.o1 wq.heap.size A6 kk c6 (bv (L.take kk)) rfl (HB1.out _ T14.bel).rd (bv_one _) (by unfold maxLen; omega) (by omega) T14.bel.size ?_
        intro v15' w15' hown hgrow hblk
        obtain ⟨pa15, pm15, pc15, rfl⟩ := own_form hown
        have T15 := T14.app1 hown hgrow hblk
        clear hown hgrow hblk
        refine hK.out _ _ trivial (fun hHeld => ?_)
        clear hK K
        refine PrintLast.norm_ (a' := ?_) ?_ ?_
        rotate_left
        · show Act.put _ (some 95) _ = _
          simp only [Act.put, List.setIfInBounds_toArray, List.set_cons_zero, List.set_cons_succ]
          rfl
        refine PrintLast.one_ (i := 10) (N := some 97) #[true, true, true, true, true, true, true, true, true, true, true, true, true, true, false, true, true, true, true, true, true, false, false, false] rfl rfl (by kernel_rfl) (by decide) (fun K hK => ?_)
        refine step_append_any _ rfl _ _ 23 rfl wq.heap.size 5 i5 _ 1 1 Try.underlying23 hi5 hz5 hy5 hx5 rfl (by decide) _ (0 + kk) _ rfl T15.o1 wq.heap.size a5 len5 cap5 (bv mor) rfl (HB2.out _ T15.bel).rd (bv_one _) (by unfold maxLen; omega) (by omega) T15.bel.size ?_
        intro v16' w16' hown hgrow hblk
        obtain ⟨pa16, pm16, pc16, rfl⟩ := own_form hown
        have T16 := T15.app1 hown hgrow hblk
        clear hown hgrow hblk
        refine hK.out _ _ trivial (fun hHeld => ?_)
        clear hK K
        refine PrintLast.norm_ (a' := ?_) ?_ ?_
        rotate_left
        · show Act.put _ (some 97) _ = _
          simp only [Act.put, List.setIfInBounds_toArray, List.set_cons_zero, List.set_cons_succ]
          rfl
        refine PrintLast.one_ (i := 14) (N := some 101) #[true, true, true, true, true, true, true, true, true, true, true, true, true, true, true, true, true, true, true, true, true, false, false, false] rfl rfl (by kernel_rfl) (by decide) (fun K hK => ?_)
        refine step_append_any _ rfl _ _ 23 rfl wq.heap.size 5 i5 _ 1 1 Try.underlying23 hi5 hz5 hy5 hx5 rfl (by decide) _ (0 + kk + len5) _ rfl T16.o1 wq.heap.size A13 (N - kk) (c6 - kk) (bv (L.drop kk)) rfl (HB3.out _ T16.bel).rd (bv_one _) (by unfold maxLen; omega) (by omega) T16.bel.size ?_
        intro v17' w17' hown hgrow hblk
        obtain ⟨pa17, pm17, pc17, rfl⟩ := own_form hown
        have T17 := T16.app1 hown hgrow hblk
        clear hown hgrow hblk
        refine hK.out _ _ trivial (fun hHeld => ?_)
        clear hK K
        refine PrintLast.norm_ (a' := ?_) ?_ ?_
        rotate_left
        · show Act.put _ (some 101) _ = _
          simp only [Act.put, List.setIfInBounds_toArray, List.set_cons_zero, List.set_cons_succ]
          rfl
        refine PrintLast.one_ (i := 21) (N := some 108) #[true, true, true, true, true, true, true, true, true, true, true, true, true, true, true, true, true, true, true, true, true, true, false, false] rfl rfl (by kernel_rfl) (by decide) (fun K hK => ?_)
        refine step_append_any _ rfl _ _ 23 rfl wq.heap.size 5 i5 _ 1 1 Try.underlying23 hi5 hz5 hy5 hx5 rfl (by decide) _ 2 _ rfl T17.o2 wq.heap.size a6 len6 cap6 (bv rw_) rfl (HB4.out _ T17.bel).rd (bv_one _) (by unfold maxLen; omega) (by omega) T17.bel.size ?_
        intro v18' w18' hown hgrow hblk
        obtain ⟨pa18, pm18, pc18, rfl⟩ := own_form hown
        have T18 := T17.app2 hown hgrow hblk
        clear hown hgrow hblk
        refine hK.out _ _ trivial (fun hHeld => ?_)
        clear hK K
        refine PrintLast.norm_ (a' := ?_) ?_ ?_
        rotate_left
        · show Act.put _ (some 108) _ = _
          simp only [Act.put, List.setIfInBounds_toArray, List.set_cons_zero, List.set_cons_succ]
          rfl
        obtain ⟨rs, hrs⟩ := R5.of T18 (l1 := [] ++ L.take kk ++ mor ++ L.drop kk) (l2 := [0, UInt8.ofNat len6] ++ rw_) (by simp [bv]) (by simp [bv, u8_two]) (r1 := ⟨some ⟨g7, 0, none⟩, N, r7, lz⟩) (r2 := ⟨A6, kk, c6, L.take kk⟩) (r4 := ⟨a6, len6, cap6, rw_⟩) ((HB0.out _ T18.bel).up T18.bel.size) ((HB1.out _ T18.bel).up T18.bel.size) ((HB4.out _ T18.bel).up T18.bel.size)
        refine PrintLast.one_ (i := 22) (N := some 109) #[true, true, true, true, true, true, true, true, true, true, true, true, true, true, true, true, true, true, true, true, true, true, true, false] rfl rfl (by kernel_rfl) (by decide) (fun K hK => ?_)
        refine PrintLast.value_ (w1 := ?_) (v := ?_) (by rfl) rfl ?_ ?_
        rotate_left 2
        · go_simp
          constructor
          · rfl
          · rfl
        refine hK.out _ _ trivial (fun hHeld => ?_)
        clear hK K
        refine PrintLast.norm_ (a' := ?_) ?_ ?_
        rotate_left
        · show Act.put _ (some 109) _ = _
          simp only [Act.put, List.setIfInBounds_toArray, List.set_cons_zero, List.set_cons_succ]
          rfl
        refine PrintLast.pure_ (i := 23) (N := some 19) (v := ?_) (a' := ?_) #[true, true, true, true, true, true, true, true, true, true, true, true, true, true, true, true, true, true, true, true, true, true, true, true] rfl rfl (by kernel_rfl) (fun _ _ _ h => h) (Or.inl ⟨by rfl, ?_⟩) ?_ ?_
        rotate_left
        · intro w'
          go_simp
          with_reducible rfl
        rotate_left
        · simp only [Act.put, List.setIfInBounds_toArray, List.set_cons_zero, List.set_cons_succ]
          rfl
        refine PrintLast.done_ (by kernel_rfl) ?_
        go_wp2_with fail
        go_meet
        case rel => exact ⟨_, rfl, Lib.hid ⟨rs, hrs⟩⟩
    · skip
      refine PrintLast.value_ (w1 := ?_) (v := ?_) (by rfl) rfl ?_ ?_
      rotate_left 2
      · go_simp
        constructor
        · rfl
        · rfl
      have T19 := TwoR.make2 T0 (.int .u8 0) (.int .u8 (IntKind.u8.wrap (len6 : Int)))
      refine hK.out _ _ trivial (fun hHeld => ?_)
      clear hK K
      refine PrintLast.norm_ (a' := ?_) ?_ ?_
      rotate_left
      · show Act.put _ (some 106) _ = _
        simp only [Act.put, List.setIfInBounds_toArray, List.set_cons_zero, List.set_cons_succ]
        rfl
      generalize hgen : World.alloc _ _ = w19g at T19 ⊢
      clear hgen
      refine PrintLast.one_ (i := 4) (N := some 91) #[true, true, true, true, true, true, true, true, false, true, false, true, true, true, false, true, true, true, true, true, true, false, false, false] rfl rfl (by kernel_rfl) (by decide) (fun K hK => ?_)
      refine PrintLast.value_ (w1 := ?_) (v := ?_) (by rfl) rfl ?_ ?_
      rotate_left 2
      · go_simp
        constructor
        · rfl
        · rfl
      have T20 := TwoR.make1 T19
      refine hK.out _ _ trivial (fun hHeld => ?_)
      clear hK K
      refine PrintLast.norm_ (a' := ?_) ?_ ?_
      rotate_left
      · show Act.put _ (some 91) _ = _
        simp only [Act.put, List.setIfInBounds_toArray, List.set_cons_zero, List.set_cons_succ]
        rfl
      generalize hgen : World.alloc _ _ = w20g at T20 ⊢
      clear hgen
      refine PrintLast.one_ (i := 8) (N := some 95) #[true, true, true, true, true, true, true, true, true, true, false, true, true, true, false, true, true, true, true, true, true, false, false, false] rfl rfl (by kernel_rfl) (by decide) (fun K hK => ?_)
      refine step_append_any _ rfl _ _ 23 rfl wq.heap.size 5 i5 _ 1 1 Try.underlying23 hi5 hz5 hy5 hx5 rfl (by decide) _ 0 _ rfl T20.o1 wq.heap.size A6 kk c6 (bv (L.take kk)) rfl (HB1.out _ T20.bel).rd (bv_one _) (by unfold maxLen; omega) (by omega) T20.bel.size ?_
      intro v21' w21' hown hgrow hblk
      obtain ⟨pa21, pm21, pc21, rfl⟩ := own_form hown
      have T21 := T20.app1 hown hgrow hblk
      clear hown hgrow hblk
      refine hK.out _ _ trivial (fun hHeld => ?_)
      clear hK K
      refine PrintLast.norm_ (a' := ?_) ?_ ?_
      rotate_left
      · show Act.put _ (some 95) _ = _
        simp only [Act.put, List.setIfInBounds_toArray, List.set_cons_zero, List.set_cons_succ]
        rfl
      refine PrintLast.one_ (i := 10) (N := some 97) #[true, true, true, true, true, true, true, true, true, true, true, true, true, true, false, true, true, true, true, true, true, false, false, false] rfl rfl (by kernel_rfl) (by decide) (fun K hK => ?_)
      refine step_append_any _ rfl _ _ 23 rfl wq.heap.size 5 i5 _ 1 1 Try.underlying23 hi5 hz5 hy5 hx5 rfl (by decide) _ (0 + kk) _ rfl T21.o1 wq.heap.size a5 len5 cap5 (bv mor) rfl (HB2.out _ T21.bel).rd (bv_one _) (by unfold maxLen; omega) (by omega) T21.bel.size ?_
      intro v22' w22' hown hgrow hblk
      obtain ⟨pa22, pm22, pc22, rfl⟩ := own_form hown
      have T22 := T21.app1 hown hgrow hblk
      clear hown hgrow hblk
      refine hK.out _ _ trivial (fun hHeld => ?_)
      clear hK K
      refine PrintLast.norm_ (a' := ?_) ?_ ?_
      rotate_left
      · show Act.put _ (some 97) _ = _
        simp only [Act.put, List.setIfInBounds_toArray, List.set_cons_zero, List.set_cons_succ]
        rfl
      refine PrintLast.one_ (i := 14) (N := some 101) #[true, true, true, true, true, true, true, true, true, true, true, true, true, true, true, true, true, true, true, true, true, false, false, false] rfl rfl (by kernel_rfl) (by decide) (fun K hK => ?_)
      refine step_append_any _ rfl _ _ 23 rfl wq.heap.size 5 i5 _ 1 1 Try.underlying23 hi5 hz5 hy5 hx5 rfl (by decide) _ (0 + kk + len5) _ rfl T22.o1 wq.heap.size A13 (N - kk) (c6 - kk) (bv (L.drop kk)) rfl (HB3.out _ T22.bel).rd (bv_one _) (by unfold maxLen; omega) (by omega) T22.bel.size ?_
      intro v23' w23' hown hgrow hblk
      obtain ⟨pa23, pm23, pc23, rfl⟩ := own_form hown
      have T23 := T22.app1 hown hgrow hblk
      clear hown hgrow hblk
      refine hK.out _ _ trivial (fun hHeld => ?_)
      clear hK K
      refine PrintLast.norm_ (a' := ?_) ?_ ?_
      rotate_left
      · show Act.put _ (some 101) _ = _
        simp only [Act.put, List.setIfInBounds_toArray, List.set_cons_zero, List.set_cons_succ]
        rfl
      refine PrintLast.one_ (i := 21) (N := some 108) #[true, true, true, true, true, true, true, true, true, true, true, true, true, true, true, true, true, true, true, true, true, true, false, false] rfl rfl (by kernel_rfl) (by decide) (fun K hK => ?_)
      refine step_append_any _ rfl _ _ 23 rfl wq.heap.size 5 i5 _ 1 1 Try.underlying23 hi5 hz5 hy5 hx5 rfl (by decide) _ 2 _ rfl T23.o2 wq.heap.size a6 len6 cap6 (bv rw_) rfl (HB4.out _ T23.bel).rd (bv_one _) (by unfold maxLen; omega) (by omega) T23.bel.size ?_
      intro v24' w24' hown hgrow hblk
      obtain ⟨pa24, pm24, pc24, rfl⟩ := own_form hown
      have T24 := T23.app2 hown hgrow hblk
      clear hown hgrow hblk
      refine hK.out _ _ trivial (fun hHeld => ?_)
      clear hK K
      refine PrintLast.norm_ (a' := ?_) ?_ ?_
      rotate_left
      · show Act.put _ (some 108) _ = _
        simp only [Act.put, List.setIfInBounds_toArray, List.set_cons_zero, List.set_cons_succ]
        rfl
      obtain ⟨rs, hrs⟩ := R5.of T24 (l1 := [] ++ L.take kk ++ mor ++ L.drop kk) (l2 := [0, UInt8.ofNat len6] ++ rw_) (by simp [bv]) (by simp [bv, u8_two]) (r1 := ⟨some ⟨g7, 0, none⟩, N, r7, lz⟩) (r2 := ⟨A6, kk, c6, L.take kk⟩) (r4 := ⟨a6, len6, cap6, rw_⟩) ((HB0.out _ T24.bel).up T24.bel.size) ((HB1.out _ T24.bel).up T24.bel.size) ((HB4.out _ T24.bel).up T24.bel.size)
      refine PrintLast.one_ (i := 22) (N := some 109) #[true, true, true, true, true, true, true, true, true, true, true, true, true, true, true, true, true, true, true, true, true, true, true, false] rfl rfl (by kernel_rfl) (by decide) (fun K hK => ?_)
      refine PrintLast.value_ (w1 := ?_) (v := ?_) (by rfl) rfl ?_ ?_
      rotate_left 2
      · go_simp
        constructor
        · rfl
        · rfl
      refine hK.out _ _ trivial (fun hHeld => ?_)
      clear hK K
      refine PrintLast.norm_ (a' := ?_) ?_ ?_
      rotate_left
      · show Act.put _ (some 109) _ = _
        simp only [Act.put, List.setIfInBounds_toArray, List.set_cons_zero, List.set_cons_succ]
        rfl
      refine PrintLast.pure_ (i := 23) (N := some 19) (v := ?_) (a' := ?_) #[true, true, true, true, true, true, true, true, true, true, true, true, true, true, true, true, true, true, true, true, true, true, true, true] rfl rfl (by kernel_rfl) (fun _ _ _ h => h) (Or.inl ⟨by rfl, ?_⟩) ?_ ?_
      rotate_left
      · intro w'
        go_simp
        with_reducible rfl
      rotate_left
      · simp only [Act.put, List.setIfInBounds_toArray, List.set_cons_zero, List.set_cons_succ]
        rfl
      refine PrintLast.done_ (by kernel_rfl) ?_
      go_wp2_with fail
      go_meet
      case rel => exact ⟨_, rfl, Lib.hid ⟨rs, hrs⟩⟩
  obtain ⟨G, rfl, HR⟩ := hcut
  clear hkN hkc hNc hcm hszq
  go_wp2_with fail
  go_loopw [20] (fun i wr => ∃ j : Nat, j ≤ 5 ∧ i = .int .i64 j ∧ Hid (∃ rs, R5 wq wr G rs)) (fun i _ => 5 - (intOf i).toNat)
  case atStart => exact ⟨0, by omega, rfl, HR⟩
  case round =>
    obtain ⟨j, hj5, rfl, HR2⟩ := hrel
    clear HR
    by_cases hj : j < 5
    · obtain ⟨rs, hR⟩ := HR2.out
      obtain ⟨⟨A, n, c, l5⟩, hc5, hs5⟩ := hR.at_ hj
      have hGl := hR.lt
      simp only at hc5 hs5
      have HRR := Lib.hid hR
      have HRD := Lib.hid fun (z : World) (hb : Below wr.heap.size wr z) => readRequest19 (hs5.below (hb.mono (Nat.le_of_lt hGl))) (Nat.le_trans (Nat.le_of_lt hGl) hb.size)
      have hrd := readRequest_any hs5 (Nat.le_of_lt hGl)
      clear hR hs5 HR2
      go_wp2_with fail
      refine hrd.mono ?_
      rintro e w1 ⟨he, bb1⟩
      obtain ⟨qk, qn, qt, qv, hqv⟩ : ∃ qk qn qt qv, rqvOf (rqRead l5).1 = .agg #[.int .i64 qk, .string qn, .string qt, .int .i64 qv] := ⟨_, _, _, _, rfl⟩
      rw [hqv] at he
      obtain ⟨qp, hqp⟩ : ∃ qp, qp = (rqRead l5).2.1 := ⟨_, rfl⟩
      obtain ⟨qe, hqe⟩ : ∃ qe, qe = (rqRead l5).2.2 := ⟨_, rfl⟩
      rw [← hqp, ← hqe] at he
      subst he
      have HRD2 : Hid (∀ z, Below wr.heap.size wr z → Calls Try.prog 19 #[.slice A n c] z (fun e w' => e = .returned (.tuple #[.agg #[.int .i64 qk, .string qn, .string qt, .int .i64 qv], .int .i64 qp, .int .i64 qe]) ∧ Below z.heap.size z w')) := Lib.hid fun z hb => (HRD.out z hb).mono fun e w' h => by
        obtain ⟨h1, h2⟩ := h
        rw [hqv, ← hqp, ← hqe] at h1
        exact ⟨h1, h2⟩
      clear HRD hrd hqv hqp hqe
      obtain ⟨W2, hW2⟩ : ∃ W2, W2 = w1.alloc (.cells #[.int .i64 qk, .string qn, .string qt, .int .i64 qv] 27) := ⟨_, rfl⟩
      have bb2 : Below wr.heap.size wr W2 := by rw [hW2]; exact bb1.alloc bb1.size _
      have hq2 : W2.heap[w1.heap.size]? = some (.cells #[.int .i64 qk, .string qn, .string qt, .int .i64 qv] 27 (0, 0)) := by rw [hW2]; exact heap_alloc_new _ _
      have hz2 : w1.heap.size < W2.heap.size := by rw [hW2]; simp
      have hc52 : W2.cell? ⟨G, j, none⟩ = some (.slice A n c) := (World.cell?_of_block (bb2.block G hGl)).trans hc5
      have HW2 := Lib.hid hW2
      have HQ2 := Lib.hid hq2
      clear hW2 hq2 bb1 hc5
      go_upto_region 17 with fail
      rw [← HW2.out]
      clear HW2
      go_wp2_with fail
      refine (HRD2.out _ bb2).mono ?_
      rintro e w3 ⟨rfl, bb3⟩
      have bb13 : Below wr.heap.size wr w3 := bb2.trans (bb3.mono bb2.size)
      have hq3 := (bb3.block _ hz2).trans HQ2.out
      have hz3 := Nat.lt_of_lt_of_le hz2 bb3.size
      obtain ⟨W4, hW4⟩ : ∃ W4, W4 = w3.alloc (.cells #[.int .i64 qk, .string qn, .string qt, .int .i64 qv] 27) := ⟨_, rfl⟩
      have b4 : Below w3.heap.size w3 W4 := by rw [hW4]; exact (Below.refl _ _).alloc (Nat.le_refl _) _
      have bb4 : Below wr.heap.size wr W4 := by rw [hW4]; exact bb13.alloc bb13.size _
      have hq4 : W4.heap[w3.heap.size]? = some (.cells #[.int .i64 qk, .string qn, .string qt, .int .i64 qv] 27 (0, 0)) := by rw [hW4]; exact heap_alloc_new _ _
      have hq4' := (b4.block _ hz3).trans hq3
      have HW4 := Lib.hid hW4
      have HB4 := Lib.hid bb4
      clear hW4 bb3 bb13 hq3 hz3 bb2 hc52 HQ2 hz2 b4 bb4
      go_upto_region 18 with fail
      rw [← HW4.out]
      clear HW4
      generalize w3.heap.size = g3 at *
      generalize w1.heap.size = g1 at *
      obtain ⟨d0, d1, d2, d3⟩ := box4 hq4
      obtain ⟨f0, f1, f2, f3⟩ := box4 hq4'
      clear hq4 hq4'
      go_wp2_with fail
      go_roundw
      case rel => exact ⟨j + 1, by omega, by go_num, Lib.hid ⟨rs, HRR.out.next HB4.out⟩⟩
      case measure => simp [intOf]; omega
    · go_wp2_with fail
      go_ret
      obtain ⟨rs, hR⟩ := HR2.out
      exact ⟨rfl, HBQ.out.trans (hR.bel.mono HBQ.out.size)⟩

/-! ### THE ROW's STEP -/
set_option maxRecDepth 100000 in
theorem lifted (os : Os) (started : os.Started) (H : Type) (enc : TypeId × Value → H) :
    ReturnsInHanded {} Try.checked os 4 .any (Rows.frameReadsSpec.pre6 enc Try.prog Try.f4 Rows.frameReadsRow.domain false) (Rows.frameReadsSpec.post enc Try.prog Try.f4 false true false false) := by
  refine returnsInHanded_of_change_sized (C := Try.checked) own started (by kernel_rfl) Try.func4
    (ChangeSpec.witness6 (enc := enc) (C := Try.checked) false ⟨#[], #[.int .i64 0, .slice none 0 0, .slice none 0 0, .slice none 0 0, .int .i64 0, .slice none 0 0, .slice none 0 0], []⟩ 8 (by kernel_rfl) (by kernel_rfl) (by kernel_rfl) (by kernel_rfl)) ?_
  intro W base args ds gs before hval0 hW hcnd hsz0 _
  have hsz : (DataW.weightsEach Try.prog (Try.f4.params.toList ++ Rows.frameReadsSpec.plain.varTypes Try.prog) (ds ++ gs)).all (· ≤ reachBytes) = true := hsz0
  have hval : ∀ (j : Nat) t v, Try.f4.params[j]? = some t → args[j]? = some v → Value.okWide Try.prog W .any base t v := hval0
  have hW' := hW
  obtain ⟨p, q, hA0, hV, rfl, hfz, hnd⟩ := hW
  have hA : DataW.TrodAll enc Try.prog W 0 (fun _ => true) true Try.f4.params.toList args.toList ds p := hA0
  rw [Try.params4] at hA hval hsz
  obtain ⟨v0, vs0, d0, ds0, p0, q0, hargs, rfl, rfl, h0, r0⟩ := trodAll_cons hA
  obtain ⟨v1, vs1, d1, ds1, p1, q1, rfl, rfl, rfl, h1, r1⟩ := trodAll_cons r0
  obtain ⟨v2, vs2, d2, ds2, p2, q2, rfl, rfl, rfl, h2, r2⟩ := trodAll_cons r1
  obtain ⟨v3, vs3, d3, ds3, p3, q3, rfl, rfl, rfl, h3, r3⟩ := trodAll_cons r2
  obtain ⟨v4, vs4, d4, ds4, p4, q4, rfl, rfl, rfl, h4, r4⟩ := trodAll_cons r3
  obtain ⟨v5, vs5, d5, ds5, p5, q5, rfl, rfl, rfl, h5, r5⟩ := trodAll_cons r4
  obtain ⟨v6, vs6, d6, ds6, p6, q6, rfl, rfl, rfl, h6, r6⟩ := trodAll_cons r5
  obtain ⟨rfl, rfl, rfl⟩ := trodAll_nil r6
  obtain rfl : args = #[v0, v1, v2, v3, v4, v5, v6] := by cases args; simp_all
  obtain ⟨rfl, rfl⟩ := trodVars_none hV
  obtain ⟨a0, rfl, rfl, rfl, w0⟩ := open_int Try.underlying3 (hval 0 3 v0 rfl rfl) h0
  obtain ⟨a1, len1, cap1, rfl⟩ := okWide_slice Try.underlying22 (hval 1 22 v1 rfl rfl)
  have k1 := h1
  have lt1 : ∀ x ∈ p1, x.block < W.heap.size := by obtain ⟨m, hm⟩ := k1; exact DataW.trod_lt m _ _ _ hm
  obtain ⟨l, e1, y1, x1, w1⟩ := rows_open hsz (j := 1) rfl rfl h1
  subst e1
  obtain ⟨a2, len2, cap2, rfl⟩ := okWide_slice Try.underlying35 (hval 2 35 v2 rfl rfl)
  have k2 := h2
  have lt2 : ∀ x ∈ p2, x.block < W.heap.size := by obtain ⟨m, hm⟩ := k2; exact DataW.trod_lt m _ _ _ hm
  obtain ⟨z2, w2⟩ : ∃ zs, IsRow .i64 W a2 len2 cap2 zs := by
    obtain ⟨fuel, hf⟩ := h2
    rcases open_ints Try.underlying35 Try.underlying3 (by kernel_rfl) hf with ⟨hcs, _⟩ | ⟨x, l, c, zs, hcs, _, hl, hm, hz, _, hcell, hwz⟩
    · simp [Value.cells] at hcs
      obtain ⟨rfl, rfl, rfl⟩ := hcs
      exact ⟨[], .inl ⟨rfl, rfl, rfl, rfl⟩⟩
    · simp [Value.cells] at hcs
      obtain ⟨rfl, rfl, rfl⟩ := hcs
      exact ⟨zs, .inr ⟨_, rfl, hl, hm, by simpa using hz, hcell, hwz⟩⟩
  obtain ⟨a3, len3, cap3, rfl⟩ := okWide_slice Try.underlying23 (hval 3 23 v3 rfl rfl)
  have k3 := h3
  have lt3 : ∀ x ∈ p3, x.block < W.heap.size := by obtain ⟨m, hm⟩ := k3; exact DataW.trod_lt m _ _ _ hm
  obtain ⟨z3, w3⟩ : ∃ zs, IsRow .u8 W a3 len3 cap3 zs := by
    obtain ⟨fuel, hf⟩ := h3
    rcases open_ints Try.underlying23 Try.underlying5 (by kernel_rfl) hf with ⟨hcs, _⟩ | ⟨x, l, c, zs, hcs, _, hl, hm, hz, _, hcell, hwz⟩
    · simp [Value.cells] at hcs
      obtain ⟨rfl, rfl, rfl⟩ := hcs
      exact ⟨[], .inl ⟨rfl, rfl, rfl, rfl⟩⟩
    · simp [Value.cells] at hcs
      obtain ⟨rfl, rfl, rfl⟩ := hcs
      exact ⟨zs, .inr ⟨_, rfl, hl, hm, by simpa using hz, hcell, hwz⟩⟩
  obtain ⟨a4, rfl, rfl, rfl, w4⟩ := open_int Try.underlying3 (hval 4 3 v4 rfl rfl) h4
  obtain ⟨a5, len5, cap5, rfl⟩ := okWide_slice Try.underlying23 (hval 5 23 v5 rfl rfl)
  have k5 := h5
  have lt5 : ∀ x ∈ p5, x.block < W.heap.size := by obtain ⟨m, hm⟩ := k5; exact DataW.trod_lt m _ _ _ hm
  obtain ⟨z5, w5⟩ : ∃ zs, IsRow .u8 W a5 len5 cap5 zs := by
    obtain ⟨fuel, hf⟩ := h5
    rcases open_ints Try.underlying23 Try.underlying5 (by kernel_rfl) hf with ⟨hcs, _⟩ | ⟨x, l, c, zs, hcs, _, hl, hm, hz, _, hcell, hwz⟩
    · simp [Value.cells] at hcs
      obtain ⟨rfl, rfl, rfl⟩ := hcs
      exact ⟨[], .inl ⟨rfl, rfl, rfl, rfl⟩⟩
    · simp [Value.cells] at hcs
      obtain ⟨rfl, rfl, rfl⟩ := hcs
      exact ⟨zs, .inr ⟨_, rfl, hl, hm, by simpa using hz, hcell, hwz⟩⟩
  obtain ⟨a6, len6, cap6, rfl⟩ := okWide_slice Try.underlying23 (hval 6 23 v6 rfl rfl)
  have k6 := h6
  have lt6 : ∀ x ∈ p6, x.block < W.heap.size := by obtain ⟨m, hm⟩ := k6; exact DataW.trod_lt m _ _ _ hm
  obtain ⟨z6, w6⟩ : ∃ zs, IsRow .u8 W a6 len6 cap6 zs := by
    obtain ⟨fuel, hf⟩ := h6
    rcases open_ints Try.underlying23 Try.underlying5 (by kernel_rfl) hf with ⟨hcs, _⟩ | ⟨x, l, c, zs, hcs, _, hl, hm, hz, _, hcell, hwz⟩
    · simp [Value.cells] at hcs
      obtain ⟨rfl, rfl, rfl⟩ := hcs
      exact ⟨[], .inl ⟨rfl, rfl, rfl, rfl⟩⟩
    · simp [Value.cells] at hcs
      obtain ⟨rfl, rfl, rfl⟩ := hcs
      exact ⟨zs, .inr ⟨_, rfl, hl, hm, by simpa using hz, hcell, hwz⟩⟩
  clear hA0 hval0 hsz0 hsz
  refine (walk a0 a1 l cap1 a2 len2 cap2 z2 a3 len3 cap3 z3 a4 a5 len5 cap5 z5 a6 len6 cap6 z6 W w0 w1 y1 x1 w2 w3 w4 w5 w6).mono fun e W' ⟨he, bel⟩ => ?_
  subst he
  exact ⟨_, rfl, _, _, _, [], _, [], hW', trodAll_mk1 (shut_bool Try.underlying4 _), (trodAll_cons_mk (shut_int Try.underlying3 w0) (trodAll_cons_mk (Below.trod laidOut (by kernel_rfl) (of_decide_eq_true (by kernel_rfl)) k1 bel lt1) (trodAll_cons_mk (Below.trod laidOut (by kernel_rfl) (of_decide_eq_true (by kernel_rfl)) k2 bel lt2) (trodAll_cons_mk (Below.trod laidOut (by kernel_rfl) (of_decide_eq_true (by kernel_rfl)) k3 bel lt3) (trodAll_cons_mk (shut_int Try.underlying3 w4) (trodAll_cons_mk (Below.trod laidOut (by kernel_rfl) (of_decide_eq_true (by kernel_rfl)) k5 bel lt5) (trodAll_cons_mk (Below.trod laidOut (by kernel_rfl) (of_decide_eq_true (by kernel_rfl)) k6 bel lt6) trodAll_mk0))))))), rfl, bel.frame _, fun h => by cases h⟩

theorem over : Rows.frameReadsRow.holds Try.pinned (OpenSpec.ofChange Rows.frameReadsSpec) :=
  OpenClaim.holds_of_wide 4 Try.f4 rfl rfl rfl rfl rfl rfl rfl ⟨rfl, rfl, rfl, rfl, rfl⟩ rfl rfl rfl rfl rfl (by kernel_rfl) Try.func4 (by kernel_rfl)
    (of_decide_eq_true (by kernel_rfl)) (by unfold Func.isWrapper; first | (rw [if_pos (by decide +kernel)]; kernel_rfl) | (rw [if_neg (by decide +kernel)]; exact ⟨rfl, rfl⟩))
    (fun os started H enc _ => lifted os started H enc)

/-- The statement. -/
theorem proved : Rows.FrameReadsSaid := over
#print axioms proved
end Go.Proofs.Ytifdkkkcecpjoaa.frameReads
