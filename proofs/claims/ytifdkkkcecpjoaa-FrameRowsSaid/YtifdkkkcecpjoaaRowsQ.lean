/-
  For all numbers, all raw statements and every number FrameRows returns true and leaves what was there as it was. No conditions.
-/
import Derived.Test.YtifdkkkcecpjoaaRows
import Derived.WalkKit
import Derived.ProofKit
import Derived.OpenShut
import Derived.ShutString
import Derived.ChangeOld
import Derived.Below
import Derived.SizedLaws
import Derived.Deep.AppendLies
import Derived.Deep.DeepCutAuto
import Derived.Deep.CutBlock
import Derived.Deep.QuietTactic
import Derived.BigQuiet
import Derived.Test.YtifdkkkcecpjoaaRwAQ
namespace Go.Proofs.Ytifdkkkcecpjoaa.frameRows
open Go.ChangeShapes Go.WideShapes Go.ChangeAt Go.RowKit
open Go.ChangeMaps (open_string shut_string)
set_option linter.unusedVariables false

theorem own : ownKnob Try.prog.godebug = none := by kernel_rfl
theorem laidOut : laidOutB Try.prog = true := by kernel_rfl

/-- What the walk is told of a slice of numbers that came in. -/
def IsRow (k : IntKind) (w : World) (a : Option Addr) (len cap : Nat) (zs : List Int) : Prop :=
  (a = none ∧ len = 0 ∧ cap = 0 ∧ zs = []) ∨
  ∃ x, a = some x ∧ len ≤ cap ∧ cap ≤ maxLen ∧ zs.length = cap ∧ (∀ i, i < zs.length → w.cell? (x.add i) = some (.int k (zs.getD i 0))) ∧ ∀ n ∈ zs, (Lit.int k n).wf = true

attribute [local go_sem ↓] Go.wp_at_zero Go.wp_at_succ
open Go.Proofs.YtifdkkkcecpjoaaW Go.Proofs.YtifdkkkcecpjoaaW.PrintWords Go.Proofs.Ytifdkkkcecpjoaa.Tx
set_option linter.unusedSimpArgs false

theorem row4_at {w : World} {ad : Addr} {ws : List W4} (h : ∀ (i : Nat) (r : W4) (j : Nat) (u : Value), ws[i]? = some r → r.cells[j]? = some u → w.cell? (ad.add (i * 4 + j)) = some u) {i : Nat} {r : W4} (hr : ws[i]? = some r) :
    w.cell? (ad.add (i * 4)) = some (.int .i64 r.k) ∧ w.cell? ⟨(ad.add (i * 4)).block, (ad.add (i * 4)).off + 1, none⟩ = some (.string r.s) ∧ w.cell? ⟨(ad.add (i * 4)).block, (ad.add (i * 4)).off + 2, none⟩ = some (.string r.t) ∧ w.cell? ⟨(ad.add (i * 4)).block, (ad.add (i * 4)).off + 3, none⟩ = some (.int .i64 r.x) :=
  ⟨h i r 0 _ hr rfl, by rw [← add_field _ _ 1 (by omega)]; exact h i r 1 _ hr rfl, by rw [← add_field _ _ 2 (by omega)]; exact h i r 2 _ hr rfl, by rw [← add_field _ _ 3 (by omega)]; exact h i r 3 _ hr rfl⟩


set_option maxRecDepth 100000 in
set_option maxHeartbeats 3200000 in
theorem walk (a0 : Option Addr) (len0 cap0 : Nat) (z0 : List Int) (a1 : Option Addr) (l : List S63) (cap1 : Nat) (a2 : Int) (w : World) (w0 : IsRow .i64 w a0 len0 cap0 z0) (w1 : Kd.C k63 w a1 l.length l) (y1 : l.length ≤ cap1) (x1 : cap1 ≤ 1000000000000000) (w2 : (Lit.int .i64 a2).wf = true) :
    Calls Try.prog 6 #[.slice a0 len0 cap0, .slice a1 l.length cap1, .int .i64 a2] w fun e w' => e = .returned (.bool true) ∧ Below w.heap.size w w' := by
  have hk := known_any w
  obtain ⟨hnum, hl0⟩ := numsw_of_row w0
  simp [Lit.wf, IntKind.min, IntKind.max, IntKind.signed, IntKind.bits] at w2
  obtain ⟨i5, hi5, hz5, hy5, hx5⟩ := info_parts info5
  obtain ⟨i27, hi27, hz27, hy27, hx27⟩ := info_parts info27
  have HC := Lib.hid w1
  have HY := Lib.hid y1
  have HN := Lib.hid hnum
  have hl := Nat.le_trans y1 x1
  unfold maxLen at hl0
  clear w0 w1 y1 hnum
  go_enter Try.func6, Try.ntmps6
  go_wp2_with fail
  refine hk.mono ?_
  rintro e v1 ⟨rfl, b1⟩
  have hf := few4_any (c := cap1) (Kd.C_below HC.out b1) hl
  go_wp2_with fail
  refine hf.mono ?_
  rintro e v1' ⟨b, rfl, hb, rfl⟩
  cases b with
  | false =>
    go_wp2_with fail
    go_ret
    exact ⟨rfl, b1⟩
  | true =>
  have HF := Lib.hid (hb rfl)
  clear hb hf hk
  have h0 : Hid (LoopR w v1 [] (.slice none 0 0) (.slice none 0 0)) := Lib.hid ⟨World.ownsRow_nil _ _ _ _, World.ownsRow_nil _ _ _ _, b1, by simp⟩
  clear b1
  go_upto_block 0 with fail
  go_cut [7, 8, 9] (fun sb sw i wc => ∃ ws : List W4, ws.length ≤ 12 ∧ Hid (LoopR w wc ws sb sw))
  case first =>
    go_wp2_with fail
    go_loopw [7, 8, 9] (fun sb sw i wr => ∃ ws : List W4, ws.length ≤ len0 ∧ ws.length ≤ 12 ∧ i = .int .i64 ws.length ∧ Hid (LoopR w wr ws sb sw)) (fun _ _ i _ => 13 - (intOf i).toNat)
    case atStart => exact ⟨[], Nat.zero_le _, by show 0 ≤ 12; decide, rfl, h0⟩
    case round =>
      obtain ⟨ws, hwl, hw12, rfl, HR⟩ := hrel
      clear h0
      obtain ⟨j, hj⟩ : ∃ j, j = ws.length := ⟨_, rfl⟩
      rw [← hj] at hwl hw12 ⊢
      have HJ := Lib.hid hj
      clear hj
      by_cases hlt : j < len0 ∧ j < 12
      · obtain ⟨hlt1, hlt2⟩ := hlt
        obtain ⟨ad, hA, hc, hzb⟩ := HN.out (by omega)
        have hdw := World.block_lt_of_cell? w _ (hc j hlt1)
        have hcz := (World.cell?_of_block (HR.out.bel.block _ hdw)).trans (hc j hlt1)
        obtain ⟨hz0, hz1⟩ := hzb j hlt1
        subst hA
        generalize z0.getD j 0 = z at *
        have n0 := Int.emod_nonneg z (show (1073741824 : Int) ≠ 0 by omega)
        have n1 := Int.emod_lt_of_pos z (show (0 : Int) < 1073741824 by omega)
        clear hc hzb hdw
        go_wp2_with fail
        refine (within15 z 1073741824 _ (by omega) (by omega) hz0 hz1).mono ?_
        rintro e wr' ⟨rfl, rfl⟩
        have hmk := make_list (w := wr) (n := z % 1073741824) (c := cap1) n0 (by omega) (Kd.C_below HC.out HR.out.bel) HY.out (fun y hy => ⟨(HF.out y hy).e, by have := (HF.out y hy).len; omega⟩) hl x1
        clear hcz
        go_wp2_with fail
        refine hmk.mono ?_
        rintro e v2 ⟨k, s, t, x, rfl, hr, hs, ht, b2⟩
        unfold rqv
        have HOk := Lib.hid (show Ok4 ⟨k, s, t, x⟩ from ⟨hr, hs, ht⟩)
        obtain ⟨W5, hW5⟩ : ∃ W5, W5 = v2.alloc (.cells #[.int .i64 k, .string s, .string t, .int .i64 x] 27) := ⟨_, rfl⟩
        obtain ⟨g10, hg10⟩ : ∃ g10, g10 = v2.heap.size := ⟨_, rfl⟩
        have b5 : Below wr.heap.size wr W5 := by rw [hW5]; exact below_alloc b2 _
        have hq5 : W5.heap[g10]? = some (.cells #[.int .i64 k, .string s, .string t, .int .i64 x] 27 (0, 0)) := by rw [hW5, hg10]; exact heap_alloc_new _ _
        have hgw : wr.heap.size ≤ g10 := by rw [hg10]; exact b2.size
        have HB5 := Lib.hid b5
        have HQ5 := Lib.hid hq5
        have HGW := Lib.hid hgw
        obtain ⟨c0, c1, c2, c3⟩ := box4 hq5
        have HW5 := Lib.hid hW5
        have HG10 := Lib.hid hg10
        clear hW5 hg10 b5 hq5 hgw b2 hr hs ht hmk n0 n1
        go_upto_region 11 with fail
        rw [← HW5.out, ← HG10.out]
        obtain ⟨wA, wC, hsw⟩ := own_slice HR.out.r
        obtain ⟨bA, bC, hsb⟩ := own_slice HR.out.b
        subst hsw hsb
        have hown27 := own_below HR.out.r HB5.out
        have hown5 := own_below HR.out.b HB5.out
        have hsz5 : w.heap.size ≤ W5.heap.size := Nat.le_trans HR.out.bel.size HB5.out.size
        have hj' := HJ.out
        have hws8 : ws.length < 12 := by omega
        have HA1 := Lib.hid (show ws.length + 1 ≤ len0 from hj' ▸ hlt1)
        have HA2 := Lib.hid (show ws.length + 1 ≤ 12 from hws8)
        go_upto_region 12 with (at_builtin; refine wpList_append_own _ rfl _ _ 49 rfl w.heap.size 27 i27 _ 4 48 Try.underlying49 hi27 hz27 hy27 hx27 rfl (by decide) (.slice wA ws.length wC) ws.length (cells4 ws) rfl (hown27.alloc (.cells #[.int .i64 k, .string s, .string t, .int .i64 x] 27)) ⟨W5.heap.size, 0, none⟩ 1 1 [.int .i64 k, .string s, .string t, .int .i64 x] rfl rfl (World.news_of_block (cs := #[.int .i64 k, .string s, .string t, .int .i64 x]) (t := 27) (fr := (0, 0)) (heap_alloc_new W5 _)) (by simp [Value.oneCell']) (by unfold maxLen; omega) (by omega) (by simp; omega) ?_; intro vw w6 hown6 hgrow6 _; have hbyt6 := own_beside (hown5.alloc (.cells #[.int .i64 k, .string s, .string t, .int .i64 x] 27)) (hown27.alloc (.cells #[.int .i64 k, .string s, .string t, .int .i64 x] 27)) (by decide) hgrow6; have b06 : Below w.heap.size w w6 := ((HR.out.bel.trans (HB5.out.mono HR.out.bel.size)).alloc hsz5 (.cells #[.int .i64 k, .string s, .string t, .int .i64 x] 27)).grown hgrow6 (by simp; omega) (fun k hk => (HR.out.r.lt k hk).1); have hq6 : w6.heap[g10]? = some (.cells #[.int .i64 k, .string s, .string t, .int .i64 x] 27 (0, 0)) := (hgrow6.block g10 (by have := (Array.getElem?_eq_some_iff.1 HQ5.out).1; simp; omega) (own_under HR.out.r HGW.out)).trans ((Below.heap_alloc _ _ _ (Array.getElem?_eq_some_iff.1 HQ5.out).1).trans HQ5.out); have H27 := Lib.hid hown6; have H5 := Lib.hid hbyt6; have B6 := Lib.hid b06; have HQ6 := Lib.hid hq6; clear hown6 hgrow6 hbyt6 b06 hq6 hown27 hown5)
        clear c0 c1 c2 c3
        obtain ⟨c0, c1, c2, c3⟩ := box4 HQ6.out
        have hreq := request_any k s t x w6 (by have := HOk.out.s; show s.size ≤ 100000; have h := this; simp only at h; omega) (by have h := HOk.out.t; simp only at h; omega)
        unfold rqv at hreq
        obtain ⟨L, hL⟩ : ∃ L, L = (rqOfV k s t x).enc := ⟨_, rfl⟩
        rw [← hL] at hreq
        have HLe := Lib.hid hL
        have HLl := Lib.hid (show L.length ≤ 700 from by rw [hL]; exact (enc_le HOk.out).1)
        clear hL
        go_wp2_with fail
        refine hreq.mono ?_
        intro e w7 hE
        obtain ⟨A7, c7, rfl, hs7, b7⟩ := bytes_sl hE
        clear hE hreq c0 c1 c2 c3
        have H27b := Lib.hid (own_below H27.out b7)
        have hb7 := own_below H5.out b7
        have B7 := Lib.hid (B6.out.trans (b7.mono B6.out.size))
        have hN7 := encs4_le ws HR.out.ok
        have hL7 := HLl.out
        have hbs7 := B7.out.size
        go_wp2_with (at_builtin; refine wpList_append_any _ rfl _ _ 23 rfl w.heap.size 5 i5 _ 1 1 Try.underlying23 hi5 hz5 hy5 hx5 rfl (by decide) (.slice bA (encs4 ws).length bC) (encs4 ws).length (bv (encs4 ws)) rfl hb7 w7.heap.size A7 L.length c7 (bv L) rfl hs7.rd (bv_one _) (by unfold maxLen; omega) (by omega) hbs7 ?_; intro v8 w8 hown8 hgrow8 _; have H27c := Lib.hid (own_beside H27b.out hb7 (by decide) hgrow8); have B8 := Lib.hid (B7.out.grown hgrow8 hbs7 (fun k hk => (HR.out.b.lt k hk).1)); have H8 := Lib.hid hown8; clear hown8 hgrow8)
        go_roundw
        case rel =>
          have hw : wrap64 ((ws.length : Int) + 1) = ((ws.length + 1 : Nat) : Int) := wrap_succ (Nat.le_trans (Nat.le_of_lt HA2.out) (by decide))
          refine ⟨ws ++ [⟨k, s, t, x⟩], by rw [List.length_append]; exact HA1.out, by rw [List.length_append]; exact HA2.out, by rw [List.length_append]; first | (rw [hw]; rfl) | rfl, Lib.hid ⟨?_, ?_, B8.out, ?_⟩⟩
          · have h := H8.out
            have e1 : encs4 (ws ++ [⟨k, s, t, x⟩]) = encs4 ws ++ L := by rw [encs4_append, HLe.out]; simp [encs4, W4.rq]
            rw [e1, List.length_append, bv_append]
            exact h
          · have h := H27c.out
            have e1 : cells4 (ws ++ [⟨k, s, t, x⟩]) = cells4 ws ++ [.int .i64 k, .string s, .string t, .int .i64 x] := by rw [cells4_append]; rfl
            rw [e1, List.length_append]
            exact h
          · intro r hr
            rcases List.mem_append.1 hr with h | h
            · exact HR.out.ok r h
            · rw [List.mem_singleton.1 h]; exact HOk.out
        case measure =>
          have hw : wrap64 ((ws.length : Int) + 1) = (ws.length : Int) + 1 := wrap_succ (Nat.le_trans (Nat.le_of_lt HA2.out) (by decide))
          (try rw [hw])
          rw [hj']
          exact meas12 HA2.out
      · have hx : (¬ j < len0) ∨ (j < len0 ∧ ¬ j < 12) := by omega
        have HW12 := Lib.hid hw12
        rcases hx with hx | ⟨hx, hx2⟩
        · go_wp2_with fail
          go_meet
          case rel => exact ⟨ws, HJ.out ▸ HW12.out, HR⟩
        · go_wp2_with fail
          go_meet
          case rel => exact ⟨ws, HJ.out ▸ HW12.out, HR⟩
  case rest =>
    obtain ⟨ws, hw12, HR⟩ := hcut
    clear h0
    obtain ⟨wA, wC, hsw⟩ := own_slice HR.out.r
    obtain ⟨bA, bC, hsb⟩ := own_slice HR.out.b
    subst hsw hsb
    by_cases hemp : ws.length = 0
    · have t50 : ((ws.length : Int) == 0) = true := by simp [hemp]
      go_wp2_with fail
      go_ret
      exact ⟨rfl, HR.out.bel⟩
    · have t50 : ((ws.length : Int) == 0) = false := by simp [hemp]
      obtain ⟨q, hq⟩ : ∃ q, ws.getLast? = some q := by
        cases hg : ws.getLast? with
        | none => rw [List.getLast?_eq_none_iff.1 hg] at hemp; exact absurd rfl hemp
        | some z => exact ⟨z, rfl⟩
      have hqi : ws[ws.length - 1]? = some q := by rw [← List.getLast?_eq_getElem?]; exact hq
      have hrw : Reads wc wc.heap.size 4 wA ws.length (cells4 ws) := Reads.of_own HR.out.r
      obtain ⟨ad, hA, hbk, hcell⟩ := hrw.2 (by omega)
      subst hA
      have hcl : ∀ (i : Nat) (r : W4) (j : Nat) (u : Value), ws[i]? = some r → r.cells[j]? = some u → wc.cell? (ad.add (i * 4 + j)) = some u := fun i r j u h1 h2 => hcell _ _ (cells4_get h1 h2)
      have HCL := Lib.hid hcl
      have HAD := Lib.hid hbk
      have HQ := Lib.hid hq
      have HEMP := Lib.hid hemp
      have hsub : ((ws.length : Int) - 1).toNat = ws.length - 1 := by omega
      obtain ⟨c0, c1, c2, c3⟩ := row4_at HCL.out hqi
      have hqs := HR.out.ok q (List.mem_of_getElem? hqi)
      have hreq := request_any q.k q.s q.t q.x wc (by have := hqs.s; omega) (by have := hqs.t; omega)
      unfold rqv at hreq
      obtain ⟨L, hL⟩ : ∃ L, L = (rqOfV q.k q.s q.t q.x).enc := ⟨_, rfl⟩
      rw [← hL] at hreq
      have hLq : L.length = q.rq.enc.length := by rw [hL]; rfl
      have hLe := enc_le hqs
      obtain ⟨M, hM⟩ : ∃ M, M = L.length := ⟨_, rfl⟩
      have hM2 : 2 ≤ M ∧ M ≤ 700 := by omega
      have HMq := Lib.hid (show M = q.rq.enc.length by omega)
      obtain ⟨hM2a, hM2b⟩ := hM2
      have HMl := Lib.hid hM
      obtain ⟨A', c', e', hsl⟩ := sl_of_own HR.out.b
      injection e' with e1 e2 e3
      subst e1; subst e3
      obtain ⟨ab, hab, -⟩ := hsl.rd.2 (by have := encs4_last hq; have := (enc_le hqs).2; omega)
      subst hab
      have hcap := hsl.cap
      have HSl := Lib.hid hsl
      have hNle := encs4_le ws HR.out.ok
      have HNq := Lib.hid (encs4_last hq)
      obtain ⟨N, hN⟩ : ∃ N, N = (encs4 ws).length := ⟨_, rfl⟩
      have HN' := Lib.hid hN
      have hN8 : N ≤ 8400 := by omega
      rw [← hN]
      rw [← hN] at hcap
      clear hL hLq hLe hqs hq hqi hcl hcell hbk hrw hNle hM hN hsl e2
      go_wp2_with fail
      refine hreq.mono ?_
      intro e w3 hE
      obtain ⟨A3, c3', rfl, hs3, b3⟩ := bytes_sl hE
      rw [← HMl.out]
      have HB3 := Lib.hid b3
      have k0 := Int.emod_nonneg a2 (show (M : Int) ≠ 0 by omega)
      have k1 := Int.emod_lt_of_pos a2 (show (0 : Int) < M by omega)
      obtain ⟨k, hk⟩ : ∃ k : Nat, a2 % (M : Int) = k := ⟨(a2 % (M : Int)).toNat, by omega⟩
      have hkM : k < M := by omega
      have HKK := Lib.hid hk
      clear hE hreq b3 hs3 c0 c1 c2 c3 hk k0 k1
      go_wp2_with fail
      refine (within15 a2 M w3 (by omega) (by omega) w2.1 w2.2).mono ?_
      rintro e w3' ⟨rfl, rfl⟩
      rw [HKK.out]
      have hkN : k ≤ N := by have := HMq.out; have := HNq.out; have := HN'.out; omega
      have hkc : (N : Int) - k ≤ bC := by omega
      have hkn : (0 : Int) ≤ (N : Int) - k := by omega
      have hN3 : Sl w3 wc.heap.size (some ab) (N - k) bC ((encs4 ws).take (N - k)) := by
        have h := (HSl.out.below HB3.out).front (k := N - k) (by rw [← HN'.out]; omega)
        exact h
      have HS3 := Lib.hid hN3
      have HBW := Lib.hid (HR.out.bel.trans (HB3.out.mono HR.out.bel.size))
      have hl3 : (N - k : Nat) ≤ bC := by omega
      clear hN3 t50
      go_wp2_with fail
      go_loopw [13, 14] (fun n i wr => ∃ i' : Nat, n = .int .i64 (encs4 (ws.take i')).length ∧ i = .int .i64 i' ∧ i' ≤ ws.length ∧ (i' = ws.length → k = 0) ∧ Hid (Below w3.heap.size w3 wr)) (fun _ i _ => ws.length + 1 - (intOf i).toNat)
      case atStart => exact ⟨0, rfl, rfl, Nat.zero_le _, fun h => absurd h.symm hemp, Lib.hid (Below.refl _ _)⟩
      case round =>
        obtain ⟨i, rfl, rfl, hi, hik, HBr⟩ := hrel
        obtain ⟨P, hP⟩ : ∃ P, P = (encs4 (ws.take i)).length := ⟨_, rfl⟩
        rw [← hP]
        have HP := Lib.hid hP
        by_cases hlt : i < ws.length
        · have t71 : decide (i < ws.length) = true := decide_eq_true hlt
          obtain ⟨r, hr⟩ : ∃ r, ws[i]? = some r := ⟨ws[i], List.getElem?_eq_getElem hlt⟩
          have hok := HR.out.ok
          have hrs := hok r (List.mem_of_getElem? hr)
          have hre := enc_le hrs
          have hkq : k < q.rq.enc.length := by rw [← HMq.out]; exact hkM
          by_cases hcut : i + 1 < ws.length ∨ k = 0
          · obtain ⟨hread, hle⟩ := read_at hr HQ.out hkq hok hcut
            rw [← HN'.out, ← hP] at hread hle
            obtain ⟨U, hU⟩ : ∃ U, U = r.rq.enc.length := ⟨_, rfl⟩
            rw [← hU] at hread hle hre
            have hPc : ¬ bC = P := by omega
            have hsl2 := (HS3.out.below (HBr.out.mono HB3.out.size)).cut (k := P) (by omega)
            rw [if_neg hPc] at hsl2
            have hrd := readRequest_any (w := wr) hsl2 (Nat.le_trans HB3.out.size HBr.out.size)
            have hPle : (P : Int) ≤ ((N - k : Nat) : Int) := by omega
            have hP0 : (0 : Int) ≤ (P : Int) := by omega
            have hrow := row4_at HCL.out hr
            have hiN : i < 12 := by omega
            have HRD := Lib.hid hread
            have HLE := Lib.hid hle
            have HPc := Lib.hid hPc
            have HU2 := Lib.hid hre
            have HRr := Lib.hid hr
            have HLT := Lib.hid hlt
            have HCUT := Lib.hid hcut
            have HROW := Lib.hid hrow
            have HUe := Lib.hid hU
            clear hread hle hre hr hlt hcut hok hrs hkq hrow hsl2 hi hik hP hU
            go_wp2_with fail
            refine hrd.mono ?_
            rintro e w9 ⟨he, b9⟩
            rw [HRD.out] at he
            have he2 : e = .returned (.tuple #[.agg #[.int .i64 r.k, .string r.s, .string r.t, .int .i64 r.x], .int .i64 (U : Int), .int .i64 0]) := by
              rw [he]
              simp only [rqvOf, W4.rq, rqOfV, rqv, ba_bl]
              rfl
            subst he2
            clear he hrd
            obtain ⟨W10, hW10⟩ : ∃ W10, W10 = w9.alloc (.cells #[.int .i64 r.k, .string r.s, .string r.t, .int .i64 r.x] 27) := ⟨_, rfl⟩
            obtain ⟨g9, hg9⟩ : ∃ g9, g9 = w9.heap.size := ⟨_, rfl⟩
            have b10 : Below wr.heap.size wr W10 := by rw [hW10]; exact below_alloc b9 _
            have hq9 : W10.heap[g9]? = some (.cells #[.int .i64 r.k, .string r.s, .string r.t, .int .i64 r.x] 27 (0, 0)) := by rw [hW10, hg9]; exact heap_alloc_new _ _
            have HW10 := Lib.hid hW10
            have HG9 := Lib.hid hg9
            have HB10 := Lib.hid (HBr.out.trans (b10.mono HBr.out.size))
            obtain ⟨d0, d1, d2, d3⟩ := box4 hq9
            have hbw : wc.heap.size ≤ wr.heap.size := Nat.le_trans HB3.out.size HBr.out.size
            have hcw : ∀ p : Addr, p.block < wc.heap.size → W10.cell? p = wc.cell? p := fun p hp => ((b10.mono (Nat.le_refl _)).cell (p := p) (Nat.lt_of_lt_of_le hp hbw)).trans ((HBr.out.cell (p := p) (Nat.lt_of_lt_of_le hp HB3.out.size)).trans (HB3.out.cell (p := p) hp))
            have hblk : (ad.add (i * 4)).block < wc.heap.size := by rw [block_of_add]; exact HAD.out
            have m0 := (hcw (ad.add (i * 4)) hblk).trans HROW.out.1
            have m1 := (hcw ⟨(ad.add (i * 4)).block, (ad.add (i * 4)).off + 1, none⟩ hblk).trans HROW.out.2.1
            have m2 := (hcw ⟨(ad.add (i * 4)).block, (ad.add (i * 4)).off + 2, none⟩ hblk).trans HROW.out.2.2.1
            have m3 := (hcw ⟨(ad.add (i * 4)).block, (ad.add (i * 4)).off + 3, none⟩ hblk).trans HROW.out.2.2.2
            have t85 : ((U : Int) == 0) = false := by have := HU2.out.2; simp; omega
            have hU8 : U ≤ 700 := HU2.out.1
            have i0 : (0 : Int) ≤ (i : Int) := by omega
            have i1 : (i : Int) < (ws.length : Int) := by have := HLT.out; omega
            have hsum : ¬ ((N - k : Nat) : Int) < (P : Int) + (U : Int) := by have := HLE.out; omega
            have hUn : ¬ (U : Int) < 0 := by omega
            clear hW10 hg9 b10 b9 hcw hblk hbw hq9
            go_upto_region 27 with fail
            rw [← HW10.out, ← HG9.out]
            have hwr : IntKind.i64.wrap ((P : Int) + (U : Int)) = (P : Int) + (U : Int) := IntWalk.i64_in _ (by omega)
            go_quiet (fail)
            clear hwr
            go_wp2_with fail
            go_roundw
            case rel =>
              have hlt := HLT.out
              refine ⟨i + 1, ?_, by go_num, by omega, fun h => ?_, Lib.hid (below_drewN HB10.out _)⟩
              · have e1 : ws.take (i + 1) = ws.take i ++ [r] := by rw [List.take_add_one, HRr.out]; rfl
                rw [e1, encs4_append, List.length_append, ← HP.out, encs4_cons, List.length_append, ← HUe.out]
                show _ = Value.int .i64 ((P + (U + 0) : Nat) : Int)
                congr 1
              · rcases HCUT.out with h1 | h1
                · omega
                · exact h1
            case measure =>
              have hlt := HLT.out
              simp [intOf]
              omega
          · have hil : i + 1 = ws.length := by omega
            have hk0 : 0 < k := by omega
            have hread := read_cut hr HQ.out hkq hok hil hk0
            have hPr := read_at hr HQ.out (k := 0) (by omega) hok (.inr rfl)
            rw [← HN'.out, ← hP] at hread hPr
            have hqr : q = r := by
              have h1 := HQ.out
              rw [List.getLast?_eq_getElem?, show ws.length - 1 = i by omega, hr] at h1
              exact (Option.some.inj h1).symm
            have hPk : P < N - k := by
              have h1 := hPr.2
              rw [← hqr] at h1
              have := HMq.out
              omega
            have hPc : ¬ bC = P := by omega
            have hsl2 := (HS3.out.below (HBr.out.mono HB3.out.size)).cut (k := P) (by omega)
            rw [if_neg hPc] at hsl2
            have hrd := readRequest_any (w := wr) hsl2 (Nat.le_trans HB3.out.size HBr.out.size)
            have hPle : (P : Int) ≤ ((N - k : Nat) : Int) := by omega
            have hP0 : (0 : Int) ≤ (P : Int) := by omega
            have hk0' : (0 : Int) < (k : Int) := by omega
            have hi12 : i < 12 := by omega
            have t90 : ((i : Int) == (ws.length : Int) - 1) = true := by simp; omega
            have hwr : wrap64 ((ws.length : Int) - 1) = (ws.length : Int) - 1 := by unfold wrap64; omega
            have HRD := Lib.hid hread
            clear hread hPr hqr hPk hsl2 hok hrs hkq hr hre hik hi hP hPc
            go_wp2_with fail
            refine hrd.mono ?_
            rintro e w9 ⟨he, b9⟩
            rw [HRD.out] at he
            have he2 : e = .returned (.tuple #[.agg #[.int .i64 0, .string ⟨#[]⟩, .string ⟨#[]⟩, .int .i64 0], .int .i64 0, .int .i64 0]) := by
              rw [he]
              rfl
            subst he2
            clear he hrd
            have HB9 := Lib.hid (HBr.out.trans (b9.mono HBr.out.size))
            go_wp2_with fail
            go_ret
            exact ⟨rfl, HBW.out.trans ((below_alloc HB9.out _).mono HBW.out.size)⟩
        · have t71 : decide (i < ws.length) = false := decide_eq_false hlt
          obtain rfl : i = ws.length := by omega
          have hk0 := hik rfl
          have hPN : P = N := by rw [hP, List.take_length, HN'.out]
          subst hk0
          subst hPN
          have t119 : ((P : Int) == ((P - 0 : Nat) : Int)) = true := by simp
          go_wp2_with fail
          go_ret
          exact ⟨rfl, HBW.out.trans (HBr.out.mono HBW.out.size)⟩

/-! ### THE ROW's STEP -/
set_option maxRecDepth 100000 in
theorem lifted (os : Os) (started : os.Started) (H : Type) (enc : TypeId × Value → H) :
    ReturnsInHanded {} Try.checked os 6 .any (Rows.frameRowsSpec.pre6 enc Try.prog Try.f6 Rows.frameRowsRow.domain false) (Rows.frameRowsSpec.post enc Try.prog Try.f6 false true false false) := by
  refine returnsInHanded_of_change_sized (C := Try.checked) own started (by kernel_rfl) Try.func6
    (ChangeSpec.witness6 (enc := enc) (C := Try.checked) false ⟨#[], #[.slice none 0 0, .slice none 0 0, .int .i64 0], []⟩ 8 (by kernel_rfl) (by kernel_rfl) (by kernel_rfl) (by kernel_rfl)) ?_
  intro W base args ds gs before hval0 hW hcnd hsz0 _
  have hsz : (DataW.weightsEach Try.prog (Try.f6.params.toList ++ Rows.frameRowsSpec.plain.varTypes Try.prog) (ds ++ gs)).all (· ≤ reachBytes) = true := hsz0
  have hval : ∀ (j : Nat) t v, Try.f6.params[j]? = some t → args[j]? = some v → Value.okWide Try.prog W .any base t v := hval0
  have hW' := hW
  obtain ⟨p, q, hA0, hV, rfl, hfz, hnd⟩ := hW
  have hA : DataW.TrodAll enc Try.prog W 0 (fun _ => true) true Try.f6.params.toList args.toList ds p := hA0
  rw [Try.params6] at hA hval hsz
  obtain ⟨v0, vs0, d0, ds0, p0, q0, hargs, rfl, rfl, h0, r0⟩ := trodAll_cons hA
  obtain ⟨v1, vs1, d1, ds1, p1, q1, rfl, rfl, rfl, h1, r1⟩ := trodAll_cons r0
  obtain ⟨v2, vs2, d2, ds2, p2, q2, rfl, rfl, rfl, h2, r2⟩ := trodAll_cons r1
  obtain ⟨rfl, rfl, rfl⟩ := trodAll_nil r2
  obtain rfl : args = #[v0, v1, v2] := by cases args; simp_all
  obtain ⟨rfl, rfl⟩ := trodVars_none hV
  obtain ⟨a0, len0, cap0, rfl⟩ := okWide_slice Try.underlying35 (hval 0 35 v0 rfl rfl)
  have k0 := h0
  have lt0 : ∀ x ∈ p0, x.block < W.heap.size := by obtain ⟨m, hm⟩ := k0; exact DataW.trod_lt m _ _ _ hm
  obtain ⟨z0, w0⟩ : ∃ zs, IsRow .i64 W a0 len0 cap0 zs := by
    obtain ⟨fuel, hf⟩ := h0
    rcases open_ints Try.underlying35 Try.underlying3 (by kernel_rfl) hf with ⟨hcs, _⟩ | ⟨x, l, c, zs, hcs, _, hl, hm, hz, _, hcell, hwz⟩
    · simp [Value.cells] at hcs
      obtain ⟨rfl, rfl, rfl⟩ := hcs
      exact ⟨[], .inl ⟨rfl, rfl, rfl, rfl⟩⟩
    · simp [Value.cells] at hcs
      obtain ⟨rfl, rfl, rfl⟩ := hcs
      exact ⟨zs, .inr ⟨_, rfl, hl, hm, by simpa using hz, hcell, hwz⟩⟩
  obtain ⟨a1, len1, cap1, rfl⟩ := okWide_slice Try.underlying22 (hval 1 22 v1 rfl rfl)
  have k1 := h1
  have lt1 : ∀ x ∈ p1, x.block < W.heap.size := by obtain ⟨m, hm⟩ := k1; exact DataW.trod_lt m _ _ _ hm
  obtain ⟨l, e1, y1, x1, w1⟩ := rows_open hsz (j := 1) rfl rfl h1
  subst e1
  obtain ⟨a2, rfl, rfl, rfl, w2⟩ := open_int Try.underlying3 (hval 2 3 v2 rfl rfl) h2
  clear hA0 hval0 hsz0 hsz
  refine (walk a0 len0 cap0 z0 a1 l cap1 a2 W w0 w1 y1 x1 w2).mono fun e W' ⟨he, bel⟩ => ?_
  subst he
  exact ⟨_, rfl, _, _, _, [], _, [], hW', trodAll_mk1 (shut_bool Try.underlying4 _), (trodAll_cons_mk (Below.trod laidOut (by kernel_rfl) (of_decide_eq_true (by kernel_rfl)) k0 bel lt0) (trodAll_cons_mk (Below.trod laidOut (by kernel_rfl) (of_decide_eq_true (by kernel_rfl)) k1 bel lt1) (trodAll_cons_mk (shut_int Try.underlying3 w2) trodAll_mk0))), rfl, bel.frame _, fun h => by cases h⟩

theorem over : Rows.frameRowsRow.holds Try.pinned (OpenSpec.ofChange Rows.frameRowsSpec) :=
  OpenClaim.holds_of_wide 6 Try.f6 rfl rfl rfl rfl rfl rfl rfl ⟨rfl, rfl, rfl, rfl, rfl⟩ rfl rfl rfl rfl rfl (by kernel_rfl) Try.func6 (by kernel_rfl)
    (of_decide_eq_true (by kernel_rfl)) (by unfold Func.isWrapper; first | (rw [if_pos (by decide +kernel)]; kernel_rfl) | (rw [if_neg (by decide +kernel)]; exact ⟨rfl, rfl⟩))
    (fun os started H enc _ => lifted os started H enc)

/-- The statement. -/
theorem proved : Rows.FrameRowsSaid := over
#print axioms proved
end Go.Proofs.Ytifdkkkcecpjoaa.frameRows
