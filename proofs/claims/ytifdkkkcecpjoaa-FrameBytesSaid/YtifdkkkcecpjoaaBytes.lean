/-
  For every number, all numbers, every text and all bytes FrameBytes returns true and leaves what was there as it was. No conditions.
-/
import Derived.Test.YtifdkkkcecpjoaaRows
import Derived.WalkKit
import Derived.ProofKit
import Derived.OpenShut
import Derived.ShutString
import Derived.ChangeOld
import Derived.Below
import Derived.Test.YtifdkkkcecpjoaaFrO
import Derived.Test.YtifdkkkcecpjoaaFrQ
namespace Go.Proofs.Ytifdkkkcecpjoaa.frameBytes
open Go.ChangeShapes Go.WideShapes Go.ChangeAt Go.RowKit
open Go.ChangeMaps (open_string shut_string)
set_option linter.unusedVariables false

theorem own : ownKnob Try.prog.godebug = none := by kernel_rfl
theorem laidOut : laidOutB Try.prog = true := by kernel_rfl

/-- WHAT THE WALK IS TOLD OF A SLICE OF INTEGERS THAT CAME IN: it is nil; or it leads to a row of 'cap' cells, the numbers 'zs' (the first 'len' are its elements, the rest its spare room), each fitting its kind. -/
def IsRow (k : IntKind) (w : World) (a : Option Addr) (len cap : Nat) (zs : List Int) : Prop :=
  (a = none ∧ len = 0 ∧ cap = 0 ∧ zs = []) ∨
  ∃ x, a = some x ∧ len ≤ cap ∧ cap ≤ maxLen ∧ zs.length = cap ∧ (∀ i, i < zs.length → w.cell? (x.add i) = some (.int k (zs.getD i 0))) ∧ ∀ n ∈ zs, (Lit.int k n).wf = true

attribute [local go_sem ↓] Go.wp_at_zero Go.wp_at_succ

theorem enc_len (k : Int) (s t : ByteArray) (v : Int) : (rqOfV k s t v).enc.length = 4 + s.size + (if writesB k = true then 2 + t.size else 0) + (if k = 5 then 8 else 0) := by
  rw [enc_length]
  simp only [Rq.body, Rq.tail, rqOfV, List.length_append, be_length, tx_length, bl_length]
  by_cases h5 : k = 5
  · subst h5
    have hw : writesB 5 = false := by decide
    simp [hw, be_length]; omega
  · by_cases hw : writesB k = true
    · simp [hw, h5, tx_length, bl_length]; omega
    · simp [hw, h5]; omega
theorem kinds_of {k : Int} {s t : ByteArray} {x : Int} {N : Nat} (hN : N = (rqOfV k s t x).enc.length) : (k = 1 ∧ N = 6 + s.size + t.size) ∨ ((k == 1) = false ∧ k = 3 ∧ N = 6 + s.size + t.size) ∨ ((k == 1) = false ∧ (k == 3) = false ∧ k = 5 ∧ N = 12 + s.size) ∨ ((k == 1) = false ∧ (k == 3) = false ∧ (k == 5) = false ∧ N = 4 + s.size) := by
  rw [enc_len] at hN
  by_cases e1 : k = 1
  · subst e1
    have hw : writesB 1 = true := by decide
    rw [hw] at hN
    exact .inl ⟨rfl, by simp at hN; omega⟩
  · by_cases e3 : k = 3
    · subst e3
      have hw : writesB 3 = true := by decide
      rw [hw] at hN
      exact .inr (.inl ⟨rfl, rfl, by simp at hN; omega⟩)
    · have hw : writesB k = false := by simp [writesB, e1, e3]
      rw [hw] at hN
      by_cases e5 : k = 5
      · subst e5
        exact .inr (.inr (.inl ⟨rfl, rfl, rfl, by simp at hN; omega⟩))
      · exact .inr (.inr (.inr ⟨by simpa using e1, by simpa using e3, by simpa using e5, by simp [e5] at hN; omega⟩))
def fsum (l : List Dg) : Nat := (l.map fun d => 4 + d.frag.length).sum
theorem fsum_take {l : List Dg} {j : Nat} {d : Dg} (h : l[j]? = some d) : fsum (l.take (j + 1)) = fsum (l.take j) + (4 + d.frag.length) := by
  unfold fsum
  rw [List.take_add_one, h]; simp
theorem fsum_le : ∀ (l : List Dg), (∀ d ∈ l, GoodD d) → fsum l ≤ 16 * l.length
  | [], _ => by simp [fsum]
  | d :: l, h => by
    have h1 := fsum_le l (fun d hd => h d (by simp [hd]))
    have h2 := (dg_right (h d (by simp)).1).1
    simp only [fsum, List.map_cons, List.sum_cons, List.length_cons] at *
    omega

set_option maxRecDepth 100000 in
set_option maxHeartbeats 3200000 in
theorem walk (a0 : Int) (a1 : Option Addr) (len1 cap1 : Nat) (z1 : List Int) (a2 : ByteArray) (a3 : Option Addr) (len3 cap3 : Nat) (z3 : List Int) (w : World) (w0 : (Lit.int .i64 a0).wf = true) (w1 : IsRow .i64 w a1 len1 cap1 z1) (w2 : a2.size ≤ maxLen) (w3 : IsRow .u8 w a3 len3 cap3 z3) :
    Calls Try.prog 10 #[.int .i64 a0, .slice a1 len1 cap1, .string a2, .slice a3 len3 cap3] w fun e w' => e = .returned (.bool true) ∧ Below w.heap.size w w' := by
  have hk := known_any w
  obtain ⟨hnum, hl1⟩ := nums_of_row w1
  obtain ⟨img, hsi⟩ := sl_of_row w3
  simp [Lit.wf, IntKind.min, IntKind.max, IntKind.signed, IntKind.bits] at w0
  have HLI := Lib.hid hsi.len
  clear w1 w3
  have hg : (600 : Int) < (a2.size : Int) ∨ ((a2.size : Int) ≤ 600 ∧ (4096 : Int) < (len3 : Int)) ∨ ((a2.size : Int) ≤ 600 ∧ (len3 : Int) ≤ 4096) := by omega
  rcases hg with h6 | ⟨h6, h4⟩ | ⟨h6, h4⟩
  · go_enter Try.func10, Try.ntmps10
    go_wp2_with fail
    refine hk.mono ?_
    rintro e v1 ⟨rfl, b1⟩
    go_wp2_with fail
    go_ret
    exact ⟨rfl, b1⟩
  · go_enter Try.func10, Try.ntmps10
    go_wp2_with fail
    refine hk.mono ?_
    rintro e v1 ⟨rfl, b1⟩
    go_wp2_with fail
    go_ret
    exact ⟨rfl, b1⟩
  · go_enter Try.func10, Try.ntmps10
    go_wp2_with fail
    refine hk.mono ?_
    rintro e v1 ⟨rfl, b1⟩
    go_wp2_with fail
    refine (within15 a0 1073741824 _ (by omega) (by omega) w0.1 w0.2).mono ?_
    rintro e v1' ⟨rfl, rfl⟩
    have n0 := Int.emod_nonneg a0 (show (1073741824 : Int) ≠ 0 by omega)
    have n1 := Int.emod_lt_of_pos a0 (show (0 : Int) < 1073741824 by omega)
    go_wp2_with fail
    refine (make_nil n0 (by omega)).mono ?_
    rintro e v2 ⟨k, s, t, x, rfl, hr, hs12, ht6, b2⟩
    unfold rqv
    have b02 : Below w.heap.size w v2 := b1.trans (b2.mono b1.size)
    have HR := Lib.hid hr
    clear b1 b2 hr hk n0 n1
    obtain ⟨N, hN⟩ : ∃ N, N = (rqOfV k s t x).enc.length := ⟨_, rfl⟩
    have hkind := kinds_of hN
    have HN := Lib.hid hN
    clear hN
    have hv2 := b02.size
    obtain ⟨W3, hW3⟩ : ∃ W3, W3 = v2.alloc (.cells #[.int .i64 k, .string s, .string t, .int .i64 x] 27) := ⟨_, rfl⟩
    have b03 : Below w.heap.size w W3 := by rw [hW3]; exact b02.alloc hv2 _
    have hq3 : W3.heap[v2.heap.size]? = some (.cells #[.int .i64 k, .string s, .string t, .int .i64 x] 27 (0, 0)) := by rw [hW3]; exact heap_alloc_new _ _
    have hz3 : v2.heap.size < W3.heap.size := by rw [hW3]; simp
    have HW3 := Lib.hid hW3
    have HQ3 := Lib.hid hq3
    clear hW3 hq3 b02
    have main : ∀ (K : Nat), K = N → True := fun _ _ => trivial
    clear main
    rcases hkind with ⟨rfl, hNv⟩ | ⟨c1, rfl, hNv⟩ | ⟨c1, c3, rfl, hNv⟩ | ⟨c1, c3, c5, hNv⟩
    all_goals
      have HNV := Lib.hid hNv
      clear hNv
      go_wp2_with fail
      rw [← HW3.out]
      refine (resp_any (w := W3) (hnum.below (b03.mono (Nat.le_refl _))) hl1 a2 a3 len3 cap3).mono ?_
      rintro e v4 ⟨y, ds, dA, dC, rfl, y0, y1, hdl, hgood, hown, b4⟩
      unfold rsv
      have b04 : Below w.heap.size w v4 := b03.trans (b4.mono b03.size)
      have HQ4 := Lib.hid ((b4.block _ hz3).trans HQ3.out)
      have hz4 : v2.heap.size < v4.heap.size := Nat.lt_of_lt_of_le hz3 b4.size
      obtain ⟨A', c', e', hsd⟩ := Sd.of_own hown rfl
      injection e' with e1 e2 e3
      subst e1; subst e3
      have HG := Lib.hid hgood
      clear b4 b03 HQ3 hz3 HW3 hgood hown e2
      obtain ⟨M, hM⟩ : ∃ M, M = ds.length := ⟨_, rfl⟩
      have HM := Lib.hid hM
      rw [← hM] at hsd hdl ⊢
      clear hM
      go_wp2_with fail
      obtain ⟨W5, hW5⟩ : ∃ W5, W5 = v4.alloc (.cells #[.int .i64 y, .string a2, .slice a3 len3 cap3, .slice dA M dC] 42) := ⟨_, rfl⟩
      have b5 : Below v4.heap.size v4 W5 := by rw [hW5]; exact (Below.refl _ _).alloc (Nat.le_refl _) _
      have b05 : Below w.heap.size w W5 := b04.trans (b5.mono b04.size)
      have hq5 : W5.heap[v4.heap.size]? = some (.cells #[.int .i64 y, .string a2, .slice a3 len3 cap3, .slice dA M dC] 42 (0, 0)) := by rw [hW5]; exact heap_alloc_new _ _
      have hz5 : v4.heap.size < W5.heap.size := by rw [hW5]; simp
      have HQ5 := Lib.hid (And.intro hq5 ((b5.block _ hz4).trans HQ4.out))
      have hsd5 := hsd.below b5
      have hsi5 := hsi.below b05
      rw [← hW5]
      obtain ⟨k0, k1, k2, k3⟩ := box4 HQ5.out.1
      obtain ⟨r0, r1, r2, r3⟩ := box4 HQ5.out.2
      have hs0 := b05.size
      have hw4 := b04.size
      clear hW5 hq5 b5 b04 HQ4 hsd
      go_loop [12, 13] (fun n i => ∃ j : Nat, j ≤ M ∧ i = .int .i64 j ∧ n = .int .i64 (10 + (a2.size : Int) + (len3 : Int) + (fsum (ds.take j) : Nat))) (fun _ i => M - (intOf i).toNat)
      case atStart => exact ⟨0, Nat.zero_le _, rfl, by simp [fsum]⟩
      case round =>
        obtain ⟨j, hj, rfl, rfl⟩ := hrel
        have hfb : fsum (ds.take j) ≤ 400 := by
          have h1 := fsum_le (ds.take j) (fun d hd => HG.out d (List.mem_of_mem_take hd))
          have h2 : (ds.take j).length ≤ 20 := by rw [List.length_take]; omega
          omega
        by_cases hlt : j < M
        · obtain ⟨g, d, rfl, -, hdj, d0, -, -⟩ := hsd5.at_ hlt
          have hfr : (ba d.frag).size ≤ 12 := by
            have := (dg_right (HG.out d (List.mem_of_getElem? hdj)).1).1
            rw [ba_size]; omega
          have HS : Hid (fsum (ds.take (j + 1)) = fsum (ds.take j) + (4 + (ba d.frag).size)) := by show _ = _; rw [fsum_take hdj, ba_size]
          clear hdj
          go_wp2_with fail
          go_round
          case rel => exact ⟨j + 1, by omega, by go_num, by rw [HS.out]; congr 1; omega⟩
          case measure => simp [intOf]; omega
        · obtain rfl : j = M := by omega
          have HF : Hid ((rqOfV _ s t x).enc.length = N) := HN.out.symm
          go_wp2_with fail
          have htz : t.size ≤ 600 := ht6
          refine (request_any _ s t x W5 (by omega) (by omega)).mono ?_
          intro e v6 hE
          obtain ⟨A6, c6, rfl, hs6, b6⟩ := bytes_sl hE
          rw [HF.out]
          have b06 : Below w.heap.size w v6 := b05.trans (b6.mono hs0)
          have HQ6 := Lib.hid ((b6.block _ hz5).trans HQ5.out.1)
          have hz6 := b6.size
          have hsd6 := hsd5.below (b6.mono (Nat.le_of_lt hz5))
          have hsi6 := hsi5.below (b6.mono hs0)
          clear k0 k1 k2 k3
          obtain ⟨k0, k1, k2, k3⟩ := box4 HQ6.out
          have hNl : (N : Int) ≤ 1000 := by have := HNV.out; omega
          have hNle := Nat.le_of_eq HNV.out
          have hNge := Nat.le_of_eq HNV.out.symm
          have hsi7 : Sl v6 v4.heap.size a3 len3 cap3 img := ⟨hsi6.len, hsi6.cap, hsi6.max, hsi6.rd.more hw4⟩
          obtain ⟨R, hR⟩ : ∃ R, R = (Rs.enc ⟨y, bl a2, img, ds⟩).length := ⟨_, rfl⟩
          have hRv : R = 10 + a2.size + len3 + fsum (ds.take j) := by
            rw [hR, rsenc_length, encs_length, HLI.out, List.take_of_length_le (by have := HM.out; omega)]
            simp only [bl_length]; rfl
          have hRle := Nat.le_of_eq hRv
          have hRge := Nat.le_of_eq hRv.symm
          have HRR := Lib.hid hR
          clear hR hRv
          go_wp2_with fail
          refine (response_any y a2 hsi7 hsd6 (by omega) (by omega) (by have := HLI.out; omega) (by have := HM.out; omega) (fun d hd => by have := (dg_right (HG.out d hd).1).1; omega)).mono ?_
          intro e v7 hE7
          obtain ⟨A7, c7, rfl, hs7, b7⟩ := bytes_sl hE7
          rw [← HRR.out]
          have b07 : Below w.heap.size w v7 := b06.trans (b7.mono b06.size)
          clear hE7 hs7 b7 b06 hs6 hE hsd6 hsi6 hsi7 hsd5 hsi5 HQ6 HQ5 k0 k1 k2 k3 r0 r1 r2 r3
          go_wp2_with fail
          go_ret
          exact ⟨ret_bool (by simp; omega), b07⟩

/-! ### THE ROW's STEP: WRITTEN OUT: LEAVE IT -/
set_option maxRecDepth 100000 in
theorem lifted (os : Os) (started : os.Started) (H : Type) (enc : TypeId × Value → H) :
    ReturnsInHanded {} Try.checked os 10 .any (Rows.frameBytesSpec.pre6 enc Try.prog Try.f10 Rows.frameBytesRow.domain false) (Rows.frameBytesSpec.post enc Try.prog Try.f10 false true false false) := by
  refine returnsInHanded_of_change (C := Try.checked) own started (by kernel_rfl) Try.func10
    (ChangeSpec.witness6 (enc := enc) (C := Try.checked) false ⟨#[], #[.int .i64 0, .slice none 0 0, .string ByteArray.empty, .slice none 0 0], []⟩ 8 (by kernel_rfl) (by kernel_rfl) (by kernel_rfl) (by kernel_rfl)) ?_
  intro W base args ds gs before hval0 hW hcnd _
  have hval : ∀ (j : Nat) t v, Try.f10.params[j]? = some t → args[j]? = some v → Value.okWide Try.prog W .any base t v := hval0
  have hW' := hW
  obtain ⟨p, q, hA0, hV, rfl, hfz, hnd⟩ := hW
  have hA : DataW.TrodAll enc Try.prog W 0 (fun _ => true) true Try.f10.params.toList args.toList ds p := hA0
  rw [Try.params10] at hA hval
  obtain ⟨v0, vs0, d0, ds0, p0, q0, hargs, rfl, rfl, h0, r0⟩ := trodAll_cons hA
  obtain ⟨v1, vs1, d1, ds1, p1, q1, rfl, rfl, rfl, h1, r1⟩ := trodAll_cons r0
  obtain ⟨v2, vs2, d2, ds2, p2, q2, rfl, rfl, rfl, h2, r2⟩ := trodAll_cons r1
  obtain ⟨v3, vs3, d3, ds3, p3, q3, rfl, rfl, rfl, h3, r3⟩ := trodAll_cons r2
  obtain ⟨rfl, rfl, rfl⟩ := trodAll_nil r3
  obtain rfl : args = #[v0, v1, v2, v3] := by cases args; simp_all
  obtain ⟨rfl, rfl⟩ := trodVars_none hV
  obtain ⟨a0, rfl, rfl, rfl, w0⟩ := open_int Try.underlying3 (hval 0 3 v0 rfl rfl) h0
  obtain ⟨a1, len1, cap1, rfl⟩ := okWide_slice Try.underlying35 (hval 1 35 v1 rfl rfl)
  have k1 := h1
  have lt1 : ∀ x ∈ p1, x.block < W.heap.size := by obtain ⟨m, hm⟩ := k1; exact DataW.trod_lt m _ _ _ hm
  obtain ⟨z1, w1⟩ : ∃ zs, IsRow .i64 W a1 len1 cap1 zs := by
    obtain ⟨fuel, hf⟩ := h1
    rcases open_ints Try.underlying35 Try.underlying3 (by kernel_rfl) hf with ⟨hcs, _⟩ | ⟨x, l, c, zs, hcs, _, hl, hm, hz, _, hcell, hwz⟩
    · simp [Value.cells] at hcs
      obtain ⟨rfl, rfl, rfl⟩ := hcs
      exact ⟨[], .inl ⟨rfl, rfl, rfl, rfl⟩⟩
    · simp [Value.cells] at hcs
      obtain ⟨rfl, rfl, rfl⟩ := hcs
      exact ⟨zs, .inr ⟨_, rfl, hl, hm, by simpa using hz, hcell, hwz⟩⟩
  obtain ⟨a2, rfl, rfl, rfl, w2⟩ := open_string Try.underlying9 (hval 2 9 v2 rfl rfl) h2
  obtain ⟨a3, len3, cap3, rfl⟩ := okWide_slice Try.underlying23 (hval 3 23 v3 rfl rfl)
  have k3 := h3
  have lt3 : ∀ x ∈ p3, x.block < W.heap.size := by obtain ⟨m, hm⟩ := k3; exact DataW.trod_lt m _ _ _ hm
  obtain ⟨z3, w3⟩ : ∃ zs, IsRow .u8 W a3 len3 cap3 zs := by
    obtain ⟨fuel, hf⟩ := h3
    rcases open_ints Try.underlying23 Try.underlying5 (by kernel_rfl) hf with ⟨hcs, _⟩ | ⟨x, l, c, zs, hcs, _, hl, hm, hz, _, hcell, hwz⟩
    · simp [Value.cells] at hcs
      obtain ⟨rfl, rfl, rfl⟩ := hcs
      exact ⟨[], .inl ⟨rfl, rfl, rfl, rfl⟩⟩
    · simp [Value.cells] at hcs
      obtain ⟨rfl, rfl, rfl⟩ := hcs
      exact ⟨zs, .inr ⟨_, rfl, hl, hm, by simpa using hz, hcell, hwz⟩⟩
  clear hA0 hval0
  refine (walk a0 a1 len1 cap1 z1 a2 a3 len3 cap3 z3 W w0 w1 w2 w3).mono fun e W' ⟨he, bel⟩ => ?_
  subst he
  exact ⟨_, rfl, _, _, _, [], _, [], hW', trodAll_mk1 (shut_bool Try.underlying4 _), (trodAll_cons_mk (shut_int Try.underlying3 w0) (trodAll_cons_mk (Below.trod laidOut (by kernel_rfl) (of_decide_eq_true (by kernel_rfl)) k1 bel lt1) (trodAll_cons_mk (shut_string Try.underlying9 w2) (trodAll_cons_mk (Below.trod laidOut (by kernel_rfl) (of_decide_eq_true (by kernel_rfl)) k3 bel lt3) trodAll_mk0)))), rfl, bel.frame _, fun h => by cases h⟩

theorem over : Rows.frameBytesRow.holds Try.pinned (OpenSpec.ofChange Rows.frameBytesSpec) :=
  OpenClaim.holds_of_wide 10 Try.f10 rfl rfl rfl rfl rfl rfl rfl ⟨rfl, rfl, rfl, rfl, rfl⟩ rfl rfl rfl rfl rfl (by kernel_rfl) Try.func10 (by kernel_rfl)
    (of_decide_eq_true (by kernel_rfl)) (by unfold Func.isWrapper; first | (rw [if_pos (by decide +kernel)]; kernel_rfl) | (rw [if_neg (by decide +kernel)]; exact ⟨rfl, rfl⟩))
    (fun os started H enc _ => lifted os started H enc)

/-- ████ THE STATEMENT ████ -/
theorem proved : Rows.FrameBytesSaid := over
#print axioms proved
end Go.Proofs.Ytifdkkkcecpjoaa.frameBytes
