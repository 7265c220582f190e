/-
  For every two numbers and every text FrameWhole returns true and leaves what was there as it was. No conditions.
-/
import Derived.Test.YtifdkkkcecpjoaaRows
import Derived.WalkKit
import Derived.ProofKit
import Derived.OpenShut
import Derived.ShutString
import Derived.ChangeOld
import Derived.Below
import Derived.Test.YtifdkkkcecpjoaaFrN
namespace Go.Proofs.Ytifdkkkcecpjoaa.frameWhole
open Go.ChangeShapes Go.WideShapes Go.ChangeAt Go.RowKit
open Go.ChangeMaps (open_string shut_string)
set_option linter.unusedVariables false

theorem own : ownKnob Try.prog.godebug = none := by kernel_rfl
theorem laidOut : laidOutB Try.prog = true := by kernel_rfl

/-- WHAT THE WALK IS TOLD OF A SLICE OF INTEGERS THAT CAME IN: it is nil; or it leads to a row of 'cap' cells, the numbers 'zs' (the first 'len' are its elements, the rest its spare room), each fitting its kind. -/
def IsRow (k : IntKind) (w : World) (a : Option Addr) (len cap : Nat) (zs : List Int) : Prop :=
  (a = none ∧ len = 0 ∧ cap = 0 ∧ zs = []) ∨
  ∃ x, a = some x ∧ len ≤ cap ∧ cap ≤ maxLen ∧ zs.length = cap ∧ (∀ i, i < zs.length → w.cell? (x.add i) = some (.int k (zs.getD i 0))) ∧ ∀ n ∈ zs, (Lit.int k n).wf = true

attribute [local go_sem ↓] Go.wp_at_zero Go.wp_at_succ

theorem put_right {s t : ByteArray} (hw : isWord (bl s) = true) (ht : t.size ≤ 600) : (rqOfV 1 s t 0).right = true := by
  unfold Rq.right rqOfV
  rw [if_neg (by simp), if_neg (by simp)]
  simp [hw, bl_length, ht, writesB]
theorem enc_min (r : Rq) : 4 ≤ r.enc.length := by
  rw [enc_length]; simp [Rq.body, be_length, tx_length]; omega

theorem sl_front {w : World} {B n c k : Nat} {A : Option Addr} {l : List UInt8} (h : Sl w B A n c l) (hk : k ≤ n) : Sl w B A k c (l.take k) :=
  ⟨(h.head hk).len, Nat.le_trans hk h.cap, h.max, (h.head hk).rd⟩

set_option maxRecDepth 100000 in
set_option maxHeartbeats 3200000 in
theorem walk (a0 : Int) (a1 : ByteArray) (a2 : Int) (w : World) (w0 : (Lit.int .i64 a0).wf = true) (w1 : a1.size ≤ maxLen) (w2 : (Lit.int .i64 a2).wf = true) :
    Calls Try.prog 9 #[.int .i64 a0, .string a1, .int .i64 a2] w fun e w' => e = .returned (.bool true) ∧ Below w.heap.size w w' := by
  have hk := known_any w
  simp [Lit.wf, IntKind.min, IntKind.max, IntKind.signed, IntKind.bits] at w0 w2
  by_cases h600 : 600 < a1.size
  · have h6' : (600 : Int) < (a1.size : Int) := by omega
    go_enter Try.func9, Try.ntmps9
    go_wp2_with fail
    refine hk.mono ?_
    rintro e v1 ⟨rfl, b1⟩
    go_wp2_with fail
    go_ret
    exact ⟨rfl, b1⟩
  · have h6' : (a1.size : Int) ≤ 600 := by omega
    go_enter Try.func9, Try.ntmps9
    go_wp2_with fail
    refine hk.mono ?_
    rintro e v1 ⟨rfl, b1⟩
    go_wp2_with fail
    refine (name_any a0 v1 w0.1 w0.2).mono ?_
    rintro e v2 ⟨s, rfl, hw, hsz, b2⟩
    have b02 : Below w.heap.size w v2 := b1.trans (b2.mono b1.size)
    have HR := Lib.hid (put_right hw (show a1.size ≤ 600 by omega))
    have hv2 := b02.size
    clear b1 b2 hw hk
    go_wp2_with fail
    obtain ⟨W3, hW3⟩ : ∃ W3, W3 = v2.alloc (.cells #[.int .i64 1, .string s, .string a1, .int .i64 0] 27) := ⟨_, rfl⟩
    have b03 : Below w.heap.size w W3 := by rw [hW3]; exact b02.alloc hv2 _
    have hq3 : W3.heap[v2.heap.size]? = some (.cells #[.int .i64 1, .string s, .string a1, .int .i64 0] 27 (0, 0)) := by rw [hW3]; exact heap_alloc_new _ _
    have hz3 : v2.heap.size < W3.heap.size := by rw [hW3]; simp
    rw [← hW3]
    have HQ3 := Lib.hid hq3
    clear hW3 hq3 b02
    refine (request_any 1 s a1 0 W3 (by omega) (by omega)).mono ?_
    intro e v4 hE
    obtain ⟨A4, c4, rfl, hs4, b4⟩ := bytes_sl hE
    have b04 : Below w.heap.size w v4 := b03.trans (b4.mono b03.size)
    have HQ4 := Lib.hid ((b4.block _ hz3).trans HQ3.out)
    have hz4 : v2.heap.size < v4.heap.size := Nat.lt_of_lt_of_le hz3 b4.size
    have hmin := enc_min (rqOfV 1 s a1 0)
    have hmax : (rqOfV 1 s a1 0).enc.length ≤ 618 := by have := body_length HR.out; rw [enc_length]; omega
    generalize hL : (rqOfV 1 s a1 0).enc = L at *
    have HL := Lib.hid hL
    obtain ⟨N, hN⟩ : ∃ N, N = L.length := ⟨_, rfl⟩
    rw [← hN] at hs4 hmin hmax ⊢
    have HN := Lib.hid hN
    have e0 := Int.emod_nonneg a2 (show (N : Int) ≠ 0 by omega)
    have e1 := Int.emod_lt_of_pos a2 (show (0 : Int) < (N : Int) by omega)
    obtain ⟨k, hkk⟩ : ∃ k : Nat, a2 % (N : Int) = (k : Int) := ⟨(a2 % (N : Int)).toNat, by omega⟩
    have HK := Lib.hid hkk
    have hkN : k < N := by omega
    have hcp := hs4.cap
    have hmx := hs4.max
    unfold maxLen at hmx
    clear hE b4 b03 HQ3 hz3 hL hN hkk e0 e1
    go_wp2_with fail
    refine (within15 a2 (N : Int) _ (by omega) (by omega) w2.1 w2.2).mono ?_
    rintro e v5 ⟨rfl, rfl⟩
    rw [HK.out]
    go_wp2_with fail
    have HC : Hid (rqRead (L.take k) = (noRq, 0, 0)) := by
      show _ = _
      rw [← HL.out]; exact rqRead_cut HR.out (by rw [HL.out, ← HN.out]; exact hkN)
    refine (readRequest_any (sl_front hs4 (k := k) (by omega)) (Nat.le_refl _)).mono ?_
    rintro e v6 ⟨he, b6⟩
    rw [HC.out] at he
    obtain rfl : e = .returned (.tuple #[.agg #[.int .i64 0, .string ⟨#[]⟩, .string ⟨#[]⟩, .int .i64 0], .int .i64 0, .int .i64 0]) := he
    have b06 : Below w.heap.size w v6 := b04.trans (b6.mono b04.size)
    have HQ6 := Lib.hid ((b6.block _ hz4).trans HQ4.out)
    have hz46 := b6.size
    have hz6 : v2.heap.size < v6.heap.size := by omega
    have hs6 := hs4.below b6
    clear b6 b04 HQ4 hs4 HC
    go_wp2_with fail
    obtain ⟨W7, hW7⟩ : ∃ W7, W7 = v6.alloc (.cells #[.int .i64 0, .string ⟨#[]⟩, .string ⟨#[]⟩, .int .i64 0] 27) := ⟨_, rfl⟩
    have b07 : Below w.heap.size w W7 := by rw [hW7]; exact b06.alloc b06.size _
    have hs7 : Sl W7 v4.heap.size A4 N c4 L := by rw [hW7]; exact hs6.below ((Below.refl _ _).alloc hz46 _)
    have hq7 : W7.heap[v6.heap.size]? = some (.cells #[.int .i64 0, .string ⟨#[]⟩, .string ⟨#[]⟩, .int .i64 0] 27 (0, 0)) := by rw [hW7]; exact heap_alloc_new _ _
    have hq7' : W7.heap[v2.heap.size]? = some (.cells #[.int .i64 1, .string s, .string a1, .int .i64 0] 27 (0, 0)) := by rw [hW7]; exact (Below.heap_alloc _ _ _ hz6).trans HQ6.out
    have hz7 : v6.heap.size < W7.heap.size := by rw [hW7]; simp
    rw [← hW7]
    have HQ7 := Lib.hid (And.intro hq7 hq7')
    clear hW7 hq7 hq7' b06 HQ6 hs6
    have HD : Hid (rqRead L = (rqOfV 1 s a1 0, N, 0)) := by
      show _ = _
      have := rqRead_enc HR.out []
      rw [List.append_nil, HL.out, ← HN.out] at this
      exact this
    refine (readRequest_any hs7 (by omega)).mono ?_
    rintro e v8 ⟨he, b8⟩
    rw [HD.out] at he
    have he2 : e = .returned (.tuple #[.agg #[.int .i64 1, .string s, .string a1, .int .i64 0], .int .i64 (N : Int), .int .i64 0]) := by
      rw [he]; simp only [rqvOf, rqOfV, ba_bl]; rfl
    subst he2
    clear he
    have b08 : Below w.heap.size w v8 := b07.trans (b8.mono b07.size)
    have HQ8 := Lib.hid (And.intro ((b8.block _ hz7).trans HQ7.out.1) ((b8.block _ (by omega)).trans HQ7.out.2))
    have hz8 : v6.heap.size < v8.heap.size := Nat.lt_of_lt_of_le hz7 b8.size
    have hz28 : v2.heap.size < v8.heap.size := by omega
    obtain ⟨q0, q1, q2, q3⟩ := box4 HQ8.out.1
    obtain ⟨d0, d1, d2, d3⟩ := box4 HQ8.out.2
    clear b8 b07 hs7 HQ7 HD
    go_wp2_with fail
    go_ret
    exact ⟨rfl, b08.alloc b08.size _⟩

/-! ### THE ROW's STEP: WRITTEN OUT: LEAVE IT -/
set_option maxRecDepth 100000 in
theorem lifted (os : Os) (started : os.Started) (H : Type) (enc : TypeId × Value → H) :
    ReturnsInHanded {} Try.checked os 9 .any (Rows.frameWholeSpec.pre6 enc Try.prog Try.f9 Rows.frameWholeRow.domain false) (Rows.frameWholeSpec.post enc Try.prog Try.f9 false true false false) := by
  refine returnsInHanded_of_change (C := Try.checked) own started (by kernel_rfl) Try.func9
    (ChangeSpec.witness6 (enc := enc) (C := Try.checked) false ⟨#[], #[.int .i64 0, .string ByteArray.empty, .int .i64 0], []⟩ 8 (by kernel_rfl) (by kernel_rfl) (by kernel_rfl) (by kernel_rfl)) ?_
  intro W base args ds gs before hval0 hW hcnd _
  have hval : ∀ (j : Nat) t v, Try.f9.params[j]? = some t → args[j]? = some v → Value.okWide Try.prog W .any base t v := hval0
  have hW' := hW
  obtain ⟨p, q, hA0, hV, rfl, hfz, hnd⟩ := hW
  have hA : DataW.TrodAll enc Try.prog W 0 (fun _ => true) true Try.f9.params.toList args.toList ds p := hA0
  rw [Try.params9] at hA hval
  obtain ⟨v0, vs0, d0, ds0, p0, q0, hargs, rfl, rfl, h0, r0⟩ := trodAll_cons hA
  obtain ⟨v1, vs1, d1, ds1, p1, q1, rfl, rfl, rfl, h1, r1⟩ := trodAll_cons r0
  obtain ⟨v2, vs2, d2, ds2, p2, q2, rfl, rfl, rfl, h2, r2⟩ := trodAll_cons r1
  obtain ⟨rfl, rfl, rfl⟩ := trodAll_nil r2
  obtain rfl : args = #[v0, v1, v2] := by cases args; simp_all
  obtain ⟨rfl, rfl⟩ := trodVars_none hV
  obtain ⟨a0, rfl, rfl, rfl, w0⟩ := open_int Try.underlying3 (hval 0 3 v0 rfl rfl) h0
  obtain ⟨a1, rfl, rfl, rfl, w1⟩ := open_string Try.underlying9 (hval 1 9 v1 rfl rfl) h1
  obtain ⟨a2, rfl, rfl, rfl, w2⟩ := open_int Try.underlying3 (hval 2 3 v2 rfl rfl) h2
  clear hA0 hval0
  refine (walk a0 a1 a2 W w0 w1 w2).mono fun e W' ⟨he, bel⟩ => ?_
  subst he
  exact ⟨_, rfl, _, _, _, [], _, [], hW', trodAll_mk1 (shut_bool Try.underlying4 _), (trodAll_cons_mk (shut_int Try.underlying3 w0) (trodAll_cons_mk (shut_string Try.underlying9 w1) (trodAll_cons_mk (shut_int Try.underlying3 w2) trodAll_mk0))), rfl, bel.frame _, fun h => by cases h⟩

theorem over : Rows.frameWholeRow.holds Try.pinned (OpenSpec.ofChange Rows.frameWholeSpec) :=
  OpenClaim.holds_of_wide 9 Try.f9 rfl rfl rfl rfl rfl rfl rfl ⟨rfl, rfl, rfl, rfl, rfl⟩ rfl rfl rfl rfl rfl (by kernel_rfl) Try.func9 (by kernel_rfl)
    (of_decide_eq_true (by kernel_rfl)) (by unfold Func.isWrapper; first | (rw [if_pos (by decide +kernel)]; kernel_rfl) | (rw [if_neg (by decide +kernel)]; exact ⟨rfl, rfl⟩))
    (fun os started H enc _ => lifted os started H enc)

/-- ████ THE STATEMENT ████ -/
theorem proved : Rows.FrameWholeSaid := over
#print axioms proved
end Go.Proofs.Ytifdkkkcecpjoaa.frameWhole
