/-
  For every number and all bytes FrameLarge returns true and leaves what was there as it was. No conditions.
-/
import Derived.Test.YtifdkkkcecpjoaaRows
import Derived.WalkKit
import Derived.ProofKit
import Derived.OpenShut
import Derived.ShutString
import Derived.ChangeOld
import Derived.Below
import Derived.Test.YtifdkkkcecpjoaaFrN
namespace Go.Proofs.Ytifdkkkcecpjoaa.frameLarge
open Go.ChangeShapes Go.WideShapes Go.ChangeAt Go.RowKit
open Go.ChangeMaps (open_string shut_string)
set_option linter.unusedVariables false

theorem own : ownKnob Try.prog.godebug = none := by kernel_rfl
theorem laidOut : laidOutB Try.prog = true := by kernel_rfl

/-- WHAT THE WALK IS TOLD OF A SLICE OF INTEGERS THAT CAME IN: it is nil; or it leads to a row of 'cap' cells, the numbers 'zs' (the first 'len' are its elements, the rest its spare room), each fitting its kind. -/
def IsRow (k : IntKind) (w : World) (a : Option Addr) (len cap : Nat) (zs : List Int) : Prop :=
  (a = none ∧ len = 0 ∧ cap = 0 ∧ zs = []) ∨
  ∃ x, a = some x ∧ len ≤ cap ∧ cap ≤ maxLen ∧ zs.length = cap ∧ (∀ i, i < zs.length → w.cell? (x.add i) = some (.int k (zs.getD i 0))) ∧ ∀ n ∈ zs, (Lit.int k n).wf = true

attribute [local go_sem ↓] Go.wp_at_zero Go.wp_at_succ

theorem large_read (k : Nat) (m : List UInt8) (h0 : 995 ≤ k) (h1 : k ≤ 1006) (hm : m.length ≤ 60) : rqRead (be 2 (k : Int) ++ m) = (noRq, 0, if 1000 < k then 8 else 0) := by
  have hn : (St.mk (be 2 (k : Int) ++ m) false).num 2 = k := by
    have := num_be (v := (k : Int)) (n := 2) (m := m) (b := false) (by omega) (by omega)
    omega
  have hl : (be 2 (k : Int) ++ m).length = 2 + m.length := by rw [List.length_append, be_length]
  unfold rqRead
  rw [hn, hl, if_neg (by omega)]
  by_cases h : 1000 < k
  · rw [if_pos h, if_pos h]
  · rw [if_neg h, if_neg h, if_pos (by omega)]
theorem be2 (k : Nat) : be 2 (k : Int) = [byteOf ((k : Int) / 256), byteOf (k : Int)] := by simp [be]

set_option maxRecDepth 100000 in
set_option maxHeartbeats 3200000 in
theorem walk (a0 : Int) (a1 : Option Addr) (len1 cap1 : Nat) (z1 : List Int) (w : World) (w0 : (Lit.int .i64 a0).wf = true) (w1 : IsRow .u8 w a1 len1 cap1 z1) :
    Calls Try.prog 7 #[.int .i64 a0, .slice a1 len1 cap1] w fun e w' => e = .returned (.bool true) ∧ Below w.heap.size w w' := by
  have hk := known_any w
  obtain ⟨l1, hs⟩ := sl_of_row w1
  have hln := hs.len
  have HLN := Lib.hid hln
  simp [Lit.wf, IntKind.min, IntKind.max, IntKind.signed, IntKind.bits] at w0
  obtain ⟨i5, hi, hz, hy, hx⟩ := info_parts info5
  clear hln w1
  by_cases h60 : 60 < len1
  · go_enter Try.func7, Try.ntmps7
    go_wp2_with fail
    refine hk.mono ?_
    rintro e v1 ⟨rfl, b1⟩
    go_wp2_with fail
    go_ret
    exact ⟨rfl, b1⟩
  · have h60' : (len1 : Int) ≤ 60 := by omega
    have e0 := Int.emod_nonneg a0 (show (12 : Int) ≠ 0 by omega)
    have e1 := Int.emod_lt_of_pos a0 (show (0 : Int) < 12 by omega)
    obtain ⟨q, hq⟩ : ∃ q : Nat, a0 % 12 = (q : Int) := ⟨(a0 % 12).toNat, by omega⟩
    have HQ := Lib.hid hq
    have hq12 : q < 12 := by omega
    clear hq e0 e1
    go_enter Try.func7, Try.ntmps7
    go_wp2_with fail
    refine hk.mono ?_
    rintro e v1 ⟨rfl, b1⟩
    go_wp2_with fail
    refine (within15 a0 12 _ (by omega) (by omega) w0.1 w0.2).mono ?_
    rintro e v2 ⟨rfl, rfl⟩
    rw [HQ.out]
    have eb1 : IntKind.u8.wrap ((995 + (q : Int)) / 256) = ((byteOf (((995 + q : Nat) : Int) / 256)).toNat : Int) := by rw [byteOf_toNat]; rfl
    have eb2 : IntKind.u8.wrap (995 + (q : Int)) = ((byteOf ((995 + q : Nat) : Int)).toNat : Int) := by rw [byteOf_toNat]; rfl
    obtain ⟨c0, hc0⟩ : ∃ c0, c0 = byteOf (((995 + q : Nat) : Int) / 256) := ⟨_, rfl⟩
    obtain ⟨c1, hc1⟩ : ∃ c1, c1 = byteOf (((995 + q : Nat) : Int)) := ⟨_, rfl⟩
    rw [← hc0] at eb1
    rw [← hc1] at eb2
    have HBE : Hid (be 2 (((995 + q : Nat) : Int)) = [c0, c1]) := by show _ = _; rw [hc0, hc1, be2]
    clear hc0 hc1
    have hown : (v1.alloc (.cells #[.int .u8 (c0.toNat : Int), .int .u8 (c1.toNat : Int)] 5)).ownsRow v1.heap.size 5 1 (.slice (some ⟨v1.heap.size, 0, none⟩) 2 2) 2 [.int .u8 (c0.toNat : Int), .int .u8 (c1.toNat : Int)] := World.ownsRow_lit v1 #[.int .u8 (c0.toNat : Int), .int .u8 (c1.toNat : Int)] 2 (Nat.le_refl _) (by unfold maxLen; omega) rfl
    have hsr : Reads (v1.alloc (.cells #[.int .u8 (c0.toNat : Int), .int .u8 (c1.toNat : Int)] 5)) w.heap.size 1 a1 len1 (bv l1) := (hs.below b1).rd.alloc b1.size _
    have hb1s := b1.size
    go_wp2_with (at_builtin; refine wpList_append_any _ rfl _ _ 23 rfl v1.heap.size 5 i5 _ 1 1 Try.underlying23 hi hz hy hx rfl (by decide) _ 2 _ rfl hown w.heap.size a1 len1 cap1 (bv l1) rfl hsr (bv_one l1) (by unfold maxLen; omega) (by omega) (by simp) ?_; intro v3 w3 hown3 hgrow3 _; obtain ⟨A3, c3, rfl⟩ := own_slice hown3)
    have b3 : Below w.heap.size w w3 := (b1.alloc hb1s _).grown hgrow3 (by simp; omega) (by intro k hk; cases hk; exact hb1s)
    have hl3 : 2 + len1 = (be 2 (((995 + q : Nat) : Int)) ++ l1).length := by rw [List.length_append, be_length, HLN.out]
    have hbv : [Value.int .u8 (c0.toNat : Int), .int .u8 (c1.toNat : Int)] ++ bv l1 = bv (be 2 (((995 + q : Nat) : Int)) ++ l1) := by rw [HBE.out]; rfl
    rw [hbv] at hown3
    have hs3 : Sl w3 w3.heap.size A3 (2 + len1) c3 (be 2 (((995 + q : Nat) : Int)) ++ l1) := by
      rw [hl3] at hown3 ⊢
      obtain ⟨A', c', e, hsl⟩ := sl_of_own hown3
      injection e with e1 e2 e3
      subst e1; subst e3
      exact hsl
    have HRD := Lib.hid (large_read (995 + q) l1 (by omega) (by omega) (by have := HLN.out; omega))
    clear hl3 hbv hown3 hgrow3 hown hsr b1 hs hk eb1 eb2
    refine (readRequest_any hs3 (Nat.le_refl _)).mono ?_
    rintro e w4 ⟨he, b4⟩
    rw [HRD.out] at he
    have b04 : Below w.heap.size w w4 := b3.trans (b4.mono b3.size)
    clear b4 b3 hs3
    by_cases hbig : 1000 < 995 + q
    · rw [if_pos hbig] at he
      obtain rfl : e = .returned (.tuple #[.agg #[.int .i64 0, .string ⟨#[]⟩, .string ⟨#[]⟩, .int .i64 0], .int .i64 0, .int .i64 8]) := he
      have hbig' : (1000 : Int) < 995 + (q : Int) := by omega
      clear hbig
      go_wp2_with fail
      go_ret
      exact ⟨ret_bool (by simp; omega), b04.alloc b04.size _⟩
    · rw [if_neg hbig] at he
      obtain rfl : e = .returned (.tuple #[.agg #[.int .i64 0, .string ⟨#[]⟩, .string ⟨#[]⟩, .int .i64 0], .int .i64 0, .int .i64 0]) := he
      have hbig' : 995 + (q : Int) ≤ 1000 := by omega
      clear hbig
      go_wp2_with fail
      go_ret
      exact ⟨ret_bool (by simp; omega), b04.alloc b04.size _⟩

/-! ### THE ROW's STEP: WRITTEN OUT: LEAVE IT -/
set_option maxRecDepth 100000 in
theorem lifted (os : Os) (started : os.Started) (H : Type) (enc : TypeId × Value → H) :
    ReturnsInHanded {} Try.checked os 7 .any (Rows.frameLargeSpec.pre6 enc Try.prog Try.f7 Rows.frameLargeRow.domain false) (Rows.frameLargeSpec.post enc Try.prog Try.f7 false true false false) := by
  refine returnsInHanded_of_change (C := Try.checked) own started (by kernel_rfl) Try.func7
    (ChangeSpec.witness6 (enc := enc) (C := Try.checked) false ⟨#[], #[.int .i64 0, .slice none 0 0], []⟩ 8 (by kernel_rfl) (by kernel_rfl) (by kernel_rfl) (by kernel_rfl)) ?_
  intro W base args ds gs before hval0 hW hcnd _
  have hval : ∀ (j : Nat) t v, Try.f7.params[j]? = some t → args[j]? = some v → Value.okWide Try.prog W .any base t v := hval0
  have hW' := hW
  obtain ⟨p, q, hA0, hV, rfl, hfz, hnd⟩ := hW
  have hA : DataW.TrodAll enc Try.prog W 0 (fun _ => true) true Try.f7.params.toList args.toList ds p := hA0
  rw [Try.params7] at hA hval
  obtain ⟨v0, vs0, d0, ds0, p0, q0, hargs, rfl, rfl, h0, r0⟩ := trodAll_cons hA
  obtain ⟨v1, vs1, d1, ds1, p1, q1, rfl, rfl, rfl, h1, r1⟩ := trodAll_cons r0
  obtain ⟨rfl, rfl, rfl⟩ := trodAll_nil r1
  obtain rfl : args = #[v0, v1] := by cases args; simp_all
  obtain ⟨rfl, rfl⟩ := trodVars_none hV
  obtain ⟨a0, rfl, rfl, rfl, w0⟩ := open_int Try.underlying3 (hval 0 3 v0 rfl rfl) h0
  obtain ⟨a1, len1, cap1, rfl⟩ := okWide_slice Try.underlying23 (hval 1 23 v1 rfl rfl)
  have k1 := h1
  have lt1 : ∀ x ∈ p1, x.block < W.heap.size := by obtain ⟨m, hm⟩ := k1; exact DataW.trod_lt m _ _ _ hm
  obtain ⟨z1, w1⟩ : ∃ zs, IsRow .u8 W a1 len1 cap1 zs := by
    obtain ⟨fuel, hf⟩ := h1
    rcases open_ints Try.underlying23 Try.underlying5 (by kernel_rfl) hf with ⟨hcs, _⟩ | ⟨x, l, c, zs, hcs, _, hl, hm, hz, _, hcell, hwz⟩
    · simp [Value.cells] at hcs
      obtain ⟨rfl, rfl, rfl⟩ := hcs
      exact ⟨[], .inl ⟨rfl, rfl, rfl, rfl⟩⟩
    · simp [Value.cells] at hcs
      obtain ⟨rfl, rfl, rfl⟩ := hcs
      exact ⟨zs, .inr ⟨_, rfl, hl, hm, by simpa using hz, hcell, hwz⟩⟩
  clear hA0 hval0
  refine (walk a0 a1 len1 cap1 z1 W w0 w1).mono fun e W' ⟨he, bel⟩ => ?_
  subst he
  exact ⟨_, rfl, _, _, _, [], _, [], hW', trodAll_mk1 (shut_bool Try.underlying4 _), (trodAll_cons_mk (shut_int Try.underlying3 w0) (trodAll_cons_mk (Below.trod laidOut (by kernel_rfl) (of_decide_eq_true (by kernel_rfl)) k1 bel lt1) trodAll_mk0)), rfl, bel.frame _, fun h => by cases h⟩

theorem over : Rows.frameLargeRow.holds Try.pinned (OpenSpec.ofChange Rows.frameLargeSpec) :=
  OpenClaim.holds_of_wide 7 Try.f7 rfl rfl rfl rfl rfl rfl rfl ⟨rfl, rfl, rfl, rfl, rfl⟩ rfl rfl rfl rfl rfl (by kernel_rfl) Try.func7 (by kernel_rfl)
    (of_decide_eq_true (by kernel_rfl)) (by unfold Func.isWrapper; first | (rw [if_pos (by decide +kernel)]; kernel_rfl) | (rw [if_neg (by decide +kernel)]; exact ⟨rfl, rfl⟩))
    (fun os started H enc _ => lifted os started H enc)

/-- ████ THE STATEMENT ████ -/
theorem proved : Rows.FrameLargeSaid := over
#print axioms proved
end Go.Proofs.Ytifdkkkcecpjoaa.frameLarge
