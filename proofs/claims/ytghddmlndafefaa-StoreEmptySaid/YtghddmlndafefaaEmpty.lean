/-
  For every two texts of any size the law StoreEmpty returns true and leaves what was there as it was. No conditions.
-/
import Derived.Test.YtghddmlndafefaaRows
import Derived.WalkKit
import Derived.ProofKit
import Derived.OpenShut
import Derived.ShutString
import Derived.ChangeOld
import Derived.Below
import Derived.Test.YtghddmlndafefaaStG
namespace Go.Proofs.Ytghddmlndafefaa.storeEmpty
open Go.ChangeShapes Go.WideShapes Go.ChangeAt Go.RowKit
open Go.ChangeMaps (open_string shut_string)
open Go.Maps
set_option linter.unusedVariables false

theorem own : ownKnob Try.prog.godebug = none := by kernel_rfl
theorem laidOut : laidOutB Try.prog = true := by kernel_rfl

set_option maxRecDepth 100000 in
set_option maxHeartbeats 800000 in
theorem walk (a0 : ByteArray) (a1 : ByteArray) (w : World) (w0 : a0.size ≤ maxLen) (w1 : a1.size ≤ maxLen) :
    Calls Try.prog 6 #[.string a0, .string a1] w fun e w' => e = .returned (.bool true) ∧ Below w.heap.size w w' := by
  have hk := known_any w
  by_cases hb : 100 < a0.size ∨ 100 < a1.size
  · go_enter Try.func6, Try.ntmps6
    go_wp2_with fail
    refine hk.mono ?_
    rintro e v1 ⟨rfl, b1⟩
    by_cases h0 : 100 < a0.size
    · go_wp2_with fail
      go_ret
      exact ⟨rfl, b1⟩
    · have h1 : 100 < a1.size := by omega
      clear hb
      go_wp2_with fail
      go_ret
      exact ⟨rfl, b1⟩
  · have h0 : a0.size ≤ 100 := by omega
    have h1 : a1.size ≤ 100 := by omega
    clear hb
    go_enter Try.func6, Try.ntmps6
    go_wp2_with fail
    refine hk.mono ?_
    rintro e v1 ⟨rfl, b1⟩
    go_wp2_with fail
    refine (new_any 10 v1 (by omega)).mono ?_
    rintro e w2 ⟨rfl, hH, b2, -⟩
    go_wp2_with fail
    refine (read_any hH a0 w0 0).mono ?_
    rintro e w2' ⟨he, rfl⟩
    obtain rfl : e = .returned (.tuple #[.string ⟨#[]⟩, .bool false]) := he
    try clear he
    go_wp2_with fail
    obtain ⟨W2, hW2⟩ : ∃ W2, W2 = w2.alloc (.cells #[.string a0, .string ⟨#[]⟩, .bool false] 37) := ⟨_, rfl⟩
    have b3 : Below w2.heap.size w2 W2 := by rw [hW2]; exact (Below.refl _ _).alloc (Nat.le_refl _) _
    have hws : WrIs W2 (.slice (some ⟨w2.heap.size, 0, none⟩) 1 1) [⟨a0, ⟨#[]⟩, false⟩] := by rw [hW2]; exact wrIs_block (ws := [⟨a0, ⟨#[]⟩, false⟩]) (heap_alloc_new w2 _) 1
    rw [← hW2]
    clear hW2
    have h3 := hH.below b3
    refine (commit_any h3 hws (by intro x hx; rcases List.mem_singleton.1 hx with rfl; exact w0) (by simp [newSto]) (by simp [newSto])).mono ?_
    rintro e w3 ⟨he, ⟨D3, h4⟩, t3⟩
    obtain rfl : e = .returned (.tuple #[.int .i64 1, .int .i64 0]) := he
    try clear he
    have b4 : Below w.heap.size w w3 := below_turn (below_step (below_step b1 b2) b3) t3 (by have := b1.size; rintro k (rfl | rfl) <;> simp [newSto] <;> omega)
    have r0 : readOf (vis (ofKey ((newSto v1 10).L ++ vers [⟨a0, ⟨#[]⟩, false⟩] 1) a0) 1) = (⟨#[]⟩, true) := by simp [newSto, vers, Wr.ver, ofKey, vis, readOf]
    have r1 : readOf (vis (ofKey ((newSto v1 10).L ++ vers [⟨a0, ⟨#[]⟩, false⟩] 1) a1) 1) = (⟨#[]⟩, decide (a0 = a1)) := by
      by_cases e : a0 = a1 <;> simp [newSto, vers, Wr.ver, ofKey, vis, readOf, e]
    have R0 := Lib.hid r0
    have R1 := Lib.hid r1
    clear r0 r1 hws hH h3 b1 b2 b3 t3 hk
    go_wp2_with fail
    refine (read_any h4 a0 w0 1).mono ?_
    rintro e w3' ⟨he, rfl⟩
    obtain rfl : e = .returned (.tuple #[.string ⟨#[]⟩, .bool true]) := he.trans (congrArg (fun r : ByteArray × Bool => Ending.returned (.tuple #[.string r.1, .bool r.2])) R0.out)
    try clear he
    go_wp2_with fail
    refine (read_any h4 a1 w1 1).mono ?_
    rintro e w3' ⟨he, rfl⟩
    obtain rfl : e = .returned (.tuple #[.string ⟨#[]⟩, .bool (decide (a0 = a1))]) := he.trans (congrArg (fun r : ByteArray × Bool => Ending.returned (.tuple #[.string r.1, .bool r.2])) R1.out)
    try clear he
    clear R0 R1
    by_cases e : a0 = a1
    · subst e
      go_wp2_with fail
      go_ret
      exact ⟨by simp, b4⟩
    · go_wp2_with fail
      go_ret
      exact ⟨by simp [Go.ByteArray.toList_eq]; exact fun h => e (ByteArray.ext h), b4⟩

/-! ### THE ROW's STEP: WRITTEN OUT: LEAVE IT -/
set_option maxRecDepth 100000 in
theorem lifted (os : Os) (started : os.Started) (H : Type) (enc : TypeId × Value → H) :
    ReturnsInHanded {} Try.checked os 6 .any (Rows.storeEmptySpec.pre6 enc Try.prog Try.f6 Rows.storeEmptyRow.domain false) (Rows.storeEmptySpec.post enc Try.prog Try.f6 false true false false) := by
  refine returnsInHanded_of_change (C := Try.checked) own started (by kernel_rfl) Try.func6
    (ChangeSpec.witness6 (enc := enc) (C := Try.checked) false ⟨#[], #[.string ByteArray.empty, .string ByteArray.empty], []⟩ 8 (by kernel_rfl) (by kernel_rfl) (by kernel_rfl) (by kernel_rfl)) ?_
  intro W base args ds gs before hval0 hW hcnd _
  have hval : ∀ (j : Nat) t v, Try.f6.params[j]? = some t → args[j]? = some v → Value.okWide Try.prog W .any base t v := hval0
  have hW' := hW
  obtain ⟨p, q, hA0, hV, rfl, hfz, hnd⟩ := hW
  have hA : DataW.TrodAll enc Try.prog W 0 (fun _ => true) true Try.f6.params.toList args.toList ds p := hA0
  rw [Try.params6] at hA hval
  obtain ⟨v0, vs0, d0, ds0, p0, q0, hargs, rfl, rfl, h0, r0⟩ := trodAll_cons hA
  obtain ⟨v1, vs1, d1, ds1, p1, q1, rfl, rfl, rfl, h1, r1⟩ := trodAll_cons r0
  obtain ⟨rfl, rfl, rfl⟩ := trodAll_nil r1
  obtain rfl : args = #[v0, v1] := by cases args; simp_all
  obtain ⟨rfl, rfl⟩ := trodVars_none hV
  obtain ⟨a0, rfl, rfl, rfl, w0⟩ := open_string Try.underlying9 (hval 0 9 v0 rfl rfl) h0
  obtain ⟨a1, rfl, rfl, rfl, w1⟩ := open_string Try.underlying9 (hval 1 9 v1 rfl rfl) h1
  clear hA0 hval0
  refine (walk a0 a1 W w0 w1).mono fun e W' ⟨he, bel⟩ => ?_
  subst he
  exact ⟨_, rfl, _, _, _, [], _, [], hW', trodAll_mk1 (shut_bool Try.underlying4 _), (trodAll_cons_mk (shut_string Try.underlying9 w0) (trodAll_cons_mk (shut_string Try.underlying9 w1) trodAll_mk0)), rfl, bel.frame _, fun h => by cases h⟩

theorem over : Rows.storeEmptyRow.holds Try.pinned (OpenSpec.ofChange Rows.storeEmptySpec) :=
  OpenClaim.holds_of_wide 6 Try.f6 rfl rfl rfl rfl rfl rfl rfl ⟨rfl, rfl, rfl, rfl, rfl⟩ rfl rfl rfl rfl rfl (by kernel_rfl) Try.func6 (by kernel_rfl)
    (of_decide_eq_true (by kernel_rfl)) (by unfold Func.isWrapper; first | (rw [if_pos (by decide +kernel)]; kernel_rfl) | (rw [if_neg (by decide +kernel)]; exact ⟨rfl, rfl⟩))
    (fun os started H enc _ => lifted os started H enc)

/-- ████ THE STATEMENT ████ -/
theorem proved : Rows.StoreEmptySaid := over
#print axioms proved
end Go.Proofs.Ytghddmlndafefaa.storeEmpty
