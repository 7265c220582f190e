/-
  For every number the law StoreGone returns true and leaves what was there as it was. No conditions.
-/
import Derived.Test.YtghddmlndafefaaRows
import Derived.WalkKit
import Derived.ProofKit
import Derived.OpenShut
import Derived.ShutString
import Derived.ChangeOld
import Derived.Below
import Derived.Test.YtghddmlndafefaaStH
namespace Go.Proofs.Ytghddmlndafefaa.storeGone
open Go.ChangeShapes Go.WideShapes Go.ChangeAt Go.RowKit
open Go.ChangeMaps (open_string shut_string)
open Go.Maps
set_option linter.unusedVariables false

theorem own : ownKnob Try.prog.godebug = none := by kernel_rfl
theorem laidOut : laidOutB Try.prog = true := by kernel_rfl

/-- The letter that the i-th round writes. -/
def tw (i : Nat) : ByteArray := ({ data := #[97, 98, 99, 100, 101, 102, 103, 104, 105, 106, 107, 108, 109, 110, 111, 112, 113, 114, 115, 116] } : ByteArray).extract i (i + 1)
def gAt (i : Nat) : Wr := if i % 3 = 2 then ⟨⟨#[97]⟩, ⟨#[]⟩, true⟩ else ⟨⟨#[97]⟩, tw i, false⟩
def gL (j : Nat) : List Ver := (List.range j).map fun i => (gAt i).ver (i + 1)
theorem gL_succ (j : Nat) : gL (j + 1) = gL j ++ vers [gAt j] (j + 1) := by simp [gL, vers, List.range_succ]
theorem gL_length (j : Nat) : (gL j).length = j := by simp [gL]
theorem gAt_key (i : Nat) : (gAt i).key = ⟨#[97]⟩ := by unfold gAt; split <;> rfl
theorem gL_a (j : Nat) : ofKey (gL j) ⟨#[97]⟩ = gL j := by
  unfold ofKey gL
  rw [List.filter_eq_self]
  intro v hv
  obtain ⟨i, _, rfl⟩ := List.mem_map.1 hv
  simp [Wr.ver, gAt_key]
theorem gL_b (j : Nat) : ofKey (gL j) ⟨#[98]⟩ = [] := by
  unfold ofKey gL
  rw [List.filter_eq_nil_iff]
  intro v hv
  obtain ⟨i, _, rfl⟩ := List.mem_map.1 hv
  simp [Wr.ver, gAt_key]
theorem gL_vis (j : Nat) : readOf (vis (ofKey (gL (j + 1)) ⟨#[97]⟩) ((j : Int) + 1)) = ((gAt j).val, decide (¬ j % 3 = 2)) := by
  rw [gL_a, gL_succ]
  show readOf (vis (gL j ++ [(gAt j).ver (j + 1)]) _) = _
  rw [vis_snoc, if_pos (by simp [Wr.ver])]
  unfold gAt
  by_cases h : j % 3 = 2 <;> simp [h, readOf, Wr.ver]
theorem gL_changed (j : Nat) (t : Int) : changedOf (ofKey (gL (j + 1)) ⟨#[97]⟩) t = decide (t < (j : Int) + 1) := by
  rw [gL_a, gL_succ]
  simp [changedOf, vers, Wr.ver]
theorem gL_keys (j : Nat) : ∀ v ∈ gL j, v.key.size ≤ 100 := by
  intro v hv
  obtain ⟨i, _, rfl⟩ := List.mem_map.1 hv
  simp [Wr.ver, gAt_key]
  decide

set_option maxRecDepth 100000 in
set_option maxHeartbeats 1600000 in
theorem walk (a0 : Int) (w : World) (w0 : (Lit.int .i64 a0).wf = true) :
    Calls Try.prog 5 #[.int .i64 a0] w fun e w' => e = .returned (.bool true) ∧ Below w.heap.size w w' := by
  obtain ⟨hlo, hhi⟩ := wf_bounds w0
  have hk := known_any w
  have hwi := fun x => within_any a0 20 x (by omega) (by omega) hlo hhi
  have hk0 : 0 ≤ a0 % 20 := Int.emod_nonneg _ (by omega)
  have hk1 : a0 % 20 < 20 := Int.emod_lt_of_pos _ (by omega)
  obtain ⟨k, hkk⟩ : ∃ k : Nat, a0 % 20 = k := ⟨(a0 % 20).toNat, by omega⟩
  rw [hkk] at hwi hk0 hk1
  clear hkk
  go_enter Try.func5, Try.ntmps5
  go_wp2_with fail
  refine hk.mono ?_
  rintro e v1 ⟨rfl, b1⟩
  go_wp2_with fail
  refine (new_any 1000 v1 (by omega)).mono ?_
  rintro e v2 ⟨rfl, hH, b2, -⟩
  go_wp2_with fail
  refine (hwi _).mono ?_
  rintro e v2' ⟨rfl, rfl⟩
  have b02 := below_step b1 b2
  clear hwi hk b2
  go_wp2_with fail
  go_loopw [5] (fun i wr => ∃ (j : Nat) (D' : DataW Value), j ≤ k ∧ i = .int .i64 j ∧ Holds wr v1.heap.size (stoAt (newSto v1 1000) j (gL j)) D' (.map []) ∧ Below w.heap.size w wr) (fun i _ => k - (intOf i).toNat)
  case atStart => exact ⟨0, _, by omega, rfl, hH, b02⟩
  case round =>
    obtain ⟨j, D', hj, rfl, hH, hb⟩ := hrel
    by_cases hlt : j < k
    · have hj20 : j < 20 := by omega
      by_cases h3 : j % 3 = 2
      · have h3' : ((j : Int) % 3 == 2) = true := by rw [beq_iff_eq]; omega
        have h3n : ((j : Int) % 3 != 2) = false := by simp only [bne, h3']; rfl
        go_wp2_with fail
        obtain ⟨W2, hW2⟩ : ∃ W2, W2 = (wr.alloc (.cells #[.string ⟨#[97]⟩, .string ⟨#[]⟩, .bool true] 37)).alloc (.cells #[.string ⟨#[97]⟩, .string ⟨#[]⟩, .bool true] 37) := ⟨_, rfl⟩
        have b3 : Below wr.heap.size wr W2 := by rw [hW2]; exact ((Below.refl _ _).alloc (Nat.le_refl _) _).alloc (by simp) _
        have hg : gAt j = ⟨⟨#[97]⟩, ⟨#[]⟩, true⟩ := by simp [gAt, h3]
        have hbox : W2.cell? ⟨wr.heap.size, 1, none⟩ = some (.string ⟨#[]⟩) := by
          rw [hW2]
          exact (World.cell?_of_block (Below.heap_alloc _ _ _ (by simp))).trans (cell_new _ _ _ _)
        have hws : WrIs W2 (.slice (some ⟨wr.heap.size + 1, 0, none⟩) 1 1) [gAt j] := by
          rw [hW2, hg]
          have := heap_alloc_new (wr.alloc (.cells #[.string ⟨#[97]⟩, .string ⟨#[]⟩, .bool true] 37)) (.cells #[.string ⟨#[97]⟩, .string ⟨#[]⟩, .bool true] 37)
          simp only [World.size_alloc] at this
          exact wrIs_block (ws := [⟨⟨#[97]⟩, ⟨#[]⟩, true⟩]) this 1
        have hlt2 : wr.heap.size < W2.heap.size := by rw [hW2]; simp; omega
        change Calls Try.prog 20 _ ((wr.alloc (.cells #[.string ⟨#[97]⟩, .string ⟨#[]⟩, .bool true] 37)).alloc (.cells #[.string ⟨#[97]⟩, .string ⟨#[]⟩, .bool true] 37)) _
        rw [← hW2]
        clear hW2
        have hB := hH.below b3
        refine (commit_any hB hws (by intro x hx; rcases List.mem_singleton.1 hx with rfl; rw [gAt_key]; exact size_small (by decide)) (by simp [stoAt, newSto, gL_length]; omega) (by simp [stoAt]; omega)).mono ?_
        rintro e w3 ⟨he, ⟨D3, h4⟩, t3⟩
        obtain rfl : e = .returned (.tuple #[.int .i64 ((j : Int) + 1), .int .i64 0]) := he
        have h5 : Holds w3 v1.heap.size (stoAt (newSto v1 1000) (j + 1) (gL (j + 1))) D3 (.map []) := by rw [gL_succ]; exact h4
        have hb4 : Below w.heap.size w w3 := below_turn (below_step hb b3) t3 (by have := b1.size; rintro k (rfl | rfl) <;> simp [stoAt, newSto] <;> omega)
        have hbox3 : w3.cell? ⟨wr.heap.size, 1, none⟩ = some (.string ⟨#[]⟩) := t3.cell hbox (by have := hH.lts; simp [stoAt, newSto] at this ⊢; omega)
        have hr : readOf (vis (ofKey (gL (j + 1)) ⟨#[97]⟩) ((j : Int) + 1)) = (⟨#[]⟩, false) := by rw [gL_vis, hg]; simp [h3]
        clear hws hB h4 t3 b3 hbox hH hb hg hlt2
        go_wp2_with fail
        refine (read_as h5 ⟨#[97]⟩ (size_small (by decide)) ((j : Int) + 1) _ _ hr).mono ?_
        rintro e w4 ⟨rfl, rfl⟩
        clear hr
        go_wp2_with fail
        refine (changed_as h5 ⟨#[97]⟩ (size_small (by decide)) (j : Int) true (by simp only [stoAt]; rw [gL_changed]; exact decide_eq_true (by omega))).mono ?_
        rintro e w4 ⟨rfl, rfl⟩
        go_wp2_with fail
        refine (changed_as h5 ⟨#[97]⟩ (size_small (by decide)) ((j : Int) + 1) false (by simp only [stoAt]; rw [gL_changed]; exact decide_eq_false (by omega))).mono ?_
        rintro e w4 ⟨rfl, rfl⟩
        go_wp2_with fail
        refine (changed_as h5 ⟨#[98]⟩ (size_small (by decide)) 0 false (by simp only [stoAt]; rw [gL_b]; rfl)).mono ?_
        rintro e w4 ⟨rfl, rfl⟩
        go_wp2_with fail
        go_roundw
        case rel => exact ⟨j + 1, D3, by omega, by go_num, h5, hb4⟩
        case measure => simp [intOf]; omega
      · have h3' : ((j : Int) % 3 == 2) = false := by rw [beq_eq_false_iff_ne]; omega
        have h3n : ((j : Int) % 3 != 2) = true := by simp only [bne, h3']; rfl
        go_wp2_with fail
        obtain ⟨W2, hW2⟩ : ∃ W2, W2 = (wr.alloc (.cells #[.string ⟨#[97]⟩, .string (tw j), .bool false] 37)).alloc (.cells #[.string ⟨#[97]⟩, .string (tw j), .bool false] 37) := ⟨_, rfl⟩
        have b3 : Below wr.heap.size wr W2 := by rw [hW2]; exact ((Below.refl _ _).alloc (Nat.le_refl _) _).alloc (by simp) _
        have hg : gAt j = ⟨⟨#[97]⟩, (tw j), false⟩ := by simp [gAt, h3]
        have hbox : W2.cell? ⟨wr.heap.size, 1, none⟩ = some (.string (tw j)) := by
          rw [hW2]
          exact (World.cell?_of_block (Below.heap_alloc _ _ _ (by simp))).trans (cell_new _ _ _ _)
        have hws : WrIs W2 (.slice (some ⟨wr.heap.size + 1, 0, none⟩) 1 1) [gAt j] := by
          rw [hW2, hg]
          have := heap_alloc_new (wr.alloc (.cells #[.string ⟨#[97]⟩, .string (tw j), .bool false] 37)) (.cells #[.string ⟨#[97]⟩, .string (tw j), .bool false] 37)
          simp only [World.size_alloc] at this
          exact wrIs_block (ws := [⟨⟨#[97]⟩, (tw j), false⟩]) this 1
        have hlt2 : wr.heap.size < W2.heap.size := by rw [hW2]; simp; omega
        change Calls Try.prog 20 _ ((wr.alloc (.cells #[.string ⟨#[97]⟩, .string (tw j), .bool false] 37)).alloc (.cells #[.string ⟨#[97]⟩, .string (tw j), .bool false] 37)) _
        rw [← hW2]
        clear hW2
        have hB := hH.below b3
        refine (commit_any hB hws (by intro x hx; rcases List.mem_singleton.1 hx with rfl; rw [gAt_key]; exact size_small (by decide)) (by simp [stoAt, newSto, gL_length]; omega) (by simp [stoAt]; omega)).mono ?_
        rintro e w3 ⟨he, ⟨D3, h4⟩, t3⟩
        obtain rfl : e = .returned (.tuple #[.int .i64 ((j : Int) + 1), .int .i64 0]) := he
        have h5 : Holds w3 v1.heap.size (stoAt (newSto v1 1000) (j + 1) (gL (j + 1))) D3 (.map []) := by rw [gL_succ]; exact h4
        have hb4 : Below w.heap.size w w3 := below_turn (below_step hb b3) t3 (by have := b1.size; rintro k (rfl | rfl) <;> simp [stoAt, newSto] <;> omega)
        have hbox3 : w3.cell? ⟨wr.heap.size, 1, none⟩ = some (.string (tw j)) := t3.cell hbox (by have := hH.lts; simp [stoAt, newSto] at this ⊢; omega)
        have hr : readOf (vis (ofKey (gL (j + 1)) ⟨#[97]⟩) ((j : Int) + 1)) = (tw j, true) := by rw [gL_vis, hg]; simp [h3]
        clear hws hB h4 t3 b3 hbox hH hb hg hlt2
        go_wp2_with fail
        refine (read_as h5 ⟨#[97]⟩ (size_small (by decide)) ((j : Int) + 1) _ _ hr).mono ?_
        rintro e w4 ⟨rfl, rfl⟩
        clear hr
        go_wp2_with fail
        refine (changed_as h5 ⟨#[97]⟩ (size_small (by decide)) (j : Int) true (by simp only [stoAt]; rw [gL_changed]; exact decide_eq_true (by omega))).mono ?_
        rintro e w4 ⟨rfl, rfl⟩
        go_wp2_with fail
        refine (changed_as h5 ⟨#[97]⟩ (size_small (by decide)) ((j : Int) + 1) false (by simp only [stoAt]; rw [gL_changed]; exact decide_eq_false (by omega))).mono ?_
        rintro e w4 ⟨rfl, rfl⟩
        go_wp2_with fail
        refine (changed_as h5 ⟨#[98]⟩ (size_small (by decide)) 0 false (by simp only [stoAt]; rw [gL_b]; rfl)).mono ?_
        rintro e w4 ⟨rfl, rfl⟩
        go_wp2_with fail
        go_roundw
        case rel => exact ⟨j + 1, D3, by omega, by go_num, h5, hb4⟩
        case measure => simp [intOf]; omega
    · obtain rfl : j = k := by omega
      go_wp2_with fail
      refine (count_as hH (j : Int) (by simp [stoAt, gL_length])).mono ?_
      rintro e v3 ⟨rfl, b3⟩
      go_wp2_with fail
      go_ret
      exact ⟨by simp, below_step hb b3⟩

/-! ### THE ROW's STEP: WRITTEN OUT: LEAVE IT -/
set_option maxRecDepth 100000 in
theorem lifted (os : Os) (started : os.Started) (H : Type) (enc : TypeId × Value → H) :
    ReturnsInHanded {} Try.checked os 5 .any (Rows.storeGoneSpec.pre6 enc Try.prog Try.f5 Rows.storeGoneRow.domain false) (Rows.storeGoneSpec.post enc Try.prog Try.f5 false true false false) := by
  refine returnsInHanded_of_change (C := Try.checked) own started (by kernel_rfl) Try.func5
    (ChangeSpec.witness6 (enc := enc) (C := Try.checked) false ⟨#[], #[.int .i64 0], []⟩ 8 (by kernel_rfl) (by kernel_rfl) (by kernel_rfl) (by kernel_rfl)) ?_
  intro W base args ds gs before hval0 hW hcnd _
  have hval : ∀ (j : Nat) t v, Try.f5.params[j]? = some t → args[j]? = some v → Value.okWide Try.prog W .any base t v := hval0
  have hW' := hW
  obtain ⟨p, q, hA0, hV, rfl, hfz, hnd⟩ := hW
  have hA : DataW.TrodAll enc Try.prog W 0 (fun _ => true) true Try.f5.params.toList args.toList ds p := hA0
  rw [Try.params5] at hA hval
  obtain ⟨v0, vs0, d0, ds0, p0, q0, hargs, rfl, rfl, h0, r0⟩ := trodAll_cons hA
  obtain ⟨rfl, rfl, rfl⟩ := trodAll_nil r0
  obtain rfl : args = #[v0] := by cases args; simp_all
  obtain ⟨rfl, rfl⟩ := trodVars_none hV
  obtain ⟨a0, rfl, rfl, rfl, w0⟩ := open_int Try.underlying3 (hval 0 3 v0 rfl rfl) h0
  clear hA0 hval0
  refine (walk a0 W w0).mono fun e W' ⟨he, bel⟩ => ?_
  subst he
  exact ⟨_, rfl, _, _, _, [], _, [], hW', trodAll_mk1 (shut_bool Try.underlying4 _), (trodAll_cons_mk (shut_int Try.underlying3 w0) trodAll_mk0), rfl, bel.frame _, fun h => by cases h⟩

theorem over : Rows.storeGoneRow.holds Try.pinned (OpenSpec.ofChange Rows.storeGoneSpec) :=
  OpenClaim.holds_of_wide 5 Try.f5 rfl rfl rfl rfl rfl rfl rfl ⟨rfl, rfl, rfl, rfl, rfl⟩ rfl rfl rfl rfl rfl (by kernel_rfl) Try.func5 (by kernel_rfl)
    (of_decide_eq_true (by kernel_rfl)) (by unfold Func.isWrapper; first | (rw [if_pos (by decide +kernel)]; kernel_rfl) | (rw [if_neg (by decide +kernel)]; exact ⟨rfl, rfl⟩))
    (fun os started H enc _ => lifted os started H enc)

/-- ████ THE STATEMENT ████ -/
theorem proved : Rows.StoreGoneSaid := over
#print axioms proved
end Go.Proofs.Ytghddmlndafefaa.storeGone
