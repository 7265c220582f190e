/-
  StoreStamps: the claim.
-/
import Derived.Test.YtghddmlndafefaaRows
import Derived.WalkKit
import Derived.ProofKit
import Derived.OpenShut
import Derived.ShutString
import Derived.ChangeOld
import Derived.Below
import Derived.Test.YtghddmlndafefaaStN
import Derived.Deep.RegionHeld3
namespace Go.Proofs.Ytghddmlndafefaa.storeStamps
open Go.ChangeShapes Go.WideShapes Go.ChangeAt Go.RowKit
open Go.ChangeMaps (open_string shut_string)
open Go.Maps
set_option linter.unusedVariables false

theorem own : ownKnob Try.prog.godebug = none := by kernel_rfl
theorem laidOut : laidOutB Try.prog = true := by kernel_rfl

/-- WHAT THE WALK IS TOLD OF A SLICE OF INTEGERS THAT CAME IN: it is nil; or it leads to a row of 'cap' cells, the numbers 'zs' (the first 'len' are its elements, the rest its spare room), each fitting its kind. -/
def IsRow (k : IntKind) (w : World) (a : Option Addr) (len cap : Nat) (zs : List Int) : Prop :=
  (a = none ∧ len = 0 ∧ cap = 0 ∧ zs = []) ∨
  ∃ x, a = some x ∧ len ≤ cap ∧ cap ≤ maxLen ∧ zs.length = cap ∧ (∀ i, i < zs.length → w.cell? (x.add i) = some (.int k (zs.getD i 0))) ∧ ∀ n ∈ zs, (Lit.int k n).wf = true

set_option maxRecDepth 100000 in
set_option maxHeartbeats 3200000 in
theorem walk (a0 : Option Addr) (len0 cap0 : Nat) (z0 : List Int) (w : World) (w0 : IsRow .i64 w a0 len0 cap0 z0) :
    Calls Try.prog 9 #[.slice a0 len0 cap0] w fun e w' => e = .returned (.bool true) ∧ Below w.heap.size w w' := by
  have hk := known_any w
  rcases row_open w0 with rfl | ⟨b, off, rfl, hm, hbw, hcell⟩
  · go_enter Try.func9, Try.ntmps9
    go_wp2_with fail
    refine hk.mono ?_
    rintro e v1 ⟨rfl, b1⟩
    go_wp2_with fail
    refine (new_any 10000 v1 (by omega)).mono ?_
    rintro e v2 ⟨rfl, hH, b2, -⟩
    have b02 := below_step b1 b2
    clear hk b2 hH
    go_wp2_with fail
    refine wp_loop_rounds 1 ?_; rw [rounds_succ]
    go_wp2_with fail
    go_ret
    exact ⟨rfl, b02⟩
  · unfold maxLen at hm
    clear w0
    have HC := Lib.hid hcell
    clear hcell
    go_enter Try.func9, Try.ntmps9
    go_wp2_with fail
    refine hk.mono ?_
    rintro e v1 ⟨rfl, b1⟩
    go_wp2_with fail
    refine (new_any 10000 v1 (by omega)).mono ?_
    rintro e v2 ⟨rfl, hH, b2, -⟩
    have b02 := below_step b1 b2
    have hb1 := b1.size
    have hlv := Lives.new hH rfl rfl rfl
    clear hk b2 hH b1
    go_wp2_with fail
    go_loopw [4, 5] (fun t i wr => ∃ n j : Nat, j ≤ len0 ∧ j ≤ 50 ∧ n ≤ j ∧ t = .int .i64 n ∧ i = .int .i64 j ∧ Lives (newSto v1 10000) v1.heap.size n j wr ∧ Below w.heap.size w wr) (fun _ i _ => 50 - (intOf i).toNat)
    case atStart => exact ⟨0, 0, by omega, by omega, by omega, rfl, rfl, hlv, b02⟩
    case round =>
      clear hlv b02
      obtain ⟨n, j, hj, hj50, hnj, rfl, rfl, hlv, hb⟩ := hrel
      by_cases hlt : j < len0 ∧ j < 50
      · obtain ⟨hlt1, hlt2⟩ := hlt
        obtain ⟨hc, hz1, hz2⟩ := HC.out j hlt1
        have hcr := (hb.cell (p := ⟨b, off + j, none⟩) hbw).trans hc
        have hw5 := fun x => within_any (z0.getD j 0) 5 x (by omega) (by omega) hz1 hz2
        have hwi := fun x => within_any (z0.getD j 0) 1073741824 x (by omega) (by omega) hz1 hz2
        have hwr := writes_wn (z0.getD j 0)
        have hm0 : 0 ≤ z0.getD j 0 % 5 := Int.emod_nonneg _ (by omega)
        have hm5 : z0.getD j 0 % 5 < 5 := Int.emod_lt_of_pos _ (by omega)
        have hcom := fun x v ws hw hk hl => Lives.commit (w := x) (v := v) (ws := ws) (s0 := newSto v1 10000) (base := v1.heap.size) (n := n) (m := j) hw hk hl
        have hbs : ∀ k, Bs (newSto v1 10000) k → w.heap.size ≤ k := by
          rintro k (rfl | rfl | rfl) <;> simp [newSto] <;> omega
        generalize z0.getD j 0 % 1073741824 = zm at *
        generalize z0.getD j 0 % 5 = z5 at *
        generalize z0.getD j 0 = z at *
        clear hcom
        go_wp2_with fail
        refine (hw5 _).mono ?_
        rintro e wr' ⟨rfl, rfl⟩
        clear hw5
        rcases (show z5 = 0 ∨ z5 = 1 ∨ z5 = 2 ∨ z5 = 3 ∨ z5 = 4 by omega) with rfl | rfl | rfl | rfl | rfl
        · go_wp2_with fail
          refine (hwi _).mono ?_
          rintro e wr'' ⟨rfl, rfl⟩
          clear hwi
          go_wp2_with fail
          refine (hwr _).mono ?_
          rintro e w3 ⟨va, vb, rfl, hws, b3⟩
          have hlv3 := hlv.below b3
          have hb3 := below_step hb b3
          clear hwr hb b3 hlv
          go_wp2_with fail
          refine (hlv3.commit hws wn_key_size (wn_length_le _) (by simp [newSto]; omega) (by omega)).mono ?_
          rintro e w5 ⟨rfl, hlv5, t5⟩
          have hb5 := below_turn hb3 t5 hbs
          clear hb3 t5 hws hlv3 hbs
          go_wp2_with fail
          refine hlv5.now.mono ?_
          rintro e w5' ⟨rfl, rfl⟩
          go_wp2_with fail
          go_roundw
          case rel => exact ⟨n + 1, j + 1, by omega, by omega, by omega, by go_num, by go_num, hlv5, hb5⟩
          case measure => simp [intOf]; omega
        · go_wp2_with fail
          refine (hwi _).mono ?_
          rintro e wr'' ⟨rfl, rfl⟩
          clear hwi
          go_wp2_with fail
          refine (hwr _).mono ?_
          rintro e w3 ⟨va, vb, rfl, hws, b3⟩
          have hlv3 := hlv.below b3
          have hb3 := below_step hb b3
          clear hwr hb b3 hlv
          go_wp2_with fail
          refine (hlv3.commit hws wn_key_size (wn_length_le _) (by simp [newSto]; omega) (by omega)).mono ?_
          rintro e w5 ⟨rfl, hlv5, t5⟩
          have hb5 := below_turn hb3 t5 hbs
          clear hb3 t5 hws hlv3 hbs
          go_wp2_with fail
          refine hlv5.now.mono ?_
          rintro e w5' ⟨rfl, rfl⟩
          go_wp2_with fail
          go_roundw
          case rel => exact ⟨n + 1, j + 1, by omega, by omega, by omega, by go_num, by go_num, hlv5, hb5⟩
          case measure => simp [intOf]; omega
        · go_wp2_with fail
          refine (hlv.commit (v := nilS) (ws := []) (.inl ⟨rfl, rfl⟩) (by simp) (by simp) (by simp [newSto]; omega) (by omega)).mono ?_
          rintro e w5 ⟨rfl, hlv5, t5⟩
          have hb5 := below_turn hb t5 hbs
          clear hb t5 hlv hbs hwi hwr
          go_wp2_with fail
          refine hlv5.now.mono ?_
          rintro e w5' ⟨rfl, rfl⟩
          go_wp2_with fail
          go_roundw
          case rel => exact ⟨n + 1, j + 1, by omega, by omega, by omega, by go_num, by go_num, hlv5, hb5⟩
          case measure => simp [intOf]; omega
        · go_wp2_with fail
          refine (hlv.pin (by omega) (by omega)).mono ?_
          rintro e w5 ⟨rfl, hlv5, t5⟩
          have hb5 := below_turn hb t5 hbs
          clear hb t5 hlv hbs hwi hwr
          go_wp2_with fail
          refine hlv5.now.mono ?_
          rintro e w5' ⟨rfl, rfl⟩
          go_wp2_with fail
          go_roundw
          case rel => exact ⟨n, j + 1, by omega, by omega, by omega, by go_num, by go_num, hlv5, hb5⟩
          case measure => simp [intOf]; omega
        · go_wp2_with fail
          refine (hlv.clean (by omega)).mono ?_
          rintro e w5 ⟨c, rfl, hlv5, t5⟩
          have hb5 := below_turn hb t5 hbs
          clear hb t5 hlv hbs hwi hwr
          go_wp2_with fail
          refine hlv5.now.mono ?_
          rintro e w5' ⟨rfl, rfl⟩
          go_wp2_with fail
          go_roundw
          case rel => exact ⟨n, j + 1, by omega, by omega, by omega, by go_num, by go_num, hlv5, hb5⟩
          case measure => simp [intOf]; omega
      · by_cases h1 : j < len0
        · have h2 : ¬ j < 50 := by omega
          go_wp2_with fail
          go_ret
          exact ⟨rfl, hb⟩
        · go_wp2_with fail
          go_ret
          exact ⟨rfl, hb⟩

/-! ### THE ROW's STEP: WRITTEN OUT: LEAVE IT -/
set_option maxRecDepth 100000 in
theorem lifted (os : Os) (started : os.Started) (H : Type) (enc : TypeId × Value → H) :
    ReturnsInHanded {} Try.checked os 9 .any (Rows.storeStampsSpec.pre6 enc Try.prog Try.f9 Rows.storeStampsRow.domain false) (Rows.storeStampsSpec.post enc Try.prog Try.f9 false true false false) := by
  refine returnsInHanded_of_change (C := Try.checked) own started (by kernel_rfl) Try.func9
    (ChangeSpec.witness6 (enc := enc) (C := Try.checked) false ⟨#[], #[.slice none 0 0], []⟩ 8 (by kernel_rfl) (by kernel_rfl) (by kernel_rfl) (by kernel_rfl)) ?_
  intro W base args ds gs before hval0 hW hcnd _
  have hval : ∀ (j : Nat) t v, Try.f9.params[j]? = some t → args[j]? = some v → Value.okWide Try.prog W .any base t v := hval0
  have hW' := hW
  obtain ⟨p, q, hA0, hV, rfl, hfz, hnd⟩ := hW
  have hA : DataW.TrodAll enc Try.prog W 0 (fun _ => true) true Try.f9.params.toList args.toList ds p := hA0
  rw [Try.params9] at hA hval
  obtain ⟨v0, vs0, d0, ds0, p0, q0, hargs, rfl, rfl, h0, r0⟩ := trodAll_cons hA
  obtain ⟨rfl, rfl, rfl⟩ := trodAll_nil r0
  obtain rfl : args = #[v0] := by cases args; simp_all
  obtain ⟨rfl, rfl⟩ := trodVars_none hV
  obtain ⟨a0, len0, cap0, rfl⟩ := okWide_slice Try.underlying22 (hval 0 22 v0 rfl rfl)
  have k0 := h0
  have lt0 : ∀ x ∈ p0, x.block < W.heap.size := by obtain ⟨m, hm⟩ := k0; exact DataW.trod_lt m _ _ _ hm
  obtain ⟨z0, w0⟩ : ∃ zs, IsRow .i64 W a0 len0 cap0 zs := by
    obtain ⟨fuel, hf⟩ := h0
    rcases open_ints Try.underlying22 Try.underlying3 (by kernel_rfl) hf with ⟨hcs, _⟩ | ⟨x, l, c, zs, hcs, _, hl, hm, hz, _, hcell, hwz⟩
    · simp [Value.cells] at hcs
      obtain ⟨rfl, rfl, rfl⟩ := hcs
      exact ⟨[], .inl ⟨rfl, rfl, rfl, rfl⟩⟩
    · simp [Value.cells] at hcs
      obtain ⟨rfl, rfl, rfl⟩ := hcs
      exact ⟨zs, .inr ⟨_, rfl, hl, hm, by simpa using hz, hcell, hwz⟩⟩
  clear hA0 hval0
  refine (walk a0 len0 cap0 z0 W w0).mono fun e W' ⟨he, bel⟩ => ?_
  subst he
  exact ⟨_, rfl, _, _, _, [], _, [], hW', trodAll_mk1 (shut_bool Try.underlying4 _), (trodAll_cons_mk (Below.trod laidOut (by kernel_rfl) (of_decide_eq_true (by kernel_rfl)) k0 bel lt0) trodAll_mk0), rfl, bel.frame _, fun h => by cases h⟩

theorem over : Rows.storeStampsRow.holds Try.pinned (OpenSpec.ofChange Rows.storeStampsSpec) :=
  OpenClaim.holds_of_wide 9 Try.f9 rfl rfl rfl rfl rfl rfl rfl ⟨rfl, rfl, rfl, rfl, rfl⟩ rfl rfl rfl rfl rfl (by kernel_rfl) Try.func9 (by kernel_rfl)
    (of_decide_eq_true (by kernel_rfl)) (by unfold Func.isWrapper; first | (rw [if_pos (by decide +kernel)]; kernel_rfl) | (rw [if_neg (by decide +kernel)]; exact ⟨rfl, rfl⟩))
    (fun os started H enc _ => lifted os started H enc)

/-- ████ THE STATEMENT ████ -/
theorem proved : Rows.StoreStampsSaid := over
#print axioms proved
end Go.Proofs.Ytghddmlndafefaa.storeStamps
