/-
  StoreFull: the claim.
-/
import Derived.Test.YtghddmlndafefaaRows
import Derived.WalkKit
import Derived.ProofKit
import Derived.OpenShut
import Derived.ShutString
import Derived.ChangeOld
import Derived.Below
import Derived.Test.YtghddmlndafefaaStQ
import Derived.Deep.RegionHeld3
namespace Go.Proofs.Ytghddmlndafefaa.storeFull
open Go.ChangeShapes Go.WideShapes Go.ChangeAt Go.RowKit
open Go.ChangeMaps (open_string shut_string)
open Go.Maps
set_option linter.unusedVariables false

theorem own : ownKnob Try.prog.godebug = none := by kernel_rfl
theorem laidOut : laidOutB Try.prog = true := by kernel_rfl

/-- WHAT THE WALK IS TOLD OF A SLICE OF INTEGERS THAT CAME IN: it is nil; or it leads to a row of 'cap' cells, the numbers 'zs' (the first 'len' are its elements, the rest its spare room), each fitting its kind. -/
def IsRow (k : IntKind) (w : World) (a : Option Addr) (len cap : Nat) (zs : List Int) : Prop :=
  (a = none ∧ len = 0 ∧ cap = 0 ∧ zs = []) ∨
  ∃ x, a = some x ∧ len ≤ cap ∧ cap ≤ maxLen ∧ zs.length = cap ∧ (∀ i, i < zs.length → w.cell? (x.add i) = some (.int k (zs.getD i 0))) ∧ ∀ n ∈ zs, (Lit.int k n).wf = true

set_option maxRecDepth 100000 in
set_option maxHeartbeats 3200000 in
theorem walk (a0 : Int) (a1 : Option Addr) (len1 cap1 : Nat) (z1 : List Int) (w : World) (w0 : (Lit.int .i64 a0).wf = true) (w1 : IsRow .i64 w a1 len1 cap1 z1) :
    Calls Try.prog 7 #[.int .i64 a0, .slice a1 len1 cap1] w fun e w' => e = .returned (.bool true) ∧ Below w.heap.size w w' := by
  obtain ⟨hlo, hhi⟩ := wf_bounds w0
  have hk := known_any w
  have hwk := fun x => within_any a0 30 x (by omega) (by omega) hlo hhi
  have hk0 : 0 ≤ a0 % 30 := Int.emod_nonneg _ (by omega)
  have hk1 : a0 % 30 < 30 := Int.emod_lt_of_pos _ (by omega)
  obtain ⟨k, hkk⟩ : ∃ k : Nat, a0 % 30 = k := ⟨(a0 % 30).toNat, by omega⟩
  rw [hkk] at hwk hk0 hk1
  clear hkk w0
  rcases row_open w1 with rfl | ⟨b, off, rfl, hm, hbw, hcell⟩
  · clear w1
    go_enter Try.func7, Try.ntmps7
    go_wp2_with fail
    refine hk.mono ?_
    rintro e v1 ⟨rfl, b1⟩
    go_wp2_with fail
    refine (hwk _).mono ?_
    rintro e v1' ⟨rfl, rfl⟩
    go_wp2_with fail
    refine (new_any k v1 (by omega)).mono ?_
    rintro e v2 ⟨rfl, hH, b2, -⟩
    have b02 := below_step b1 b2
    clear hk b2 hH hwk
    go_wp2_with fail
    refine wp_loop_rounds 1 ?_; rw [rounds_succ]
    go_wp2_with fail
    go_ret
    exact ⟨rfl, b02⟩
  · unfold maxLen at hm
    clear w1
    have HC := Lib.hid hcell
    clear hcell
    go_enter Try.func7, Try.ntmps7
    go_wp2_with fail
    refine hk.mono ?_
    rintro e v1 ⟨rfl, b1⟩
    go_wp2_with fail
    refine (hwk _).mono ?_
    rintro e v1' ⟨rfl, rfl⟩
    go_wp2_with fail
    refine (new_any k v1 (by omega)).mono ?_
    rintro e v2 ⟨rfl, hH, b2, -⟩
    have b02 := below_step b1 b2
    have hb1 := b1.size
    clear hk b2 b1 hwk
    go_wp2_with fail
    go_loopw [7] (fun i wr => ∃ (n j : Nat) (L : List Ver) (D' : DataW Value), j ≤ len1 ∧ j ≤ 50 ∧ n ≤ j ∧ i = .int .i64 j ∧ Holds wr v1.heap.size (stoP (newSto v1 k) n L []) D' (.map []) ∧ Sorted L ∧ Below w.heap.size w wr) (fun i _ => 50 - (intOf i).toNat)
    case atStart => exact ⟨0, 0, [], _, by omega, by omega, by omega, rfl, hH, sorted_nil, b02⟩
    case round =>
      clear hH b02
      obtain ⟨n, j, L, D', hj, hj50, hnj, rfl, hH, hS, hb⟩ := hrel
      by_cases hlt : j < len1 ∧ j < 50
      · obtain ⟨hlt1, hlt2⟩ := hlt
        obtain ⟨hc, hz1, hz2⟩ := HC.out j hlt1
        have hcr := (hb.cell (p := ⟨b, off + j, none⟩) hbw).trans hc
        have hwi := fun x => within_any (z1.getD j 0) 1073741824 x (by omega) (by omega) hz1 hz2
        have hwr := writes_row (z1.getD j 0)
        have hbs : ∀ q, Bs (newSto v1 k) q → w.heap.size ≤ q := by
          rintro q (rfl | rfl | rfl) <;> simp [newSto] <;> omega
        generalize (z1.getD j 0 % 1073741824).toNat = zk at *
        generalize z1.getD j 0 % 1073741824 = zm at *
        generalize z1.getD j 0 = z at *
        go_wp2_with fail
        refine (hwi _).mono ?_
        rintro e wr' ⟨rfl, rfl⟩
        go_wp2_with fail
        refine (hwr _).mono ?_
        rintro e w3 ⟨g, cap, vb, rfl, -, -, hws, -, b3⟩
        have hH3 := hH.below b3
        have hb3 := below_step hb b3
        have hwl := wn_length_le zk
        have hwp := wn_pos zk
        have hwk := wn_key_size (m := zk)
        have hroom : L.length ≤ k := hH.room
        clear hwr hwi hb b3 hH
        generalize wn zk = ws at *
        go_wp2_with fail
        refine (count_as hH3 (L.length : Int) rfl).mono ?_
        rintro e w4 ⟨rfl, b4⟩
        have hH4 := hH3.below b4
        have hb4 := below_step hb3 b4
        have hws4 := hws.below b4
        clear hws hH3 hb3 b4
        go_wp2_with fail
        refine (now_as hH4 (n : Int) rfl).mono ?_
        rintro e w4' ⟨rfl, rfl⟩
        go_wp2_with fail
        by_cases hfull : k < L.length + ws.length
        · refine (commit_no hH4 hws4 (by omega) hfull).mono ?_
          rintro e w5 ⟨rfl, b5⟩
          have hH5 := hH4.below b5
          have hb5 := below_step hb4 b5
          have hf' : (k : Int) < (L.length : Int) + (ws.length : Int) := by omega
          clear hH4 hb4 hws4 b5
          go_wp2_with fail
          refine (count_as hH5 (L.length : Int) rfl).mono ?_
          rintro e w6 ⟨rfl, b6⟩
          have hH6 := hH5.below b6
          have hb6 := below_step hb5 b6
          clear hH5 hb5 b6
          go_wp2_with fail
          refine (now_as hH6 (n : Int) rfl).mono ?_
          rintro e w6' ⟨rfl, rfl⟩
          go_wp2_with fail
          refine (clean_any hH6 hS (by show n ≤ 1000000; omega) (by intro p hp; simp [stoP] at hp)).mono ?_
          rintro e w7 ⟨he, ⟨D7, h7⟩, t7⟩
          have hH7 : Holds w7 v1.heap.size (stoP (newSto v1 k) n (cleanL (leastOf [] n) L) []) D7 (.map []) := h7
          have hb7 := below_turn hb6 t7 (fun q hq => hbs q (.inr (.inr hq)))
          have hL7 := clean_length (leastOf [] n) L
          have hS7 := sorted_clean hS (leastOf [] n)
          have hc7 : (stoP (newSto v1 k) n L []).L.length - (cleanL (leastOf (stoP (newSto v1 k) n L []).pins (stoP (newSto v1 k) n L []).now) (stoP (newSto v1 k) n L []).L).length = L.length - (cleanL (leastOf [] n) L).length := rfl
          rw [hc7] at he
          subst he
          clear hc7 h7 t7 hH6 hb6 hS
          generalize cleanL (leastOf [] n) L = L7 at *
          go_wp2_with fail
          refine (count_as hH7 (L7.length : Int) rfl).mono ?_
          rintro e w8 ⟨rfl, b8⟩
          have hH8 := hH7.below b8
          have hb8 := below_step hb7 b8
          clear hH7 hb7 b8
          have hle : ¬ (k : Int) < (L7.length : Int) := by omega
          go_wp2_with fail
          go_roundw
          case rel => exact ⟨n, j + 1, L7, D7, by omega, by omega, by omega, by go_num, hH8, hS7, hb8⟩
          case measure => simp [intOf]; omega
        · refine (commit_any hH4 hws4 hwk (by show L.length + ws.length ≤ k; omega) (by show n ≤ 1000000; omega)).mono ?_
          rintro e w5 ⟨he, ⟨D5, h5⟩, t5⟩
          obtain rfl : e = .returned (.tuple #[.int .i64 ((n : Int) + 1), .int .i64 0]) := he
          have hH5 : Holds w5 v1.heap.size (stoP (newSto v1 k) (n + 1) (L ++ vers ws (n + 1)) []) D5 (.map []) := h5
          have hS5 := sorted_snoc hS hH4.stamps ws
          have hl5 : (L ++ vers ws (n + 1)).length = L.length + ws.length := by simp [vers]
          have hb5 := below_turn hb4 t5 (fun q hq => hbs q (hq.elim .inl (fun h => .inr (.inr h))))
          have hf' : ¬ (k : Int) < (L.length : Int) + (ws.length : Int) := by omega
          change Sorted (L ++ vers ws (n + 1)) at hS5
          clear hH4 hb4 hws4 t5 h5
          generalize L ++ vers ws (n + 1) = L5 at *
          go_wp2_with fail
          refine (count_as hH5 ((L.length : Int) + (ws.length : Int)) (by show (L5.length : Int) = _; omega)).mono ?_
          rintro e w6 ⟨rfl, b6⟩
          have hH6 := hH5.below b6
          have hb6 := below_step hb5 b6
          clear hH5 hb5 b6
          go_wp2_with fail
          refine (count_as hH6 ((L.length : Int) + (ws.length : Int)) (by show (L5.length : Int) = _; omega)).mono ?_
          rintro e w8 ⟨rfl, b8⟩
          have hH8 := hH6.below b8
          have hb8 := below_step hb6 b8
          clear hH6 hb6 b8
          go_wp2_with fail
          go_roundw
          case rel => exact ⟨n + 1, j + 1, L5, D5, by omega, by omega, by omega, by go_num, hH8, hS5, hb8⟩
          case measure => simp [intOf]; omega
      · by_cases h1 : j < len1
        · have h2 : ¬ j < 50 := by omega
          go_wp2_with fail
          go_ret
          exact ⟨rfl, hb⟩
        · go_wp2_with fail
          go_ret
          exact ⟨rfl, hb⟩

/-! ### THE ROW's STEP: WRITTEN OUT: LEAVE IT -/
set_option maxRecDepth 100000 in
theorem lifted (os : Os) (started : os.Started) (H : Type) (enc : TypeId × Value → H) :
    ReturnsInHanded {} Try.checked os 7 .any (Rows.storeFullSpec.pre6 enc Try.prog Try.f7 Rows.storeFullRow.domain false) (Rows.storeFullSpec.post enc Try.prog Try.f7 false true false false) := by
  refine returnsInHanded_of_change (C := Try.checked) own started (by kernel_rfl) Try.func7
    (ChangeSpec.witness6 (enc := enc) (C := Try.checked) false ⟨#[], #[.int .i64 0, .slice none 0 0], []⟩ 8 (by kernel_rfl) (by kernel_rfl) (by kernel_rfl) (by kernel_rfl)) ?_
  intro W base args ds gs before hval0 hW hcnd _
  have hval : ∀ (j : Nat) t v, Try.f7.params[j]? = some t → args[j]? = some v → Value.okWide Try.prog W .any base t v := hval0
  have hW' := hW
  obtain ⟨p, q, hA0, hV, rfl, hfz, hnd⟩ := hW
  have hA : DataW.TrodAll enc Try.prog W 0 (fun _ => true) true Try.f7.params.toList args.toList ds p := hA0
  rw [Try.params7] at hA hval
  obtain ⟨v0, vs0, d0, ds0, p0, q0, hargs, rfl, rfl, h0, r0⟩ := trodAll_cons hA
  obtain ⟨v1, vs1, d1, ds1, p1, q1, rfl, rfl, rfl, h1, r1⟩ := trodAll_cons r0
  obtain ⟨rfl, rfl, rfl⟩ := trodAll_nil r1
  obtain rfl : args = #[v0, v1] := by cases args; simp_all
  obtain ⟨rfl, rfl⟩ := trodVars_none hV
  obtain ⟨a0, rfl, rfl, rfl, w0⟩ := open_int Try.underlying3 (hval 0 3 v0 rfl rfl) h0
  obtain ⟨a1, len1, cap1, rfl⟩ := okWide_slice Try.underlying22 (hval 1 22 v1 rfl rfl)
  have k1 := h1
  have lt1 : ∀ x ∈ p1, x.block < W.heap.size := by obtain ⟨m, hm⟩ := k1; exact DataW.trod_lt m _ _ _ hm
  obtain ⟨z1, w1⟩ : ∃ zs, IsRow .i64 W a1 len1 cap1 zs := by
    obtain ⟨fuel, hf⟩ := h1
    rcases open_ints Try.underlying22 Try.underlying3 (by kernel_rfl) hf with ⟨hcs, _⟩ | ⟨x, l, c, zs, hcs, _, hl, hm, hz, _, hcell, hwz⟩
    · simp [Value.cells] at hcs
      obtain ⟨rfl, rfl, rfl⟩ := hcs
      exact ⟨[], .inl ⟨rfl, rfl, rfl, rfl⟩⟩
    · simp [Value.cells] at hcs
      obtain ⟨rfl, rfl, rfl⟩ := hcs
      exact ⟨zs, .inr ⟨_, rfl, hl, hm, by simpa using hz, hcell, hwz⟩⟩
  clear hA0 hval0
  refine (walk a0 a1 len1 cap1 z1 W w0 w1).mono fun e W' ⟨he, bel⟩ => ?_
  subst he
  exact ⟨_, rfl, _, _, _, [], _, [], hW', trodAll_mk1 (shut_bool Try.underlying4 _), (trodAll_cons_mk (shut_int Try.underlying3 w0) (trodAll_cons_mk (Below.trod laidOut (by kernel_rfl) (of_decide_eq_true (by kernel_rfl)) k1 bel lt1) trodAll_mk0)), rfl, bel.frame _, fun h => by cases h⟩

theorem over : Rows.storeFullRow.holds Try.pinned (OpenSpec.ofChange Rows.storeFullSpec) :=
  OpenClaim.holds_of_wide 7 Try.f7 rfl rfl rfl rfl rfl rfl rfl ⟨rfl, rfl, rfl, rfl, rfl⟩ rfl rfl rfl rfl rfl (by kernel_rfl) Try.func7 (by kernel_rfl)
    (of_decide_eq_true (by kernel_rfl)) (by unfold Func.isWrapper; first | (rw [if_pos (by decide +kernel)]; kernel_rfl) | (rw [if_neg (by decide +kernel)]; exact ⟨rfl, rfl⟩))
    (fun os started H enc _ => lifted os started H enc)

/-- ████ THE STATEMENT ████ -/
theorem proved : Rows.StoreFullSaid := over
#print axioms proved
end Go.Proofs.Ytghddmlndafefaa.storeFull
