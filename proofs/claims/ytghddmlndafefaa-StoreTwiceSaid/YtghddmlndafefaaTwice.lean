/-
  Cleaned twice is cleaned once, and what is left is what the document leaves: StoreTwice answers true at every input. No conditions.
-/
import Derived.Test.YtghddmlndafefaaRows
import Derived.WalkKit
import Derived.ProofKit
import Derived.OpenShut
import Derived.ShutString
import Derived.ChangeOld
import Derived.Below
import Derived.Test.YtghddmlndafefaaStY
import Derived.Deep.DeepCutAuto
namespace Go.Proofs.Ytghddmlndafefaa.storeTwice
open Go.ChangeShapes Go.WideShapes Go.ChangeAt Go.RowKit
open Go.ChangeMaps (open_string shut_string)
open Go.Maps
set_option linter.unusedVariables false

theorem own : ownKnob Try.prog.godebug = none := by kernel_rfl
theorem laidOut : laidOutB Try.prog = true := by kernel_rfl

/-- WHAT THE WALK IS TOLD OF A SLICE OF INTEGERS THAT CAME IN: it is nil; or it leads to a row of 'cap' cells, the numbers 'zs' (the first 'len' are its elements, the rest its spare room), each fitting its kind. -/
def IsRow (k : IntKind) (w : World) (a : Option Addr) (len cap : Nat) (zs : List Int) : Prop :=
  (a = none ∧ len = 0 ∧ cap = 0 ∧ zs = []) ∨
  ∃ x, a = some x ∧ len ≤ cap ∧ cap ≤ maxLen ∧ zs.length = cap ∧ (∀ i, i < zs.length → w.cell? (x.add i) = some (.int k (zs.getD i 0))) ∧ ∀ n ∈ zs, (Lit.int k n).wf = true

open Go.RowKit
/-- What a cleaned store answers to one more Clean. -/
def SStay (s0 : Sto) (r0 : Rto) (base rbase n m : Nat) (L : List Ver) (pins : List Nat) (w : World) (e : Ending) (w' : World) : Prop :=
  e = .returned (.int .i64 0) ∧ Pr s0 r0 base rbase n m L pins w' ∧ Turn (Bs s0) w w'
theorem sstay {s0 : Sto} {r0 : Rto} {base rbase n m : Nat} {L : List Ver} {pins : List Nat} {w : World} (h : Pr s0 r0 base rbase n m L pins w) (hm : m ≤ 1000) (hc : cleanL (leastOf pins n) L = L) :
    Calls Try.prog 24 #[.pointer (some ⟨s0.sb, 0, none⟩)] w (SStay s0 r0 base rbase n m L pins w) := by
  refine (h.sclean hm).mono ?_
  rintro e w' ⟨he, hH, hT⟩
  rw [hc] at he hH
  refine ⟨he.trans ?_, ⟨⟨hH.s, hH.r⟩, h.sorted, h.len, h.plen, h.pins, h.now⟩, hT⟩
  simp
set_option maxRecDepth 100000 in
set_option maxHeartbeats 3200000 in
theorem walk (a0 : Option Addr) (len0 cap0 : Nat) (z0 : List Int) (a1 : Option Addr) (len1 cap1 : Nat) (z1 : List Int) (w : World) (w0 : IsRow .i64 w a0 len0 cap0 z0) (w1 : IsRow .i64 w a1 len1 cap1 z1) :
    Calls Try.prog 10 #[.slice a0 len0 cap0, .slice a1 len1 cap1] w fun e w' => e = .returned (.bool true) ∧ Below w.heap.size w w' := by
  have hk := known_any w
  have hl0 : len0 ≤ maxLen := by
    rcases row_open w0 with rfl | ⟨_, _, _, h, _⟩
    · exact Nat.zero_le _
    · exact h
  have hl1 : len1 ≤ maxLen := by
    rcases row_open w1 with rfl | ⟨_, _, _, h, _⟩
    · exact Nat.zero_le _
    · exact h
  have HO0 := Lib.hid (row_open w0)
  have HO1 := Lib.hid (row_open w1)
  unfold maxLen at hl0 hl1
  clear w0 w1
  go_enter Try.func10, Try.ntmps10
  go_wp2_with fail
  refine hk.mono ?_
  rintro e v1 ⟨rfl, b1⟩
  go_wp2_with fail
  refine (new_any 1000 v1 (by omega)).mono ?_
  rintro e v2 ⟨rfl, hH, b2, hs2⟩
  go_wp2_with fail
  refine (rnew_any 1000 v2).mono ?_
  rintro e v3 ⟨rfl, hR, b3, hs3⟩
  have hb0 : Below w.heap.size w v3 := below_step (below_step b1 b2) b3
  have hsz1 := b1.size
  have hp0 : Pr (newSto v1 1000) (newRto v2 1000) v1.heap.size v2.heap.size 0 0 [] [] v3 := Pr.new (hH.below b3) hR rfl rfl rfl rfl rfl rfl
  have hbs : ∀ q, Bs (newSto v1 1000) q → w.heap.size ≤ q := by
    rintro q (rfl | rfl | rfl) <;> simp [newSto] <;> omega
  have hrb : w.heap.size ≤ v2.heap.size := by omega
  clear hk b1 b2 b3 hH hR hs2 hs3
  go_wp2_with fail
  go_loopw [7] (fun i wr => ∃ (n j : Nat) (L : List Ver) (pins : List Nat), j ≤ 40 ∧ i = .int .i64 j ∧ Pr (newSto v1 1000) (newRto v2 1000) v1.heap.size v2.heap.size n (2 * j) L pins wr ∧ Below w.heap.size w wr) (fun i _ => 40 - (intOf i).toNat)
  case atStart => exact ⟨0, 0, [], [], by omega, rfl, hp0, hb0⟩
  case round =>
    clear hp0 hb0
    obtain ⟨n, j, L, pins, hj, rfl, hP, hb⟩ := hrel
    by_cases hlt : j < len0 ∧ j < 40
    · obtain ⟨hlt0, hlt1⟩ := hlt
      obtain ⟨b, off, rfl, -, hbw, hcell⟩ := HO0.out.resolve_left (by omega)
      obtain ⟨hc, hz1, hz2⟩ := hcell j hlt0
      clear hcell
      have hcr := (hb.cell (p := ⟨b, off + j, none⟩) hbw).trans hc
      have hwi := fun x => within_any (z0.getD j 0) 1073741824 x (by omega) (by omega) hz1 hz2
      have hm0 : 0 ≤ z0.getD j 0 % 1073741824 := Int.emod_nonneg _ (by omega)
      have hm1 : z0.getD j 0 % 1073741824 < 1073741824 := Int.emod_lt_of_pos _ (by omega)
      obtain ⟨zn, hzn⟩ : ∃ zn : Nat, z0.getD j 0 % 1073741824 = zn := ⟨(z0.getD j 0 % 1073741824).toNat, by omega⟩
      rw [hzn] at hwi hm0 hm1
      have hwr := fun x => writes_both zn (by omega) x
      generalize z0.getD j 0 = z at *
      clear hzn hc hm0 hm1
      go_wp2_with fail
      refine (hwi _).mono ?_
      rintro e wr' ⟨rfl, rfl⟩
      go_wp2_with fail
      refine (hwr _).mono ?_
      rintro e v4 ⟨va, vb, rfl, hwa, hwb, b4⟩
      have hwl := wn_length_le zn
      have hwk := wn_key_size (m := zn)
      generalize wn zn = ws at *
      have hP4 := hP.below b4
      have hb4 := below_step hb b4
      have hst := hP4.stamps
      have hPl := hP4.len
      have hPp := hP4.plen
      have hPn := hP4.now
      have hPq := hP4.pins
      have hPs := hP4.sorted
      clear hwi hwr b4 hb hP
      go_wp2_with fail
      refine (hP4.scommit hwa hwb hwk (by show L.length + ws.length ≤ 1000; omega) (by omega)).mono ?_
      rintro e v5 ⟨rfl, hH5, hw5, t5⟩
      have hb5 := below_turn hb4 t5 hbs
      clear t5 hwa hwb hP4 hb4
      go_wp2_with fail
      refine (hH5.rcommit (m := 2 * j) hw5 (by show L.length + ws.length ≤ 1000; omega) (by show 1000 ≤ 10000; omega) (by omega) hPn hPl hwl hPp hPq hPs hst).mono ?_
      rintro e v6 ⟨rfl, hP6, t6⟩
      have hb6 := below_rt hb5 t6 hrb
      clear hH5 hw5 hb5 t6 hst hPl hPp hPn hPq hPs hwk
      generalize L ++ vers ws (n + 1) = L6 at *
      by_cases hl : j < len1
      · obtain ⟨b', off', rfl, -, hbw', hcell'⟩ := HO1.out.resolve_left (by omega)
        obtain ⟨hc', hy1, hy2⟩ := hcell' j hl
        clear hcell'
        have hcr' := (hb6.cell (p := ⟨b', off' + j, none⟩) hbw').trans hc'
        have hw4 := fun x => within_any (z1.getD j 0) 4 x (by omega) (by omega) hy1 hy2
        clear hc'
        generalize z1.getD j 0 % 4 = y4 at *
        generalize z1.getD j 0 = y at *
        go_wp2_with fail
        refine (hw4 _).mono ?_
        rintro e v6' ⟨rfl, rfl⟩
        clear hw4
        by_cases hy : y4 = 0
        · subst hy
          go_wp2_with fail
          refine (hP6.spin (by omega)).mono ?_
          rintro e v7 ⟨rfl, hH7, t7⟩
          have hb7 := below_turn hb6 t7 hbs
          have hPl := hP6.len
          have hPp := hP6.plen
          have hPn := hP6.now
          have hPq := hP6.pins
          have hPs := hP6.sorted
          clear t7 hP6 hb6
          go_wp2_with fail
          refine (hH7.rpin (m := 2 * j + 1) (by omega) hPn hPl hPp hPq hPs).mono ?_
          rintro e v8 ⟨rfl, hP8, t8⟩
          have hb8 := below_rt hb7 t8 hrb
          clear t8 hH7 hb7 hPl hPp hPn hPq hPs
          go_wp2_with fail
          go_roundw
          case rel => exact ⟨n + 1, j + 1, L6, pins ++ [n + 1], by omega, by go_num, hP8.more (by omega), hb8⟩
          case measure => simp [intOf]; omega
        · go_wp2_with fail
          go_roundw
          case rel => exact ⟨n + 1, j + 1, L6, pins, by omega, by go_num, hP6.more (by omega), hb6⟩
          case measure => simp [intOf]; omega
      · go_wp2_with fail
        go_roundw
        case rel => exact ⟨n + 1, j + 1, L6, pins, by omega, by go_num, hP6.more (by omega), hb6⟩
        case measure => simp [intOf]; omega
    · have hend : (j < len0 ∧ ¬ j < 40) ∨ ¬ j < len0 := by omega
      have hfin : ∀ (lo : Nat), leastOf pins n = lo → True := fun _ _ => trivial
      clear hlt hfin
      obtain ⟨⟨D, PD, hs⟩, hr⟩ := hP.pair
      have hrn := rnow_any hr
      clear hs
      obtain ⟨vv, pv, hR⟩ := hr
      obtain ⟨-, -, -, c3⟩ := hR.cell
      obtain ⟨a3, k3, rfl⟩ := slice_of_owns hR.prow
      have HPR := Lib.hid hR.prow
      have hplen : pins.length ≤ 80 := by have := hP.plen; omega
      have hn80 : n ≤ 80 := by have := hP.now; omega
      clear hR
      change wr.cell? _ = some (.slice a3 pins.length k3) at c3
      have HP := Lib.hid hP
      have HB := Lib.hid hb
      clear hP hb D PD vv
      change wr.cell? ⟨v2.heap.size, 3, none⟩ = _ at c3
      rcases hend with ⟨h1, h2⟩ | h1
      all_goals
        go_wp2_with fail
        refine hrn.mono ?_
        rintro e wr' ⟨he, rfl⟩
        obtain rfl : e = .returned (.int .i64 n) := he
        clear hrn
        go_wp2_with fail
        go_loop [10, 11] (fun l i => ∃ q : Nat, q ≤ pins.length ∧ l = .int .i64 (leastOf (pins.take q) n : Nat) ∧ i = .int .i64 q) (fun _ i => pins.length - (intOf i).toNat)
        case atStart => exact ⟨0, Nat.zero_le _, rfl, rfl⟩
        case round =>
          obtain ⟨q, hq, rfl, rfl⟩ := hrel
          by_cases hlt : q < pins.length
          · obtain ⟨p, hu⟩ : ∃ p, pins[q]? = some p := ⟨pins[q], List.getElem?_eq_getElem hlt⟩
            have hpr : wr.ownsRow v2.heap.size 3 1 (.slice a3 pins.length k3) pins.length (pinCells pins) := HPR.out
            obtain ⟨g, k3', e3, hgl⟩ := hpr.form (by omega)
            obtain ⟨rfl, rfl⟩ : a3 = some ⟨g, 0, none⟩ ∧ k3 = k3' := by simpa using e3
            have hcell : wr.cell? ⟨g, q, none⟩ = some (.int .i64 (p : Int)) := (hpr.cellAt (g := g) q (by omega)).trans (pin_get _ _ _ hu)
            have HT := Lib.hid (least_take (now := n) hu)
            have hmn : min (leastOf (pins.take q) n : Int) (p : Int) = ((leastOf (pins.take (q + 1)) n : Nat) : Int) := by
              rw [HT.out]
              show _ = ((if leastOf (pins.take q) n ≤ p then leastOf (pins.take q) n else p : Nat) : Int)
              split <;> omega
            have HMN := Lib.hid hmn
            clear hmn hpr hu hgl e3
            go_wp2_with fail
            go_round
            case rel => exact ⟨q + 1, by omega, by rw [HMN.out], by go_num⟩
            case measure => simp [intOf]; omega
          · obtain rfl : q = pins.length := by omega
            rw [List.take_length]
            go_wp2_with fail
            have hP := HP.out
            have hlo := (leastOf_le pins n).1
            have hPl := hP.len
            have hPp := hP.plen
            have hPn := hP.now
            have hPq := hP.pins
            have hPs := hP.sorted
            refine (hP.sclean (by omega)).mono ?_
            rintro e v4 ⟨rfl, hH4, t4⟩
            have hb4 := below_turn HB.out t4 hbs
            clear hP HP t4 HB HPR
            go_wp2_with fail
            refine (hH4.rclean (m := 2 * j) (by omega) hPn hPl hPp hPq hPs).mono ?_
            rintro e v5 ⟨rfl, hP5, t5⟩
            have hb5 := below_rt hb4 t5 hrb
            have hcl := clean_length (leastOf pins n) L
            have hid := clean_idem (leastOf pins n) L
            clear hH4 t5 hb4 hPl hPp hPn hPq hPs
            have HLO : Hid (leastOf pins n = leastOf pins n) := Lib.hid rfl
            go_wp2_with fail
            refine (sstay hP5 (by omega) hid).mono ?_
            rintro e v6 ⟨rfl, hP6, t6⟩
            have hb6 := below_turn hb5 t6 hbs
            have hP6l := hP6.len
            clear hP5 t6 hb5 hid hcl HLO
            go_wp2_with fail
            refine (same_any hP6.pair (leastOf pins n : Int) (by omega) (by omega) (by omega) (by omega)).mono ?_
            rintro e v7 ⟨rfl, b7⟩
            go_wp2_with fail
            go_ret
            exact ⟨rfl, below_step hb6 b7⟩

/-! ### THE ROW's STEP: WRITTEN OUT: LEAVE IT -/
set_option maxRecDepth 100000 in
theorem lifted (os : Os) (started : os.Started) (H : Type) (enc : TypeId × Value → H) :
    ReturnsInHanded {} Try.checked os 10 .any (Rows.storeTwiceSpec.pre6 enc Try.prog Try.f10 Rows.storeTwiceRow.domain false) (Rows.storeTwiceSpec.post enc Try.prog Try.f10 false true false false) := by
  refine returnsInHanded_of_change (C := Try.checked) own started (by kernel_rfl) Try.func10
    (ChangeSpec.witness6 (enc := enc) (C := Try.checked) false ⟨#[], #[.slice none 0 0, .slice none 0 0], []⟩ 8 (by kernel_rfl) (by kernel_rfl) (by kernel_rfl) (by kernel_rfl)) ?_
  intro W base args ds gs before hval0 hW hcnd _
  have hval : ∀ (j : Nat) t v, Try.f10.params[j]? = some t → args[j]? = some v → Value.okWide Try.prog W .any base t v := hval0
  have hW' := hW
  obtain ⟨p, q, hA0, hV, rfl, hfz, hnd⟩ := hW
  have hA : DataW.TrodAll enc Try.prog W 0 (fun _ => true) true Try.f10.params.toList args.toList ds p := hA0
  rw [Try.params10] at hA hval
  obtain ⟨v0, vs0, d0, ds0, p0, q0, hargs, rfl, rfl, h0, r0⟩ := trodAll_cons hA
  obtain ⟨v1, vs1, d1, ds1, p1, q1, rfl, rfl, rfl, h1, r1⟩ := trodAll_cons r0
  obtain ⟨rfl, rfl, rfl⟩ := trodAll_nil r1
  obtain rfl : args = #[v0, v1] := by cases args; simp_all
  obtain ⟨rfl, rfl⟩ := trodVars_none hV
  obtain ⟨a0, len0, cap0, rfl⟩ := okWide_slice Try.underlying22 (hval 0 22 v0 rfl rfl)
  have k0 := h0
  have lt0 : ∀ x ∈ p0, x.block < W.heap.size := by obtain ⟨m, hm⟩ := k0; exact DataW.trod_lt m _ _ _ hm
  obtain ⟨z0, w0⟩ : ∃ zs, IsRow .i64 W a0 len0 cap0 zs := by
    obtain ⟨fuel, hf⟩ := h0
    rcases open_ints Try.underlying22 Try.underlying3 (by kernel_rfl) hf with ⟨hcs, _⟩ | ⟨x, l, c, zs, hcs, _, hl, hm, hz, _, hcell, hwz⟩
    · simp [Value.cells] at hcs
      obtain ⟨rfl, rfl, rfl⟩ := hcs
      exact ⟨[], .inl ⟨rfl, rfl, rfl, rfl⟩⟩
    · simp [Value.cells] at hcs
      obtain ⟨rfl, rfl, rfl⟩ := hcs
      exact ⟨zs, .inr ⟨_, rfl, hl, hm, by simpa using hz, hcell, hwz⟩⟩
  obtain ⟨a1, len1, cap1, rfl⟩ := okWide_slice Try.underlying22 (hval 1 22 v1 rfl rfl)
  have k1 := h1
  have lt1 : ∀ x ∈ p1, x.block < W.heap.size := by obtain ⟨m, hm⟩ := k1; exact DataW.trod_lt m _ _ _ hm
  obtain ⟨z1, w1⟩ : ∃ zs, IsRow .i64 W a1 len1 cap1 zs := by
    obtain ⟨fuel, hf⟩ := h1
    rcases open_ints Try.underlying22 Try.underlying3 (by kernel_rfl) hf with ⟨hcs, _⟩ | ⟨x, l, c, zs, hcs, _, hl, hm, hz, _, hcell, hwz⟩
    · simp [Value.cells] at hcs
      obtain ⟨rfl, rfl, rfl⟩ := hcs
      exact ⟨[], .inl ⟨rfl, rfl, rfl, rfl⟩⟩
    · simp [Value.cells] at hcs
      obtain ⟨rfl, rfl, rfl⟩ := hcs
      exact ⟨zs, .inr ⟨_, rfl, hl, hm, by simpa using hz, hcell, hwz⟩⟩
  clear hA0 hval0
  refine (walk a0 len0 cap0 z0 a1 len1 cap1 z1 W w0 w1).mono fun e W' ⟨he, bel⟩ => ?_
  subst he
  exact ⟨_, rfl, _, _, _, [], _, [], hW', trodAll_mk1 (shut_bool Try.underlying4 _), (trodAll_cons_mk (Below.trod laidOut (by kernel_rfl) (of_decide_eq_true (by kernel_rfl)) k0 bel lt0) (trodAll_cons_mk (Below.trod laidOut (by kernel_rfl) (of_decide_eq_true (by kernel_rfl)) k1 bel lt1) trodAll_mk0)), rfl, bel.frame _, fun h => by cases h⟩

theorem over : Rows.storeTwiceRow.holds Try.pinned (OpenSpec.ofChange Rows.storeTwiceSpec) :=
  OpenClaim.holds_of_wide 10 Try.f10 rfl rfl rfl rfl rfl rfl rfl ⟨rfl, rfl, rfl, rfl, rfl⟩ rfl rfl rfl rfl rfl (by kernel_rfl) Try.func10 (by kernel_rfl)
    (of_decide_eq_true (by kernel_rfl)) (by unfold Func.isWrapper; first | (rw [if_pos (by decide +kernel)]; kernel_rfl) | (rw [if_neg (by decide +kernel)]; exact ⟨rfl, rfl⟩))
    (fun os started H enc _ => lifted os started H enc)

/-- ████ THE STATEMENT ████ -/
theorem proved : Rows.StoreTwiceSaid := over
#print axioms proved
end Go.Proofs.Ytghddmlndafefaa.storeTwice
