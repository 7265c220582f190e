/-
  Whatever is written, pinned, cleaned, in any order, is read and counted as the document says: StorePlays answers true at every input. No conditions.
-/
import Derived.Test.YtghddmlndafefaaRows
import Derived.WalkKit
import Derived.ProofKit
import Derived.OpenShut
import Derived.ShutString
import Derived.ChangeOld
import Derived.Below
import Derived.Test.YtghddmlndafefaaStY
import Derived.Deep.DeepCutAuto
import Derived.Deep.CutBlock
namespace Go.Proofs.Ytghddmlndafefaa.storePlays
open Go.ChangeShapes Go.WideShapes Go.ChangeAt Go.RowKit
open Go.ChangeMaps (open_string shut_string)
open Go.Maps
set_option linter.unusedVariables false

theorem own : ownKnob Try.prog.godebug = none := by kernel_rfl
theorem laidOut : laidOutB Try.prog = true := by kernel_rfl

/-- WHAT THE WALK IS TOLD OF A SLICE OF INTEGERS THAT CAME IN: it is nil; or it leads to a row of 'cap' cells, the numbers 'zs' (the first 'len' are its elements, the rest its spare room), each fitting its kind. -/
def IsRow (k : IntKind) (w : World) (a : Option Addr) (len cap : Nat) (zs : List Int) : Prop :=
  (a = none ∧ len = 0 ∧ cap = 0 ∧ zs = []) ∨
  ∃ x, a = some x ∧ len ≤ cap ∧ cap ≤ maxLen ∧ zs.length = cap ∧ (∀ i, i < zs.length → w.cell? (x.add i) = some (.int k (zs.getD i 0))) ∧ ∀ n ∈ zs, (Lit.int k n).wf = true

open Go.RowKit
theorem room_no {s0 : Sto} {r0 : Rto} {base rbase n m : Nat} {L : List Ver} {pins : List Nat} {w : World} (h : Pr s0 r0 base rbase n m L pins w) {va : Value} {ws : List Wr} (hw : WrIs w va ws) (hl : ws.length ≤ 3) (hf : s0.lim < L.length + ws.length) :
    Calls Try.prog 20 #[.pointer (some ⟨s0.sb, 0, none⟩), va] w (FullEnd w) := by
  obtain ⟨D, PD, hs⟩ := h.pair.s
  exact commit_no hs hw (by omega) hf
theorem rroom_no {s0 : Sto} {r0 : Rto} {base rbase n m : Nat} {L : List Ver} {pins : List Nat} {w : World} (h : Pr s0 r0 base rbase n m L pins w) {vb : Value} {ws : List Wr} (hw : RWr w vb ws) (hl : ws.length ≤ 3) (hm : m ≤ 1000) (hf : r0.lim < L.length + ws.length) :
    Calls Try.prog 27 #[.pointer (some ⟨r0.rb, 0, none⟩), vb] w (RFullEnd w) :=
  rcommit_no h.pair.r hw (by omega) hf (by have := h.len; show L.length ≤ 10000; omega)
theorem pnow {s0 : Sto} {r0 : Rto} {base rbase n m : Nat} {L : List Ver} {pins : List Nat} {w : World} (h : Pr s0 r0 base rbase n m L pins w) : Calls Try.prog 29 #[.pointer (some ⟨r0.rb, 0, none⟩)] w (RetI n w) := rnow_any h.pair.r
/-- The reference's row of pins, as it lies. -/
theorem ppins {s0 : Sto} {r0 : Rto} {base rbase n m : Nat} {L : List Ver} {pins : List Nat} {w : World} (h : Pr s0 r0 base rbase n m L pins w) : ∃ a3 k3, w.cell? ⟨r0.rb, 3, none⟩ = some (.slice a3 pins.length k3) ∧ w.ownsRow rbase 3 1 (.slice a3 pins.length k3) pins.length (pinCells pins) := by
  obtain ⟨vv, pv, hR⟩ := h.pair.r
  obtain ⟨a3, k3, rfl⟩ := slice_of_owns hR.prow
  exact ⟨a3, k3, hR.cell.2.2.2, hR.prow⟩
set_option maxRecDepth 100000 in
set_option maxHeartbeats 3200000 in
theorem walk (a0 : Int) (a1 : Option Addr) (len1 cap1 : Nat) (z1 : List Int) (a2 : ByteArray) (w : World) (w0 : (Lit.int .i64 a0).wf = true) (w1 : IsRow .i64 w a1 len1 cap1 z1) (w2 : a2.size ≤ maxLen) :
    Calls Try.prog 12 #[.int .i64 a0, .slice a1 len1 cap1, .string a2] w fun e w' => e = .returned (.bool true) ∧ Below w.heap.size w w' := by
  have hk := known_any w
  have hl1 : len1 ≤ maxLen := by
    rcases row_open w1 with rfl | ⟨_, _, _, h, _⟩
    · exact Nat.zero_le _
    · exact h
  have HO1 := Lib.hid (row_open w1)
  obtain ⟨hr1, hr2⟩ := wf_bounds w0
  unfold maxLen at hl1
  have hwk := fun x => within_any a0 60 x (by omega) (by omega) hr1 hr2
  have hk0 : 0 ≤ a0 % 60 := Int.emod_nonneg _ (by omega)
  have hk1 : a0 % 60 < 60 := Int.emod_lt_of_pos _ (by omega)
  obtain ⟨k, hkk⟩ : ∃ k : Nat, a0 % 60 = k := ⟨(a0 % 60).toNat, by omega⟩
  rw [hkk] at hwk hk0 hk1
  have hk60 : k ≤ 60 := by omega
  clear w0 w1 hkk hk0 hk1
  go_enter Try.func12, Try.ntmps12
  go_wp2_with fail
  refine hk.mono ?_
  rintro e v1 ⟨rfl, b1⟩
  clear hk
  by_cases hraw : a2.size ≤ 60
  · go_wp2_with fail
    refine (hwk _).mono ?_
    rintro e v1' ⟨rfl, rfl⟩
    go_wp2_with fail
    refine (new_any k v1 (by omega)).mono ?_
    rintro e v2 ⟨rfl, hH, b2, hs2⟩
    have HS2 := Lib.hid hs2
    clear hs2 hwk
    go_wp2_with fail
    refine (rnew_any k v2).mono ?_
    rintro e v3 ⟨rfl, hR, b3, hs3⟩
    have hs2 := HS2.out
    have hb0 : Below w.heap.size w v3 := below_step (below_step b1 b2) b3
    have hsz1 := b1.size
    have hp0 : Pr (newSto v1 k) (newRto v2 k) v1.heap.size v2.heap.size 0 0 [] [] v3 := Pr.new (hH.below b3) hR rfl rfl rfl rfl rfl rfl
    have hbs : ∀ q, Bs (newSto v1 k) q → w.heap.size ≤ q := by
      rintro q (rfl | rfl | rfl) <;> simp [newSto] <;> omega
    have hrb : w.heap.size ≤ v2.heap.size := by omega
    clear b1 b2 b3 hH hR hs2 hs3 HS2
    go_wp2_with fail
    go_loopw [10, 11] (fun lo i wr => ∃ (n j l : Nat) (L : List Ver) (pins : List Nat), j ≤ 60 ∧ l ≤ n ∧ lo = .int .i64 l ∧ i = .int .i64 j ∧ Pr (newSto v1 k) (newRto v2 k) v1.heap.size v2.heap.size n j L pins wr ∧ Below w.heap.size w wr) (fun _ i _ => 60 - (intOf i).toNat)
    case atStart => exact ⟨0, 0, 0, [], [], by omega, by omega, rfl, rfl, hp0, hb0⟩
    case round =>
      clear hp0 hb0
      obtain ⟨n, j, l, L, pins, hj, hln, rfl, rfl, hP, hb⟩ := hrel
      by_cases hlt : j < len1 ∧ j < 60
      · obtain ⟨hlt0, hlt1⟩ := hlt
        obtain ⟨b, off, rfl, -, hbw, hcell⟩ := HO1.out.resolve_left (by omega)
        obtain ⟨hc, hz1, hz2⟩ := hcell j hlt0
        clear hcell
        have hcr := (hb.cell (p := ⟨b, off + j, none⟩) hbw).trans hc
        have hwi := fun x => within_any (z1.getD j 0) 1073741824 x (by omega) (by omega) hz1 hz2
        have hm0 : 0 ≤ z1.getD j 0 % 1073741824 := Int.emod_nonneg _ (by omega)
        have hm1 : z1.getD j 0 % 1073741824 < 1073741824 := Int.emod_lt_of_pos _ (by omega)
        obtain ⟨zn, hzn⟩ : ∃ zn : Nat, z1.getD j 0 % 1073741824 = zn := ⟨(z1.getD j 0 % 1073741824).toNat, by omega⟩
        rw [hzn] at hwi hm0 hm1
        have hw8 := fun x => within_any (zn : Int) 8 x (by omega) (by omega) (by omega) (by omega)
        have hz0 : 0 ≤ (zn : Int) % 8 := Int.emod_nonneg _ (by omega)
        have hz8 : (zn : Int) % 8 < 8 := Int.emod_lt_of_pos _ (by omega)
        have hzb : zn ≤ 1073741824 := by omega
        generalize (zn : Int) % 8 = z8 at *
        generalize z1.getD j 0 = z at *
        clear hzn hc hm0 hm1
        go_wp2_with fail
        refine (hwi _).mono ?_
        rintro e wr' ⟨rfl, rfl⟩
        go_wp2_with fail
        refine (hw8 _).mono ?_
        rintro e wr' ⟨rfl, rfl⟩
        clear hwi hw8 hcr
        have hwr : ∀ x, Calls Try.prog 17 #[.int .i64 ((zn : Int) / 8)] x (WbEnd (zn / 8) x) := fun x => by
          have := writes_both (zn / 8) (by omega) x
          rwa [Int.natCast_ediv] at this
        have hnj : n ≤ j := hP.now
        have hw2 := fun x => within_any ((zn : Int) / 8) ((n : Int) + 2) x (by omega) (by omega) (by omega) (by omega)
        have ht0 : 0 ≤ (zn : Int) / 8 % ((n : Int) + 2) := Int.emod_nonneg _ (by omega)
        have ht1 : (zn : Int) / 8 % ((n : Int) + 2) < (n : Int) + 2 := Int.emod_lt_of_pos _ (by omega)
        generalize (zn : Int) / 8 % ((n : Int) + 2) = t2 at *
        go_upto_block 2 with fail
        go_cut [10] (fun lo wc => ∃ (n l : Nat) (L : List Ver) (pins : List Nat), l ≤ n ∧ lo = .int .i64 l ∧ Pr (newSto v1 k) (newRto v2 k) v1.heap.size v2.heap.size n (j + 1) L pins wc ∧ Below w.heap.size w wc)
        case first =>
          rcases (show z8 = 0 ∨ z8 = 1 ∨ z8 = 2 ∨ z8 = 3 ∨ z8 = 4 ∨ z8 = 5 ∨ z8 = 6 ∨ z8 = 7 by omega) with rfl | rfl | rfl | rfl | rfl | rfl | rfl | rfl
          · go_wp2_with fail
            refine (hwr _).mono ?_
            rintro e v5 ⟨va, vb, rfl, hwa, hwb, b5⟩
            have hwl := wn_length_le (zn / 8)
            have hwk := wn_key_size (m := zn / 8)
            generalize wn (zn / 8) = ws at *
            have hP5 := hP.below b5
            have hb5 := below_step hb b5
            have hst := hP5.stamps
            have hPl := hP5.len
            have hPp := hP5.plen
            have hPn := hP5.now
            have hPq := hP5.pins
            have hPs := hP5.sorted
            clear hwr b5 hb hP
            go_wp2_with fail
            by_cases hfull : k < L.length + ws.length
            · refine (room_no hP5 hwa hwl hfull).mono ?_
              rintro e v6 ⟨rfl, b6⟩
              have hP6 := hP5.below b6
              have hb6 := below_step hb5 b6
              have hw6 := hwb.below b6
              clear hP5 hb5 hwb hwa b6
              go_wp2_with fail
              refine (rroom_no hP6 hw6 hwl (by omega) hfull).mono ?_
              rintro e v7 ⟨rfl, b7⟩
              have hP7 := hP6.below b7
              have hb7 := below_step hb6 b7
              clear hP6 hb6 hw6 b7
              go_wp2_with fail
              go_meet
              case rel => exact ⟨n, l, L, pins, hln, rfl, hP7.more (by omega), hb7⟩
            · refine (hP5.scommit hwa hwb hwk (by show L.length + ws.length ≤ k; omega) (by omega)).mono ?_
              rintro e v6 ⟨rfl, hH6, hw6, t6⟩
              have hb6 := below_turn hb5 t6 hbs
              clear t6 hwa hwb hP5 hb5
              go_wp2_with fail
              refine (hH6.rcommit (m := j) hw6 (by show L.length + ws.length ≤ k; omega) (by show k ≤ 10000; omega) (by omega) hPn hPl hwl hPp hPq hPs hst).mono ?_
              rintro e v7 ⟨rfl, hP7, t7⟩
              have hb7 := below_rt hb6 t7 hrb
              clear hH6 hw6 hb6 t7
              go_wp2_with fail
              go_meet
              case rel => exact ⟨n + 1, l, L ++ vers ws (n + 1), pins, by omega, rfl, hP7, hb7⟩
          · go_wp2_with fail
            refine (hwr _).mono ?_
            rintro e v5 ⟨va, vb, rfl, hwa, hwb, b5⟩
            have hwl := wn_length_le (zn / 8)
            have hwk := wn_key_size (m := zn / 8)
            generalize wn (zn / 8) = ws at *
            have hP5 := hP.below b5
            have hb5 := below_step hb b5
            have hst := hP5.stamps
            have hPl := hP5.len
            have hPp := hP5.plen
            have hPn := hP5.now
            have hPq := hP5.pins
            have hPs := hP5.sorted
            clear hwr b5 hb hP
            go_wp2_with fail
            by_cases hfull : k < L.length + ws.length
            · refine (room_no hP5 hwa hwl hfull).mono ?_
              rintro e v6 ⟨rfl, b6⟩
              have hP6 := hP5.below b6
              have hb6 := below_step hb5 b6
              have hw6 := hwb.below b6
              clear hP5 hb5 hwb hwa b6
              go_wp2_with fail
              refine (rroom_no hP6 hw6 hwl (by omega) hfull).mono ?_
              rintro e v7 ⟨rfl, b7⟩
              have hP7 := hP6.below b7
              have hb7 := below_step hb6 b7
              clear hP6 hb6 hw6 b7
              go_wp2_with fail
              go_meet
              case rel => exact ⟨n, l, L, pins, hln, rfl, hP7.more (by omega), hb7⟩
            · refine (hP5.scommit hwa hwb hwk (by show L.length + ws.length ≤ k; omega) (by omega)).mono ?_
              rintro e v6 ⟨rfl, hH6, hw6, t6⟩
              have hb6 := below_turn hb5 t6 hbs
              clear t6 hwa hwb hP5 hb5
              go_wp2_with fail
              refine (hH6.rcommit (m := j) hw6 (by show L.length + ws.length ≤ k; omega) (by show k ≤ 10000; omega) (by omega) hPn hPl hwl hPp hPq hPs hst).mono ?_
              rintro e v7 ⟨rfl, hP7, t7⟩
              have hb7 := below_rt hb6 t7 hrb
              clear hH6 hw6 hb6 t7
              go_wp2_with fail
              go_meet
              case rel => exact ⟨n + 1, l, L ++ vers ws (n + 1), pins, by omega, rfl, hP7, hb7⟩
          · go_wp2_with fail
            refine (hwr _).mono ?_
            rintro e v5 ⟨va, vb, rfl, hwa, hwb, b5⟩
            have hwl := wn_length_le (zn / 8)
            have hwk := wn_key_size (m := zn / 8)
            generalize wn (zn / 8) = ws at *
            have hP5 := hP.below b5
            have hb5 := below_step hb b5
            have hst := hP5.stamps
            have hPl := hP5.len
            have hPp := hP5.plen
            have hPn := hP5.now
            have hPq := hP5.pins
            have hPs := hP5.sorted
            clear hwr b5 hb hP
            go_wp2_with fail
            by_cases hfull : k < L.length + ws.length
            · refine (room_no hP5 hwa hwl hfull).mono ?_
              rintro e v6 ⟨rfl, b6⟩
              have hP6 := hP5.below b6
              have hb6 := below_step hb5 b6
              have hw6 := hwb.below b6
              clear hP5 hb5 hwb hwa b6
              go_wp2_with fail
              refine (rroom_no hP6 hw6 hwl (by omega) hfull).mono ?_
              rintro e v7 ⟨rfl, b7⟩
              have hP7 := hP6.below b7
              have hb7 := below_step hb6 b7
              clear hP6 hb6 hw6 b7
              go_wp2_with fail
              go_meet
              case rel => exact ⟨n, l, L, pins, hln, rfl, hP7.more (by omega), hb7⟩
            · refine (hP5.scommit hwa hwb hwk (by show L.length + ws.length ≤ k; omega) (by omega)).mono ?_
              rintro e v6 ⟨rfl, hH6, hw6, t6⟩
              have hb6 := below_turn hb5 t6 hbs
              clear t6 hwa hwb hP5 hb5
              go_wp2_with fail
              refine (hH6.rcommit (m := j) hw6 (by show L.length + ws.length ≤ k; omega) (by show k ≤ 10000; omega) (by omega) hPn hPl hwl hPp hPq hPs hst).mono ?_
              rintro e v7 ⟨rfl, hP7, t7⟩
              have hb7 := below_rt hb6 t7 hrb
              clear hH6 hw6 hb6 t7
              go_wp2_with fail
              go_meet
              case rel => exact ⟨n + 1, l, L ++ vers ws (n + 1), pins, by omega, rfl, hP7, hb7⟩
          · go_wp2_with fail
            refine (hwr _).mono ?_
            rintro e v5 ⟨va, vb, rfl, hwa, hwb, b5⟩
            have hwl := wn_length_le (zn / 8)
            have hwk := wn_key_size (m := zn / 8)
            generalize wn (zn / 8) = ws at *
            have hP5 := hP.below b5
            have hb5 := below_step hb b5
            have hst := hP5.stamps
            have hPl := hP5.len
            have hPp := hP5.plen
            have hPn := hP5.now
            have hPq := hP5.pins
            have hPs := hP5.sorted
            clear hwr b5 hb hP
            go_wp2_with fail
            by_cases hfull : k < L.length + ws.length
            · refine (room_no hP5 hwa hwl hfull).mono ?_
              rintro e v6 ⟨rfl, b6⟩
              have hP6 := hP5.below b6
              have hb6 := below_step hb5 b6
              have hw6 := hwb.below b6
              clear hP5 hb5 hwb hwa b6
              go_wp2_with fail
              refine (rroom_no hP6 hw6 hwl (by omega) hfull).mono ?_
              rintro e v7 ⟨rfl, b7⟩
              have hP7 := hP6.below b7
              have hb7 := below_step hb6 b7
              clear hP6 hb6 hw6 b7
              go_wp2_with fail
              go_meet
              case rel => exact ⟨n, l, L, pins, hln, rfl, hP7.more (by omega), hb7⟩
            · refine (hP5.scommit hwa hwb hwk (by show L.length + ws.length ≤ k; omega) (by omega)).mono ?_
              rintro e v6 ⟨rfl, hH6, hw6, t6⟩
              have hb6 := below_turn hb5 t6 hbs
              clear t6 hwa hwb hP5 hb5
              go_wp2_with fail
              refine (hH6.rcommit (m := j) hw6 (by show L.length + ws.length ≤ k; omega) (by show k ≤ 10000; omega) (by omega) hPn hPl hwl hPp hPq hPs hst).mono ?_
              rintro e v7 ⟨rfl, hP7, t7⟩
              have hb7 := below_rt hb6 t7 hrb
              clear hH6 hw6 hb6 t7
              go_wp2_with fail
              go_meet
              case rel => exact ⟨n + 1, l, L ++ vers ws (n + 1), pins, by omega, rfl, hP7, hb7⟩
          · go_wp2_with fail
            have hPl := hP.len
            have hPp := hP.plen
            have hPn := hP.now
            have hPq := hP.pins
            have hPs := hP.sorted
            refine (hP.spin (by omega)).mono ?_
            rintro e v6 ⟨rfl, hH6, t6⟩
            have hb6 := below_turn hb t6 hbs
            clear t6 hP hb
            go_wp2_with fail
            refine (hH6.rpin (m := j) (by omega) hPn hPl hPp hPq hPs).mono ?_
            rintro e v7 ⟨rfl, hP7, t7⟩
            have hb7 := below_rt hb6 t7 hrb
            clear hH6 hb6 t7
            go_wp2_with fail
            go_meet
            case rel => exact ⟨n, l, L, pins ++ [n], hln, rfl, hP7, hb7⟩
          · go_wp2_with fail
            refine (pnow hP).mono ?_
            rintro e v5 ⟨rfl, rfl⟩
            go_wp2_with fail
            refine (hw2 _).mono ?_
            rintro e v5 ⟨rfl, rfl⟩
            have hPl := hP.len
            have hPp := hP.plen
            have hPn := hP.now
            have hPq := hP.pins
            have hPs := hP.sorted
            go_wp2_with fail
            refine (hP.sunpin (t2 - 1) (by omega) (by omega) (by omega)).mono ?_
            rintro e v6 ⟨rfl, hH6, t6⟩
            have hb6 := below_turn hb t6 hbs
            clear t6 hP hb
            go_wp2_with fail
            refine (hH6.runpin (m := j) (by omega) hPn hPl hPp hPq hPs).mono ?_
            rintro e v7 ⟨rfl, hP7, t7⟩
            have hb7 := below_rt hb6 t7 hrb
            clear hH6 hb6 t7
            go_wp2_with fail
            go_meet
            case rel => exact ⟨n, l, L, unpin pins (t2 - 1), hln, rfl, hP7.more (by omega), hb7⟩
          · go_wp2_with fail
            refine (pnow hP).mono ?_
            rintro e v5 ⟨rfl, rfl⟩
            go_wp2_with fail
            refine (hw2 _).mono ?_
            rintro e v5 ⟨rfl, rfl⟩
            have hPl := hP.len
            have hPp := hP.plen
            have hPn := hP.now
            have hPq := hP.pins
            have hPs := hP.sorted
            go_wp2_with fail
            refine (hP.sunpin (t2 - 1) (by omega) (by omega) (by omega)).mono ?_
            rintro e v6 ⟨rfl, hH6, t6⟩
            have hb6 := below_turn hb t6 hbs
            clear t6 hP hb
            go_wp2_with fail
            refine (hH6.runpin (m := j) (by omega) hPn hPl hPp hPq hPs).mono ?_
            rintro e v7 ⟨rfl, hP7, t7⟩
            have hb7 := below_rt hb6 t7 hrb
            clear hH6 hb6 t7
            go_wp2_with fail
            go_meet
            case rel => exact ⟨n, l, L, unpin pins (t2 - 1), hln, rfl, hP7.more (by omega), hb7⟩
          · go_wp2_with fail
            refine (pnow hP).mono ?_
            rintro e v5 ⟨rfl, rfl⟩
            obtain ⟨a3, k3, c3, hpr0⟩ := ppins hP
            change wr.cell? ⟨v2.heap.size, 3, none⟩ = _ at c3
            have HPR := Lib.hid hpr0
            have HP := Lib.hid hP
            have HB := Lib.hid hb
            have hplen : pins.length ≤ 60 := by have := hP.plen; omega
            clear hpr0 hP hb
            go_wp2_with fail
            go_loop [10, 20] (fun l i => ∃ q : Nat, q ≤ pins.length ∧ l = .int .i64 (leastOf (pins.take q) n : Nat) ∧ i = .int .i64 q) (fun _ i => pins.length - (intOf i).toNat)
            case atStart => exact ⟨0, Nat.zero_le _, rfl, rfl⟩
            case round =>
              obtain ⟨q, hq, rfl, rfl⟩ := hrel
              by_cases hlt : q < pins.length
              · obtain ⟨p, hu⟩ : ∃ p, pins[q]? = some p := ⟨pins[q], List.getElem?_eq_getElem hlt⟩
                have hpr : wr.ownsRow v2.heap.size 3 1 (.slice a3 pins.length k3) pins.length (pinCells pins) := HPR.out
                obtain ⟨g, k3', e3, hgl⟩ := hpr.form (by omega)
                obtain ⟨rfl, rfl⟩ : a3 = some ⟨g, 0, none⟩ ∧ k3 = k3' := by simpa using e3
                have hcell : wr.cell? ⟨g, q, none⟩ = some (.int .i64 (p : Int)) := (hpr.cellAt (g := g) q (by omega)).trans (pin_get _ _ _ hu)
                have HT := Lib.hid (least_take (now := n) hu)
                have hmn : min (leastOf (pins.take q) n : Int) (p : Int) = ((leastOf (pins.take (q + 1)) n : Nat) : Int) := by
                  rw [HT.out]
                  show _ = ((if leastOf (pins.take q) n ≤ p then leastOf (pins.take q) n else p : Nat) : Int)
                  split <;> omega
                have HMN := Lib.hid hmn
                clear hmn hpr hu hgl e3
                go_wp2_with fail
                go_round
                case rel => exact ⟨q + 1, by omega, by rw [HMN.out], by go_num⟩
                case measure => simp [intOf]; omega
              · obtain rfl : q = pins.length := by omega
                rw [List.take_length]
                go_wp2_with fail
                have hP := HP.out
                have hlo := (leastOf_le pins n).1
                have hPl := hP.len
                have hPp := hP.plen
                have hPn := hP.now
                have hPq := hP.pins
                have hPs := hP.sorted
                refine (hP.sclean (by omega)).mono ?_
                rintro e v6 ⟨rfl, hH6, t6⟩
                have hb6 := below_turn HB.out t6 hbs
                clear hP HP t6 HB HPR
                go_wp2_with fail
                refine (hH6.rclean (m := j) (by omega) hPn hPl hPp hPq hPs).mono ?_
                rintro e v7 ⟨rfl, hP7, t7⟩
                have hb7 := below_rt hb6 t7 hrb
                clear hH6 hb6 t7
                go_wp2_with fail
                go_meet
                case rel => exact ⟨n, leastOf pins n, cleanL (leastOf pins n) L, pins, hlo, rfl, hP7.more (by omega), hb7⟩
        case rest =>
          clear hP hb hwr hw2
          obtain ⟨n', l', L', pins', hln', rfl, hP', hb'⟩ := hcut
          have hPl := hP'.len
          have hPn := hP'.now
          go_wp2_with fail
          refine (same_any hP'.pair (l' : Int) (by omega) (by omega) (by omega) (by omega)).mono ?_
          rintro e v8 ⟨rfl, b8⟩
          have hP8 := hP'.below b8
          have hb8 := below_step hb' b8
          clear hP' hb' b8
          go_wp2_with fail
          go_roundw
          case rel => exact ⟨n', j + 1, l', L', pins', by omega, hln', rfl, by go_num, hP8, hb8⟩
          case measure => simp [intOf]; omega
      · have hend : (j < len1 ∧ ¬ j < 60) ∨ ¬ j < len1 := by omega
        have hPl := hP.len
        have hPn := hP.now
        have hst := hP.stamps
        obtain ⟨D, PD, hS⟩ := hP.pair.s
        have hR := hP.pair.r
        obtain ⟨v, bb, hv⟩ : ∃ v b, readOf (vis (ofKey L a2) (n : Int)) = (v, b) := ⟨_, _, rfl⟩
        obtain ⟨c, hcc⟩ : ∃ c, changedOf (ofKey L a2) 0 = c := ⟨_, rfl⟩
        have h1 := now_as hS (n : Int) rfl
        have h2 := read_as hS a2 w2 (n : Int) v bb hv
        have h3 := pnow hP
        have h4 := rread_any hR a2 (n : Int) (by show L.length ≤ 10000; omega) v bb hv
        have h5 := changed_as hS a2 w2 0 c hcc
        have h6 : Calls Try.prog 35 #[.pointer (some ⟨v2.heap.size, 0, none⟩), .string a2, .int .i64 0] wr (RetB c wr) := by
          have := rchanged_any hR a2 0 (by show L.length ≤ 10000; omega) hst
          rw [show changedOf (ofKey (rtoP (newRto v2 k) n L pins).L a2) 0 = c from hcc] at this
          exact this
        clear hlt hv hcc hP hst hS hR
        rcases hend with ⟨e1, e2⟩ | e1
        all_goals
          go_wp2_with fail
          refine h1.mono ?_
          rintro e v5 ⟨rfl, rfl⟩
          go_wp2_with fail
          refine h2.mono ?_
          rintro e v5 ⟨rfl, rfl⟩
          go_wp2_with fail
          refine h3.mono ?_
          rintro e v5 ⟨rfl, rfl⟩
          go_wp2_with fail
          refine h4.mono ?_
          rintro e v5 ⟨rfl, rfl⟩
          go_wp2_with fail
          refine h5.mono ?_
          rintro e v5 ⟨rfl, rfl⟩
          go_wp2_with fail
          refine h6.mono ?_
          rintro e v5 ⟨rfl, rfl⟩
          go_wp2_with fail
          go_ret
          exact ⟨rfl, hb⟩
  · go_wp2_with fail
    go_ret
    exact ⟨rfl, b1⟩

/-! ### THE ROW's STEP: WRITTEN OUT: LEAVE IT -/
set_option maxRecDepth 100000 in
theorem lifted (os : Os) (started : os.Started) (H : Type) (enc : TypeId × Value → H) :
    ReturnsInHanded {} Try.checked os 12 .any (Rows.storePlaysSpec.pre6 enc Try.prog Try.f12 Rows.storePlaysRow.domain false) (Rows.storePlaysSpec.post enc Try.prog Try.f12 false true false false) := by
  refine returnsInHanded_of_change (C := Try.checked) own started (by kernel_rfl) Try.func12
    (ChangeSpec.witness6 (enc := enc) (C := Try.checked) false ⟨#[], #[.int .i64 0, .slice none 0 0, .string ByteArray.empty], []⟩ 8 (by kernel_rfl) (by kernel_rfl) (by kernel_rfl) (by kernel_rfl)) ?_
  intro W base args ds gs before hval0 hW hcnd _
  have hval : ∀ (j : Nat) t v, Try.f12.params[j]? = some t → args[j]? = some v → Value.okWide Try.prog W .any base t v := hval0
  have hW' := hW
  obtain ⟨p, q, hA0, hV, rfl, hfz, hnd⟩ := hW
  have hA : DataW.TrodAll enc Try.prog W 0 (fun _ => true) true Try.f12.params.toList args.toList ds p := hA0
  rw [Try.params12] at hA hval
  obtain ⟨v0, vs0, d0, ds0, p0, q0, hargs, rfl, rfl, h0, r0⟩ := trodAll_cons hA
  obtain ⟨v1, vs1, d1, ds1, p1, q1, rfl, rfl, rfl, h1, r1⟩ := trodAll_cons r0
  obtain ⟨v2, vs2, d2, ds2, p2, q2, rfl, rfl, rfl, h2, r2⟩ := trodAll_cons r1
  obtain ⟨rfl, rfl, rfl⟩ := trodAll_nil r2
  obtain rfl : args = #[v0, v1, v2] := by cases args; simp_all
  obtain ⟨rfl, rfl⟩ := trodVars_none hV
  obtain ⟨a0, rfl, rfl, rfl, w0⟩ := open_int Try.underlying3 (hval 0 3 v0 rfl rfl) h0
  obtain ⟨a1, len1, cap1, rfl⟩ := okWide_slice Try.underlying22 (hval 1 22 v1 rfl rfl)
  have k1 := h1
  have lt1 : ∀ x ∈ p1, x.block < W.heap.size := by obtain ⟨m, hm⟩ := k1; exact DataW.trod_lt m _ _ _ hm
  obtain ⟨z1, w1⟩ : ∃ zs, IsRow .i64 W a1 len1 cap1 zs := by
    obtain ⟨fuel, hf⟩ := h1
    rcases open_ints Try.underlying22 Try.underlying3 (by kernel_rfl) hf with ⟨hcs, _⟩ | ⟨x, l, c, zs, hcs, _, hl, hm, hz, _, hcell, hwz⟩
    · simp [Value.cells] at hcs
      obtain ⟨rfl, rfl, rfl⟩ := hcs
      exact ⟨[], .inl ⟨rfl, rfl, rfl, rfl⟩⟩
    · simp [Value.cells] at hcs
      obtain ⟨rfl, rfl, rfl⟩ := hcs
      exact ⟨zs, .inr ⟨_, rfl, hl, hm, by simpa using hz, hcell, hwz⟩⟩
  obtain ⟨a2, rfl, rfl, rfl, w2⟩ := open_string Try.underlying9 (hval 2 9 v2 rfl rfl) h2
  clear hA0 hval0
  refine (walk a0 a1 len1 cap1 z1 a2 W w0 w1 w2).mono fun e W' ⟨he, bel⟩ => ?_
  subst he
  exact ⟨_, rfl, _, _, _, [], _, [], hW', trodAll_mk1 (shut_bool Try.underlying4 _), (trodAll_cons_mk (shut_int Try.underlying3 w0) (trodAll_cons_mk (Below.trod laidOut (by kernel_rfl) (of_decide_eq_true (by kernel_rfl)) k1 bel lt1) (trodAll_cons_mk (shut_string Try.underlying9 w2) trodAll_mk0))), rfl, bel.frame _, fun h => by cases h⟩

theorem over : Rows.storePlaysRow.holds Try.pinned (OpenSpec.ofChange Rows.storePlaysSpec) :=
  OpenClaim.holds_of_wide 12 Try.f12 rfl rfl rfl rfl rfl rfl rfl ⟨rfl, rfl, rfl, rfl, rfl⟩ rfl rfl rfl rfl rfl (by kernel_rfl) Try.func12 (by kernel_rfl)
    (of_decide_eq_true (by kernel_rfl)) (by unfold Func.isWrapper; first | (rw [if_pos (by decide +kernel)]; kernel_rfl) | (rw [if_neg (by decide +kernel)]; exact ⟨rfl, rfl⟩))
    (fun os started H enc _ => lifted os started H enc)

/-- ████ THE STATEMENT ████ -/
theorem proved : Rows.StorePlaysSaid := over
#print axioms proved
end Go.Proofs.Ytghddmlndafefaa.storePlays
