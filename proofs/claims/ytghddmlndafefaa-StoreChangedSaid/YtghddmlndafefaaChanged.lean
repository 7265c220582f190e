/-
  For every slice of numbers the law StoreChanged returns true and leaves what was there as it was. No conditions.
-/
import Derived.Test.YtghddmlndafefaaRows
import Derived.WalkKit
import Derived.ProofKit
import Derived.OpenShut
import Derived.ShutString
import Derived.ChangeOld
import Derived.Below
import Derived.Test.YtghddmlndafefaaStI
import Derived.Deep.RegionHeld3
namespace Go.Proofs.Ytghddmlndafefaa.storeChanged
open Go.ChangeShapes Go.WideShapes Go.ChangeAt Go.RowKit
open Go.ChangeMaps (open_string shut_string)
open Go.Maps
set_option linter.unusedVariables false

theorem own : ownKnob Try.prog.godebug = none := by kernel_rfl
theorem laidOut : laidOutB Try.prog = true := by kernel_rfl

/-- WHAT THE WALK IS TOLD OF A SLICE OF INTEGERS THAT CAME IN: it is nil; or it leads to a row of 'cap' cells, the numbers 'zs' (the first 'len' are its elements, the rest its spare room), each fitting its kind. -/
def IsRow (k : IntKind) (w : World) (a : Option Addr) (len cap : Nat) (zs : List Int) : Prop :=
  (a = none ∧ len = 0 ∧ cap = 0 ∧ zs = []) ∨
  ∃ x, a = some x ∧ len ≤ cap ∧ cap ≤ maxLen ∧ zs.length = cap ∧ (∀ i, i < zs.length → w.cell? (x.add i) = some (.int k (zs.getD i 0))) ∧ ∀ n ∈ zs, (Lit.int k n).wf = true

set_option maxRecDepth 100000 in
set_option maxHeartbeats 1600000 in
theorem walk (a0 : Option Addr) (len0 cap0 : Nat) (z0 : List Int) (w : World) (w0 : IsRow .i64 w a0 len0 cap0 z0) :
    Calls Try.prog 4 #[.slice a0 len0 cap0] w fun e w' => e = .returned (.bool true) ∧ Below w.heap.size w w' := by
  have hk := known_any w
  rcases row_open w0 with rfl | ⟨b, off, rfl, hm, hbw, hcell⟩
  · go_enter Try.func4, Try.ntmps4
    go_wp2_with fail
    refine hk.mono ?_
    rintro e v1 ⟨rfl, b1⟩
    go_wp2_with fail
    refine (new_any 10000 v1 (by omega)).mono ?_
    rintro e v2 ⟨rfl, hH, b2, -⟩
    have b02 := below_step b1 b2
    clear hk b2 hH
    go_wp2_with fail
    refine wp_loop_rounds 1 ?_; rw [rounds_succ]
    go_wp2_with fail
    go_ret
    exact ⟨rfl, b02.alloc b02.size _⟩
  · unfold maxLen at hm
    clear w0
    have HC := Lib.hid hcell
    clear hcell
    go_enter Try.func4, Try.ntmps4
    go_wp2_with fail
    refine hk.mono ?_
    rintro e v1 ⟨rfl, b1⟩
    go_wp2_with fail
    refine (new_any 10000 v1 (by omega)).mono ?_
    rintro e v2 ⟨rfl, hH, b2, -⟩
    have b02 := below_step b1 b2
    have hs2 : v1.heap.size + 2 < v2.heap.size := hH.lts.1
    go_wp2_with fail
    obtain ⟨lb, hlb⟩ : ∃ lb, lb = v2.heap.size := ⟨_, rfl⟩
    have hblk0 := heap_alloc_new v2 (.cells #[.int .i64 0, .int .i64 0, .int .i64 0, .int .i64 0, .int .i64 0] 41)
    have hH0 := hH.below ((Below.refl v2.heap.size v2).alloc (Nat.le_refl _) (.cells #[.int .i64 0, .int .i64 0, .int .i64 0, .int .i64 0, .int .i64 0] 41))
    have b03 := b02.alloc b02.size (.cells #[.int .i64 0, .int .i64 0, .int .i64 0, .int .i64 0, .int .i64 0] 41)
    have hb1 := b1.size
    have hwlb : w.heap.size ≤ v2.heap.size := b02.size
    rw [← hlb] at hblk0 hs2 hwlb ⊢
    clear hk b2 hlb hH b02 b1
    go_loopw [5] (fun i wr => ∃ (j : Nat) (D' : DataW Value), j ≤ len0 ∧ j ≤ 50 ∧ i = .int .i64 j ∧ Holds wr v1.heap.size (stoAt (newSto v1 10000) j (hist (numAt z0) j)) D' (.map []) ∧ wr.heap[lb]? = some (.cells (atCells (hist (numAt z0) j)) 41 (0, 0)) ∧ Below w.heap.size w wr) (fun i _ => 50 - (intOf i).toNat)
    case atStart => exact ⟨0, _, by omega, by omega, rfl, hH0, hblk0, b03⟩
    case round =>
      obtain ⟨j, D', hj, hj50, rfl, hH, hlast, hb⟩ := hrel
      clear hH0 hblk0 b03
      by_cases hlt : j < len0 ∧ j < 50
      · obtain ⟨hlt1, hlt2⟩ := hlt
        obtain ⟨hc, hz1, hz2⟩ := HC.out j hlt1
        have hcr := (hb.cell (p := ⟨b, off + j, none⟩) hbw).trans hc
        have hwi := fun x => within_any (z0.getD j 0) 1073741824 x (by omega) (by omega) hz1 hz2
        have hm0 : 0 ≤ z0.getD j 0 % 1073741824 := Int.emod_nonneg _ (by omega)
        have hm1 : z0.getD j 0 % 1073741824 < 1073741824 := Int.emod_lt_of_pos _ (by omega)
        have hwr := fun x => writes_int (z0.getD j 0 % 1073741824) hm0 (by omega) x
        have hnum : Hid ((z0.getD j 0 % 1073741824).toNat = numAt z0 j) := rfl
        generalize z0.getD j 0 % 1073741824 = m at *
        generalize z0.getD j 0 = z at *
        obtain ⟨hq1, hq2⟩ := tdiv_bounds hz1 hz2
        go_wp2_with fail
        refine (hwi _).mono ?_
        rintro e wr' ⟨rfl, rfl⟩
        go_wp2_with fail
        refine (hwr _).mono ?_
        rintro e w3 ⟨va, vb, rfl, ha, hb3, b3⟩
        have hH3 := hH.below b3
        have llb : lb < wr.heap.size := (Array.getElem?_eq_some_iff.1 hlast).1
        have hlast3 := (b3.block lb llb).trans hlast
        have hb03 := below_step hb b3
        have ha' : w3.ownsRow wr.heap.size 37 3 va (wn (numAt z0 j)).length (wcells (wn (numAt z0 j))) := by rw [← hnum.out]; exact ha
        have hlen3 := wn_length_le (numAt z0 j)
        have hlen1 : 1 ≤ (wn (numAt z0 j)).length := by simp [wn, wrs_length]
        have hwk := wn_key_size (m := numAt z0 j)
        have hmem := fun (u : Wr) (h : u ∈ wn (numAt z0 j)) => wn_mem h
        have hnext : Hid (hist (numAt z0) (j + 1) = hist (numAt z0) j ++ vers (wn (numAt z0 j)) (j + 1)) := rfl
        have hlL := hist_length_le (numAt z0) j
        generalize wn (numAt z0 j) = ws at *
        rcases wrIs_of_owns ha' with ⟨_, e⟩ | ⟨g, o', cap, hva, hcells⟩
        · rw [e] at hlen1; simp at hlen1
        obtain ⟨rfl, e0, ⟨cur, hg⟩⟩ : va = .slice (some ⟨g, 0, none⟩) ws.length cap ∧ o' = 0 ∧ ∃ cur, w3.heap[g]? = some (.cells cur 37 (0, 0)) := by
          rcases ha'.2 with ⟨e, _⟩ | ⟨g', cap', cur, e, _, hg, _⟩
          · rw [e] at hva; simp at hva
          · rw [e] at hva ⊢
            simp at hva
            obtain ⟨⟨rfl, rfl⟩, rfl⟩ := hva
            exact ⟨rfl, rfl, cur, hg⟩
        subst e0
        simp only [Nat.zero_add] at hcells
        have hglb : g ≠ lb := fun e => by rw [e, hlast3] at hg; simp at hg
        have HCW := Lib.hid hcells
        clear hwi hwr hb3 ha ha' hva hcells hH hlast hb
        go_wp2_with fail
        have hg3 : g < w3.heap.size := (Array.getElem?_eq_some_iff.1 hg).1
        have hws4 : WrIs w3 (.slice (some ⟨g, 0, none⟩) ws.length cap) ws := .inr ⟨g, 0, cap, rfl, fun i u hu => by
          simp only [Nat.zero_add]
          exact HCW.out i u hu⟩
        refine (commit_any hH3 hws4 hwk (by simp [stoAt, newSto]; omega) (by simp [stoAt]; omega)).mono ?_
        rintro e w5 ⟨he, ⟨D5, hH5⟩, t5⟩
        obtain rfl : e = .returned (.tuple #[.int .i64 ((j : Int) + 1), .int .i64 0]) := he
        try clear he
        have hlt3 := hH3.lts
        have hlb3 : lb < w3.heap.size := (Array.getElem?_eq_some_iff.1 hlast3).1
        have nlb : ¬ (lb = (stoAt (newSto v1 10000) j (hist (numAt z0) j)).sb ∨ lb = (stoAt (newSto v1 10000) j (hist (numAt z0) j)).kb) := by simp [stoAt, newSto]; omega
        have ng : ¬ (g = (stoAt (newSto v1 10000) j (hist (numAt z0) j)).sb ∨ g = (stoAt (newSto v1 10000) j (hist (numAt z0) j)).kb) := by
          obtain ⟨u, hu⟩ : ∃ u, ws[0]? = some u := ⟨ws[0], List.getElem?_eq_getElem (by omega)⟩
          have := WrIs.off hH3 (HCW.out 0 u hu).1
          simp only [not_or]
          exact this
        have hlast5 := (t5.block lb hlb3 nlb).trans hlast3
        have hg5 := t5.block g hg3 ng
        have b5 : Below w.heap.size w w5 := below_turn hb03 t5 (by rintro k (rfl | rfl) <;> simp [stoAt, newSto] <;> omega)
        have hH5' : Holds w5 v1.heap.size (stoAt (newSto v1 10000) (j + 1) (hist (numAt z0) j ++ vers ws (j + 1))) D5 (.map []) := hH5
        have hw53 : w3.heap.size ≤ w5.heap.size := t5.size
        clear hH3 hH5 hws4 t5 hlast3 hb03
        go_wp2_with fail
        go_loopw [10] (fun i wq => ∃ p : Nat, p ≤ ws.length ∧ i = .int .i64 p ∧ wq.heap[lb]? = some (.cells (atCells (hist (numAt z0) j ++ vers (ws.take p) (j + 1))) 41 (0, 0)) ∧ Turn (fun k => k = lb) w5 wq) (fun i _ => ws.length - (intOf i).toNat)
        case atStart => exact ⟨0, by omega, rfl, by simpa [vers] using hlast5, Turn.refl _ _⟩
        case round =>
          obtain ⟨p, hp, rfl, hlq, hTq⟩ := hrel
          by_cases hpl : p < ws.length
          · obtain ⟨u, hu⟩ : ∃ u, ws[p]? = some u := ⟨ws[p], List.getElem?_eq_getElem hpl⟩
            obtain ⟨q0, q1, _⟩ := HCW.out p u hu
            have hgq : wr.heap[g]? = w3.heap[g]? := (hTq.block g (by have := (Array.getElem?_eq_some_iff.1 (hg5.trans hg)).1; exact this) hglb).trans hg5
            have x0 := (World.cell?_of_block (a := ⟨g, p * 3, none⟩) hgq).trans q0
            have x1 := (World.cell?_of_block (a := ⟨g, p * 3 + 1, none⟩) hgq).trans q1
            have fl : ∀ o, wr.frozen? ⟨lb, o, none⟩ = false := fun o => by simp [World.frozen?, hlq]
            obtain ⟨c, hc5, hkc, _⟩ := hmem u (List.mem_of_getElem? hu)
            have hvt : hist (numAt z0) j ++ vers (ws.take (p + 1)) (j + 1) = (hist (numAt z0) j ++ vers (ws.take p) (j + 1)) ++ [u.ver (j + 1)] := by rw [vers_take_succ ws (j + 1) p u hu, List.append_assoc]
            have HV := Lib.hid hvt
            rw [hkc] at x0
            clear q0 q1 hgq hu hvt
            rcases (show c = 0 ∨ c = 1 ∨ c = 2 ∨ c = 3 ∨ c = 4 by omega) with rfl | rfl | rfl | rfl | rfl
            · change wr.cell? _ = some (.string ⟨#[97]⟩) at x0
              have hv : ((((⟨#[97]⟩ : ByteArray)[0]'(by decide)).toNat : Nat) : Int) = 97 := rfl
              have lc : wr.cell? ⟨lb, 0, none⟩ = some (.int .i64 (atOf (hist (numAt z0) j ++ vers (ws.take p) (j + 1)) 0)) := cell_of_row _ _ _ _ _ _ hlq
              go_wp2
              all_goals
                go_roundw
                case rel => exact ⟨p + 1, by omega, by go_num, by rw [HV.out, atCells_snoc _ _ _ 0 (by omega) hkc]; exact setCell_block _ _ _ _ _ _ _ hlq, (hTq.trans (Turn.of_setCell (S := fun k => k = lb) (p := ⟨lb, 0, none⟩) rfl (.int .i64 ((j : Int) + 1))))⟩
                case measure => simp [intOf]; omega
            · change wr.cell? _ = some (.string ⟨#[98]⟩) at x0
              have hv : ((((⟨#[98]⟩ : ByteArray)[0]'(by decide)).toNat : Nat) : Int) = 98 := rfl
              have lc : wr.cell? ⟨lb, 1, none⟩ = some (.int .i64 (atOf (hist (numAt z0) j ++ vers (ws.take p) (j + 1)) 1)) := cell_of_row _ _ _ _ _ _ hlq
              go_wp2
              all_goals
                go_roundw
                case rel => exact ⟨p + 1, by omega, by go_num, by rw [HV.out, atCells_snoc _ _ _ 1 (by omega) hkc]; exact setCell_block _ _ _ _ _ _ _ hlq, (hTq.trans (Turn.of_setCell (S := fun k => k = lb) (p := ⟨lb, 1, none⟩) rfl (.int .i64 ((j : Int) + 1))))⟩
                case measure => simp [intOf]; omega
            · change wr.cell? _ = some (.string ⟨#[99]⟩) at x0
              have hv : ((((⟨#[99]⟩ : ByteArray)[0]'(by decide)).toNat : Nat) : Int) = 99 := rfl
              have lc : wr.cell? ⟨lb, 2, none⟩ = some (.int .i64 (atOf (hist (numAt z0) j ++ vers (ws.take p) (j + 1)) 2)) := cell_of_row _ _ _ _ _ _ hlq
              go_wp2
              all_goals
                go_roundw
                case rel => exact ⟨p + 1, by omega, by go_num, by rw [HV.out, atCells_snoc _ _ _ 2 (by omega) hkc]; exact setCell_block _ _ _ _ _ _ _ hlq, (hTq.trans (Turn.of_setCell (S := fun k => k = lb) (p := ⟨lb, 2, none⟩) rfl (.int .i64 ((j : Int) + 1))))⟩
                case measure => simp [intOf]; omega
            · change wr.cell? _ = some (.string ⟨#[100]⟩) at x0
              have hv : ((((⟨#[100]⟩ : ByteArray)[0]'(by decide)).toNat : Nat) : Int) = 100 := rfl
              have lc : wr.cell? ⟨lb, 3, none⟩ = some (.int .i64 (atOf (hist (numAt z0) j ++ vers (ws.take p) (j + 1)) 3)) := cell_of_row _ _ _ _ _ _ hlq
              go_wp2
              all_goals
                go_roundw
                case rel => exact ⟨p + 1, by omega, by go_num, by rw [HV.out, atCells_snoc _ _ _ 3 (by omega) hkc]; exact setCell_block _ _ _ _ _ _ _ hlq, (hTq.trans (Turn.of_setCell (S := fun k => k = lb) (p := ⟨lb, 3, none⟩) rfl (.int .i64 ((j : Int) + 1))))⟩
                case measure => simp [intOf]; omega
            · change wr.cell? _ = some (.string ⟨#[101]⟩) at x0
              have hv : ((((⟨#[101]⟩ : ByteArray)[0]'(by decide)).toNat : Nat) : Int) = 101 := rfl
              have lc : wr.cell? ⟨lb, 4, none⟩ = some (.int .i64 (atOf (hist (numAt z0) j ++ vers (ws.take p) (j + 1)) 4)) := cell_of_row _ _ _ _ _ _ hlq
              go_wp2
              all_goals
                go_roundw
                case rel => exact ⟨p + 1, by omega, by go_num, by rw [HV.out, atCells_snoc _ _ _ 4 (by omega) hkc]; exact setCell_block _ _ _ _ _ _ _ hlq, (hTq.trans (Turn.of_setCell (S := fun k => k = lb) (p := ⟨lb, 4, none⟩) rfl (.int .i64 ((j : Int) + 1))))⟩
                case measure => simp [intOf]; omega
          · obtain rfl : p = ws.length := by omega
            rw [List.take_length, ← hnext.out] at hlq
            have hHq := hH5'.beside hlast5 (by decide) (by decide) hTq
            rw [← hnext.out] at hHq
            have bq : Below w.heap.size w wr := b5.trans (hTq.to_below b5.size (by rintro k rfl; omega))
            clear hTq hlast5 hg5 hg hglb hH5' b5
            go_wp2_with fail
            go_loopw [11] (fun i wr => ∃ k : Nat, k ≤ 5 ∧ i = .int .i64 k ∧ Holds wr v1.heap.size (stoAt (newSto v1 10000) (j + 1) (hist (numAt z0) (j + 1))) D5 (.map []) ∧ wr.heap[lb]? = some (.cells (atCells (hist (numAt z0) (j + 1))) 41 (0, 0)) ∧ Below w.heap.size w wr) (fun i _ => 5 - (intOf i).toNat)
            case atStart => exact ⟨0, by omega, rfl, hHq, hlq, bq⟩
            case round =>
              clear hHq hlq bq
              obtain ⟨k, hk5, rfl, hHq, hlq, bq⟩ := hrel
              by_cases hk : k < 5
              · have k1 : wr.cell? ⟨lb, k, none⟩ = some (.int .i64 (atOf (hist (numAt z0) (j + 1)) k)) := (cell_of_row _ _ _ _ _ _ hlq).trans (atCells_get _ k hk)
                have hcz : wr.cell? ⟨b, off + j, none⟩ = some (.int .i64 z) := (bq.cell (p := ⟨b, off + j, none⟩) hbw).trans hc
                have HZ := fun x => within_any (z.tdiv 7) ((j : Int) + 2) x (by omega) (by omega) hq1 hq2
                go_wp2_with fail
                refine (HZ _).mono ?_
                rintro e wr' ⟨rfl, rfl⟩
                go_wp2_with fail
                have hs0 : 0 ≤ z.tdiv 7 % ((j : Int) + 2) := Int.emod_nonneg _ (by omega)
                have hch2 : Calls Try.prog 22 #[.pointer (some ⟨v1.heap.size + 2, 0, none⟩), .string (letter k), .int .i64 (z.tdiv 7 % ((j : Int) + 2))] wr.drew (RetB (decide (z.tdiv 7 % ((j : Int) + 2) < (atOf (hist (numAt z0) (j + 1)) k : Int))) wr.drew) := changed_as hHq.drew (letter k) (letter_size k) _ _ (changed_at _ k _ hs0)
                clear HZ
                generalize z.tdiv 7 % ((j : Int) + 2) = since at *
                have kt : ((k : Int) + 1).toNat = k + 1 := by omega
                have kb : (k : Int) + 1 ≤ 5 := by omega
                have kc : (0 : Int) ≤ (k : Int) := by omega
                have kd : (k : Int) ≤ (k : Int) + 1 := by omega
                have ke : (k : Int) < 5 := by omega
                have kk : IntKind.i64.wrap ((k : Int) + 1) = (k : Int) + 1 := IntWalk.i64_in _ (by omega)
                go_region_held3 (fun w' => w'.cell? ⟨lb, k, none⟩ = some (.int .i64 (atOf (hist (numAt z0) (j + 1)) k))) (first | go_keep | fail) (first | (go_at_call 22; refine hch2.mono ?_; rintro e w' ⟨rfl, rfl⟩) | fail)
                clear kk hch2 kt kb kc kd ke
                go_wp2_with fail
                go_roundw
                case rel => exact ⟨k + 1, by omega, by go_num, hHq.drew, hlq, ⟨bq.os, bq.tape, bq.output, bq.size, bq.block⟩⟩
                case measure => simp [intOf]; omega
              · obtain rfl : k = 5 := by omega
                go_wp2_with fail
                go_roundw
                case rel => exact ⟨j + 1, D5, by omega, by omega, by go_num, hHq, hlq, bq⟩
                case measure => simp [intOf]; omega
      · by_cases h1 : j < len0
        · have h2 : ¬ j < 50 := by omega
          go_wp2_with fail
          go_ret
          exact ⟨rfl, hb⟩
        · go_wp2_with fail
          go_ret
          exact ⟨rfl, hb⟩

/-! ### THE ROW's STEP: WRITTEN OUT: LEAVE IT -/
set_option maxRecDepth 100000 in
theorem lifted (os : Os) (started : os.Started) (H : Type) (enc : TypeId × Value → H) :
    ReturnsInHanded {} Try.checked os 4 .any (Rows.storeChangedSpec.pre6 enc Try.prog Try.f4 Rows.storeChangedRow.domain false) (Rows.storeChangedSpec.post enc Try.prog Try.f4 false true false false) := by
  refine returnsInHanded_of_change (C := Try.checked) own started (by kernel_rfl) Try.func4
    (ChangeSpec.witness6 (enc := enc) (C := Try.checked) false ⟨#[], #[.slice none 0 0], []⟩ 8 (by kernel_rfl) (by kernel_rfl) (by kernel_rfl) (by kernel_rfl)) ?_
  intro W base args ds gs before hval0 hW hcnd _
  have hval : ∀ (j : Nat) t v, Try.f4.params[j]? = some t → args[j]? = some v → Value.okWide Try.prog W .any base t v := hval0
  have hW' := hW
  obtain ⟨p, q, hA0, hV, rfl, hfz, hnd⟩ := hW
  have hA : DataW.TrodAll enc Try.prog W 0 (fun _ => true) true Try.f4.params.toList args.toList ds p := hA0
  rw [Try.params4] at hA hval
  obtain ⟨v0, vs0, d0, ds0, p0, q0, hargs, rfl, rfl, h0, r0⟩ := trodAll_cons hA
  obtain ⟨rfl, rfl, rfl⟩ := trodAll_nil r0
  obtain rfl : args = #[v0] := by cases args; simp_all
  obtain ⟨rfl, rfl⟩ := trodVars_none hV
  obtain ⟨a0, len0, cap0, rfl⟩ := okWide_slice Try.underlying22 (hval 0 22 v0 rfl rfl)
  have k0 := h0
  have lt0 : ∀ x ∈ p0, x.block < W.heap.size := by obtain ⟨m, hm⟩ := k0; exact DataW.trod_lt m _ _ _ hm
  obtain ⟨z0, w0⟩ : ∃ zs, IsRow .i64 W a0 len0 cap0 zs := by
    obtain ⟨fuel, hf⟩ := h0
    rcases open_ints Try.underlying22 Try.underlying3 (by kernel_rfl) hf with ⟨hcs, _⟩ | ⟨x, l, c, zs, hcs, _, hl, hm, hz, _, hcell, hwz⟩
    · simp [Value.cells] at hcs
      obtain ⟨rfl, rfl, rfl⟩ := hcs
      exact ⟨[], .inl ⟨rfl, rfl, rfl, rfl⟩⟩
    · simp [Value.cells] at hcs
      obtain ⟨rfl, rfl, rfl⟩ := hcs
      exact ⟨zs, .inr ⟨_, rfl, hl, hm, by simpa using hz, hcell, hwz⟩⟩
  clear hA0 hval0
  refine (walk a0 len0 cap0 z0 W w0).mono fun e W' ⟨he, bel⟩ => ?_
  subst he
  exact ⟨_, rfl, _, _, _, [], _, [], hW', trodAll_mk1 (shut_bool Try.underlying4 _), (trodAll_cons_mk (Below.trod laidOut (by kernel_rfl) (of_decide_eq_true (by kernel_rfl)) k0 bel lt0) trodAll_mk0), rfl, bel.frame _, fun h => by cases h⟩

theorem over : Rows.storeChangedRow.holds Try.pinned (OpenSpec.ofChange Rows.storeChangedSpec) :=
  OpenClaim.holds_of_wide 4 Try.f4 rfl rfl rfl rfl rfl rfl rfl ⟨rfl, rfl, rfl, rfl, rfl⟩ rfl rfl rfl rfl rfl (by kernel_rfl) Try.func4 (by kernel_rfl)
    (of_decide_eq_true (by kernel_rfl)) (by unfold Func.isWrapper; first | (rw [if_pos (by decide +kernel)]; kernel_rfl) | (rw [if_neg (by decide +kernel)]; exact ⟨rfl, rfl⟩))
    (fun os started H enc _ => lifted os started H enc)

/-- ████ THE STATEMENT ████ -/
theorem proved : Rows.StoreChangedSaid := over
#print axioms proved
end Go.Proofs.Ytghddmlndafefaa.storeChanged
