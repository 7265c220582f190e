/-
  StoreCleans: the claim.
-/
import Derived.Test.YtghddmlndafefaaRows
import Derived.WalkKit
import Derived.ProofKit
import Derived.OpenShut
import Derived.ShutString
import Derived.ChangeOld
import Derived.Below
import Derived.Test.YtghddmlndafefaaStQ
import Derived.Deep.RegionHeld3
namespace Go.Proofs.Ytghddmlndafefaa.storeCleans
open Go.ChangeShapes Go.WideShapes Go.ChangeAt Go.RowKit
open Go.ChangeMaps (open_string shut_string)
open Go.Maps
set_option linter.unusedVariables false

theorem own : ownKnob Try.prog.godebug = none := by kernel_rfl
theorem laidOut : laidOutB Try.prog = true := by kernel_rfl

/-- WHAT THE WALK IS TOLD OF A SLICE OF INTEGERS THAT CAME IN: it is nil; or it leads to a row of 'cap' cells, the numbers 'zs' (the first 'len' are its elements, the rest its spare room), each fitting its kind. -/
def IsRow (k : IntKind) (w : World) (a : Option Addr) (len cap : Nat) (zs : List Int) : Prop :=
  (a = none ∧ len = 0 ∧ cap = 0 ∧ zs = []) ∨
  ∃ x, a = some x ∧ len ≤ cap ∧ cap ≤ maxLen ∧ zs.length = cap ∧ (∀ i, i < zs.length → w.cell? (x.add i) = some (.int k (zs.getD i 0))) ∧ ∀ n ∈ zs, (Lit.int k n).wf = true

theorem wantOf_le (L : List Ver) : ∀ k, wantOf L k ≤ k
  | 0 => Nat.le_refl _
  | k + 1 => by
    have := wantOf_le L k
    have : isIn L k ≤ 1 := by unfold isIn; split <;> omega
    simp only [wantOf]; omega

set_option maxRecDepth 100000 in
set_option maxHeartbeats 3200000 in
theorem walk (a0 : Option Addr) (len0 cap0 : Nat) (z0 : List Int) (a1 : Int) (w : World) (w0 : IsRow .i64 w a0 len0 cap0 z0) (w1 : (Lit.int .i64 a1).wf = true) :
    Calls Try.prog 13 #[.slice a0 len0 cap0, .int .i64 a1] w fun e w' => e = .returned (.bool true) ∧ Below w.heap.size w w' := by
  have hk := known_any w
  obtain ⟨hr1, hr2⟩ := wf_bounds w1
  have HO := Lib.hid (row_open w0)
  clear w0 w1
  go_enter Try.func13, Try.ntmps13
  go_wp2_with fail
  refine hk.mono ?_
  rintro e v1 ⟨rfl, b1⟩
  go_wp2_with fail
  refine (new_any 10000 v1 (by omega)).mono ?_
  rintro e v2 ⟨rfl, hH, b2, -⟩
  have b02 := below_step b1 b2
  have hs2 : v1.heap.size + 2 < v2.heap.size := hH.lts.1
  go_wp2_with fail
  obtain ⟨lb, hlb⟩ : ∃ lb, lb = v2.heap.size := ⟨_, rfl⟩
  have hblk0 := heap_alloc_new v2 (.cells #[.string ⟨#[]⟩, .string ⟨#[]⟩, .string ⟨#[]⟩, .string ⟨#[]⟩, .string ⟨#[]⟩] 26)
  have hH0 : Holds (v2.alloc (.cells #[.string ⟨#[]⟩, .string ⟨#[]⟩, .string ⟨#[]⟩, .string ⟨#[]⟩, .string ⟨#[]⟩] 26)) v1.heap.size (stoP (newSto v1 10000) 0 (hist (numAt z0) 0) []) (.map []) (.map []) := hH.below ((Below.refl v2.heap.size v2).alloc (Nat.le_refl _) (.cells #[.string ⟨#[]⟩, .string ⟨#[]⟩, .string ⟨#[]⟩, .string ⟨#[]⟩, .string ⟨#[]⟩] 26))
  have b03 := b02.alloc b02.size (.cells #[.string ⟨#[]⟩, .string ⟨#[]⟩, .string ⟨#[]⟩, .string ⟨#[]⟩, .string ⟨#[]⟩] 26)
  have hb1 := b1.size
  have hwlb : w.heap.size ≤ v2.heap.size := b02.size
  rw [← hlb] at hblk0 hs2 hwlb ⊢
  clear hk b2 hlb hH b02 b1
  go_loopw [7] (fun i wr => ∃ (j : Nat) (D' PD : DataW Value), j ≤ 40 ∧ i = .int .i64 j ∧ Holds wr v1.heap.size (stoP (newSto v1 10000) j (hist (numAt z0) j) []) D' PD ∧ wr.heap[lb]? = some (.cells (lastCells (hist (numAt z0) j)) 26 (0, 0)) ∧ Below w.heap.size w wr) (fun i _ => 40 - (intOf i).toNat)
  case atStart => exact ⟨0, _, _, by omega, rfl, hH0, hblk0, b03⟩
  case round =>
    obtain ⟨j, D', PD, hj40, rfl, hH, hlast, hb⟩ := hrel
    clear hH0 hblk0 b03
    by_cases hlt : j < len0 ∧ j < 40
    · obtain ⟨hlt1, hlt2⟩ := hlt
      obtain ⟨b, off, rfl, hm, hbw, hcell⟩ := HO.out.resolve_left (by omega)
      unfold maxLen at hm
      obtain ⟨hc, hz1, hz2⟩ := hcell j hlt1
      clear hcell
      have hcr := (hb.cell (p := ⟨b, off + j, none⟩) hbw).trans hc
      have hwi := fun x => within_any (z0.getD j 0) 1073741824 x (by omega) (by omega) hz1 hz2
      have hwr := writes_row (z0.getD j 0)
      have hnum : (z0.getD j 0 % 1073741824).toNat = numAt z0 j := rfl
      rw [hnum] at hwr
      clear hnum
      generalize z0.getD j 0 % 1073741824 = m at *
      generalize z0.getD j 0 = z at *
      clear hc
      go_wp2_with fail
      refine (hwi _).mono ?_
      rintro e wr' ⟨rfl, rfl⟩
      go_wp2_with fail
      refine (hwr _).mono ?_
      rintro e w3 ⟨g, cap, vb, rfl, hgl, ⟨cur, hg⟩, hws, hcells, b3⟩
      have hH3 := hH.below b3
      have llb : lb < wr.heap.size := (Array.getElem?_eq_some_iff.1 hlast).1
      have hlast3 := (b3.block lb llb).trans hlast
      have hb03 := below_step hb b3
      have hlen3 := wn_length_le (numAt z0 j)
      have hlen1 := wn_pos (numAt z0 j)
      have hwk := wn_key_size (m := numAt z0 j)
      have hmem := fun (u : Wr) (h : u ∈ wn (numAt z0 j)) => wn_mem h
      have hnext : Hid (hist (numAt z0) (j + 1) = hist (numAt z0) j ++ vers (wn (numAt z0 j)) (j + 1)) := rfl
      have hlL := hist_length_le (numAt z0) j
      generalize wn (numAt z0 j) = ws at *
      have hglb : g ≠ lb := fun e => by omega
      have HCW := Lib.hid hcells
      clear hwi hwr hcr hcells b3 hH hlast hb
      go_wp2_with fail
      refine (commit_any hH3 hws hwk (by show (hist (numAt z0) j).length + ws.length ≤ 10000; omega) (by show j ≤ 1000000; omega)).mono ?_
      rintro e w5 ⟨he, ⟨D5, hH5⟩, t5⟩
      obtain rfl : e = .returned (.tuple #[.int .i64 ((j : Int) + 1), .int .i64 0]) := he
      have hg3 : g < w3.heap.size := (Array.getElem?_eq_some_iff.1 hg).1
      have hlt3 := hH3.lts
      have hlb3 : lb < w3.heap.size := (Array.getElem?_eq_some_iff.1 hlast3).1
      have nlb : ¬ (lb = (stoP (newSto v1 10000) j (hist (numAt z0) j) []).sb ∨ lb = (stoP (newSto v1 10000) j (hist (numAt z0) j) []).kb) := by simp [stoP, newSto]; omega
      have ng : ¬ (g = (stoP (newSto v1 10000) j (hist (numAt z0) j) []).sb ∨ g = (stoP (newSto v1 10000) j (hist (numAt z0) j) []).kb) := by simp [stoP, newSto]; omega
      have hlast5 := (t5.block lb hlb3 nlb).trans hlast3
      have hg5 := t5.block g hg3 ng
      have b5 : Below w.heap.size w w5 := below_turn hb03 t5 (by rintro k (rfl | rfl) <;> simp [stoP, newSto] <;> omega)
      have hH5' : Holds w5 v1.heap.size (stoP (newSto v1 10000) (j + 1) (hist (numAt z0) j ++ vers ws (j + 1)) []) D5 PD := hH5
      clear hH3 hH5 hws t5 hlast3 hb03 nlb ng
      go_wp2_with fail
      go_loopw [10] (fun i wq => ∃ p : Nat, p ≤ ws.length ∧ i = .int .i64 p ∧ wq.heap[lb]? = some (.cells (lastCells (hist (numAt z0) j ++ vers (ws.take p) (j + 1))) 26 (0, 0)) ∧ Turn (fun k => k = lb) w5 wq) (fun i _ => ws.length - (intOf i).toNat)
      case atStart => exact ⟨0, by omega, rfl, by simpa [vers] using hlast5, Turn.refl _ _⟩
      case round =>
        obtain ⟨p, hp, rfl, hlq, hTq⟩ := hrel
        by_cases hpl : p < ws.length
        · obtain ⟨u, hu⟩ : ∃ u, ws[p]? = some u := ⟨ws[p], List.getElem?_eq_getElem hpl⟩
          obtain ⟨q0, q1, _⟩ := HCW.out p u hu
          have hgq : wr.heap[g]? = w3.heap[g]? := (hTq.block g (by have := (Array.getElem?_eq_some_iff.1 (hg5.trans hg)).1; exact this) hglb).trans hg5
          have x0 := (World.cell?_of_block (a := ⟨g, p * 3, none⟩) hgq).trans q0
          have x1 := (World.cell?_of_block (a := ⟨g, p * 3 + 1, none⟩) hgq).trans q1
          have fl : ∀ o, wr.frozen? ⟨lb, o, none⟩ = false := fun o => by simp [World.frozen?, hlq]
          obtain ⟨c, hc5, hkc, _⟩ := hmem u (List.mem_of_getElem? hu)
          have hvt : hist (numAt z0) j ++ vers (ws.take (p + 1)) (j + 1) = (hist (numAt z0) j ++ vers (ws.take p) (j + 1)) ++ [u.ver (j + 1)] := by rw [vers_take_succ ws (j + 1) p u hu, List.append_assoc]
          have HV := Lib.hid hvt
          rw [hkc] at x0
          clear q0 q1 hgq hu hvt
          rcases (show c = 0 ∨ c = 1 ∨ c = 2 ∨ c = 3 ∨ c = 4 by omega) with rfl | rfl | rfl | rfl | rfl
          · change wr.cell? _ = some (.string ⟨#[97]⟩) at x0
            have hv : ((((⟨#[97]⟩ : ByteArray)[0]'(by decide)).toNat : Nat) : Int) = 97 := rfl
            have lc : wr.cell? ⟨lb, 0, none⟩ = some (.string (lastOf (hist (numAt z0) j ++ vers (ws.take p) (j + 1)) 0)) := cell_of_row _ _ _ _ _ _ hlq
            go_wp2
            go_region
            all_goals
              go_wp2
              go_roundw
              case rel => exact ⟨p + 1, by omega, by go_num, by rw [HV.out, lastCells_snoc _ _ _ 0 (by omega) hkc]; exact setCell_block _ _ _ _ _ _ _ hlq, (hTq.trans (Turn.of_setCell (S := fun k => k = lb) (p := ⟨lb, 0, none⟩) rfl (.string u.val))).drew⟩
              case measure => simp [intOf]; omega
          · change wr.cell? _ = some (.string ⟨#[98]⟩) at x0
            have hv : ((((⟨#[98]⟩ : ByteArray)[0]'(by decide)).toNat : Nat) : Int) = 98 := rfl
            have lc : wr.cell? ⟨lb, 1, none⟩ = some (.string (lastOf (hist (numAt z0) j ++ vers (ws.take p) (j + 1)) 1)) := cell_of_row _ _ _ _ _ _ hlq
            go_wp2
            go_region
            all_goals
              go_wp2
              go_roundw
              case rel => exact ⟨p + 1, by omega, by go_num, by rw [HV.out, lastCells_snoc _ _ _ 1 (by omega) hkc]; exact setCell_block _ _ _ _ _ _ _ hlq, (hTq.trans (Turn.of_setCell (S := fun k => k = lb) (p := ⟨lb, 1, none⟩) rfl (.string u.val))).drew⟩
              case measure => simp [intOf]; omega
          · change wr.cell? _ = some (.string ⟨#[99]⟩) at x0
            have hv : ((((⟨#[99]⟩ : ByteArray)[0]'(by decide)).toNat : Nat) : Int) = 99 := rfl
            have lc : wr.cell? ⟨lb, 2, none⟩ = some (.string (lastOf (hist (numAt z0) j ++ vers (ws.take p) (j + 1)) 2)) := cell_of_row _ _ _ _ _ _ hlq
            go_wp2
            go_region
            all_goals
              go_wp2
              go_roundw
              case rel => exact ⟨p + 1, by omega, by go_num, by rw [HV.out, lastCells_snoc _ _ _ 2 (by omega) hkc]; exact setCell_block _ _ _ _ _ _ _ hlq, (hTq.trans (Turn.of_setCell (S := fun k => k = lb) (p := ⟨lb, 2, none⟩) rfl (.string u.val))).drew⟩
              case measure => simp [intOf]; omega
          · change wr.cell? _ = some (.string ⟨#[100]⟩) at x0
            have hv : ((((⟨#[100]⟩ : ByteArray)[0]'(by decide)).toNat : Nat) : Int) = 100 := rfl
            have lc : wr.cell? ⟨lb, 3, none⟩ = some (.string (lastOf (hist (numAt z0) j ++ vers (ws.take p) (j + 1)) 3)) := cell_of_row _ _ _ _ _ _ hlq
            go_wp2
            go_region
            all_goals
              go_wp2
              go_roundw
              case rel => exact ⟨p + 1, by omega, by go_num, by rw [HV.out, lastCells_snoc _ _ _ 3 (by omega) hkc]; exact setCell_block _ _ _ _ _ _ _ hlq, (hTq.trans (Turn.of_setCell (S := fun k => k = lb) (p := ⟨lb, 3, none⟩) rfl (.string u.val))).drew⟩
              case measure => simp [intOf]; omega
          · change wr.cell? _ = some (.string ⟨#[101]⟩) at x0
            have hv : ((((⟨#[101]⟩ : ByteArray)[0]'(by decide)).toNat : Nat) : Int) = 101 := rfl
            have lc : wr.cell? ⟨lb, 4, none⟩ = some (.string (lastOf (hist (numAt z0) j ++ vers (ws.take p) (j + 1)) 4)) := cell_of_row _ _ _ _ _ _ hlq
            go_wp2
            go_region
            all_goals
              go_wp2
              go_roundw
              case rel => exact ⟨p + 1, by omega, by go_num, by rw [HV.out, lastCells_snoc _ _ _ 4 (by omega) hkc]; exact setCell_block _ _ _ _ _ _ _ hlq, (hTq.trans (Turn.of_setCell (S := fun k => k = lb) (p := ⟨lb, 4, none⟩) rfl (.string u.val))).drew⟩
              case measure => simp [intOf]; omega
        · obtain rfl : p = ws.length := by omega
          rw [List.take_length, ← hnext.out] at hlq
          have hHq := hH5'.beside hlast5 (by decide) (by decide) hTq
          rw [← hnext.out] at hHq
          have bq : Below w.heap.size w wr := b5.trans (hTq.to_below b5.size (by rintro k rfl; omega))
          clear hTq hlast5 hg5 hg hglb hH5' b5
          go_wp2_with fail
          refine (pin_any hHq (by show j + 1 ≤ 1000000; omega) (by show 0 ≤ 1000000; omega)).mono ?_
          rintro e w6 ⟨he, ⟨PD6, h6⟩, t6⟩
          obtain rfl : e = .returned (.int .i64 ((j + 1 : Nat) : Int)) := he
          have hH6 : Holds w6 v1.heap.size (stoP (newSto v1 10000) (j + 1) (hist (numAt z0) (j + 1)) [j + 1]) D5 PD6 := h6
          have hl6 := (t6.block lb (Array.getElem?_eq_some_iff.1 hlq).1 (by simp [stoP, newSto]; omega)).trans hlq
          have b6 : Below w.heap.size w w6 := below_turn bq t6 (by rintro k rfl; simp [stoP, newSto]; omega)
          clear hHq bq t6 h6 hlq
          go_wp2_with fail
          refine (unpin_any hH6 ((j + 1 : Nat) : Int) (by omega) (by omega) (by show 1 ≤ 1000000; omega)).mono ?_
          rintro e w7 ⟨rfl, ⟨PD7, h7⟩, t7⟩
          have hH7 : Holds w7 v1.heap.size (stoP (newSto v1 10000) (j + 1) (hist (numAt z0) (j + 1)) []) D5 PD7 := by
            have e : unpin [j + 1] ((j + 1 : Nat) : Int) = [] := by simp [unpin]
            rw [← e]; exact h7
          have hl7 := (t7.block lb (Array.getElem?_eq_some_iff.1 hl6).1 (by simp [stoP, newSto]; omega)).trans hl6
          have b7 : Below w.heap.size w w7 := below_turn b6 t7 (by rintro k rfl; simp [stoP, newSto]; omega)
          clear hH6 b6 t7 h7 hl6
          go_wp2_with fail
          go_roundw
          case rel => exact ⟨j + 1, D5, PD7, by omega, by go_num, hH7, hl7, b7⟩
          case measure => simp [intOf]; omega
    · have hS := hist_sorted (numAt z0) j
      have hat := hist_at (numAt z0) j
      have hlet := hist_letter (numAt z0) j
      have hgo := hist_gone (numAt z0) j
      have hlL := hist_length_le (numAt z0) j
      generalize hist (numAt z0) j = L at *
      by_cases h1 : j < len0
      · have h2 : ¬ j < 40 := by omega
        go_wp2_with fail
        refine (unpin_any hH a1 hr1 hr2 (by show 0 ≤ 1000000; omega)).mono ?_
        rintro e w7 ⟨rfl, ⟨PD7, h7⟩, t7⟩
        have hH7 : Holds w7 v1.heap.size (stoP (newSto v1 10000) j L []) D' PD7 := h7
        have hl7 := (t7.block lb (Array.getElem?_eq_some_iff.1 hlast).1 (by simp [stoP, newSto]; omega)).trans hlast
        have b7 : Below w.heap.size w w7 := below_turn hb t7 (by rintro k rfl; simp [stoP, newSto]; omega)
        clear hH hb t7 h7 hlast
        go_wp2_with fail
        refine (count_as hH7 (L.length : Int) rfl).mono ?_
        rintro e w8 ⟨rfl, b8⟩
        have hH8 := hH7.below b8
        have hb8 := below_step b7 b8
        have hl8 := (b8.block lb (Array.getElem?_eq_some_iff.1 hl7).1).trans hl7
        clear hH7 b7 b8 hl7
        go_wp2_with fail
        refine (now_as hH8 (j : Int) rfl).mono ?_
        rintro e w8' ⟨rfl, rfl⟩
        go_wp2_with fail
        have HH1 : Hid (∀ k, k < 5 → w8.cell? ⟨lb, k, none⟩ = some (.string (lastOf L k))) := fun k hk => (cell_of_row _ _ _ _ _ _ hl8).trans (lastCells_get _ k hk)
        have hwant := clean_want hS hat hlet hgo
        have hcl2 := clean_twice hS hat hlet
        have hcll := clean_length j L
        have hrd := Lib.hid (read_clean hS hat hgo)
        have hwle : ∀ k, k ≤ 5 → wantOf L k ≤ 5 := fun k hk => Nat.le_trans (wantOf_le L k) hk
        go_loop [13, 14] (fun a i => ∃ k : Nat, k ≤ 5 ∧ i = .int .i64 k ∧ a = .int .i64 (wantOf L k)) (fun _ i => 5 - (intOf i).toNat)
        case atStart => exact ⟨0, by omega, rfl, rfl⟩
        case round =>
          obtain ⟨k, hk5, rfl, rfl⟩ := hrel
          by_cases hk : k < 5
          · have k1 := HH1.out k hk
            have hw1 := hwle k (by omega)
            by_cases he : lastOf L k = ⟨#[]⟩
            · rw [he] at k1
              go_wp2_with fail
              go_round
              case rel => exact ⟨k + 1, by omega, by go_num, by simp [wantOf, isIn, he]⟩
              case measure => simp [intOf]; omega
            · have he2 : ¬ (lastOf L k).toList = [] := fun e => he (ByteArray.ext (by rw [Go.ByteArray.toList_eq] at e; simpa using e))
              have he3 : (lastOf L k).toList.isEmpty = false := by simp [he2]
              go_wp2_with fail
              go_round
              case rel => exact ⟨k + 1, by omega, by go_num, by simp [wantOf, isIn, he]⟩
              case measure => simp [intOf]; omega
          · obtain rfl : k = 5 := by omega
            go_wp2_with fail
            refine (clean_any hH8 hS (by show j ≤ 1000000; omega) (by intro p hp; simp [stoP] at hp)).mono ?_
            rintro e w9 ⟨he, ⟨D9, h9⟩, t9⟩
            obtain rfl : e = .returned (.int .i64 ((L.length - (cleanL j L).length : Nat) : Int)) := he
            have hH9 : Holds w9 v1.heap.size (stoP (newSto v1 10000) j (cleanL j L) []) D9 PD7 := h9
            have b9 : Below w.heap.size w w9 := below_turn hb8 t9 (by rintro k rfl; simp [stoP, newSto]; omega)
            have hl9 := (t9.block lb (Array.getElem?_eq_some_iff.1 hl8).1 (by simp [stoP, newSto]; omega)).trans hl8
            have HH2 : Hid (∀ k, k < 5 → w9.cell? ⟨lb, k, none⟩ = some (.string (lastOf L k))) := fun k hk => (cell_of_row _ _ _ _ _ _ hl9).trans (lastCells_get _ k hk)
            have hS9 := sorted_clean hS j
            clear HH1 t9 h9 hH8 hb8 hl8 hl9 hS hat hlet hgo
            generalize cleanL j L = L9 at *
            go_wp2_with fail
            go_loop [16] (fun i => ∃ k : Nat, k ≤ 5 ∧ i = .int .i64 k) (fun i => 5 - (intOf i).toNat)
            case atStart => exact ⟨0, by omega, rfl⟩
            case round =>
              obtain ⟨k, hk5, rfl⟩ := hrel
              by_cases hk : k < 5
              · have k1 := HH2.out k hk
                have r1 := hrd.out k
                go_wp2_with fail
                refine (read_as hH9 (letter k) (letter_size k) (j : Int) _ _ r1).mono ?_
                rintro e wr' ⟨rfl, rfl⟩
                clear r1
                by_cases he : lastOf L k = ⟨#[]⟩
                · rw [he] at k1 ⊢
                  go_wp2_with fail
                  go_round
                  case rel => exact ⟨k + 1, by omega, by go_num⟩
                  case measure => simp [intOf]; omega
                · have he2 : ¬ (lastOf L k).toList = [] := fun e => he (ByteArray.ext (by rw [Go.ByteArray.toList_eq] at e; simpa using e))
                  have he3 : (lastOf L k).toList.isEmpty = false := by simp [he2]
                  go_wp2_with fail
                  go_round
                  case rel => exact ⟨k + 1, by omega, by go_num⟩
                  case measure => simp [intOf]; omega
              · obtain rfl : k = 5 := by omega
                have hw5 : IntKind.i64.wrap ((L.length : Int) - (wantOf L 5 : Int)) = ((L.length - L9.length : Nat) : Int) := by rw [IntWalk.i64_in _ (by omega)]; omega
                go_wp2_with fail
                refine (count_as hH9 (wantOf L 5 : Int) (by show (L9.length : Int) = _; omega)).mono ?_
                rintro e w10 ⟨rfl, b10⟩
                have hH10 := hH9.below b10
                have hb10 := below_step b9 b10
                clear hH9 b9 b10 HH2
                go_wp2_with fail
                refine (clean_any hH10 hS9 (by show j ≤ 1000000; omega) (by intro p hp; simp [stoP] at hp)).mono ?_
                rintro e w11 ⟨he, ⟨D11, h11⟩, t11⟩
                obtain rfl : e = .returned (.int .i64 0) := by
                  rw [he]
                  have : ((stoP (newSto v1 10000) j L9 []).L.length - (cleanL (leastOf (stoP (newSto v1 10000) j L9 []).pins (stoP (newSto v1 10000) j L9 []).now) (stoP (newSto v1 10000) j L9 []).L).length : Nat) = 0 := by
                    show L9.length - (cleanL j L9).length = 0
                    omega
                  rw [this]; rfl
                have hH11 : Holds w11 v1.heap.size (stoP (newSto v1 10000) j (cleanL j L9) []) D11 PD7 := h11
                have b11 : Below w.heap.size w w11 := below_turn hb10 t11 (by rintro k rfl; simp [stoP, newSto]; omega)
                clear h11 t11 hH10 hb10
                go_wp2_with fail
                refine (now_as hH11 (j : Int) rfl).mono ?_
                rintro e w12 ⟨rfl, rfl⟩
                go_wp2_with fail
                go_ret
                exact ⟨rfl, b11⟩
      · go_wp2_with fail
        refine (unpin_any hH a1 hr1 hr2 (by show 0 ≤ 1000000; omega)).mono ?_
        rintro e w7 ⟨rfl, ⟨PD7, h7⟩, t7⟩
        have hH7 : Holds w7 v1.heap.size (stoP (newSto v1 10000) j L []) D' PD7 := h7
        have hl7 := (t7.block lb (Array.getElem?_eq_some_iff.1 hlast).1 (by simp [stoP, newSto]; omega)).trans hlast
        have b7 : Below w.heap.size w w7 := below_turn hb t7 (by rintro k rfl; simp [stoP, newSto]; omega)
        clear hH hb t7 h7 hlast
        go_wp2_with fail
        refine (count_as hH7 (L.length : Int) rfl).mono ?_
        rintro e w8 ⟨rfl, b8⟩
        have hH8 := hH7.below b8
        have hb8 := below_step b7 b8
        have hl8 := (b8.block lb (Array.getElem?_eq_some_iff.1 hl7).1).trans hl7
        clear hH7 b7 b8 hl7
        go_wp2_with fail
        refine (now_as hH8 (j : Int) rfl).mono ?_
        rintro e w8' ⟨rfl, rfl⟩
        go_wp2_with fail
        have HH1 : Hid (∀ k, k < 5 → w8.cell? ⟨lb, k, none⟩ = some (.string (lastOf L k))) := fun k hk => (cell_of_row _ _ _ _ _ _ hl8).trans (lastCells_get _ k hk)
        have hwant := clean_want hS hat hlet hgo
        have hcl2 := clean_twice hS hat hlet
        have hcll := clean_length j L
        have hrd := Lib.hid (read_clean hS hat hgo)
        have hwle : ∀ k, k ≤ 5 → wantOf L k ≤ 5 := fun k hk => Nat.le_trans (wantOf_le L k) hk
        go_loop [13, 14] (fun a i => ∃ k : Nat, k ≤ 5 ∧ i = .int .i64 k ∧ a = .int .i64 (wantOf L k)) (fun _ i => 5 - (intOf i).toNat)
        case atStart => exact ⟨0, by omega, rfl, rfl⟩
        case round =>
          obtain ⟨k, hk5, rfl, rfl⟩ := hrel
          by_cases hk : k < 5
          · have k1 := HH1.out k hk
            have hw1 := hwle k (by omega)
            by_cases he : lastOf L k = ⟨#[]⟩
            · rw [he] at k1
              go_wp2_with fail
              go_round
              case rel => exact ⟨k + 1, by omega, by go_num, by simp [wantOf, isIn, he]⟩
              case measure => simp [intOf]; omega
            · have he2 : ¬ (lastOf L k).toList = [] := fun e => he (ByteArray.ext (by rw [Go.ByteArray.toList_eq] at e; simpa using e))
              have he3 : (lastOf L k).toList.isEmpty = false := by simp [he2]
              go_wp2_with fail
              go_round
              case rel => exact ⟨k + 1, by omega, by go_num, by simp [wantOf, isIn, he]⟩
              case measure => simp [intOf]; omega
          · obtain rfl : k = 5 := by omega
            go_wp2_with fail
            refine (clean_any hH8 hS (by show j ≤ 1000000; omega) (by intro p hp; simp [stoP] at hp)).mono ?_
            rintro e w9 ⟨he, ⟨D9, h9⟩, t9⟩
            obtain rfl : e = .returned (.int .i64 ((L.length - (cleanL j L).length : Nat) : Int)) := he
            have hH9 : Holds w9 v1.heap.size (stoP (newSto v1 10000) j (cleanL j L) []) D9 PD7 := h9
            have b9 : Below w.heap.size w w9 := below_turn hb8 t9 (by rintro k rfl; simp [stoP, newSto]; omega)
            have hl9 := (t9.block lb (Array.getElem?_eq_some_iff.1 hl8).1 (by simp [stoP, newSto]; omega)).trans hl8
            have HH2 : Hid (∀ k, k < 5 → w9.cell? ⟨lb, k, none⟩ = some (.string (lastOf L k))) := fun k hk => (cell_of_row _ _ _ _ _ _ hl9).trans (lastCells_get _ k hk)
            have hS9 := sorted_clean hS j
            clear HH1 t9 h9 hH8 hb8 hl8 hl9 hS hat hlet hgo
            generalize cleanL j L = L9 at *
            go_wp2_with fail
            go_loop [16] (fun i => ∃ k : Nat, k ≤ 5 ∧ i = .int .i64 k) (fun i => 5 - (intOf i).toNat)
            case atStart => exact ⟨0, by omega, rfl⟩
            case round =>
              obtain ⟨k, hk5, rfl⟩ := hrel
              by_cases hk : k < 5
              · have k1 := HH2.out k hk
                have r1 := hrd.out k
                go_wp2_with fail
                refine (read_as hH9 (letter k) (letter_size k) (j : Int) _ _ r1).mono ?_
                rintro e wr' ⟨rfl, rfl⟩
                clear r1
                by_cases he : lastOf L k = ⟨#[]⟩
                · rw [he] at k1 ⊢
                  go_wp2_with fail
                  go_round
                  case rel => exact ⟨k + 1, by omega, by go_num⟩
                  case measure => simp [intOf]; omega
                · have he2 : ¬ (lastOf L k).toList = [] := fun e => he (ByteArray.ext (by rw [Go.ByteArray.toList_eq] at e; simpa using e))
                  have he3 : (lastOf L k).toList.isEmpty = false := by simp [he2]
                  go_wp2_with fail
                  go_round
                  case rel => exact ⟨k + 1, by omega, by go_num⟩
                  case measure => simp [intOf]; omega
              · obtain rfl : k = 5 := by omega
                have hw5 : IntKind.i64.wrap ((L.length : Int) - (wantOf L 5 : Int)) = ((L.length - L9.length : Nat) : Int) := by rw [IntWalk.i64_in _ (by omega)]; omega
                go_wp2_with fail
                refine (count_as hH9 (wantOf L 5 : Int) (by show (L9.length : Int) = _; omega)).mono ?_
                rintro e w10 ⟨rfl, b10⟩
                have hH10 := hH9.below b10
                have hb10 := below_step b9 b10
                clear hH9 b9 b10 HH2
                go_wp2_with fail
                refine (clean_any hH10 hS9 (by show j ≤ 1000000; omega) (by intro p hp; simp [stoP] at hp)).mono ?_
                rintro e w11 ⟨he, ⟨D11, h11⟩, t11⟩
                obtain rfl : e = .returned (.int .i64 0) := by
                  rw [he]
                  have : ((stoP (newSto v1 10000) j L9 []).L.length - (cleanL (leastOf (stoP (newSto v1 10000) j L9 []).pins (stoP (newSto v1 10000) j L9 []).now) (stoP (newSto v1 10000) j L9 []).L).length : Nat) = 0 := by
                    show L9.length - (cleanL j L9).length = 0
                    omega
                  rw [this]; rfl
                have hH11 : Holds w11 v1.heap.size (stoP (newSto v1 10000) j (cleanL j L9) []) D11 PD7 := h11
                have b11 : Below w.heap.size w w11 := below_turn hb10 t11 (by rintro k rfl; simp [stoP, newSto]; omega)
                clear h11 t11 hH10 hb10
                go_wp2_with fail
                refine (now_as hH11 (j : Int) rfl).mono ?_
                rintro e w12 ⟨rfl, rfl⟩
                go_wp2_with fail
                go_ret
                exact ⟨rfl, b11⟩

/-! ### THE ROW's STEP: WRITTEN OUT: LEAVE IT -/
set_option maxRecDepth 100000 in
theorem lifted (os : Os) (started : os.Started) (H : Type) (enc : TypeId × Value → H) :
    ReturnsInHanded {} Try.checked os 13 .any (Rows.storeCleansSpec.pre6 enc Try.prog Try.f13 Rows.storeCleansRow.domain false) (Rows.storeCleansSpec.post enc Try.prog Try.f13 false true false false) := by
  refine returnsInHanded_of_change (C := Try.checked) own started (by kernel_rfl) Try.func13
    (ChangeSpec.witness6 (enc := enc) (C := Try.checked) false ⟨#[], #[.slice none 0 0, .int .i64 0], []⟩ 8 (by kernel_rfl) (by kernel_rfl) (by kernel_rfl) (by kernel_rfl)) ?_
  intro W base args ds gs before hval0 hW hcnd _
  have hval : ∀ (j : Nat) t v, Try.f13.params[j]? = some t → args[j]? = some v → Value.okWide Try.prog W .any base t v := hval0
  have hW' := hW
  obtain ⟨p, q, hA0, hV, rfl, hfz, hnd⟩ := hW
  have hA : DataW.TrodAll enc Try.prog W 0 (fun _ => true) true Try.f13.params.toList args.toList ds p := hA0
  rw [Try.params13] at hA hval
  obtain ⟨v0, vs0, d0, ds0, p0, q0, hargs, rfl, rfl, h0, r0⟩ := trodAll_cons hA
  obtain ⟨v1, vs1, d1, ds1, p1, q1, rfl, rfl, rfl, h1, r1⟩ := trodAll_cons r0
  obtain ⟨rfl, rfl, rfl⟩ := trodAll_nil r1
  obtain rfl : args = #[v0, v1] := by cases args; simp_all
  obtain ⟨rfl, rfl⟩ := trodVars_none hV
  obtain ⟨a0, len0, cap0, rfl⟩ := okWide_slice Try.underlying22 (hval 0 22 v0 rfl rfl)
  have k0 := h0
  have lt0 : ∀ x ∈ p0, x.block < W.heap.size := by obtain ⟨m, hm⟩ := k0; exact DataW.trod_lt m _ _ _ hm
  obtain ⟨z0, w0⟩ : ∃ zs, IsRow .i64 W a0 len0 cap0 zs := by
    obtain ⟨fuel, hf⟩ := h0
    rcases open_ints Try.underlying22 Try.underlying3 (by kernel_rfl) hf with ⟨hcs, _⟩ | ⟨x, l, c, zs, hcs, _, hl, hm, hz, _, hcell, hwz⟩
    · simp [Value.cells] at hcs
      obtain ⟨rfl, rfl, rfl⟩ := hcs
      exact ⟨[], .inl ⟨rfl, rfl, rfl, rfl⟩⟩
    · simp [Value.cells] at hcs
      obtain ⟨rfl, rfl, rfl⟩ := hcs
      exact ⟨zs, .inr ⟨_, rfl, hl, hm, by simpa using hz, hcell, hwz⟩⟩
  obtain ⟨a1, rfl, rfl, rfl, w1⟩ := open_int Try.underlying3 (hval 1 3 v1 rfl rfl) h1
  clear hA0 hval0
  refine (walk a0 len0 cap0 z0 a1 W w0 w1).mono fun e W' ⟨he, bel⟩ => ?_
  subst he
  exact ⟨_, rfl, _, _, _, [], _, [], hW', trodAll_mk1 (shut_bool Try.underlying4 _), (trodAll_cons_mk (Below.trod laidOut (by kernel_rfl) (of_decide_eq_true (by kernel_rfl)) k0 bel lt0) (trodAll_cons_mk (shut_int Try.underlying3 w1) trodAll_mk0)), rfl, bel.frame _, fun h => by cases h⟩

theorem over : Rows.storeCleansRow.holds Try.pinned (OpenSpec.ofChange Rows.storeCleansSpec) :=
  OpenClaim.holds_of_wide 13 Try.f13 rfl rfl rfl rfl rfl rfl rfl ⟨rfl, rfl, rfl, rfl, rfl⟩ rfl rfl rfl rfl rfl (by kernel_rfl) Try.func13 (by kernel_rfl)
    (of_decide_eq_true (by kernel_rfl)) (by unfold Func.isWrapper; first | (rw [if_pos (by decide +kernel)]; kernel_rfl) | (rw [if_neg (by decide +kernel)]; exact ⟨rfl, rfl⟩))
    (fun os started H enc _ => lifted os started H enc)

/-- ████ THE STATEMENT ████ -/
theorem proved : Rows.StoreCleansSaid := over
#print axioms proved
end Go.Proofs.Ytghddmlndafefaa.storeCleans
