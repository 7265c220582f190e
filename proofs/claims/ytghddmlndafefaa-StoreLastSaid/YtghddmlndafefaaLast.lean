/-
  For every slice of numbers the law StoreLast returns true and leaves what was there as it was. No conditions.
-/
import Derived.Test.YtghddmlndafefaaRows
import Derived.WalkKit
import Derived.ProofKit
import Derived.OpenShut
import Derived.ShutString
import Derived.ChangeOld
import Derived.Below
import Derived.Test.YtghddmlndafefaaStI
namespace Go.Proofs.Ytghddmlndafefaa.storeLast
open Go.ChangeShapes Go.WideShapes Go.ChangeAt Go.RowKit
open Go.ChangeMaps (open_string shut_string)
open Go.Maps
set_option linter.unusedVariables false

theorem own : ownKnob Try.prog.godebug = none := by kernel_rfl
theorem laidOut : laidOutB Try.prog = true := by kernel_rfl

/-- WHAT THE WALK IS TOLD OF A SLICE OF INTEGERS THAT CAME IN: it is nil; or it leads to a row of 'cap' cells, the numbers 'zs' (the first 'len' are its elements, the rest its spare room), each fitting its kind. -/
def IsRow (k : IntKind) (w : World) (a : Option Addr) (len cap : Nat) (zs : List Int) : Prop :=
  (a = none ∧ len = 0 ∧ cap = 0 ∧ zs = []) ∨
  ∃ x, a = some x ∧ len ≤ cap ∧ cap ≤ maxLen ∧ zs.length = cap ∧ (∀ i, i < zs.length → w.cell? (x.add i) = some (.int k (zs.getD i 0))) ∧ ∀ n ∈ zs, (Lit.int k n).wf = true

set_option maxRecDepth 100000 in
set_option maxHeartbeats 1600000 in
theorem walk (a0 : Option Addr) (len0 cap0 : Nat) (z0 : List Int) (w : World) (w0 : IsRow .i64 w a0 len0 cap0 z0) :
    Calls Try.prog 3 #[.slice a0 len0 cap0] w fun e w' => e = .returned (.bool true) ∧ Below w.heap.size w w' := by
  have hk := known_any w
  rcases row_open w0 with rfl | ⟨b, off, rfl, hm, hbw, hcell⟩
  · go_enter Try.func3, Try.ntmps3
    go_wp2_with fail
    refine hk.mono ?_
    rintro e v1 ⟨rfl, b1⟩
    go_wp2_with fail
    refine (new_any 10000 v1 (by omega)).mono ?_
    rintro e v2 ⟨rfl, hH, b2, -⟩
    have b02 := below_step b1 b2
    clear hk b2 hH
    go_wp2_with fail
    refine wp_loop_rounds 1 ?_; rw [rounds_succ]
    go_wp2_with fail
    go_ret
    exact ⟨rfl, b02.alloc b02.size _⟩
  · unfold maxLen at hm
    clear w0
    have HC := Lib.hid hcell
    clear hcell
    go_enter Try.func3, Try.ntmps3
    go_wp2_with fail
    refine hk.mono ?_
    rintro e v1 ⟨rfl, b1⟩
    go_wp2_with fail
    refine (new_any 10000 v1 (by omega)).mono ?_
    rintro e v2 ⟨rfl, hH, b2, -⟩
    have b02 := below_step b1 b2
    have hs2 : v1.heap.size + 2 < v2.heap.size := hH.lts.1
    go_wp2_with fail
    obtain ⟨lb, hlb⟩ : ∃ lb, lb = v2.heap.size := ⟨_, rfl⟩
    have hblk0 := heap_alloc_new v2 (.cells #[.string ⟨#[]⟩, .string ⟨#[]⟩, .string ⟨#[]⟩, .string ⟨#[]⟩, .string ⟨#[]⟩] 26)
    have hH0 := hH.below ((Below.refl v2.heap.size v2).alloc (Nat.le_refl _) (.cells #[.string ⟨#[]⟩, .string ⟨#[]⟩, .string ⟨#[]⟩, .string ⟨#[]⟩, .string ⟨#[]⟩] 26))
    have b03 := b02.alloc b02.size (.cells #[.string ⟨#[]⟩, .string ⟨#[]⟩, .string ⟨#[]⟩, .string ⟨#[]⟩, .string ⟨#[]⟩] 26)
    have hb1 := b1.size
    have hwlb : w.heap.size ≤ v2.heap.size := b02.size
    rw [← hlb] at hblk0 hs2 hwlb ⊢
    clear hk b2 hlb hH b02 b1
    go_loopw [5] (fun i wr => ∃ (j : Nat) (D' : DataW Value), j ≤ len0 ∧ j ≤ 50 ∧ i = .int .i64 j ∧ Holds wr v1.heap.size (stoAt (newSto v1 10000) j (hist (numAt z0) j)) D' (.map []) ∧ wr.heap[lb]? = some (.cells (lastCells (hist (numAt z0) j)) 26 (0, 0)) ∧ Below w.heap.size w wr) (fun i _ => 50 - (intOf i).toNat)
    case atStart => exact ⟨0, _, by omega, by omega, rfl, hH0, hblk0, b03⟩
    case round =>
      obtain ⟨j, D', hj, hj50, rfl, hH, hlast, hb⟩ := hrel
      clear hH0 hblk0 b03
      by_cases hlt : j < len0 ∧ j < 50
      · obtain ⟨hlt1, hlt2⟩ := hlt
        obtain ⟨hc, hz1, hz2⟩ := HC.out j hlt1
        have hcr := (hb.cell (p := ⟨b, off + j, none⟩) hbw).trans hc
        have hwi := fun x => within_any (z0.getD j 0) 1073741824 x (by omega) (by omega) hz1 hz2
        have hm0 : 0 ≤ z0.getD j 0 % 1073741824 := Int.emod_nonneg _ (by omega)
        have hm1 : z0.getD j 0 % 1073741824 < 1073741824 := Int.emod_lt_of_pos _ (by omega)
        have hwr := fun x => writes_int (z0.getD j 0 % 1073741824) hm0 (by omega) x
        have hnum : Hid ((z0.getD j 0 % 1073741824).toNat = numAt z0 j) := rfl
        generalize z0.getD j 0 % 1073741824 = m at *
        generalize z0.getD j 0 = z at *
        clear hc
        go_wp2_with fail
        refine (hwi _).mono ?_
        rintro e wr' ⟨rfl, rfl⟩
        go_wp2_with fail
        refine (hwr _).mono ?_
        rintro e w3 ⟨va, vb, rfl, ha, hb3, b3⟩
        have hH3 := hH.below b3
        have llb : lb < wr.heap.size := (Array.getElem?_eq_some_iff.1 hlast).1
        have hlast3 := (b3.block lb llb).trans hlast
        have hb03 := below_step hb b3
        have ha' : w3.ownsRow wr.heap.size 37 3 va (wn (numAt z0 j)).length (wcells (wn (numAt z0 j))) := by rw [← hnum.out]; exact ha
        have hlen3 := wn_length_le (numAt z0 j)
        have hlen1 : 1 ≤ (wn (numAt z0 j)).length := by simp [wn, wrs_length]
        have hwk := wn_key_size (m := numAt z0 j)
        have hmem := fun (u : Wr) (h : u ∈ wn (numAt z0 j)) => wn_mem h
        have hnext : Hid (hist (numAt z0) (j + 1) = hist (numAt z0) j ++ vers (wn (numAt z0 j)) (j + 1)) := rfl
        have hlL := hist_length_le (numAt z0) j
        generalize wn (numAt z0 j) = ws at *
        rcases wrIs_of_owns ha' with ⟨_, e⟩ | ⟨g, o', cap, hva, hcells⟩
        · rw [e] at hlen1; simp at hlen1
        obtain ⟨rfl, e0, ⟨cur, hg⟩⟩ : va = .slice (some ⟨g, 0, none⟩) ws.length cap ∧ o' = 0 ∧ ∃ cur, w3.heap[g]? = some (.cells cur 37 (0, 0)) := by
          rcases ha'.2 with ⟨e, _⟩ | ⟨g', cap', cur, e, _, hg, _⟩
          · rw [e] at hva; simp at hva
          · rw [e] at hva ⊢
            simp at hva
            obtain ⟨⟨rfl, rfl⟩, rfl⟩ := hva
            exact ⟨rfl, rfl, cur, hg⟩
        subst e0
        simp only [Nat.zero_add] at hcells
        have hglb : g ≠ lb := fun e => by rw [e, hlast3] at hg; simp at hg
        have l0 : w3.cell? ⟨lb, 0, none⟩ = some (.string (lastOf (hist (numAt z0) j) 0)) := cell_of_row _ _ _ _ _ _ hlast3
        have l1 : w3.cell? ⟨lb, 1, none⟩ = some (.string (lastOf (hist (numAt z0) j) 1)) := cell_of_row _ _ _ _ _ _ hlast3
        have l2 : w3.cell? ⟨lb, 2, none⟩ = some (.string (lastOf (hist (numAt z0) j) 2)) := cell_of_row _ _ _ _ _ _ hlast3
        have l3 : w3.cell? ⟨lb, 3, none⟩ = some (.string (lastOf (hist (numAt z0) j) 3)) := cell_of_row _ _ _ _ _ _ hlast3
        have l4 : w3.cell? ⟨lb, 4, none⟩ = some (.string (lastOf (hist (numAt z0) j) 4)) := cell_of_row _ _ _ _ _ _ hlast3
        have HCW := Lib.hid hcells
        clear hwi hwr hcr hb3 ha ha' hva hcells b3 hH hlast hb
        go_wp2_with fail
        refine (now_as hH3 (j : Int) rfl).mono ?_
        rintro e w3' ⟨rfl, rfl⟩
        go_wp2_with fail
        obtain ⟨W4, hW4⟩ : ∃ W4, W4 = w3.alloc (.cells (lastCells (hist (numAt z0) j)) 26) := ⟨_, rfl⟩
        change Calls Try.prog 20 _ (w3.alloc (.cells (lastCells (hist (numAt z0) j)) 26)) _
        have b4 : Below w3.heap.size w3 W4 := by rw [hW4]; exact (Below.refl _ _).alloc (Nat.le_refl _) _
        have hbef : W4.heap[w3.heap.size]? = some (.cells (lastCells (hist (numAt z0) j)) 26 (0, 0)) := by rw [hW4]; exact heap_alloc_new _ _
        rw [← hW4]
        clear hW4
        have hH4 := hH3.below b4
        have hg3 : g < w3.heap.size := (Array.getElem?_eq_some_iff.1 hg).1
        have hws4 : WrIs W4 (.slice (some ⟨g, 0, none⟩) ws.length cap) ws := .inr ⟨g, 0, cap, rfl, fun i u hu => by
          simp only [Nat.zero_add]
          obtain ⟨q1, q2, q3⟩ := HCW.out i u hu
          exact ⟨(b4.cell (p := ⟨g, _, none⟩) hg3).trans q1, (b4.cell (p := ⟨g, _, none⟩) hg3).trans q2, (b4.cell (p := ⟨g, _, none⟩) hg3).trans q3⟩⟩
        refine (commit_any hH4 hws4 hwk (by simp [stoAt, newSto]; omega) (by simp [stoAt]; omega)).mono ?_
        rintro e w5 ⟨he, ⟨D5, hH5⟩, t5⟩
        obtain rfl : e = .returned (.tuple #[.int .i64 ((j : Int) + 1), .int .i64 0]) := he
        try clear he
        have hlt3 := hH3.lts
        have hlb3 : lb < w3.heap.size := (Array.getElem?_eq_some_iff.1 hlast3).1
        have nlb : ¬ (lb = (stoAt (newSto v1 10000) j (hist (numAt z0) j)).sb ∨ lb = (stoAt (newSto v1 10000) j (hist (numAt z0) j)).kb) := by simp [stoAt, newSto]; omega
        have nbf : ¬ (w3.heap.size = (stoAt (newSto v1 10000) j (hist (numAt z0) j)).sb ∨ w3.heap.size = (stoAt (newSto v1 10000) j (hist (numAt z0) j)).kb) := by simp [stoAt, newSto] at hlt3 ⊢; omega
        have ng : ¬ (g = (stoAt (newSto v1 10000) j (hist (numAt z0) j)).sb ∨ g = (stoAt (newSto v1 10000) j (hist (numAt z0) j)).kb) := by
          obtain ⟨u, hu⟩ : ∃ u, ws[0]? = some u := ⟨ws[0], List.getElem?_eq_getElem (by omega)⟩
          have := WrIs.off hH3 (HCW.out 0 u hu).1
          simp only [not_or]
          exact this
        have s4 : w3.heap.size < W4.heap.size := (Array.getElem?_eq_some_iff.1 hbef).1
        have hlast5 := ((t5.block lb (Nat.lt_of_lt_of_le hlb3 b4.size) nlb).trans (b4.block lb hlb3)).trans hlast3
        have hbef5 := (t5.block _ s4 nbf).trans hbef
        have hg5 := ((t5.block g (Nat.lt_of_lt_of_le hg3 b4.size) ng).trans (b4.block g hg3))
        have b5 : Below w.heap.size w w5 := below_turn (below_step hb03 b4) t5 (by rintro k (rfl | rfl) <;> simp [stoAt, newSto] <;> omega)
        have hH5' : Holds w5 v1.heap.size (stoAt (newSto v1 10000) (j + 1) (hist (numAt z0) j ++ vers ws (j + 1))) D5 (.map []) := hH5
        clear hH3 hH4 hH5 hws4 t5 b4 hbef l0 l1 l2 l3 l4 hlast3 hb03
        go_wp2_with fail
        refine (now_as hH5' ((j : Int) + 1) rfl).mono ?_
        rintro e w5' ⟨rfl, rfl⟩
        go_wp2_with fail
        have HB5 := Lib.hid hbef5
        clear hbef5
        go_loopw [12] (fun i wq => ∃ p : Nat, p ≤ ws.length ∧ i = .int .i64 p ∧ wq.heap[lb]? = some (.cells (lastCells (hist (numAt z0) j ++ vers (ws.take p) (j + 1))) 26 (0, 0)) ∧ Turn (fun k => k = lb) w5 wq) (fun i _ => ws.length - (intOf i).toNat)
        case atStart => exact ⟨0, by omega, rfl, by simpa [vers] using hlast5, Turn.refl _ _⟩
        case round =>
          obtain ⟨p, hp, rfl, hlq, hTq⟩ := hrel
          by_cases hpl : p < ws.length
          · obtain ⟨u, hu⟩ : ∃ u, ws[p]? = some u := ⟨ws[p], List.getElem?_eq_getElem hpl⟩
            obtain ⟨q0, q1, _⟩ := HCW.out p u hu
            have hgq : wr.heap[g]? = w3.heap[g]? := (hTq.block g (by have := (Array.getElem?_eq_some_iff.1 (hg5.trans hg)).1; exact this) hglb).trans hg5
            have x0 := (World.cell?_of_block (a := ⟨g, p * 3, none⟩) hgq).trans q0
            have x1 := (World.cell?_of_block (a := ⟨g, p * 3 + 1, none⟩) hgq).trans q1
            have fl : ∀ o, wr.frozen? ⟨lb, o, none⟩ = false := fun o => by simp [World.frozen?, hlq]
            obtain ⟨c, hc5, hkc, _⟩ := hmem u (List.mem_of_getElem? hu)
            have hvt : hist (numAt z0) j ++ vers (ws.take (p + 1)) (j + 1) = (hist (numAt z0) j ++ vers (ws.take p) (j + 1)) ++ [u.ver (j + 1)] := by rw [vers_take_succ ws (j + 1) p u hu, List.append_assoc]
            have HV := Lib.hid hvt
            rw [hkc] at x0
            clear q0 q1 hgq hu hvt
            rcases (show c = 0 ∨ c = 1 ∨ c = 2 ∨ c = 3 ∨ c = 4 by omega) with rfl | rfl | rfl | rfl | rfl
            · change wr.cell? _ = some (.string ⟨#[97]⟩) at x0
              have hv : ((((⟨#[97]⟩ : ByteArray)[0]'(by decide)).toNat : Nat) : Int) = 97 := rfl
              have lc : wr.cell? ⟨lb, 0, none⟩ = some (.string (lastOf (hist (numAt z0) j ++ vers (ws.take p) (j + 1)) 0)) := cell_of_row _ _ _ _ _ _ hlq
              go_wp2
              go_region
              all_goals
                go_wp2
                go_roundw
                case rel => exact ⟨p + 1, by omega, by go_num, by rw [HV.out, lastCells_snoc _ _ _ 0 (by omega) hkc]; exact setCell_block _ _ _ _ _ _ _ hlq, (hTq.trans (Turn.of_setCell (S := fun k => k = lb) (p := ⟨lb, 0, none⟩) rfl (.string u.val))).drew⟩
                case measure => simp [intOf]; omega
            · change wr.cell? _ = some (.string ⟨#[98]⟩) at x0
              have hv : ((((⟨#[98]⟩ : ByteArray)[0]'(by decide)).toNat : Nat) : Int) = 98 := rfl
              have lc : wr.cell? ⟨lb, 1, none⟩ = some (.string (lastOf (hist (numAt z0) j ++ vers (ws.take p) (j + 1)) 1)) := cell_of_row _ _ _ _ _ _ hlq
              go_wp2
              go_region
              all_goals
                go_wp2
                go_roundw
                case rel => exact ⟨p + 1, by omega, by go_num, by rw [HV.out, lastCells_snoc _ _ _ 1 (by omega) hkc]; exact setCell_block _ _ _ _ _ _ _ hlq, (hTq.trans (Turn.of_setCell (S := fun k => k = lb) (p := ⟨lb, 1, none⟩) rfl (.string u.val))).drew⟩
                case measure => simp [intOf]; omega
            · change wr.cell? _ = some (.string ⟨#[99]⟩) at x0
              have hv : ((((⟨#[99]⟩ : ByteArray)[0]'(by decide)).toNat : Nat) : Int) = 99 := rfl
              have lc : wr.cell? ⟨lb, 2, none⟩ = some (.string (lastOf (hist (numAt z0) j ++ vers (ws.take p) (j + 1)) 2)) := cell_of_row _ _ _ _ _ _ hlq
              go_wp2
              go_region
              all_goals
                go_wp2
                go_roundw
                case rel => exact ⟨p + 1, by omega, by go_num, by rw [HV.out, lastCells_snoc _ _ _ 2 (by omega) hkc]; exact setCell_block _ _ _ _ _ _ _ hlq, (hTq.trans (Turn.of_setCell (S := fun k => k = lb) (p := ⟨lb, 2, none⟩) rfl (.string u.val))).drew⟩
                case measure => simp [intOf]; omega
            · change wr.cell? _ = some (.string ⟨#[100]⟩) at x0
              have hv : ((((⟨#[100]⟩ : ByteArray)[0]'(by decide)).toNat : Nat) : Int) = 100 := rfl
              have lc : wr.cell? ⟨lb, 3, none⟩ = some (.string (lastOf (hist (numAt z0) j ++ vers (ws.take p) (j + 1)) 3)) := cell_of_row _ _ _ _ _ _ hlq
              go_wp2
              go_region
              all_goals
                go_wp2
                go_roundw
                case rel => exact ⟨p + 1, by omega, by go_num, by rw [HV.out, lastCells_snoc _ _ _ 3 (by omega) hkc]; exact setCell_block _ _ _ _ _ _ _ hlq, (hTq.trans (Turn.of_setCell (S := fun k => k = lb) (p := ⟨lb, 3, none⟩) rfl (.string u.val))).drew⟩
                case measure => simp [intOf]; omega
            · change wr.cell? _ = some (.string ⟨#[101]⟩) at x0
              have hv : ((((⟨#[101]⟩ : ByteArray)[0]'(by decide)).toNat : Nat) : Int) = 101 := rfl
              have lc : wr.cell? ⟨lb, 4, none⟩ = some (.string (lastOf (hist (numAt z0) j ++ vers (ws.take p) (j + 1)) 4)) := cell_of_row _ _ _ _ _ _ hlq
              go_wp2
              go_region
              all_goals
                go_wp2
                go_roundw
                case rel => exact ⟨p + 1, by omega, by go_num, by rw [HV.out, lastCells_snoc _ _ _ 4 (by omega) hkc]; exact setCell_block _ _ _ _ _ _ _ hlq, (hTq.trans (Turn.of_setCell (S := fun k => k = lb) (p := ⟨lb, 4, none⟩) rfl (.string u.val))).drew⟩
                case measure => simp [intOf]; omega
          · obtain rfl : p = ws.length := by omega
            rw [List.take_length, ← hnext.out] at hlq
            have hHq := hH5'.beside hlast5 (by decide) (by decide) hTq
            rw [← hnext.out] at hHq
            have s5 : w3.heap.size < w5.heap.size := (Array.getElem?_eq_some_iff.1 HB5.out).1
            have hbq := (hTq.block _ s5 (fun (e : w3.heap.size = lb) => by omega)).trans HB5.out
            have bq : Below w.heap.size w wr := b5.trans (hTq.to_below b5.size (by rintro k rfl; omega))
            have HC1 : ∀ k, k < 5 → wr.cell? ⟨lb, k, none⟩ = some (.string (lastOf (hist (numAt z0) (j + 1)) k)) := fun k hk => (cell_of_row _ _ _ _ _ _ hlq).trans (lastCells_get _ k hk)
            have HC2 : ∀ k, k < 5 → wr.cell? ⟨w3.heap.size, k, none⟩ = some (.string (lastOf (hist (numAt z0) j) k)) := fun k hk => (cell_of_row _ _ _ _ _ _ hbq).trans (lastCells_get _ k hk)
            have HH1 := Lib.hid HC1
            have HH2 := Lib.hid HC2
            clear HC1 HC2 hTq hlast5 HB5 hg5 hg hglb
            go_wp2_with fail
            go_loop [13] (fun i => ∃ k : Nat, k ≤ 5 ∧ i = .int .i64 k) (fun i => 5 - (intOf i).toNat)
            case atStart => exact ⟨0, by omega, rfl⟩
            case round =>
              obtain ⟨k, hk5, rfl⟩ := hrel
              by_cases hk : k < 5
              · have k1 := HH1.out k hk
                have k2 := HH2.out k hk
                have r1 : readOf (vis (ofKey (hist (numAt z0) (j + 1)) (letter k)) ((j : Int) + 1)) = (lastOf (hist (numAt z0) (j + 1)) k, decide (lastOf (hist (numAt z0) (j + 1)) k ≠ ⟨#[]⟩)) := read_now (numAt z0) (j + 1) k
                have r2 := read_before (numAt z0) j k
                go_wp2_with fail
                refine (read_as hHq (letter k) (letter_size k) ((j : Int) + 1) _ _ r1).mono ?_
                rintro e wr' ⟨rfl, rfl⟩
                go_wp2_with fail
                refine (read_as hHq (letter k) (letter_size k) (j : Int) _ _ r2).mono ?_
                rintro e wr' ⟨rfl, rfl⟩
                clear r1 r2
                by_cases he : lastOf (hist (numAt z0) (j + 1)) k = ⟨#[]⟩
                · rw [he] at k1 ⊢
                  go_wp2_with fail
                  go_round
                  case rel => exact ⟨k + 1, by omega, by go_num⟩
                  case measure => simp [intOf]; omega
                · have he2 : ¬ (lastOf (hist (numAt z0) (j + 1)) k).toList = [] := fun e => he (ByteArray.ext (by rw [Go.ByteArray.toList_eq] at e; simpa using e))
                  have he3 : (lastOf (hist (numAt z0) (j + 1)) k).toList.isEmpty = false := by simp [he2]
                  go_wp2_with fail
                  go_round
                  case rel => exact ⟨k + 1, by omega, by go_num⟩
                  case measure => simp [intOf]; omega
              · obtain rfl : k = 5 := by omega
                go_wp2_with fail
                go_roundw
                case rel => exact ⟨j + 1, D5, by omega, by omega, by go_num, hHq, hlq, bq⟩
                case measure => simp [intOf]; omega
      · by_cases h1 : j < len0
        · have h2 : ¬ j < 50 := by omega
          go_wp2_with fail
          go_ret
          exact ⟨rfl, hb⟩
        · go_wp2_with fail
          go_ret
          exact ⟨rfl, hb⟩

/-! ### THE ROW's STEP: WRITTEN OUT: LEAVE IT -/
set_option maxRecDepth 100000 in
theorem lifted (os : Os) (started : os.Started) (H : Type) (enc : TypeId × Value → H) :
    ReturnsInHanded {} Try.checked os 3 .any (Rows.storeLastSpec.pre6 enc Try.prog Try.f3 Rows.storeLastRow.domain false) (Rows.storeLastSpec.post enc Try.prog Try.f3 false true false false) := by
  refine returnsInHanded_of_change (C := Try.checked) own started (by kernel_rfl) Try.func3
    (ChangeSpec.witness6 (enc := enc) (C := Try.checked) false ⟨#[], #[.slice none 0 0], []⟩ 8 (by kernel_rfl) (by kernel_rfl) (by kernel_rfl) (by kernel_rfl)) ?_
  intro W base args ds gs before hval0 hW hcnd _
  have hval : ∀ (j : Nat) t v, Try.f3.params[j]? = some t → args[j]? = some v → Value.okWide Try.prog W .any base t v := hval0
  have hW' := hW
  obtain ⟨p, q, hA0, hV, rfl, hfz, hnd⟩ := hW
  have hA : DataW.TrodAll enc Try.prog W 0 (fun _ => true) true Try.f3.params.toList args.toList ds p := hA0
  rw [Try.params3] at hA hval
  obtain ⟨v0, vs0, d0, ds0, p0, q0, hargs, rfl, rfl, h0, r0⟩ := trodAll_cons hA
  obtain ⟨rfl, rfl, rfl⟩ := trodAll_nil r0
  obtain rfl : args = #[v0] := by cases args; simp_all
  obtain ⟨rfl, rfl⟩ := trodVars_none hV
  obtain ⟨a0, len0, cap0, rfl⟩ := okWide_slice Try.underlying22 (hval 0 22 v0 rfl rfl)
  have k0 := h0
  have lt0 : ∀ x ∈ p0, x.block < W.heap.size := by obtain ⟨m, hm⟩ := k0; exact DataW.trod_lt m _ _ _ hm
  obtain ⟨z0, w0⟩ : ∃ zs, IsRow .i64 W a0 len0 cap0 zs := by
    obtain ⟨fuel, hf⟩ := h0
    rcases open_ints Try.underlying22 Try.underlying3 (by kernel_rfl) hf with ⟨hcs, _⟩ | ⟨x, l, c, zs, hcs, _, hl, hm, hz, _, hcell, hwz⟩
    · simp [Value.cells] at hcs
      obtain ⟨rfl, rfl, rfl⟩ := hcs
      exact ⟨[], .inl ⟨rfl, rfl, rfl, rfl⟩⟩
    · simp [Value.cells] at hcs
      obtain ⟨rfl, rfl, rfl⟩ := hcs
      exact ⟨zs, .inr ⟨_, rfl, hl, hm, by simpa using hz, hcell, hwz⟩⟩
  clear hA0 hval0
  refine (walk a0 len0 cap0 z0 W w0).mono fun e W' ⟨he, bel⟩ => ?_
  subst he
  exact ⟨_, rfl, _, _, _, [], _, [], hW', trodAll_mk1 (shut_bool Try.underlying4 _), (trodAll_cons_mk (Below.trod laidOut (by kernel_rfl) (of_decide_eq_true (by kernel_rfl)) k0 bel lt0) trodAll_mk0), rfl, bel.frame _, fun h => by cases h⟩

theorem over : Rows.storeLastRow.holds Try.pinned (OpenSpec.ofChange Rows.storeLastSpec) :=
  OpenClaim.holds_of_wide 3 Try.f3 rfl rfl rfl rfl rfl rfl rfl ⟨rfl, rfl, rfl, rfl, rfl⟩ rfl rfl rfl rfl rfl (by kernel_rfl) Try.func3 (by kernel_rfl)
    (of_decide_eq_true (by kernel_rfl)) (by unfold Func.isWrapper; first | (rw [if_pos (by decide +kernel)]; kernel_rfl) | (rw [if_neg (by decide +kernel)]; exact ⟨rfl, rfl⟩))
    (fun os started H enc _ => lifted os started H enc)

/-- ████ THE STATEMENT ████ -/
theorem proved : Rows.StoreLastSaid := over
#print axioms proved
end Go.Proofs.Ytghddmlndafefaa.storeLast
