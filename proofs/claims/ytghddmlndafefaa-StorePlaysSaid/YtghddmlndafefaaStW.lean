/-
  A store and the reference's store side by side: what one does leaves the other.
-/
import Derived.Test.YtghddmlndafefaaStV
namespace Go.Proofs.Ytghddmlndafefaa
open Go.RowKit Go.Maps

def rtoP (r0 : Rto) (n : Nat) (L : List Ver) (pins : List Nat) : Rto := { r0 with now := n, L := L, pins := pins }

theorem Holds.notB {w : World} {base : Nat} {s : Sto} {D PD : DataW Value} (h : Holds w base s D PD) {q : Nat} {cs : Array Value} {t : TypeId} {fr : Nat × Nat} (hq : w.heap[q]? = some (.cells cs t fr)) (ht : t ≠ 65) : ¬ Bs s q := by
  rintro (rfl | rfl | rfl)
  · rw [h.blk] at hq
    simp at hq
    exact ht hq.2.1.symm
  · obtain ⟨es, clock, h1, _⟩ := h.pown
    rw [h1] at hq
    simp at hq
  · obtain ⟨es, clock, h1, _⟩ := h.own
    rw [h1] at hq
    simp at hq
theorem RHolds.turn {w w' : World} {base rbase : Nat} {r : Rto} {s : Sto} {D PD : DataW Value} (hr : RHolds w rbase r) (h : Holds w base s D PD) (hT : Turn (Bs s) w w') : RHolds w' rbase r := by
  obtain ⟨vv, pv, hr⟩ := hr
  exact ⟨vv, pv, (hT.block _ hr.lt (h.notB hr.blk (by decide))).trans hr.blk, hr.hrb, h.row hr.vrow (by decide) hT, h.row hr.prow (by decide) hT⟩
theorem Holds.rturn {w w' : World} {base rbase : Nat} {s : Sto} {D PD : DataW Value} (h : Holds w base s D PD) (hT : RT rbase w w') : Holds w' base s D PD := by
  obtain ⟨l1, l2, l3⟩ := h.lts
  refine h.keep (hT.block _ l1 ?_) (hT.block _ l2 ?_) (hT.block _ l3 ?_) (fun k cur hk => hT.block k (Array.getElem?_eq_some_iff.1 hk).1 ?_)
  · rintro ⟨_, cur, t, e, ht⟩
    rw [h.blk] at e
    simp at e
    obtain ⟨_, rfl⟩ := e
    exact absurd ht (by decide)
  · rintro ⟨_, cur, t, e, ht⟩
    obtain ⟨es, clock, h1, _⟩ := h.pown
    rw [h1] at e
    simp at e
  · rintro ⟨_, cur, t, e, ht⟩
    obtain ⟨es, clock, h1, _⟩ := h.own
    rw [h1] at e
    simp at e
  · rintro ⟨_, cur', t, e, ht⟩
    rw [hk] at e
    simp at e
    obtain ⟨_, rfl⟩ := e
    exact absurd ht (by decide)
/-- Another store's blocks are others. -/
theorem Holds.other {w w' : World} {base base' : Nat} {s o : Sto} {D PD D' PD' : DataW Value} (h : Holds w base s D PD) (ho : Holds w base' o D' PD') (hne : ∀ q, Bs s q → ¬ Bs o q) (hT : Turn (Bs o) w w') : Holds w' base s D PD := by
  obtain ⟨l1, l2, l3⟩ := h.lts
  exact h.keep (hT.block _ l1 (hne _ (.inl rfl))) (hT.block _ l2 (hne _ (.inr (.inl rfl)))) (hT.block _ l3 (hne _ (.inr (.inr rfl)))) (fun k cur hk => hT.block k (Array.getElem?_eq_some_iff.1 hk).1 (ho.notB hk (by decide)))
theorem RWr.below {w w' : World} {v : Value} {ws : List Wr} (h : RWr w v ws) (hb : Below w.heap.size w w') : RWr w' v ws := by
  obtain ⟨g, cap, e, ⟨cur, hc⟩, hcell⟩ := h
  have hg : g < w.heap.size := (Array.getElem?_eq_some_iff.1 hc).1
  refine ⟨g, cap, e, ⟨cur, (hb.block g hg).trans hc⟩, fun i u hu => ?_⟩
  obtain ⟨a, b, c⟩ := hcell i u hu
  exact ⟨(World.cell?_of_block (hb.block g hg)).trans a, (World.cell?_of_block (hb.block g hg)).trans b, (World.cell?_of_block (hb.block g hg)).trans c⟩
theorem RWr.turn {w w' : World} {v : Value} {ws : List Wr} (h : RWr w v ws) {base : Nat} {s : Sto} {D PD : DataW Value} (hs : Holds w base s D PD) (hT : Turn (Bs s) w w') : RWr w' v ws := by
  obtain ⟨g, cap, e, ⟨cur, hc⟩, hcell⟩ := h
  have hg : g < w.heap.size := (Array.getElem?_eq_some_iff.1 hc).1
  have hb := hT.block g hg (hs.notB hc (by decide))
  refine ⟨g, cap, e, ⟨cur, hb.trans hc⟩, fun i u hu => ?_⟩
  obtain ⟨a, b, c⟩ := hcell i u hu
  exact ⟨(World.cell?_of_block hb).trans a, (World.cell?_of_block hb).trans b, (World.cell?_of_block hb).trans c⟩
theorem rWr_of_owns {w : World} {base : Nat} {v : Value} {l : List Wr} (hne : 0 < l.length) (h : w.ownsRow base 66 3 v l.length (wcells l)) : RWr w v l := by
  rcases h.2 with ⟨_, h0⟩ | ⟨g, cap, cur, rfl, _, hb, _⟩
  · omega
  · refine ⟨g, cap, rfl, ⟨cur, hb⟩, fun i u hu => ?_⟩
    have hi : i < l.length := (List.getElem?_eq_some_iff.1 hu).1
    have c := fun j (hj : j < 3) => (h.cellAt (i * 3 + j) (by omega)).trans (wcells_get l i j u hu hj)
    exact ⟨c 0 (by omega), c 1 (by omega), c 2 (by omega)⟩

/-- The writes that a number says, both rows. -/
def WbEnd (k : Nat) (w : World) (e : Ending) (w' : World) : Prop := ∃ va vb, e = .returned (.tuple #[va, vb]) ∧ WrIs w' va (wn k) ∧ RWr w' vb (wn k) ∧ Below w.heap.size w w'
theorem writes_both (n : Nat) (hn : n ≤ 2000000000) (w : World) : Calls Try.prog 17 #[.int .i64 n] w (WbEnd n w) := by
  refine (writes_any n hn w).mono ?_
  rintro e w' ⟨va, vb, he, ha, hb, h⟩
  exact ⟨va, vb, he, wrIs_of_owns ha, rWr_of_owns (wn_pos n) hb, h⟩

/-- A store and its reference hold the same. -/
structure Pair (s0 : Sto) (r0 : Rto) (base rbase n : Nat) (L : List Ver) (pins : List Nat) (w : World) : Prop where
  s : ∃ D PD, Holds w base (stoP s0 n L pins) D PD
  r : RHolds w rbase (rtoP r0 n L pins)
theorem Pair.below {s0 : Sto} {r0 : Rto} {base rbase n : Nat} {L : List Ver} {pins : List Nat} {w w' : World} (h : Pair s0 r0 base rbase n L pins w) (hb : Below w.heap.size w w') : Pair s0 r0 base rbase n L pins w' := by
  obtain ⟨⟨D, PD, hs⟩, hr⟩ := h
  exact ⟨⟨D, PD, hs.below hb⟩, hr.below hb⟩
theorem Pair.drew {s0 : Sto} {r0 : Rto} {base rbase n : Nat} {L : List Ver} {pins : List Nat} {w : World} (h : Pair s0 r0 base rbase n L pins w) : Pair s0 r0 base rbase n L pins w.drew := by
  obtain ⟨⟨D, PD, hs⟩, hr⟩ := h
  exact ⟨⟨D, PD, hs.drew⟩, hr.drew⟩
theorem below_rt {w a b : World} {rbase : Nat} (h : Below w.heap.size w a) (h' : RT rbase a b) (hb : w.heap.size ≤ rbase) : Below w.heap.size w b := h.trans (h'.to_below h.size (fun _ hk => Nat.le_trans hb hk.1))
set_option maxRecDepth 100000 in
set_option maxHeartbeats 1600000 in
theorem same_any {w : World} {s0 : Sto} {r0 : Rto} {base rbase n : Nat} {L : List Ver} {pins : List Nat} (h : Pair s0 r0 base rbase n L pins w) (low : Int) (hl0 : 0 ≤ low) (hl1 : low ≤ 1000000) (hn : n ≤ 1000000) (hL : L.length ≤ 10000) :
    Calls Try.prog 31 #[.pointer (some ⟨s0.sb, 0, none⟩), .pointer (some ⟨r0.rb, 0, none⟩), .int .i64 low] w (TrueEnd w) := by
  obtain ⟨⟨D, PD, hs⟩, hr⟩ := h
  have hst := hs.stamps
  have h1 := fun x (hx : Below w.heap.size w x) => now_as (hs.below hx) n rfl
  have h2 := fun x (hx : Below w.heap.size w x) => rnow_any (hr.below hx)
  go_enter Try.func31, Try.ntmps31
  go_wp2_with fail
  refine (h1 w (Below.refl _ _)).mono ?_
  rintro e w1 ⟨rfl, rfl⟩
  go_wp2_with fail
  refine (h2 w (Below.refl _ _)).mono ?_
  rintro e w1 ⟨he, rfl⟩
  obtain rfl : e = .returned (.int .i64 n) := he
  go_wp2_with fail
  refine (count_as hs (L.length : Int) rfl).mono ?_
  rintro e w1 ⟨rfl, b1⟩
  go_wp2_with fail
  refine (rcount_any (hr.below b1)).mono ?_
  rintro e w2 ⟨he, rfl⟩
  obtain rfl : e = .returned (.int .i64 L.length) := he
  have hS := hs.below b1
  have hR := hr.below b1
  have h2' := h2 w1 b1
  have HB := Lib.hid b1
  clear hs hr h1 h2 b1
  go_wp2_with fail
  go_loop [7] (fun i => ∃ j : Nat, j ≤ 5 ∧ i = .int .i64 j) (fun i => 5 - (intOf i).toNat)
  case atStart => exact ⟨0, by omega, rfl⟩
  case round =>
    obtain ⟨j, hj, rfl⟩ := hrel
    by_cases hlt : j < 5
    · go_wp2_with fail
      refine h2'.mono ?_
      rintro e w2 ⟨he, rfl⟩
      obtain rfl : e = .returned (.int .i64 n) := he
      go_wp2_with fail
      go_loop [9] (fun t => ∃ q : Int, max low ((n : Int) - 6) ≤ q ∧ q ≤ 1000001 ∧ t = .int .i64 q) (fun t => (1000001 - intOf t).toNat)
      case atStart => exact ⟨_, by omega, by omega, rfl⟩
      case round =>
        obtain ⟨q, hq0, hq1, rfl⟩ := hrel
        go_wp2_with fail
        refine h2'.mono ?_
        rintro e w2 ⟨he, rfl⟩
        obtain rfl : e = .returned (.int .i64 n) := he
        by_cases hqn : q ≤ (n : Int)
        · obtain ⟨v, b, hv⟩ : ∃ v b, readOf (vis (ofKey L (letter j)) q) = (v, b) := ⟨_, _, rfl⟩
          obtain ⟨c, hc⟩ : ∃ c, changedOf (ofKey L (letter j)) q = c := ⟨_, rfl⟩
          go_wp2_with fail
          refine (read_as hS (letter j) (letter_size j) q v b hv).mono ?_
          rintro e w2 ⟨rfl, rfl⟩
          go_wp2_with fail
          refine (rread_any hR (letter j) q hL v b hv).mono ?_
          rintro e w2 ⟨rfl, rfl⟩
          go_wp2_with fail
          refine (changed_as hS (letter j) (letter_size j) q c hc).mono ?_
          rintro e w2 ⟨rfl, rfl⟩
          go_wp2_with fail
          refine (rchanged_any hR (letter j) q hL hst).mono ?_
          rintro e w2 ⟨he, rfl⟩
          obtain rfl : e = .returned (.bool c) := he.trans (by rw [show changedOf (ofKey (rtoP r0 n L pins).L (letter j)) q = c from hc])
          go_wp2_with fail
          go_round
          case rel => exact ⟨q + 1, by omega, by omega, by go_num⟩
          case measure => simp [intOf]; omega
        · go_wp2_with fail
          go_round
          case rel => exact ⟨j + 1, by omega, by go_num⟩
          case measure => simp [intOf]; omega
    · obtain rfl : j = 5 := by omega
      go_wp2_with fail
      go_ret
      exact ⟨rfl, HB.out⟩
end Go.Proofs.Ytghddmlndafefaa
