/-
  FrameReads: the five rows that both readers read.
-/
import Derived.Test.YtifdkkkcecpjoaaRdDQ
namespace Go.Proofs.Ytifdkkkcecpjoaa
set_option linter.unusedVariables false
set_option linter.unusedSimpArgs false
open Go.RowKit
/-- Two rows of bytes of our own, in two blocks, W left as it was. -/
structure TwoR (W w : World) (v1 : Value) (n1 : Nat) (x1 : List Value) (v2 : Value) (n2 : Nat) (x2 : List Value) : Prop where
  bel : Below W.heap.size W w
  o1 : w.ownsRow W.heap.size 5 1 v1 n1 x1
  o2 : w.ownsRow W.heap.size 5 1 v2 n2 x2
  ne : ∀ g, v2.ownBlock = some g → v1.ownBlock ≠ some g

theorem own_lt5 {w : World} {base n : Nat} {v : Value} {xs : List Value} (h : w.ownsRow base 5 1 v n xs) {g : Nat} (hg : v.ownBlock = some g) : g < w.heap.size := by
  rcases h.2 with ⟨rfl, _⟩ | ⟨g', cap, cur, rfl, hb, hx, _⟩
  · cases hg
  · injection hg with hg
    have hg : g' = g := hg
    subst hg
    rcases Nat.lt_or_ge g' w.heap.size with hlt | hge
    · exact hlt
    · rw [Array.getElem?_eq_none hge] at hx; cases hx

theorem own_apart {w w' : World} {base n1 n2 : Nat} {v1 v2 : Value} {x1 x2 : List Value} (h2 : w.ownsRow base 5 1 v2 n2 x2) (hg : w.grownBy w' v1.ownBlock) (hne : ∀ g, v2.ownBlock = some g → v1.ownBlock ≠ some g) : w'.ownsRow base 5 1 v2 n2 x2 := by
  refine ⟨h2.1, ?_⟩
  rcases h2.2 with h | ⟨g', cap, cur, e, hb, hx, rest⟩
  · exact .inl h
  · have hlt := own_lt5 h2 (g := g') (by rw [e]; rfl)
    exact .inr ⟨g', cap, cur, e, hb, (hg.block g' hlt (fun h => hne g' (by rw [e]; rfl) h.symm)).trans hx, rest⟩

theorem TwoR.start (W : World) : TwoR W W.drew (.slice none 0 0) 0 [] (.slice none 0 0) 0 [] :=
  ⟨(Below.refl _ _).drew, World.ownsRow_nil _ _ _ _, World.ownsRow_nil _ _ _ _, fun g h => by cases h⟩

theorem TwoR.make1 {W w : World} {v2 : Value} {n2 : Nat} {x2 : List Value} (h : TwoR W w (.slice none 0 0) 0 [] v2 n2 x2) : TwoR W (w.alloc (.cells #[] 5)) (.slice (some ⟨w.heap.size, 0, none⟩) 0 0) 0 [] v2 n2 x2 :=
  ⟨h.bel.alloc h.bel.size _, World.ownsRow_made w #[] 0 h.bel.size (Nat.zero_le _) rfl, h.o2.alloc _, fun g hg e => by
    have hlt := own_lt5 h.o2 hg
    injection e with e
    have e : w.heap.size = g := e
    omega⟩

theorem TwoR.make2 {W w : World} {v1 : Value} {n1 : Nat} {x1 : List Value} (h : TwoR W w v1 n1 x1 (.slice none 0 0) 0 []) (a b : Value) : TwoR W (w.alloc (.cells #[a, b] 5)) v1 n1 x1 (.slice (some ⟨w.heap.size, 0, none⟩) 2 2) 2 [a, b] :=
  ⟨h.bel.alloc h.bel.size _, h.o1.alloc _, ⟨rfl, .inr ⟨w.heap.size, 2, #[a, b], rfl, h.bel.size, heap_alloc_new w _, Nat.le_refl _, by unfold maxLen; omega, rfl, rfl⟩⟩, fun g hg e => by
    have hlt := own_lt5 h.o1 e
    injection hg with hg
    have hg : w.heap.size = g := hg
    omega⟩

theorem TwoR.app1 {W w w' : World} {v1 v1' v2 : Value} {n1 n1' n2 : Nat} {x1 x1' x2 : List Value} (h : TwoR W w v1 n1 x1 v2 n2 x2) (ho : w'.ownsRow W.heap.size 5 1 v1' n1' x1') (hg : w.grownBy w' v1.ownBlock) (hb : v1'.ownBlock = v1.ownBlock ∨ v1'.ownBlock = some w.heap.size) : TwoR W w' v1' n1' x1' v2 n2 x2 :=
  ⟨h.bel.grown hg h.bel.size (own_base h.o1), ho, own_apart (n1 := n1) (x1 := x1) h.o2 hg h.ne, fun g hg2 => by
    rcases hb with hb | hb
    · rw [hb]; exact h.ne g hg2
    · rw [hb]; intro e; have := own_lt5 h.o2 hg2; injection e; omega⟩

theorem TwoR.app2 {W w w' : World} {v1 v2' v2 : Value} {n1 n2' n2 : Nat} {x1 x2' x2 : List Value} (h : TwoR W w v1 n1 x1 v2 n2 x2) (ho : w'.ownsRow W.heap.size 5 1 v2' n2' x2') (hg : w.grownBy w' v2.ownBlock) (hb : v2'.ownBlock = v2.ownBlock ∨ v2'.ownBlock = some w.heap.size) : TwoR W w' v1 n1 x1 v2' n2' x2' :=
  ⟨h.bel.grown hg h.bel.size (own_base h.o2), own_apart (n1 := n2) (x1 := x2) h.o1 hg (fun g h1 h2 => h.ne g h2 h1), ho, fun g hg2 => by
    rcases hb with hb | hb
    · rw [hb] at hg2; exact h.ne g hg2
    · rw [hb] at hg2; injection hg2 with hg2; intro e; have := own_lt5 h.o1 e; omega⟩

/-- One of the rows: its slice and its bytes. -/
structure Row5 where
  A : Option Addr
  n : Nat
  c : Nat
  l : List UInt8
def Row5.val (r : Row5) : Value := .slice r.A r.n r.c
/-- The five rows lie in block G. -/
structure R5 (W wc : World) (G : Nat) (rs : List Row5) : Prop where
  bel : Below W.heap.size W wc
  lt : G < wc.heap.size
  le : W.heap.size ≤ G
  len : rs.length = 5
  blk : wc.heap[G]? = some (.cells (rs.map Row5.val).toArray 23 (0, 0))
  sl : ∀ r ∈ rs, Sl wc G r.A r.n r.c r.l

theorem sl_of_row5 {w : World} {base n : Nat} {v : Value} {l : List UInt8} (h : w.ownsRow base 5 1 v n (bv l)) : ∃ r : Row5, v = r.val ∧ Sl w w.heap.size r.A r.n r.c r.l := by
  have hn : n = l.length := by have := h.1; simpa [bv] using this.symm
  subst hn
  obtain ⟨A, c, e, hs⟩ := sl_of_own h
  exact ⟨⟨A, l.length, c, l⟩, e, hs⟩

theorem R5.of {W w : World} {v1 v2 : Value} {n1 n2 : Nat} {x1 x2 : List Value} (h : TwoR W w v1 n1 x1 v2 n2 x2) {l1 l2 : List UInt8} (e1 : x1 = bv l1) (e2 : x2 = bv l2) {r1 r2 r4 : Row5} (h1 : Sl w w.heap.size r1.A r1.n r1.c r1.l) (h2 : Sl w w.heap.size r2.A r2.n r2.c r2.l) (h4 : Sl w w.heap.size r4.A r4.n r4.c r4.l) :
    ∃ rs, R5 W (w.alloc (.cells #[r1.val, r2.val, v1, r4.val, v2] 23)) w.heap.size rs := by
  have o1 := h.o1
  have o2 := h.o2
  rw [e1] at o1
  rw [e2] at o2
  obtain ⟨r3, ev3, h3⟩ := sl_of_row5 o1
  obtain ⟨r5, ev5, h5⟩ := sl_of_row5 o2
  have hb : Below w.heap.size w (w.alloc (.cells #[r1.val, r2.val, v1, r4.val, v2] 23)) := (Below.refl _ _).alloc (Nat.le_refl _) _
  refine ⟨[r1, r2, r3, r4, r5], h.bel.alloc h.bel.size _, by simp, h.bel.size, rfl, ?_, ?_⟩
  · rw [ev3, ev5]; exact heap_alloc_new w _
  · intro r hr
    simp only [List.mem_cons, List.not_mem_nil, or_false] at hr
    rcases hr with rfl | rfl | rfl | rfl | rfl
    · exact h1.below hb
    · exact h2.below hb
    · exact h3.below hb
    · exact h4.below hb
    · exact h5.below hb

theorem Sl.up {w : World} {B B' n c : Nat} {A : Option Addr} {l : List UInt8} (h : Sl w B A n c l) (hB : B ≤ B') : Sl w B' A n c l := ⟨h.len, h.cap, h.max, h.rd.more hB⟩
theorem u8_two (n : Nat) : IntKind.u8.wrap (n : Int) = ((UInt8.ofNat n).toNat : Int) := by rw [IntKind.wrap_u8]; simp
theorem u8_back (n : Int) (h0 : 0 ≤ n) (h1 : n < 256) : ∃ x : UInt8, n = (x.toNat : Int) := ⟨UInt8.ofNat n.toNat, by simp; omega⟩
theorem u8_wrap (n : Int) : ∃ q : UInt8, n % 256 = (q.toNat : Int) := u8_back _ (by omega) (by omega)
theorem R5.next {W wc w' : World} {G : Nat} {rs : List Row5} (h : R5 W wc G rs) (hb : Below wc.heap.size wc w') : R5 W w' G rs :=
  ⟨h.bel.trans (hb.mono h.bel.size), Nat.lt_of_lt_of_le h.lt hb.size, h.le, h.len, (hb.block G h.lt).trans h.blk, fun r hr => (h.sl r hr).below (hb.mono (Nat.le_of_lt h.lt))⟩

theorem R5.at_ {W wc : World} {G : Nat} {rs : List Row5} (h : R5 W wc G rs) {j : Nat} (hj : j < 5) : ∃ r : Row5, wc.cell? ⟨G, j, none⟩ = some (.slice r.A r.n r.c) ∧ Sl wc G r.A r.n r.c r.l := by
  have hj' : j < rs.length := by rw [h.len]; exact hj
  refine ⟨rs[j], ?_, h.sl _ (List.getElem_mem hj')⟩
  rw [cell_of_row _ _ _ _ _ _ h.blk]
  simp [Row5.val, List.getElem?_eq_getElem hj']
end Go.Proofs.Ytifdkkkcecpjoaa
