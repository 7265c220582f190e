/-
  frame's writer: number, text: each appends its bytes to what was written, and turns nothing that was there before the writer.
-/
import Derived.Test.YtifdkkkcecpjoaaFrP
import Derived.Test.YtifdkkkcecpjoaaRows
import Derived.WalkKit
import Derived.WalkSpells
import Derived.WalkLawsBesides
import Derived.BigQuiet
import Derived.Deep.QuietTactic
import Derived.Deep.AppendLies
import Derived.Deep.DrawnRows
import Derived.Deep.RegionLaw
import Derived.Deep.RegionHeld3
import Derived.Lib.Hide
import Derived.Lib.AppendStr
import Derived.Lib.ConvBytes
namespace Go.Proofs.Ytifdkkkcecpjoaa
open Go.RowKit
attribute [local go_sem ↓] Go.wp_at_zero Go.wp_at_succ

theorem ret_int {k : IntKind} {a b : Int} (h : a = b) : Ending.returned (.int k a) = .returned (.int k b) := by rw [h]
def nilS : Value := .slice none 0 0
def bv (l : List UInt8) : List Value := l.map fun c => .int .u8 (c.toNat : Int)
theorem bv_append (a b : List UInt8) : bv (a ++ b) = bv a ++ bv b := by simp [bv]
theorem bv_length (l : List UInt8) : (bv l).length = l.length := by simp [bv]
theorem bv_one (l : List UInt8) : ∀ u ∈ bv l, u.oneCell' = true := by
  intro u hu
  obtain ⟨c, _, rfl⟩ := List.mem_map.1 hu
  rfl

theorem info5 : (Try.prog.info? 5).map (fun i => (i.zero, i.size, i.bytes)) = some (some (.int .u8 0), 1, 1) := by kernel_rfl

/-- A writer at block p that has written l. -/
structure Wt (w : World) (base p : Nat) (v : Value) (l : List UInt8) : Prop where
  hb : base ≤ p
  blk : w.heap[p]? = some (.cells #[v] 67 (0, 0))
  own : w.ownsRow base 5 1 v l.length (bv l)

namespace Wt
variable {w w' : World} {base p : Nat} {v : Value} {l : List UInt8}
theorem lt (h : Wt w base p v l) : p < w.heap.size := by
  rcases Nat.lt_or_ge p w.heap.size with hlt | hge
  · exact hlt
  · have := h.blk; rw [Array.getElem?_eq_none hge] at this; cases this
theorem cell (h : Wt w base p v l) : w.cell? ⟨p, 0, none⟩ = some v := cell_of_row w p 0 #[v] 67 (0, 0) h.blk
theorem free (h : Wt w base p v l) : w.frozen? ⟨p, 0, none⟩ = false := by simp [World.frozen?, h.blk]
theorem ne (h : Wt w base p v l) : v.ownBlock ≠ some p := by
  intro e
  rcases h.own.2 with ⟨rfl, _⟩ | ⟨g, cap, cur, rfl, _, hb, _⟩
  · simp [Value.ownBlock] at e
  · simp [Value.ownBlock] at e
    subst e
    rw [h.blk] at hb; simp at hb
theorem form (h : Wt w base p v l) : ∃ a n c, v = .slice a n c := by
  rcases h.own.2 with ⟨rfl, _⟩ | ⟨g, cap, cur, rfl, _⟩
  · exact ⟨_, _, _, rfl⟩
  · exact ⟨_, _, _, rfl⟩
theorem below (h : Wt w base p v l) (hb : Below w.heap.size w w') : Wt w' base p v l where
  hb := h.hb
  blk := (hb.block p h.lt).trans h.blk
  own := by
    refine ⟨h.own.1, ?_⟩
    rcases h.own.2 with h0 | ⟨g, cap, cur, rfl, h1, h2, h3⟩
    · exact .inl h0
    · exact .inr ⟨g, cap, cur, rfl, h1, (hb.block g (Array.getElem?_eq_some_iff.1 h2).1).trans h2, h3⟩
end Wt

theorem own_form {w : World} {base n : Nat} {e : TypeId} {size : Nat} {v : Value} {xs : List Value} (h : w.ownsRow base e size v n xs) : ∃ a m c, v = .slice a m c := by
  rcases h.2 with ⟨rfl, _⟩ | ⟨g, cap, cur, rfl, _⟩
  · exact ⟨_, _, _, rfl⟩
  · exact ⟨_, _, _, rfl⟩
theorem own_base {w : World} {base n : Nat} {v : Value} {xs : List Value} (h : w.ownsRow base 5 1 v n xs) : ∀ k, v.ownBlock = some k → base ≤ k := by
  intro k e
  rcases h.2 with ⟨rfl, _⟩ | ⟨g, cap, cur, rfl, hb, _⟩
  · simp [Value.ownBlock] at e
  · simp [Value.ownBlock] at e; omega

/-- What was written turns into u, which owns the bytes l'. -/
theorem Wt.store {w w4 : World} {base p : Nat} {v u : Value} {l l' : List UInt8} (h : Wt w base p v l) (hB : w4.heap[p]? = w.heap[p]?) {n : Nat} (hn : n = l'.length) (hown : w4.ownsRow base 5 1 u n (bv l')) : Wt (w4.setCell ⟨p, 0, none⟩ u) base p u l' where
  hb := h.hb
  blk := by have := hB.trans h.blk; simp [World.setCell, Array.getElem?_modify, this]
  own := by
    subst hn
    refine ⟨hown.1, ?_⟩
    rcases hown.2 with h0 | ⟨g, cap, cur, rfl, h1, h2, h3⟩
    · exact .inl h0
    · refine .inr ⟨g, cap, cur, rfl, h1, (Below.heap_setCell w4 ⟨p, 0, none⟩ _ g (fun e => ?_)).trans h2, h3⟩
      have e : g = p := e
      subst e
      rw [hB, h.blk] at h2; simp at h2

/-- Blocks of other kinds than a writer's stay. -/
def WKeep (w w' : World) : Prop := ∀ (k : Nat) (cur : Array Value) (t : TypeId), w.heap[k]? = some (.cells cur t (0, 0)) → t ≠ 67 → t ≠ 5 → w'.heap[k]? = w.heap[k]?
theorem WKeep.refl (w : World) : WKeep w w := fun _ _ _ _ _ _ => rfl
theorem WKeep.trans {a b c : World} (h : WKeep a b) (h' : WKeep b c) : WKeep a c := fun k cur t hk h1 h2 => by
  have e := h k cur t hk h1 h2
  exact (h' k cur t (e.trans hk) h1 h2).trans e
theorem WKeep.of_below {a b : World} (h : Below a.heap.size a b) : WKeep a b := fun k _ _ hk _ _ => h.block k (Array.getElem?_eq_some_iff.1 hk).1
theorem WKeep.grown {a b : World} {base n : Nat} {v : Value} {xs : List Value} (h : a.ownsRow base 5 1 v n xs) (hg : a.grownBy b v.ownBlock) : WKeep a b := fun k cur t hk _ h2 => hg.block k (Array.getElem?_eq_some_iff.1 hk).1 (fun e => by
  rcases h.2 with ⟨rfl, _⟩ | ⟨g, cap, cur', rfl, _, hb, _⟩
  · simp [Value.ownBlock] at e
  · simp [Value.ownBlock] at e
    subst e
    rw [hb] at hk; injection hk with hk; injection hk with _ hk; exact h2 hk.symm)
theorem WKeep.set {a : World} {p : Nat} {u x : Value} (h : a.heap[p]? = some (.cells #[u] 67 (0, 0))) : WKeep a (a.setCell ⟨p, 0, none⟩ x) := fun k cur t hk h1 _ => Below.heap_setCell a ⟨p, 0, none⟩ x k (fun e => by
  have e : k = p := e
  subst e
  rw [h] at hk; injection hk with hk; injection hk with _ hk; exact h1 hk.symm)

def WEnd (base p : Nat) (l : List UInt8) (w : World) (e : Ending) (w' : World) : Prop :=
  e = .returned (.tuple #[]) ∧ (∃ v, Wt w' base p v l) ∧ Below base w w' ∧ WKeep w w'

theorem be_get (x : Int) : ∀ (n j : Nat), j < n → (be n x)[j]? = some (byteOf (x / 256 ^ (n - 1 - j)))
  | 0, j, h => by omega
  | n + 1, 0, _ => by simp [be]
  | n + 1, j + 1, h => by
    rw [be, List.getElem?_cons_succ, be_get x n j (by omega), show n + 1 - 1 - (j + 1) = n - 1 - j by omega]
theorem be_take (x : Int) {n j : Nat} (h : j < n) : (be n x).take (j + 1) = (be n x).take j ++ [byteOf (x / 256 ^ (n - 1 - j))] := by
  rw [List.take_add_one, be_get x n j h]; rfl
theorem be_take_all (x : Int) (n : Nat) : (be n x).take n = be n x := List.take_of_length_le (by rw [be_length]; omega)
theorem be_take_len (x : Int) {n j : Nat} (h : j ≤ n) : ((be n x).take j).length = j := by rw [List.length_take, be_length]; omega

set_option maxRecDepth 100000 in
set_option maxHeartbeats 800000 in
theorem wnum_any {w : World} {base p n : Nat} {v : Value} {l : List UInt8} (h : Wt w base p v l) (x : Int) (h1 : 1 ≤ n) (h8 : n ≤ 8) (hl : l.length ≤ 1000000000) :
    Calls Try.prog 29 #[.pointer (some ⟨p, 0, none⟩), .int .i64 x, .int .i64 n] w (WEnd base p (l ++ be n x) w) := by
  obtain ⟨i5, hi, hz, hy, hx⟩ := info_parts info5
  go_enter Try.func29, Try.ntmps29
  go_wp2_with fail
  go_loopw [6] (fun k wr => ∃ (j : Nat) (u : Value), j ≤ n ∧ k = .int .i64 (8 * ((n : Int) - j - 1)) ∧ Wt wr base p u (l ++ (be n x).take j) ∧ Below base w wr ∧ WKeep w wr) (fun k _ => (intOf k + 8).toNat)
  case atStart => exact ⟨0, v, by omega, by simp, by simpa using h, Below.refl _ _, WKeep.refl _⟩
  case round =>
    obtain ⟨j, u, hj, rfl, hw, hb, hkp⟩ := hrel
    by_cases hlt : j < n
    · obtain ⟨a, m, c, rfl⟩ := hw.form
      have c0 := hw.cell
      have f0 := hw.free
      have hL : (l ++ (be n x).take j).length = l.length + j := by rw [List.length_append, be_take_len x hj]
      obtain ⟨c8, hc8⟩ : ∃ c8, c8 = byteOf (x / 256 ^ (n - 1 - j)) := ⟨_, rfl⟩
      have eb : IntKind.u8.wrap (x / 2 ^ (8 * ((n : Int) - j - 1)).toNat) = (c8.toNat : Int) := by
        rw [hc8, byteOf_toNat, show (8 * ((n : Int) - j - 1)).toNat = 8 * (n - 1 - j) by omega, Int.pow_mul]
        rfl
      have hn8 : (0 : Int) ≤ 8 * ((n : Int) - j - 1) := by omega
      have hlb : l ++ (be n x).take (j + 1) = l ++ (be n x).take j ++ [c8] := by rw [be_take x hlt, ← hc8, List.append_assoc]
      obtain ⟨L, hLe⟩ : ∃ L, L = l ++ (be n x).take j := ⟨_, rfl⟩
      rw [← hLe] at hlb hL hw
      have HLB := Lib.hid hlb
      have hmx : L.length ≤ 1000000008 := by omega
      have hm := hw.own
      have hpl := hw.lt
      have hne := hw.ne
      have hbp := hw.hb
      clear hlb hL hc8 hLe
      have HW := Lib.hid hw
      have HKP := Lib.hid hkp
      clear hw hkp
      go_wp2_with fail
      go_region_law (refine step_append_lies _ (by rfl) _ _ _ (by rfl) base 5 i5 _ 1 1 Try.underlying23 hi hz hy hx rfl (by omega) _ _ _ (by rfl) ((hm.alloc (.cells #[.int .u8 (c8.toNat : Int)] 5)).drew) ⟨wr.heap.size, 0, none⟩ 1 1 [.int .u8 (c8.toNat : Int)] (by rfl) (by rfl) (World.news_of_block (cs := #[.int .u8 (c8.toNat : Int)]) (t := 5) (fr := (0, 0)) (heap_alloc_new wr _)) (by simp [Value.oneCell']) (by omega) (by unfold maxLen; omega) (by omega) (by first | omega | (simp; done) | (simp; omega)) _ rfl ?_; intro g4 cap4 w4 hown4 hgrow4 hat4 hlt4; have hB4 := (hgrow4.block p (by first | omega | (simp; done) | (simp; omega)) (fun e => hne e.symm)).trans (Below.heap_alloc _ _ _ hpl); have f4 : w4.frozen? ⟨p, 0, none⟩ = false := (by simp [World.frozen?, hB4, HW.out.blk]); have c4 : w4.cell? ⟨p, 0, none⟩ = some (.slice a m c) := (World.cell?_of_block hB4).trans c0; have HB4 := Lib.hid hB4; clear hB4)
      all_goals
        have hb4 : Below base w w4 := hb.trans ((((Below.refl base wr).alloc (by omega) _).drew).grown hgrow4 (by simp; omega) (own_base hm))
        have hk4 : WKeep wr w4 := (WKeep.of_below (((Below.refl _ _).alloc (Nat.le_refl _) _).drew)).trans (WKeep.grown ((hm.alloc (.cells #[.int .u8 (c8.toNat : Int)] 5)).drew) hgrow4)
        go_wp2
        go_roundw
        case rel => exact ⟨j + 1, _, by omega, by congr 1; omega, by rw [HLB.out]; exact HW.out.store HB4.out (n := L.length + 1) (by simp) (by rw [bv_append]; exact hown4), hb4.setCell hbp _, HKP.out.trans (hk4.trans (WKeep.set (HB4.out.trans HW.out.blk)))⟩
        case measure => simp [intOf]; omega
    · obtain rfl : j = n := by omega
      go_wp2
      go_end0
      exact ⟨rfl, ⟨u, by rw [be_take_all] at hw; exact hw⟩, hb, hkp⟩

def bl (s : ByteArray) : List UInt8 := s.data.toList
theorem bl_length (s : ByteArray) : (bl s).length = s.size := by simp [bl]
theorem strCells_eq (s : ByteArray) : Lib.strCells s = bv (bl s) := rfl

set_option maxRecDepth 100000 in
set_option maxHeartbeats 800000 in
theorem wtext_any {w : World} {base p n : Nat} {v : Value} {l : List UInt8} (h : Wt w base p v l) (s : ByteArray) (h1 : 1 ≤ n) (h8 : n ≤ 8) (hl : l.length ≤ 900000000) (hs : s.size ≤ 100000) :
    Calls Try.prog 30 #[.pointer (some ⟨p, 0, none⟩), .string s, .int .i64 n] w (WEnd base p (l ++ tx n (bl s)) w) := by
  obtain ⟨i5, hi, hz, hy, hx⟩ := info_parts info5
  go_enter Try.func30, Try.ntmps30
  go_wp2_with fail
  refine (wnum_any (n := n) h (s.size : Int) h1 h8 (by omega)).mono ?_
  rintro e w1 ⟨rfl, ⟨v1, h2⟩, b1, k1⟩
  have c1 := h2.cell
  have f1 := h2.free
  have hL : (l ++ be n (s.size : Int)).length = l.length + n := by rw [List.length_append, be_length]
  have K1 := Lib.hid k1
  clear k1
  have HL := Lib.hid hL
  have hm := h2.own
  have hpl := h2.lt
  have hbp := h2.hb
  have H2 := Lib.hid h2
  have hle : (l ++ be n (s.size : Int)).length ≤ 900000008 := by omega
  obtain ⟨L, hLe⟩ : ∃ L, L = l ++ be n (s.size : Int) := ⟨_, rfl⟩
  rw [← hLe] at HL H2 hle hm
  have HLe := Lib.hid hLe
  clear hLe
  clear hL h2
  go_wp2_with (at_builtin; refine Lib.wpList_append_own_string _ rfl _ _ 23 9 rfl base 5 i5 Try.underlying23 Try.underlying9 hi hz hy hx v1 L.length (bv L) rfl hm s rfl (by unfold maxLen; omega) (by omega) (by omega) ?_; intro v2 w2 hown2 hgrow2 _; obtain ⟨a2, m2, k2, rfl⟩ := own_form hown2; have hB2 := hgrow2.block p hpl (fun e => H2.out.ne e.symm); have f2 : w2.frozen? ⟨p, 0, none⟩ = false := (by simp [World.frozen?, hB2, H2.out.blk]); have c2 : w2.cell? ⟨p, 0, none⟩ = some v1 := (World.cell?_of_block hB2).trans c1; have HB2 := Lib.hid hB2; clear hB2)
  go_end0
  have hb2 : Below base w w2 := b1.grown hgrow2 (by omega) (own_base hm)
  have hk2 : WKeep w (w2.setCell ⟨p, 0, none⟩ (.slice a2 m2 k2)) := K1.out.trans ((WKeep.grown hm hgrow2).trans (WKeep.set (HB2.out.trans H2.out.blk)))
  have hst : Wt (w2.setCell ⟨p, 0, none⟩ (.slice a2 m2 k2)) base p (.slice a2 m2 k2) (L ++ bl s) := H2.out.store HB2.out (n := L.length + s.size) (by simp [bl_length]) (by rw [bv_append]; exact hown2)
  refine ⟨rfl, ⟨.slice a2 m2 k2, ?_⟩, hb2.setCell hbp _, hk2⟩
  rw [tx, ← List.append_assoc, bl_length, ← HLe.out]
  exact hst
end Go.Proofs.Ytifdkkkcecpjoaa
