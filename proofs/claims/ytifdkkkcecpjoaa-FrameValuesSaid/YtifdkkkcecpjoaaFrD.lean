/-
  frame's reader: bytes, number, text, ended: what each takes, and how the reader stands behind it.
-/
import Derived.Test.YtifdkkkcecpjoaaFrC
import Derived.Laws.IdiomStrings
namespace Go.Proofs.Ytifdkkkcecpjoaa
open Go.RowKit
attribute [local go_sem ↓] Go.wp_at_zero Go.wp_at_succ

theorem only_drew {a w : World} {row : Option Nat} (h : a.grownBy w row) : a.grownBy w.drew row := ⟨h.os, h.tape, h.output, h.size, h.block⟩
theorem only_drewN {a w : World} {row : Option Nat} (h : a.grownBy w row) (n : Nat) : a.grownBy (w.drewN n) row := ⟨h.os, h.tape, h.output, h.size, h.block⟩
theorem only_alloc {a w : World} {row : Option Nat} (h : a.grownBy w row) (o : Obj) : a.grownBy (w.alloc o) row :=
  ⟨h.os, h.tape, h.output, Nat.le_trans h.size (by simp), fun i hi hne => (Below.heap_alloc w o i (Nat.lt_of_lt_of_le hi h.size)).trans (h.block i hi hne)⟩
theorem only_setCell {a w : World} {g : Nat} (h : a.grownBy w (some g)) {p : Addr} (hp : p.block = g ∨ a.heap.size ≤ p.block) (u : Value) : a.grownBy (w.setCell p u) (some g) :=
  ⟨h.os, h.tape, h.output, by simpa [World.setCell] using h.size, fun i hi hne => (Below.heap_setCell w p u i (by
    rintro rfl
    rcases hp with hp | hp
    · exact hne (by rw [hp])
    · omega)).trans (h.block i hi hne)⟩
theorem only_of_below {a w : World} (h : Below a.heap.size a w) (row : Option Nat) : a.grownBy w row := ⟨h.os, h.tape, h.output, h.size, fun i hi _ => h.block i hi⟩
theorem below_drewN {B : Nat} {a w : World} (h : Below B a w) (n : Nat) : Below B a (w.drewN n) := ⟨h.os, h.tape, h.output, h.size, h.block⟩
theorem only_trans {a b c : World} {row : Option Nat} (h : a.grownBy b row) (h' : b.grownBy c row) : a.grownBy c row :=
  ⟨h'.os.trans h.os, h'.tape.trans h.tape, h'.output.trans h.output, Nat.le_trans h.size h'.size, fun i hi hne => (h'.block i (Nat.lt_of_lt_of_le hi h.size) hne).trans (h.block i hi hne)⟩
theorem only_below {a b : World} {p : Nat} (h : a.grownBy b (some p)) {B : Nat} (hB : B ≤ a.heap.size) (hp : B ≤ p) : Below B a b :=
  ⟨h.os, h.tape, h.output, h.size, fun k hk => h.block k (by omega) (fun e => by injection e; omega)⟩

/-- A slice of bytes that reads as l, in blocks below B. -/
structure Sl (w : World) (B : Nat) (A : Option Addr) (n c : Nat) (l : List UInt8) : Prop where
  len : n = l.length
  cap : n ≤ c
  max : c ≤ maxLen
  rd : Reads w B 1 A n (bv l)

/-- A reader at block p. -/
structure Rdr (T : TypeId) (w : World) (B p : Nat) (A : Option Addr) (n c : Nat) (s : St) : Prop where
  hB : B ≤ p
  blk : w.heap[p]? = some (.cells #[.slice A n c, .bool s.bad] T (0, 0))
  sl : Sl w B A n c s.l

namespace Rdr
variable {T : TypeId} {w w' : World} {B p n c : Nat} {A : Option Addr} {s : St}
theorem lt (h : Rdr T w B p A n c s) : p < w.heap.size := by
  rcases Nat.lt_or_ge p w.heap.size with hlt | hge
  · exact hlt
  · have := h.blk; rw [Array.getElem?_eq_none hge] at this; cases this
theorem cell0 (h : Rdr T w B p A n c s) : w.cell? ⟨p, 0, none⟩ = some (.slice A n c) := cell_of_row w p 0 _ T (0, 0) h.blk
theorem cell1 (h : Rdr T w B p A n c s) : w.cell? ⟨p, 1, none⟩ = some (.bool s.bad) := cell_of_row w p 1 _ T (0, 0) h.blk
theorem free (h : Rdr T w B p A n c s) (o : Nat) : w.frozen? ⟨p, o, none⟩ = false := by simp [World.frozen?, h.blk]
theorem below (h : Rdr T w B p A n c s) (hb : Below w.heap.size w w') : Rdr T w' B p A n c s :=
  ⟨h.hB, (hb.block p h.lt).trans h.blk, ⟨h.sl.len, h.sl.cap, h.sl.max, h.sl.rd.below (hb.mono (Nat.le_trans h.hB (Nat.le_of_lt h.lt)))⟩⟩
end Rdr

theorem Sl.only {w w' : World} {B n c p : Nat} {A : Option Addr} {l : List UInt8} (h : Sl w B A n c l) (hg : w.grownBy w' (some p)) (hp : B ≤ p) (hB : B ≤ w.heap.size) : Sl w' B A n c l :=
  ⟨h.len, h.cap, h.max, h.rd.grown hg hB (fun g e => by injection e; omega)⟩
theorem Sl.below {w w' : World} {B n c : Nat} {A : Option Addr} {l : List UInt8} (h : Sl w B A n c l) (hb : Below B w w') : Sl w' B A n c l :=
  ⟨h.len, h.cap, h.max, h.rd.below hb⟩

def TookEnd (T : TypeId) (B p : Nat) (s : St) (k : Nat) (w : World) (e : Ending) (w' : World) : Prop :=
  ∃ A n c A' n' c', e = .returned (.slice A n c) ∧ Sl w' B A n c (s.takes k) ∧ Rdr T w' B p A' n' c' (s.behind k) ∧ w.grownBy w' (some p)

theorem Sl.cut {w : World} {B n c k : Nat} {A : Option Addr} {l : List UInt8} (h : Sl w B A n c l) (hk : k ≤ n) : Sl w B (if c = k then A else A.map (·.add k)) (n - k) (c - k) (l.drop k) where
  len := by rw [List.length_drop, h.len]
  cap := by have := h.cap; omega
  max := by have := h.max; omega
  rd := by
    have := h.rd.cut hk h.cap
    rw [Nat.mul_one] at this
    have e : (bv l).drop k = bv (l.drop k) := by simp [bv]
    rw [e] at this
    exact this
theorem Sl.head {w : World} {B n c k : Nat} {A : Option Addr} {l : List UInt8} (h : Sl w B A n c l) (hk : k ≤ n) : Sl w B A k k (l.take k) where
  len := by have := h.len; rw [List.length_take]; omega
  cap := Nat.le_refl _
  max := by have := h.max; have := h.cap; omega
  rd := by
    refine ⟨by have := h.len; simp [bv]; omega, fun h0 => ?_⟩
    obtain ⟨ad, e, hb, hc⟩ := h.rd.2 (by omega)
    refine ⟨ad, e, hb, fun j u hu => hc j u ?_⟩
    simp only [bv, List.map_take, List.getElem?_take] at hu
    split at hu
    · exact hu
    · cases hu
theorem Sl.nil_ (w : World) (B : Nat) : Sl w B none 0 0 [] where
  len := rfl
  cap := Nat.le_refl _
  max := Nat.zero_le _
  rd := ⟨rfl, fun h => absurd h (by omega)⟩

theorem Rdr.set {T : TypeId} {w : World} {B p n c n' c' : Nat} {A A' : Option Addr} {s : St} {l : List UInt8} (h : Rdr T w B p A n c s) (hs : Sl w B A' n' c' l) : Rdr T (w.setCell ⟨p, 0, none⟩ (.slice A' n' c')) B p A' n' c' ⟨l, s.bad⟩ ∧ w.grownBy (w.setCell ⟨p, 0, none⟩ (.slice A' n' c')) (some p) := by
  have hg : w.grownBy (w.setCell ⟨p, 0, none⟩ (.slice A' n' c')) (some p) := only_setCell (p := ⟨p, 0, none⟩) (World.grownBy.refl w (some p)) (.inl rfl) (.slice A' n' c')
  have hb : (w.setCell ⟨p, 0, none⟩ (.slice A' n' c')).heap[p]? = some (.cells #[.slice A' n' c', .bool s.bad] T (0, 0)) := by
    have := h.blk
    simp [World.setCell, Array.getElem?_modify, this]
  have hB : B ≤ w.heap.size := Nat.le_trans h.hB (Nat.le_of_lt h.lt)
  have hs' := hs.only hg h.hB hB
  exact ⟨⟨h.hB, hb, hs'⟩, hg⟩
theorem Rdr.fail {T : TypeId} {w : World} {B p n c : Nat} {A : Option Addr} {s : St} (h : Rdr T w B p A n c s) : Rdr T ((w.setCell ⟨p, 0, none⟩ (.slice none 0 0)).setCell ⟨p, 1, none⟩ (.bool true)) B p none 0 0 ⟨[], true⟩ ∧ w.grownBy ((w.setCell ⟨p, 0, none⟩ (.slice none 0 0)).setCell ⟨p, 1, none⟩ (.bool true)) (some p) := by
  have hg0 : w.grownBy (w.setCell ⟨p, 0, none⟩ (.slice none 0 0)) (some p) := only_setCell (p := ⟨p, 0, none⟩) (World.grownBy.refl w (some p)) (.inl rfl) (.slice none 0 0)
  have hg : w.grownBy ((w.setCell ⟨p, 0, none⟩ (.slice none 0 0)).setCell ⟨p, 1, none⟩ (.bool true)) (some p) := only_setCell (p := ⟨p, 1, none⟩) hg0 (.inl rfl) (.bool true)
  have hb : ((w.setCell ⟨p, 0, none⟩ (.slice none 0 0)).setCell ⟨p, 1, none⟩ (.bool true)).heap[p]? = some (.cells #[.slice none 0 0, .bool true] T (0, 0)) := by
    have := h.blk
    simp [World.setCell, Array.getElem?_modify, this]
  exact ⟨⟨h.hB, hb, Sl.nil_ _ _⟩, hg⟩

theorem St.takes_short {s : St} {k : Nat} (h : s.l.length < k) : s.takes k = [] := by unfold St.takes; rw [if_neg (by omega)]
theorem St.behind_short {s : St} {k : Nat} (h : s.l.length < k) : s.behind k = ⟨[], true⟩ := by unfold St.behind; rw [if_neg (by omega)]
theorem St.takes_long {s : St} {k : Nat} (h : k ≤ s.l.length) : s.takes k = s.l.take k := by unfold St.takes; rw [if_pos h]
theorem St.behind_long {s : St} {k : Nat} (h : k ≤ s.l.length) : s.behind k = ⟨s.l.drop k, s.bad⟩ := by unfold St.behind; rw [if_pos h]

set_option maxRecDepth 100000 in
set_option maxHeartbeats 400000 in
theorem bytes_any {w : World} {B p n c k : Nat} {A : Option Addr} {s : St} (h : Rdr 76 w B p A n c s) (hk : k ≤ 1000000000) :
    Calls Try.prog 46 #[.pointer (some ⟨p, 0, none⟩), .int .i64 k] w (TookEnd 76 B p s k w) := by
  have c0 := h.cell0
  have c1 := h.cell1
  have f0 := h.free 0
  have f1 := h.free 1
  have hn := h.sl.len
  have hc := h.sl.cap
  have hm := h.sl.max
  unfold maxLen at hm
  have HN := Lib.hid hn
  clear hn
  by_cases hlt : n < k
  · have HF := Lib.hid h.fail
    go_enter Try.func46, Try.ntmps46
    go_wp2_with fail
    go_ret
    have hsh : s.l.length < k := by have := HN.out; omega
    exact ⟨none, 0, 0, none, 0, 0, rfl, by rw [St.takes_short hsh]; exact Sl.nil_ _ _, by rw [St.behind_short hsh]; exact HF.out.1, HF.out.2⟩
  · have HH := Lib.hid (h.sl.head (k := k) (by omega))
    have hB := Lib.hid (And.intro h.hB (Nat.le_trans h.hB (Nat.le_of_lt h.lt)))
    have hcut := h.sl.cut (k := k) (by omega)
    have hle : k ≤ s.l.length := by have := HN.out; omega
    by_cases hck : c = k
    · subst hck
      obtain rfl : n = c := by omega
      rw [if_pos rfl, Nat.sub_self] at hcut
      have HC := Lib.hid (h.set hcut)
      clear h hcut
      go_enter Try.func46, Try.ntmps46
      go_wp2_with fail
      go_ret
      obtain ⟨h1, h2⟩ := HC.out
      exact ⟨A, n, n, _, _, _, rfl, by rw [St.takes_long hle]; exact HH.out.only h2 hB.out.1 hB.out.2, by rw [St.behind_long hle]; exact h1, h2⟩
    · rw [if_neg hck] at hcut
      have HC := Lib.hid (h.set hcut)
      clear h hcut
      go_enter Try.func46, Try.ntmps46
      go_wp2_with fail
      go_ret
      obtain ⟨h1, h2⟩ := HC.out
      exact ⟨A, k, k, _, _, _, rfl, by rw [St.takes_long hle]; exact HH.out.only h2 hB.out.1 hB.out.2, by rw [St.behind_long hle]; exact h1, h2⟩

theorem or_step (a : Nat) (x : UInt8) : bits BinOp.or IntKind.i64 (wrap64 (sgn a * 256)) (wrap64 (x.toNat : Int)) = sgn (a * 256 + x.toNat) := by
  have hx := x.toNat_lt
  have e1 : (BitVec.ofInt 64 (wrap64 (sgn a * 256))).toNat = 2 ^ 8 * (a % 2 ^ 56) := by
    rw [BitVec.toNat_ofInt]; unfold sgn wrap64; omega
  have e2 : (BitVec.ofInt 64 (wrap64 (x.toNat : Int))).toNat = x.toNat := by
    rw [BitVec.toNat_ofInt]; unfold wrap64; omega
  have e3 : (BitVec.ofInt 64 (wrap64 (sgn a * 256)) ||| BitVec.ofInt 64 (wrap64 (x.toNat : Int))).toNat = 2 ^ 8 * (a % 2 ^ 56) + x.toNat := by
    rw [BitVec.toNat_or, e1, e2, Nat.two_pow_add_eq_or_of_lt (by omega)]
  unfold bits
  refine (congrArg (fun n : Nat => IntKind.i64.wrap (n : Int)) e3).trans ?_
  rw [IntWalk.i64_left]
  unfold sgn wrap64
  omega

theorem un_take {l : List UInt8} {j : Nat} {x : UInt8} (h : l[j]? = some x) : un (l.take (j + 1)) 0 = un (l.take j) 0 * 256 + x.toNat := by
  rw [List.take_add_one, h, un_append]; rfl
theorem bv_get {l : List UInt8} {j : Nat} {u : Value} (h : (bv l)[j]? = some u) : ∃ x : UInt8, l[j]? = some x ∧ u = .int .u8 (x.toNat : Int) := by
  simp only [bv, List.getElem?_map, Option.map_eq_some_iff] at h
  obtain ⟨x, hx, rfl⟩ := h
  exact ⟨x, hx, rfl⟩

def NumEnd (T : TypeId) (B p : Nat) (s : St) (k : Nat) (w : World) (e : Ending) (w' : World) : Prop :=
  ∃ A' n' c', e = .returned (.int .i64 (sgn (s.num k))) ∧ Rdr T w' B p A' n' c' (s.behind k) ∧ w.grownBy w' (some p)

set_option maxRecDepth 100000 in
set_option maxHeartbeats 400000 in
theorem num_any {w : World} {B p n c k : Nat} {A : Option Addr} {s : St} (h : Rdr 76 w B p A n c s) (hk : k ≤ 8) :
    Calls Try.prog 34 #[.pointer (some ⟨p, 0, none⟩), .int .i64 k] w (NumEnd 76 B p s k w) := by
  have hlk := St.takes_length s k
  go_enter Try.func34, Try.ntmps34
  go_wp2_with fail
  refine (bytes_any h (by omega)).mono ?_
  rintro e w1 ⟨A1, n1, c1, A2, n2, c2, rfl, hs, hr, hg⟩
  have hn := hs.len
  have hm := hs.max
  have hcp := hs.cap
  have hrd := hs.rd
  have hN : n1 ≤ 8 := by omega
  have HN := Lib.hid hn
  clear hn hs h
  go_wp2_with fail
  go_loop [5, 12] (fun v i => ∃ j : Nat, j ≤ n1 ∧ i = .int .i64 j ∧ v = .int .i64 (sgn (un ((s.takes k).take j) 0))) (fun _ i => n1 - (intOf i).toNat)
  case atStart => exact ⟨0, Nat.zero_le _, rfl, by simp [un, sgn, wrap64]⟩
  case round =>
    obtain ⟨j, hj, rfl, rfl⟩ := hrel
    by_cases hlt : j < n1
    · obtain ⟨ad, u, rfl, -, hu, hcell⟩ := hrd.at_ hlt
      obtain ⟨x, hx, rfl⟩ := bv_get hu
      have HX := Lib.hid (un_take hx)
      clear hrd hu hx
      go_wp2_with fail
      go_round
      case rel => exact ⟨j + 1, by omega, by go_num, by rw [or_step, HX.out]⟩
      case measure => simp [intOf]; omega
    · obtain rfl : j = n1 := by omega
      go_wp2_with fail
      go_ret
      exact ⟨_, _, _, by rw [List.take_of_length_le (by rw [← HN.out]; omega)]; rfl, hr, hg⟩

def ba (l : List UInt8) : ByteArray := ⟨l.toArray⟩
theorem bl_ba (l : List UInt8) : bl (ba l) = l := by simp [bl, ba]
theorem ba_bl (s : ByteArray) : ba (bl s) = s := by cases s; simp [bl, ba]
theorem ba_size (l : List UInt8) : (ba l).size = l.length := by rw [← bl_length, bl_ba]

theorem sl_string {w : World} {B n c : Nat} {A : Option Addr} {l : List UInt8} (h : Sl w B A n c l) : (convert 23 9 (.slice A n c)).run Try.prog w = .ok (.string (ba l)) w := by
  have hn := h.len
  rcases Nat.eq_zero_or_pos n with h0 | h0
  · subst h0
    obtain rfl : l = [] := List.eq_nil_of_length_eq_zero hn.symm
    rw [run_convert_bytes_string w 23 9 5 _ 0 c Try.underlying23 Try.underlying5 Try.underlying9]
    cases A <;> simp [Conv.bytesToString, loadCells]
    all_goals rfl
  · obtain ⟨ad, rfl, -, hc⟩ := h.rd.2 h0
    subst hn
    refine run_convert_bytes_back w 23 9 5 ad c l Try.underlying23 Try.underlying5 Try.underlying9 (fun j hj => hc j _ ?_)
    simp [bv, List.getElem?_eq_getElem hj]

theorem num_lt (s : St) (k : Nat) : s.num k < 256 ^ k := by
  have h1 := un_lt (s.takes k) 0
  have h2 := St.takes_length s k
  have h3 : 256 ^ (s.takes k).length ≤ 256 ^ k := Nat.pow_le_pow_right (by omega) h2
  unfold St.num
  omega
theorem num_lt3 (s : St) {k : Nat} (hk : k ≤ 3) : s.num k < 16777216 :=
  Nat.lt_of_lt_of_le (num_lt s k) (Nat.le_trans (Nat.pow_le_pow_right (by omega) hk) (by omega))
theorem sgn_small {m : Nat} (h : m < 16777216) : sgn m = m := by unfold sgn wrap64; omega

def TextEnd (T : TypeId) (B p : Nat) (s : St) (k : Nat) (w : World) (e : Ending) (w' : World) : Prop :=
  ∃ A' n' c', e = .returned (.string (ba (s.txt k))) ∧ Rdr T w' B p A' n' c' (s.past k) ∧ w.grownBy w' (some p)

set_option maxRecDepth 100000 in
set_option maxHeartbeats 400000 in
theorem text_any {w : World} {B p n c k : Nat} {A : Option Addr} {s : St} (h : Rdr 76 w B p A n c s) (hk : k ≤ 3) :
    Calls Try.prog 35 #[.pointer (some ⟨p, 0, none⟩), .int .i64 k] w (TextEnd 76 B p s k w) := by
  have hm := num_lt3 s hk
  go_enter Try.func35, Try.ntmps35
  go_wp2_with fail
  refine (num_any h (by omega)).mono ?_
  rintro e w1 ⟨A1, n1, c1, rfl, hr, hg⟩
  rw [sgn_small hm]
  clear h
  go_wp2_with fail
  refine (bytes_any hr (by omega)).mono ?_
  rintro e w2 ⟨A2, n2, c2, A3, n3, c3, rfl, hs, hr2, hg2⟩
  have hcv := sl_string hs
  clear hs hr
  go_wp2_with fail
  go_ret
  exact ⟨_, _, _, rfl, hr2, only_trans hg hg2⟩

set_option maxRecDepth 100000 in
set_option maxHeartbeats 400000 in
theorem ended_any {w : World} {B p n c : Nat} {A : Option Addr} {s : St} (h : Rdr 76 w B p A n c s) :
    Calls Try.prog 36 #[.pointer (some ⟨p, 0, none⟩)] w fun e w' => e = .returned (.bool (!s.bad && s.l.isEmpty)) ∧ w = w' := by
  have c0 := h.cell0
  have c1 := h.cell1
  have hn := h.sl.len
  have he : s.l.isEmpty = decide (n = 0) := by rw [hn]; cases s.l <;> simp
  clear h
  rw [he]
  clear hn he
  obtain ⟨l, b⟩ := s
  cases b
  · go_enter Try.func36, Try.ntmps36
    go_wp2_with fail
    go_ret
    exact ⟨by by_cases hz : n = 0 <;> simp [hz], rfl⟩
  · go_enter Try.func36, Try.ntmps36
    go_wp2_with fail
    go_ret
    exact ⟨rfl, rfl⟩

def HeadEnd (w : World) (B k : Nat) (s : St) (e : Ending) (w' : World) : Prop :=
  ∃ A n c, e = .returned (.tuple #[.int .i64 (s.num k), .slice A n c, .bool (!((s.behind k).behind (s.num k)).bad)]) ∧ Sl w' B A n c (s.txt k) ∧ Below w.heap.size w w'

set_option maxRecDepth 100000 in
set_option maxHeartbeats 400000 in
theorem head_any {w : World} {B n c k : Nat} {A : Option Addr} {l : List UInt8} (h : Sl w B A n c l) (hB : B ≤ w.heap.size) (hk : k ≤ 3) :
    Calls Try.prog 33 #[.slice A n c, .int .i64 k] w (HeadEnd w B k ⟨l, false⟩) := by
  have hm := num_lt3 ⟨l, false⟩ hk
  obtain ⟨W1, hW1⟩ : ∃ W1, W1 = w.alloc (.cells #[.slice A n c, .bool false] 76) := ⟨_, rfl⟩
  have b1 : Below w.heap.size w W1 := by rw [hW1]; exact (Below.refl _ _).alloc (Nat.le_refl _) _
  have hR : Rdr 76 W1 B w.heap.size A n c ⟨l, false⟩ := ⟨hB, by rw [hW1]; exact heap_alloc_new w _, h.below (b1.mono hB)⟩
  have HW1 := Lib.hid hW1
  clear hW1
  go_enter Try.func33, Try.ntmps33
  go_wp2_with fail
  rw [← HW1.out]
  refine (num_any hR (by omega)).mono ?_
  rintro e w1 ⟨A1, n1, c1, rfl, hr, hg⟩
  rw [sgn_small hm]
  clear hR
  go_wp2_with fail
  refine (bytes_any hr (by omega)).mono ?_
  rintro e w2 ⟨A2, n2, c2, A3, n3, c3, rfl, hs, hr2, hg2⟩
  have cb := hr2.cell1
  clear hr
  go_wp2_with fail
  go_quiet (fail)
  go_wp2_with fail
  go_ret3
  have hB2 : Below w.heap.size w w2 := by
    have hg' := only_trans hg hg2
    exact b1.trans (only_below hg' b1.size (Nat.le_refl _))
  exact ⟨A2, n2, c2, rfl, ⟨hs.len, hs.cap, hs.max, hs.rd.drewN _⟩, below_drewN hB2 _⟩
end Go.Proofs.Ytifdkkkcecpjoaa
