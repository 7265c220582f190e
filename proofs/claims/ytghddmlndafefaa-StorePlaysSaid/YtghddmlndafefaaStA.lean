/-
  The store's functions Now, newest, Read, each by a contract over one plain description of a store: the list of all its versions in the order in which they came.
-/
import Derived.Test.YtghddmlndafefaaRows
import Derived.WalkKit
import Derived.WalkSpells
import Derived.WalkLawsBesides
import Derived.Maps.OwnSet
import Derived.Maps.RangeWalk
import Derived.Maps.Ext
import Derived.Maps.AppendAt
import Derived.BigQuiet
import Derived.Deep.QuietTactic
import Derived.Deep.AppendLies
import Derived.Lib.Hide
namespace Go.Proofs.Ytghddmlndafefaa
open Go.RowKit Go.Maps

theorem ret_int {k : IntKind} {a b : Int} (h : a = b) : Ending.returned (.int k a) = .returned (.int k b) := by rw [h]

theorem tmod_neg' {a n : Int} (hn : 0 < n) (h : a < 0) : a.tmod n ≤ 0 ∧ -n < a.tmod n ∧ (a.tmod n = a % n ∨ (a.tmod n < 0 ∧ a.tmod n + n = a % n)) := by
  obtain ⟨b, rfl⟩ : ∃ b : Int, a = -b := ⟨-a, by omega⟩
  have e1 : (-b).tmod n = -(b.tmod n) := Int.neg_tmod b n
  have e2 : b.tmod n = b % n := Int.tmod_eq_emod_of_nonneg (by omega)
  have h3 := Int.emod_nonneg b (show n ≠ 0 by omega)
  have h4 := Int.emod_lt_of_pos b hn
  have h5 := Int.emod_nonneg (-b) (show n ≠ 0 by omega)
  have h6 := Int.emod_lt_of_pos (-b) hn
  have h7 := Int.mul_ediv_add_emod b n
  have h8 := Int.mul_ediv_add_emod (-b) n
  rw [e1, e2]
  refine ⟨by omega, by omega, ?_⟩
  have h9 : n * ((-b) / n + b / n) = -(b % n) - (-b) % n := by rw [Int.mul_add]; omega
  generalize (-b) / n + b / n = q at h9
  have q1 : q ≤ 0 := by
    apply Int.not_lt.1
    intro hq
    have := Int.mul_le_mul_of_nonneg_left (show 1 ≤ q by omega) (show 0 ≤ n by omega)
    omega
  have q2 : -2 < q := by
    apply Int.not_le.1
    intro hq
    have := Int.mul_le_mul_of_nonneg_left hq (show 0 ≤ n by omega)
    omega
  rcases (show q = 0 ∨ q = -1 by omega) with h | h <;> rw [h] at h9 <;> omega

set_option maxHeartbeats 400000 in
theorem within_any (a n : Int) (w : World) (hn : 0 < n) (hb : n ≤ 9223372036854775807) (ha : -9223372036854775808 ≤ a) (ha' : a ≤ 9223372036854775807) :
    Calls Try.prog 18 #[.int .i64 a, .int .i64 n] w fun e w' => e = .returned (.int .i64 (a % n)) ∧ w = w' := by
  by_cases h : 0 ≤ a
  · have h3 : 0 ≤ a % n := Int.emod_nonneg _ (by omega)
    go_enter Try.func18, Try.ntmps18
    go_wp2
    go_ret
    exact ⟨rfl, rfl⟩
  · obtain ⟨h4, h6, hx⟩ := tmod_neg' hn (show a < 0 by omega)
    have h7 := Int.emod_nonneg a (show n ≠ 0 by omega)
    have HX := Lib.hid hx
    clear hx
    go_enter Try.func18, Try.ntmps18
    go_wp2
    · go_ret
      exact ⟨ret_int (by rcases HX.out with h | h <;> omega), rfl⟩
    · go_ret
      exact ⟨ret_int (by rcases HX.out with h | h <;> omega), rfl⟩

/-! ### the description of a store -/
/-- A version. -/
structure Ver where
  key : ByteArray
  val : ByteArray
  gone : Bool
  at_ : Nat

def Ver.cells (v : Ver) : List Value := [.string v.key, .string v.val, .bool v.gone, .int .i64 v.at_]
def cellsOf (l : List Ver) : List Value := l.flatMap Ver.cells
theorem cellsOf_cons (v : Ver) (l : List Ver) : cellsOf (v :: l) = v.cells ++ cellsOf l := rfl
theorem cellsOf_append (a b : List Ver) : cellsOf (a ++ b) = cellsOf a ++ cellsOf b := by simp [cellsOf]
theorem cellsOf_length : ∀ l : List Ver, (cellsOf l).length = l.length * 4
  | [] => rfl
  | v :: l => by rw [cellsOf_cons, List.length_append, cellsOf_length l]; simp [Ver.cells]; omega
theorem cellsOf_get : ∀ (l : List Ver) (i j : Nat) (v : Ver), l[i]? = some v → j < 4 → (cellsOf l)[i * 4 + j]? = v.cells[j]?
  | [], i, j, v, h, _ => by simp at h
  | u :: l, 0, j, v, h, hj => by
    simp at h; subst h
    rw [cellsOf_cons, List.getElem?_append_left (by simp [Ver.cells]; omega)]; simp
  | u :: l, i + 1, j, v, h, hj => by
    rw [cellsOf_cons, List.getElem?_append_right (by simp [Ver.cells]; omega)]
    rw [show (i + 1) * 4 + j - u.cells.length = i * 4 + j by simp [Ver.cells]; omega]
    exact cellsOf_get l i j v (by simpa using h) hj

def ofKey (L : List Ver) (k : ByteArray) : List Ver := L.filter fun v => decide (v.key = k)
theorem ofKey_append (a b : List Ver) (k : ByteArray) : ofKey (a ++ b) k = ofKey a k ++ ofKey b k := by simp [ofKey]
theorem ofKey_length_le (L : List Ver) (k : ByteArray) : (ofKey L k).length ≤ L.length := List.length_filter_le _ _

/-- What is seen of a row of versions at a stamp: the last one that is no newer. -/
def vis (l : List Ver) (at_ : Int) : Option Ver := (l.filter fun v => decide ((v.at_ : Int) ≤ at_)).getLast?

/-- What Read answers. -/
def readOf : Option Ver → ByteArray × Bool
  | none => (⟨#[]⟩, false)
  | some v => if v.gone then (⟨#[]⟩, false) else (v.val, true)

def nilS : Value := .slice none 0 0
def RV : Value → Option (DataW Value × List MemPlace)
  | .slice a n c => some (.held (.slice a n c), [])
  | _ => none
def kl (k : ByteArray) : Lit := .string k.data.toList

structure Sto where
  sb : Nat
  pb : Nat
  kb : Nat
  lim : Nat
  now : Nat
  L : List Ver
  pins : List Nat

/-- The map that tells how often a stamp is pinned. -/
def PinsAre (PD : DataW Value) (pins : List Nat) : Prop :=
  ∀ t : Int, (Lit.int .i64 t).wf = true → PD.atKey (.int .i64 t) (.lit (.int .i64 0)) = .lit (.int .i64 (pins.countP fun (p : Nat) => decide ((p : Int) = t))) ∧
    (Maps.has PD (.int .i64 t) = true ↔ ∃ p ∈ pins, (p : Int) = t)

structure Holds (w : World) (base : Nat) (s : Sto) (D PD : DataW Value) : Prop where
  blk : w.heap[s.sb]? = some (.cells #[.map (some s.pb), .int .i64 s.lim, .int .i64 s.now, .map (some s.kb)] 65 (0, 0))
  hsb : base ≤ s.sb
  hpb : base ≤ s.pb
  hkb : base ≤ s.kb
  ne : s.pb ≠ s.kb
  own : w.ownsMap Try.prog 9 RV s.kb (Maps.size D) D
  rows : ∀ key : ByteArray, key.size ≤ maxLen → ∃ v, D.atKey (kl key) (.held nilS) = .held v ∧ w.ownsRow base 70 4 v (ofKey s.L key).length (cellsOf (ofKey s.L key)) ∧
    (Maps.has D (kl key) = true ↔ ofKey s.L key ≠ [])
  keys : ∀ v ∈ s.L, v.key.size ≤ maxLen
  room : s.L.length ≤ s.lim
  lim : s.lim ≤ 10000
  stamps : ∀ v ∈ s.L, v.at_ ≤ s.now
  pown : w.ownsMap Try.prog 3 (plainElem Try.prog 3) s.pb (Maps.size PD) PD
  pins : PinsAre PD s.pins

theorem law9 : Keyed Try.prog 9 := string_keyed Try.underlying9
theorem law3 : Keyed Try.prog 3 := int_keyed Try.underlying3
theorem zero67 (w : World) : (zeroValue 67).run Try.prog w = .ok nilS w := by kernel_rfl
theorem zero3 (w : World) : (zeroValue 3).run Try.prog w = .ok (.int .i64 0) w := by kernel_rfl
theorem RV_nil : RV nilS = some (.held nilS, []) := rfl
theorem RV_inv {v : Value} {y : DataW Value × List MemPlace} (h : RV v = some y) : (∃ x : Option Addr × Nat × Nat, v = .slice x.1 x.2.1 x.2.2) ∧ y = (.held v, []) := by
  cases v <;> simp [RV] at h
  exact ⟨⟨(_, _, _), rfl⟩, h.symm⟩

theorem Holds.cell {w : World} {base : Nat} {s : Sto} {D PD : DataW Value} (h : Holds w base s D PD) :
    w.cell? ⟨s.sb, 0, none⟩ = some (.map (some s.pb)) ∧ w.cell? ⟨s.sb, 1, none⟩ = some (.int .i64 s.lim) ∧ w.cell? ⟨s.sb, 2, none⟩ = some (.int .i64 s.now) ∧ w.cell? ⟨s.sb, 3, none⟩ = some (.map (some s.kb)) := by
  have := h.blk
  simp [World.cell?, this]

theorem Holds.free {w : World} {base : Nat} {s : Sto} {D PD : DataW Value} (h : Holds w base s D PD) (o : Nat) : w.frozen? ⟨s.sb, o, none⟩ = false := by
  have := h.blk
  simp [World.frozen?, this]

/-- A value that is a row of versions. -/
def RowIs (w : World) (v : Value) (l : List Ver) : Prop :=
  (v = nilS ∧ l = []) ∨ ∃ g cap, v = .slice (some ⟨g, 0, none⟩) l.length cap ∧
    ∀ i u, l[i]? = some u → w.cell? ⟨g, i * 4, none⟩ = some (.string u.key) ∧ w.cell? ⟨g, i * 4 + 1, none⟩ = some (.string u.val) ∧ w.cell? ⟨g, i * 4 + 2, none⟩ = some (.bool u.gone) ∧ w.cell? ⟨g, i * 4 + 3, none⟩ = some (.int .i64 u.at_)

theorem rowIs_of_owns {w : World} {base : Nat} {v : Value} {l : List Ver} (h : w.ownsRow base 70 4 v l.length (cellsOf l)) : RowIs w v l := by
  have h' := h
  rcases h.2 with ⟨rfl, hn⟩ | ⟨g, cap, cur, rfl, _⟩
  · exact .inl ⟨rfl, List.eq_nil_of_length_eq_zero hn⟩
  · refine .inr ⟨g, cap, rfl, fun i u hu => ?_⟩
    have hi : i < l.length := (List.getElem?_eq_some_iff.1 hu).1
    have c := fun j (hj : j < 4) => (h'.cellAt (i * 4 + j) (by omega)).trans (cellsOf_get l i j u hu hj)
    exact ⟨c 0 (by omega), c 1 (by omega), c 2 (by omega), c 3 (by omega)⟩

theorem Holds.look {w : World} {base : Nat} {s : Sto} {D PD : DataW Value} (h : Holds w base s D PD) (key : ByteArray) (hk : key.size ≤ maxLen) :
    ∃ v, (Instr.lookup 63 (.map (some s.kb)) (.string key) false).run Try.prog w = .ok v w ∧ RowIs w v (ofKey s.L key) ∧ w.ownsRow base 70 4 v (ofKey s.L key).length (cellsOf (ofKey s.L key)) := by
  obtain ⟨v, hat, hrow, _⟩ := h.rows key hk
  obtain ⟨v', ps, hrun, hR⟩ := h.own.lookup law9 Try.underlying63 (zero67 _) RV_nil (WideMaps.keyOf_string_mk Try.underlying9 hk)
  have e := (RV_inv hR).2
  rw [show Lit.string key.data.toList = kl key from rfl, hat] at e
  simp at e
  obtain ⟨rfl, _⟩ := e
  exact ⟨v, hrun, rowIs_of_owns hrow, hrow⟩

theorem now_any {base : Nat} {s : Sto} {D PD : DataW Value} {w : World} (h : Holds w base s D PD) :
    Calls Try.prog 19 #[.pointer (some ⟨s.sb, 0, none⟩)] w fun e w' => e = .returned (.int .i64 s.now) ∧ w = w' := by
  obtain ⟨_, _, c2, _⟩ := h.cell
  go_enter Try.func19, Try.ntmps19
  go_wp2
  go_ret
  exact ⟨rfl, rfl⟩

/-! ### newest -/
theorem vis_nil (at_ : Int) : vis [] at_ = none := rfl
theorem vis_snoc (l : List Ver) (u : Ver) (at_ : Int) : vis (l ++ [u]) at_ = if (u.at_ : Int) ≤ at_ then some u else vis l at_ := by
  unfold vis
  rw [List.filter_append]
  by_cases h : (u.at_ : Int) ≤ at_ <;> simp [h]
theorem take_succ' (l : List Ver) (k : Nat) (u : Ver) (h : l[k]? = some u) : l.take (k + 1) = l.take k ++ [u] := by
  rw [List.take_add_one, h]; rfl

/-- The place that newest tells. -/
def PlaceOf (l : List Ver) (at_ : Int) (i : Int) : Prop := (i = -1 ∧ vis l at_ = none) ∨ ∃ k : Nat, i = k ∧ ∃ u, l[k]? = some u ∧ vis l at_ = some u
def PlaceEnd (l : List Ver) (at_ : Int) (w : World) (e : Ending) (w' : World) : Prop := ∃ i, PlaceOf l at_ i ∧ e = .returned (.int .i64 i) ∧ w = w'

set_option maxHeartbeats 400000 in
theorem newest_row (sb kb g cap : Nat) (key : ByteArray) (at_ : Int) (l : List Ver) (w : World)
    (c3 : w.cell? ⟨sb, 3, none⟩ = some (.map (some kb)))
    (hrun : (Instr.lookup 63 (.map (some kb)) (.string key) false).run Try.prog w = .ok (.slice (some ⟨g, 0, none⟩) l.length cap) w)
    (hl : l.length ≤ 10000)
    (hcell : ∀ i u, l[i]? = some u → w.cell? ⟨g, i * 4 + 3, none⟩ = some (.int .i64 u.at_)) :
    Calls Try.prog 37 #[.pointer (some ⟨sb, 0, none⟩), .string key, .int .i64 at_] w (PlaceEnd l at_ w) := by
  go_enter Try.func37, Try.ntmps37
  go_wp2
  go_loop [8] (fun i => ∃ j : Nat, j ≤ l.length ∧ i = .int .i64 ((j : Int) - 1) ∧ Hid (vis l at_ = vis (l.take j) at_)) (fun i => (intOf i + 1).toNat)
  case atStart => exact ⟨l.length, Nat.le_refl _, rfl, by show vis l at_ = _; rw [List.take_length]⟩
  case round =>
    obtain ⟨j, hj, rfl, H⟩ := hrel
    cases j with
    | zero =>
      go_wp2
      go_ret
      exact ⟨_, .inl ⟨rfl, H.out⟩, rfl, rfl⟩
    | succ k =>
      obtain ⟨u, hu⟩ : ∃ u, l[k]? = some u := ⟨l[k], List.getElem?_eq_getElem (by omega)⟩
      have hc := hcell k u hu
      have H2 : Hid (vis (l.take (k + 1)) at_ = if (u.at_ : Int) ≤ at_ then some u else vis (l.take k) at_) := by show _ = _; rw [take_succ' l k u hu, vis_snoc]
      have HU := Lib.hid hu
      clear hcell hu
      by_cases ht : at_ < (u.at_ : Int)
      · go_wp2
        go_round
        case rel => exact ⟨k, by omega, rfl, by show _ = _; rw [H.out, H2.out, if_neg (by omega)]⟩
        case measure => simp [intOf]
      · go_wp2
        go_ret
        refine ⟨_, .inr ⟨k, by omega, u, HU.out, ?_⟩, rfl, rfl⟩
        rw [H.out, H2.out, if_pos (by omega)]

theorem newest_nil (sb kb : Nat) (key : ByteArray) (at_ : Int) (w : World)
    (c3 : w.cell? ⟨sb, 3, none⟩ = some (.map (some kb)))
    (hrun : (Instr.lookup 63 (.map (some kb)) (.string key) false).run Try.prog w = .ok (.slice none 0 0) w) :
    Calls Try.prog 37 #[.pointer (some ⟨sb, 0, none⟩), .string key, .int .i64 at_] w (PlaceEnd [] at_ w) := by
  go_enter Try.func37, Try.ntmps37
  go_wp2
  refine wp_loop_rounds 1 ?_; rw [rounds_succ]
  go_wp2
  go_ret
  exact ⟨_, .inl ⟨rfl, rfl⟩, rfl, rfl⟩

theorem newest_any {base : Nat} {s : Sto} {D PD : DataW Value} {w : World} (h : Holds w base s D PD) (key : ByteArray) (hk : key.size ≤ maxLen) (at_ : Int) :
    Calls Try.prog 37 #[.pointer (some ⟨s.sb, 0, none⟩), .string key, .int .i64 at_] w (PlaceEnd (ofKey s.L key) at_ w) := by
  obtain ⟨_, _, _, c3⟩ := h.cell
  obtain ⟨v, hrun, hrow, _⟩ := h.look key hk
  have hl := ofKey_length_le s.L key
  have := h.room
  have := h.lim
  rcases hrow with ⟨rfl, e⟩ | ⟨g, cap, rfl, hc⟩
  · rw [e]
    exact newest_nil _ _ _ _ _ c3 hrun
  · exact newest_row _ _ g cap _ _ _ _ c3 hrun (by omega) (fun i u hu => (hc i u hu).2.2.2)

/-! ### Read, Changed -/
def readEnd (l : List Ver) (at_ : Int) (w : World) (e : Ending) (w' : World) : Prop := e = .returned (.tuple #[.string (readOf (vis l at_)).1, .bool (readOf (vis l at_)).2]) ∧ w = w'

set_option maxRecDepth 100000 in
set_option maxHeartbeats 400000 in
theorem read_any {base : Nat} {s : Sto} {D PD : DataW Value} {w : World} (h : Holds w base s D PD) (key : ByteArray) (hk : key.size ≤ maxLen) (at_ : Int) :
    Calls Try.prog 21 #[.pointer (some ⟨s.sb, 0, none⟩), .string key, .int .i64 at_] w (readEnd (ofKey s.L key) at_ w) := by
  obtain ⟨_, _, _, c3⟩ := h.cell
  obtain ⟨v, hrun, hrow, _⟩ := h.look key hk
  have hl := ofKey_length_le s.L key
  have := h.room
  have := h.lim
  have hn := newest_any h key hk at_
  go_enter Try.func21, Try.ntmps21
  go_wp2_with fail
  refine hn.mono ?_
  rintro e w' ⟨i, hi, rfl, rfl⟩
  rcases hi with ⟨rfl, hv⟩ | ⟨k, rfl, u, hu, hv⟩
  · have HV := Lib.hid hv
    clear hv hn
    go_wp2
    go_ret2
    exact ⟨by rw [HV.out]; rfl, rfl⟩
  · rcases hrow with ⟨rfl, e⟩ | ⟨g, cap, rfl, hc⟩
    · rw [e] at hu; simp at hu
    · obtain ⟨c0, c1, c2, c4⟩ := hc k u hu
      have hk2 : k < (ofKey s.L key).length := (List.getElem?_eq_some_iff.1 hu).1
      have HV := Lib.hid hv
      clear hv hn hc hu
      cases hg : u.gone
      · go_wp2
        go_ret2
        exact ⟨by rw [HV.out]; simp [readOf, hg], rfl⟩
      · go_wp2
        go_ret2
        exact ⟨by rw [HV.out]; simp [readOf, hg], rfl⟩

end Go.Proofs.Ytghddmlndafefaa
