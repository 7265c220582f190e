/-
  The reference's store: its description, and the contracts of New, Now, Count, newest, Read, Changed.
-/
import Derived.Test.YtghddmlndafefaaStR
namespace Go.Proofs.Ytghddmlndafefaa
open Go.RowKit Go.Maps
attribute [local go_sem ↓] Go.wp_at_zero Go.wp_at_succ

/-- A reference store: its block, limit, stamp, versions, pins. -/
structure Rto where
  rb : Nat
  lim : Nat
  now : Nat
  L : List Ver
  pins : List Nat
def pinCells (l : List Nat) : List Value := l.map fun (p : Nat) => .int .i64 (p : Int)
structure RHold (w : World) (base : Nat) (r : Rto) (vv pv : Value) : Prop where
  blk : w.heap[r.rb]? = some (.cells #[.int .i64 r.lim, .int .i64 r.now, vv, pv] 55 (0, 0))
  hrb : base ≤ r.rb
  vrow : w.ownsRow base 82 4 vv r.L.length (cellsOf r.L)
  prow : w.ownsRow base 3 1 pv r.pins.length (pinCells r.pins)
def RHolds (w : World) (base : Nat) (r : Rto) : Prop := ∃ vv pv, RHold w base r vv pv
theorem RHold.lt {w : World} {base : Nat} {r : Rto} {vv pv : Value} (h : RHold w base r vv pv) : r.rb < w.heap.size := (Array.getElem?_eq_some_iff.1 h.blk).1
theorem RHold.cell {w : World} {base : Nat} {r : Rto} {vv pv : Value} (h : RHold w base r vv pv) :
    w.cell? ⟨r.rb, 0, none⟩ = some (.int .i64 r.lim) ∧ w.cell? ⟨r.rb, 1, none⟩ = some (.int .i64 r.now) ∧ w.cell? ⟨r.rb, 2, none⟩ = some vv ∧ w.cell? ⟨r.rb, 3, none⟩ = some pv := by
  have := h.blk
  simp [World.cell?, this]
theorem RHold.below {w w' : World} {base : Nat} {r : Rto} {vv pv : Value} (h : RHold w base r vv pv) (hb : Below w.heap.size w w') : RHold w' base r vv pv :=
  ⟨(hb.block _ h.lt).trans h.blk, h.hrb, ownsRow_below h.vrow hb, ownsRow_below h.prow hb⟩
theorem RHolds.below {w w' : World} {base : Nat} {r : Rto} (h : RHolds w base r) (hb : Below w.heap.size w w') : RHolds w' base r := by
  obtain ⟨vv, pv, h⟩ := h
  exact ⟨vv, pv, h.below hb⟩
theorem RHolds.drew {w : World} {base : Nat} {r : Rto} (h : RHolds w base r) : RHolds w.drew base r := by
  obtain ⟨vv, pv, h⟩ := h
  exact ⟨vv, pv, h.blk, h.hrb, h.vrow, h.prow⟩

def newRto (w : World) (lim : Nat) : Rto := ⟨w.heap.size, lim, 0, [], []⟩
def RNewEnd (lim : Nat) (w : World) (e : Ending) (w' : World) : Prop := e = .returned (.pointer (some ⟨w.heap.size, 0, none⟩)) ∧ RHolds w' w.heap.size (newRto w lim) ∧ Below w.heap.size w w' ∧ w'.heap.size = w.heap.size + 1
theorem rnew_any (lim : Nat) (w : World) : Calls Try.prog 26 #[.int .i64 lim] w (RNewEnd lim w) := by
  go_enter Try.func26, Try.ntmps26
  go_wp2
  go_ret
  refine ⟨rfl, ⟨nilS, nilS, heap_alloc_new w _, Nat.le_refl _, World.ownsRow_nil _ _ _ _, World.ownsRow_nil _ _ _ _⟩, (Below.refl _ _).alloc (Nat.le_refl _) _, by simp⟩
theorem rnow_any {w : World} {base : Nat} {r : Rto} (h : RHolds w base r) : Calls Try.prog 29 #[.pointer (some ⟨r.rb, 0, none⟩)] w (RetI r.now w) := by
  obtain ⟨vv, pv, h⟩ := h
  obtain ⟨_, c1, _, _⟩ := h.cell
  go_enter Try.func29, Try.ntmps29
  go_wp2
  go_ret
  exact ⟨rfl, rfl⟩
theorem rcount_any {w : World} {base : Nat} {r : Rto} (h : RHolds w base r) : Calls Try.prog 45 #[.pointer (some ⟨r.rb, 0, none⟩)] w (RetI r.L.length w) := by
  obtain ⟨vv, pv, h⟩ := h
  obtain ⟨_, _, c2, _⟩ := h.cell
  obtain ⟨a, c, rfl⟩ := slice_of_owns h.vrow
  go_enter Try.func45, Try.ntmps45
  go_wp2
  go_ret
  exact ⟨rfl, rfl⟩

/-! ### newest -/
/-- The place of a key's newest version, no newer than a stamp; -1: none. -/
def nIx (key : ByteArray) (at_ : Int) : Nat → List Ver → Int → Int
  | _, [], b => b
  | i, u :: l, b => nIx key at_ (i + 1) l (if u.key = key ∧ (u.at_ : Int) ≤ at_ then i else b)
def nOfL (L : List Ver) (key : ByteArray) (at_ : Int) : Int := nIx key at_ 0 L (-1)
theorem nIx_snoc (key : ByteArray) (at_ : Int) (u : Ver) : ∀ (l : List Ver) (i : Nat) (b : Int), nIx key at_ i (l ++ [u]) b = if u.key = key ∧ (u.at_ : Int) ≤ at_ then ((i + l.length : Nat) : Int) else nIx key at_ i l b
  | [], i, b => by simp [nIx]
  | v :: l, i, b => by
    show nIx key at_ (i + 1) (l ++ [u]) _ = _
    rw [nIx_snoc key at_ u l (i + 1)]
    simp only [List.length_cons, nIx]
    rw [show i + 1 + l.length = i + (l.length + 1) by omega]
theorem nOfL_snoc (L : List Ver) (u : Ver) (key : ByteArray) (at_ : Int) : nOfL (L ++ [u]) key at_ = if u.key = key ∧ (u.at_ : Int) ≤ at_ then (L.length : Int) else nOfL L key at_ := by
  unfold nOfL
  rw [nIx_snoc]
  simp
theorem nIx_bound (key : ByteArray) (at_ : Int) : ∀ (l : List Ver) (i : Nat) (b : Int), -1 ≤ b → b < i → -1 ≤ nIx key at_ i l b ∧ nIx key at_ i l b < ((i + l.length : Nat) : Int)
  | [], i, b, h1, h2 => ⟨h1, by simpa [nIx] using h2⟩
  | u :: l, i, b, h1, h2 => by
    have := nIx_bound key at_ l (i + 1) (if u.key = key ∧ (u.at_ : Int) ≤ at_ then i else b) (by split <;> omega) (by split <;> omega)
    simp only [nIx, List.length_cons]
    omega
theorem nOfL_bound (key : ByteArray) (at_ : Int) (L : List Ver) : -1 ≤ nOfL L key at_ ∧ nOfL L key at_ < L.length := by
  have := nIx_bound key at_ L 0 (-1) (by omega) (by omega)
  simpa [nOfL] using this

theorem RHold.at_cells {w : World} {base : Nat} {r : Rto} {vv pv : Value} (h : RHold w base r vv pv) (hne : 0 < r.L.length) : ∃ g c, vv = .slice (some ⟨g, 0, none⟩) r.L.length c ∧
    ∀ i u, r.L[i]? = some u → w.cell? ⟨g, i * 4, none⟩ = some (.string u.key) ∧ w.cell? ⟨g, i * 4 + 1, none⟩ = some (.string u.val) ∧ w.cell? ⟨g, i * 4 + 2, none⟩ = some (.bool u.gone) ∧ w.cell? ⟨g, i * 4 + 3, none⟩ = some (.int .i64 u.at_) := by
  have hr := h.vrow
  rcases hr.2 with ⟨_, h0⟩ | ⟨g, cap, cur, rfl, _⟩
  · omega
  · refine ⟨g, cap, rfl, fun i u hu => ?_⟩
    have hi : i < r.L.length := (List.getElem?_eq_some_iff.1 hu).1
    have c := fun j (hj : j < 4) => (hr.cellAt (i * 4 + j) (by omega)).trans (cellsOf_get r.L i j u hu hj)
    exact ⟨c 0 (by omega), c 1 (by omega), c 2 (by omega), c 3 (by omega)⟩

set_option maxRecDepth 100000 in
set_option maxHeartbeats 800000 in
theorem rnewest_any {w : World} {base : Nat} {r : Rto} (h : RHolds w base r) (key : ByteArray) (at_ : Int) (hL : r.L.length ≤ 10000) :
    Calls Try.prog 44 #[.pointer (some ⟨r.rb, 0, none⟩), .string key, .int .i64 at_] w (RetI (nOfL r.L key at_) w) := by
  obtain ⟨vv, pv, h⟩ := h
  obtain ⟨_, _, c2, _⟩ := h.cell
  have HA := Lib.hid h.at_cells
  obtain ⟨a, c, rfl⟩ := slice_of_owns h.vrow
  clear h
  go_enter Try.func44, Try.ntmps44
  go_wp2
  go_loop [7, 8] (fun b i => ∃ j : Nat, j ≤ r.L.length ∧ i = .int .i64 j ∧ b = .int .i64 (nOfL (r.L.take j) key at_)) (fun _ i => r.L.length - (intOf i).toNat)
  case atStart => exact ⟨0, Nat.zero_le _, rfl, rfl⟩
  case round =>
    obtain ⟨j, hj, rfl, rfl⟩ := hrel
    by_cases hlt : j < r.L.length
    · obtain ⟨g, c', e, hc⟩ := HA.out (by omega)
      obtain ⟨rfl, rfl⟩ : a = some ⟨g, 0, none⟩ ∧ c = c' := by simpa using e
      obtain ⟨u, hu⟩ : ∃ u, r.L[j]? = some u := ⟨r.L[j], List.getElem?_eq_getElem hlt⟩
      obtain ⟨k0, _, _, k3⟩ := hc j u hu
      have HS := Lib.hid (nOfL_snoc (r.L.take j) u key at_)
      have HT := Lib.hid (take_succ' r.L j u hu)
      have hmin : min j r.L.length = j := by omega
      clear hc hu e
      by_cases hk : u.key = key
      · by_cases ha : (u.at_ : Int) ≤ at_
        · go_wp2
          go_round
          case rel => exact ⟨j + 1, by omega, by go_num, by rw [HT.out, HS.out, if_pos ⟨hk, ha⟩]; simp [hmin]⟩
          case measure => simp [intOf]; omega
        · go_wp2
          go_round
          case rel => exact ⟨j + 1, by omega, by go_num, by rw [HT.out, HS.out, if_neg (fun h => ha h.2)]⟩
          case measure => simp [intOf]; omega
      · have hkl : ¬ u.key.toList = key.toList := fun e => hk (ByteArray.ext (by rw [Go.ByteArray.toList_eq, Go.ByteArray.toList_eq] at e; exact Array.ext' e))
        go_wp2
        go_round
        case rel => exact ⟨j + 1, by omega, by go_num, by rw [HT.out, HS.out, if_neg (fun h => hk h.1)]⟩
        case measure => simp [intOf]; omega
    · obtain rfl : j = r.L.length := by omega
      go_wp2
      go_ret
      exact ⟨by first | rfl | rw [List.take_length], rfl⟩

theorem nOfL_spec (key : ByteArray) (at_ : Int) : ∀ (n : Nat) (L : List Ver), L.length = n → (nOfL L key at_ = -1 ∧ vis (ofKey L key) at_ = none) ∨ ∃ (k : Nat) (u : Ver), nOfL L key at_ = k ∧ L[k]? = some u ∧ u.key = key ∧ vis (ofKey L key) at_ = some u
  | 0, L, h => by
    obtain rfl := List.eq_nil_of_length_eq_zero h
    exact .inl ⟨rfl, rfl⟩
  | n + 1, L, h => by
    rcases List.eq_nil_or_concat L with rfl | ⟨L', u, rfl⟩
    · simp at h
    · rw [List.concat_eq_append] at h ⊢
      have hl : L'.length = n := by simpa using h
      have ih := nOfL_spec key at_ n L' hl
      rw [nOfL_snoc, ofKey_append]
      by_cases hk : u.key = key
      · have e : ofKey [u] key = [u] := by simp [ofKey, hk]
        rw [e, vis_snoc]
        by_cases ha : (u.at_ : Int) ≤ at_
        · rw [if_pos ⟨hk, ha⟩, if_pos ha]
          exact .inr ⟨L'.length, u, rfl, by simp, hk, rfl⟩
        · rw [if_neg (fun h => ha h.2), if_neg ha]
          rcases ih with ih | ⟨k, v, h1, h2, h3⟩
          · exact .inl ih
          · exact .inr ⟨k, v, h1, by rw [List.getElem?_append_left (List.getElem?_eq_some_iff.1 h2).1]; exact h2, h3⟩
      · have e : ofKey [u] key = [] := by simp [ofKey, hk]
        rw [e, List.append_nil, if_neg (fun h => hk h.1)]
        rcases ih with ih | ⟨k, v, h1, h2, h3⟩
        · exact .inl ih
        · exact .inr ⟨k, v, h1, by rw [List.getElem?_append_left (List.getElem?_eq_some_iff.1 h2).1]; exact h2, h3⟩

set_option maxRecDepth 100000 in
set_option maxHeartbeats 800000 in
theorem rread_any {w : World} {base : Nat} {r : Rto} (h : RHolds w base r) (key : ByteArray) (at_ : Int) (hL : r.L.length ≤ 10000) (v : ByteArray) (b : Bool) (hr : readOf (vis (ofKey r.L key) at_) = (v, b)) :
    Calls Try.prog 34 #[.pointer (some ⟨r.rb, 0, none⟩), .string key, .int .i64 at_] w (RetSB v b w) := by
  have hn := rnewest_any h key at_ hL
  obtain ⟨vv, pv, h⟩ := h
  obtain ⟨_, _, c2, _⟩ := h.cell
  have HA := h.at_cells
  rcases nOfL_spec key at_ _ r.L rfl with ⟨e, hv⟩ | ⟨k, u, e, hu, hk, hv⟩
  · rw [e] at hn
    rw [hv] at hr
    obtain ⟨rfl, rfl⟩ : ⟨#[]⟩ = v ∧ false = b := by simpa [readOf] using hr
    clear h HA hr hv
    go_enter Try.func34, Try.ntmps34
    go_wp2_with fail
    refine hn.mono ?_
    rintro e w' ⟨rfl, rfl⟩
    go_wp2
    go_ret2
    exact ⟨rfl, rfl⟩
  · rw [e] at hn
    have hkl := (List.getElem?_eq_some_iff.1 hu).1
    obtain ⟨g, c, rfl, hc⟩ := HA (by omega)
    obtain ⟨k0, k1, k2, k3⟩ := hc k u hu
    rw [hv] at hr
    clear h HA hc hv hu
    cases hg : u.gone
    · obtain ⟨rfl, rfl⟩ : u.val = v ∧ true = b := by simpa [readOf, hg] using hr
      rw [hg] at k2
      clear hr
      go_enter Try.func34, Try.ntmps34
      go_wp2_with fail
      refine hn.mono ?_
      rintro e w' ⟨rfl, rfl⟩
      go_wp2
      go_ret2
      exact ⟨rfl, rfl⟩
    · obtain ⟨rfl, rfl⟩ : ⟨#[]⟩ = v ∧ false = b := by simpa [readOf, hg] using hr
      rw [hg] at k2
      clear hr
      go_enter Try.func34, Try.ntmps34
      go_wp2_with fail
      refine hn.mono ?_
      rintro e w' ⟨rfl, rfl⟩
      go_wp2
      go_ret2
      exact ⟨rfl, rfl⟩

set_option maxRecDepth 100000 in
set_option maxHeartbeats 800000 in
theorem rchanged_any {w : World} {base : Nat} {r : Rto} (h : RHolds w base r) (key : ByteArray) (since : Int) (hL : r.L.length ≤ 10000) (hst : ∀ v ∈ r.L, v.at_ ≤ r.now) :
    Calls Try.prog 35 #[.pointer (some ⟨r.rb, 0, none⟩), .string key, .int .i64 since] w (RetB (changedOf (ofKey r.L key) since) w) := by
  have hn := rnewest_any h key r.now hL
  obtain ⟨vv, pv, h⟩ := h
  obtain ⟨_, c1, c2, _⟩ := h.cell
  have HA := h.at_cells
  have hva := vis_all (ofKey r.L key) (r.now : Int) (fun v hv => by have := hst v (mem_ofKey hv); omega)
  unfold changedOf
  rcases nOfL_spec key r.now _ r.L rfl with ⟨e, hv⟩ | ⟨k, u, e, hu, hk, hv⟩
  · rw [e] at hn
    rw [← hva, hv]
    clear h HA hva hv
    go_enter Try.func35, Try.ntmps35
    go_wp2_with fail
    refine hn.mono ?_
    rintro e w' ⟨rfl, rfl⟩
    go_wp2
    go_ret
    exact ⟨rfl, rfl⟩
  · rw [e] at hn
    have hkl := (List.getElem?_eq_some_iff.1 hu).1
    obtain ⟨g, c, rfl, hc⟩ := HA (by omega)
    obtain ⟨k0, k1, k2, k3⟩ := hc k u hu
    rw [← hva, hv]
    clear h HA hc hv hu hva
    go_enter Try.func35, Try.ntmps35
    go_wp2_with fail
    refine hn.mono ?_
    rintro e w' ⟨rfl, rfl⟩
    go_wp2
    go_ret
    exact ⟨rfl, rfl⟩
end Go.Proofs.Ytghddmlndafefaa
