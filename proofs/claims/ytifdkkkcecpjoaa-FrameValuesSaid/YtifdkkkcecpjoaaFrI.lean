/-
  frame.Response: the bytes of any response.
-/
import Derived.Test.YtifdkkkcecpjoaaFrD
namespace Go.Proofs.Ytifdkkkcecpjoaa
open Go.RowKit
attribute [local go_sem ↓] Go.wp_at_zero Go.wp_at_succ

def Dg.cells (d : Dg) : List Value := [.string (ba d.frag), .int .i64 d.line, .int .i64 d.e]
def dcells (l : List Dg) : List Value := l.flatMap Dg.cells
theorem dcells_append (a b : List Dg) : dcells (a ++ b) = dcells a ++ dcells b := by simp [dcells]
theorem dcells_cons (v : Dg) (l : List Dg) : dcells (v :: l) = v.cells ++ dcells l := rfl
theorem dcells_length : ∀ l : List Dg, (dcells l).length = l.length * 3
  | [] => rfl
  | v :: l => by rw [dcells_cons, List.length_append, dcells_length l]; simp [Dg.cells]; omega
theorem dcells_get : ∀ (l : List Dg) (i j : Nat) (v : Dg), l[i]? = some v → j < 3 → (dcells l)[i * 3 + j]? = v.cells[j]?
  | [], i, j, v, h, _ => by simp at h
  | u :: l, 0, j, v, h, hj => by
    simp at h; subst h
    rw [dcells_cons, List.getElem?_append_left (by simp [Dg.cells]; omega)]; simp
  | u :: l, i + 1, j, v, h, hj => by
    rw [dcells_cons, List.getElem?_append_right (by simp [Dg.cells]; omega)]
    rw [show (i + 1) * 3 + j - u.cells.length = i * 3 + j by simp [Dg.cells]; omega]
    exact dcells_get l i j v (by simpa using h) hj
theorem dcells_one (l : List Dg) : ∀ u ∈ dcells l, u.oneCell' = true := by
  intro u hu
  obtain ⟨v, _, hv⟩ := List.mem_flatMap.1 hu
  simp [Dg.cells] at hv
  rcases hv with rfl | rfl | rfl <;> rfl

/-- A slice of diagnostics that reads as ds, in a block below B. -/
structure Sd (w : World) (B : Nat) (A : Option Addr) (n : Nat) (ds : List Dg) : Prop where
  len : n = ds.length
  rd : 0 < n → ∃ g, A = some ⟨g, 0, none⟩ ∧ g < B ∧ ∀ j u, (dcells ds)[j]? = some u → w.cell? ⟨g, j, none⟩ = some u
theorem Sd.below {w w' : World} {B n : Nat} {A : Option Addr} {ds : List Dg} (h : Sd w B A n ds) (hb : Below B w w') : Sd w' B A n ds := ⟨h.len, fun hn => by
  obtain ⟨g, e, hg, hc⟩ := h.rd hn
  exact ⟨g, e, hg, fun j u hu => (hb.cell (p := ⟨g, j, none⟩) hg).trans (hc j u hu)⟩⟩
theorem Sd.of_own {w : World} {base n : Nat} {v : Value} {ds : List Dg} (h : w.ownsRow base 57 3 v n (dcells ds)) (hn : n = ds.length) : ∃ A c, v = .slice A n c ∧ Sd w w.heap.size A n ds := by
  rcases h.2 with ⟨rfl, h0⟩ | ⟨g, cap, cur, rfl, hb, hg, _⟩
  · subst h0
    exact ⟨_, _, rfl, hn, fun h => absurd h (by omega)⟩
  · refine ⟨_, _, rfl, hn, fun _ => ⟨g, rfl, (Array.getElem?_eq_some_iff.1 hg).1, fun j u hu => ?_⟩⟩
    have := h.cells (g := g) rfl j u hu
    rw [Addr.add_lit, Nat.zero_add] at this
    exact this
theorem Sd.at_ {w : World} {B n : Nat} {A : Option Addr} {ds : List Dg} (h : Sd w B A n ds) {k : Nat} (hk : k < n) : ∃ g d, A = some ⟨g, 0, none⟩ ∧ g < B ∧ ds[k]? = some d ∧
    w.cell? ⟨g, k * 3, none⟩ = some (.string (ba d.frag)) ∧ w.cell? ⟨g, k * 3 + 1, none⟩ = some (.int .i64 d.line) ∧ w.cell? ⟨g, k * 3 + 2, none⟩ = some (.int .i64 d.e) := by
  obtain ⟨g, e, hb, hc⟩ := h.rd (by omega)
  have hl : k < ds.length := by have := h.len; omega
  have gk : ds[k]? = some ds[k] := List.getElem?_eq_getElem hl
  refine ⟨g, ds[k], e, hb, gk, ?_, ?_, ?_⟩
  · exact hc _ _ ((dcells_get ds k 0 _ gk (by omega)).trans rfl)
  · exact hc _ _ ((dcells_get ds k 1 _ gk (by omega)).trans rfl)
  · exact hc _ _ ((dcells_get ds k 2 _ gk (by omega)).trans rfl)

def dgv (d : Dg) : Value := .agg #[.string (ba d.frag), .int .i64 d.line, .int .i64 d.e]
theorem box3 {W : World} {q : Nat} {t : TypeId} {a b c : Value} (h : W.heap[q]? = some (.cells #[a, b, c] t (0, 0))) :
    W.cell? ⟨q, 0, none⟩ = some a ∧ W.cell? ⟨q, 1, none⟩ = some b ∧ W.cell? ⟨q, 2, none⟩ = some c :=
  ⟨cell_of_row W q 0 _ t (0, 0) h, cell_of_row W q 1 _ t (0, 0) h, cell_of_row W q 2 _ t (0, 0) h⟩

/-- A writer below which other blocks were made. -/
theorem Wt.alloc {w : World} {base p : Nat} {v : Value} {l : List UInt8} (h : Wt w base p v l) (o : Obj) : Wt (w.alloc o) base p v l := h.below ((Below.refl _ _).alloc (Nat.le_refl _) o)

set_option maxRecDepth 100000 in
set_option maxHeartbeats 800000 in
theorem wdiag_any {w : World} {base p : Nat} {v : Value} {l : List UInt8} (h : Wt w base p v l) (d : Dg) (hl : l.length ≤ 800000000) (hd : d.frag.length ≤ 100) :
    Calls Try.prog 44 #[.pointer (some ⟨p, 0, none⟩), dgv d] w (WEnd base p (l ++ d.enc) w) := by
  unfold dgv
  have hlt := h.lt
  have hbp := h.hb
  go_enter Try.func44, Try.ntmps44
  go_wp2_with fail
  have h1 := h.alloc (.cells #[.string (ba d.frag), .int .i64 d.line, .int .i64 d.e] 57)
  have hq : (w.alloc (.cells #[.string (ba d.frag), .int .i64 d.line, .int .i64 d.e] 57)).heap[w.heap.size]? = some (.cells #[.string (ba d.frag), .int .i64 d.line, .int .i64 d.e] 57 (0, 0)) := heap_alloc_new w _
  have b1 : Below base w (w.alloc (.cells #[.string (ba d.frag), .int .i64 d.line, .int .i64 d.e] 57)) := (Below.refl _ _).alloc (by omega) _
  have hz : (w.alloc (.cells #[.string (ba d.frag), .int .i64 d.line, .int .i64 d.e] 57)).heap.size = w.heap.size + 1 := by simp
  have K1 : WKeep w (w.alloc (.cells #[.string (ba d.frag), .int .i64 d.line, .int .i64 d.e] 57)) := WKeep.of_below ((Below.refl _ _).alloc (Nat.le_refl _) _)
  generalize w.alloc (.cells #[.string (ba d.frag), .int .i64 d.line, .int .i64 d.e] 57) = w1 at *
  have k1 : WKeep w w1 := K1
  obtain ⟨c0, -, -⟩ := box3 hq
  have HQ := Lib.hid hq
  clear hq K1 h
  go_wp2_with fail
  refine (wtext_any (n := 1) h1 (ba d.frag) (by omega) (by omega) (by omega) (by rw [ba_size]; omega)).mono ?_
  rintro e w2 ⟨rfl, ⟨v2, h2⟩, b2, k2⟩
  rw [bl_ba] at h2
  have HQ2 := Lib.hid ((k2 _ _ _ HQ.out (by decide) (by decide)).trans HQ.out)
  obtain ⟨-, c1, -⟩ := box3 HQ2.out
  clear c0 HQ
  go_wp2_with fail
  refine (wnum_any (n := 2) h2 d.line (by omega) (by omega) (by rw [List.length_append, tx_length]; omega)).mono ?_
  rintro e w3 ⟨rfl, ⟨v3, h3⟩, b3, k3⟩
  have HQ3 := Lib.hid ((k3 _ _ _ HQ2.out (by decide) (by decide)).trans HQ2.out)
  obtain ⟨-, -, c2⟩ := box3 HQ3.out
  clear c1 HQ2
  go_wp2_with fail
  refine (wnum_any (n := 1) h3 d.e (by omega) (by omega) (by rw [List.length_append, List.length_append, tx_length, be_length]; omega)).mono ?_
  rintro e w4 ⟨rfl, ⟨v4, h4⟩, b4, k4⟩
  go_wp2_with fail
  go_end0
  refine ⟨rfl, ⟨v4, ?_⟩, ((b1.trans b2).trans b3).trans b4, ((k1.trans k2).trans k3).trans k4⟩
  rw [Dg.enc, ← List.append_assoc, ← List.append_assoc]
  exact h4

theorem encs_snoc (l : List Dg) (d : Dg) : encs (l ++ [d]) = encs l ++ d.enc := by simp [encs]
theorem encs_len : ∀ l : List Dg, (∀ d ∈ l, d.frag.length ≤ 100) → (encs l).length ≤ 104 * l.length
  | [], _ => by simp [encs]
  | d :: l, h => by
    have h1 := encs_len l (fun d hd => h d (by simp [hd]))
    have h2 := h d (by simp)
    simp only [encs, List.flatMap_cons, List.length_append, List.length_cons] at *
    simp only [Dg.enc, List.length_append, tx_length, be_length]; omega

set_option maxRecDepth 100000 in
set_option maxHeartbeats 800000 in
theorem wall_any {w : World} {base p B n c : Nat} {A : Option Addr} {v : Value} {l : List UInt8} {ds : List Dg} (h : Wt w base p v l) (hs : Sd w B A n ds) (hB : B ≤ base) (hl : l.length ≤ 1000000) (hn : ds.length ≤ 5000) (hd : ∀ d ∈ ds, d.frag.length ≤ 100) :
    Calls Try.prog 43 #[.slice A n c, .func (.func 44) #[.pointer (some ⟨p, 0, none⟩)] #[]] w (WEnd base p (l ++ encs ds) w) := by
  have hln := hs.len
  have hn5 : n ≤ 5000 := by omega
  have HLN := Lib.hid hln
  have HD := Lib.hid hd
  clear hln hd
  go_enter Try.func43, Try.ntmps43
  go_wp2_with fail
  go_loopw [8] (fun i wr => ∃ (j : Nat) (u : Value), j ≤ n ∧ i = .int .i64 j ∧ Wt wr base p u (l ++ encs (ds.take j)) ∧ Below base w wr ∧ WKeep w wr) (fun i _ => n - (intOf i).toNat)
  case atStart => exact ⟨0, v, Nat.zero_le _, rfl, by simpa [encs] using h, Below.refl _ _, WKeep.refl _⟩
  case round =>
    obtain ⟨j, u, hj, rfl, hw, hb, hk⟩ := hrel
    by_cases hlt : j < n
    · obtain ⟨g, d, rfl, hgB, hu, c0, c1, c2⟩ := (hs.below (hb.mono hB)).at_ hlt
      have hfr : d.frag.length ≤ 100 := HD.out d (List.mem_of_getElem? hu)
      have hlen : (l ++ encs (ds.take j)).length ≤ 2000000 := by
        have := encs_len (ds.take j) (fun d hd => HD.out d (List.mem_of_mem_take hd))
        rw [List.length_append]
        have h' : (ds.take j).length ≤ 5000 := by rw [List.length_take]; omega
        omega
      have HS : Hid (l ++ encs (ds.take (j + 1)) = (l ++ encs (ds.take j)) ++ d.enc) := by
        show _ = _
        rw [List.take_add_one, hu, List.append_assoc, ← encs_snoc]; rfl
      have hw1 := hw.alloc (.cells #[.string (ba d.frag), .int .i64 d.line, .int .i64 d.e] 57)
      have hbw : base ≤ wr.heap.size := by have := hw.hb; have := hw.lt; omega
      have hb1 : Below base w (wr.alloc (.cells #[.string (ba d.frag), .int .i64 d.line, .int .i64 d.e] 57)) := hb.alloc hbw _
      have hk1 : WKeep w (wr.alloc (.cells #[.string (ba d.frag), .int .i64 d.line, .int .i64 d.e] 57)) := hk.trans (WKeep.of_below ((Below.refl _ _).alloc (Nat.le_refl _) _))
      clear hu hs h hw hb hk
      go_wp2_with fail
      refine (wdiag_any hw1 d (by omega) hfr).mono ?_
      rintro e w2 ⟨rfl, ⟨v2, h2⟩, b2, k2⟩
      rw [← HS.out] at h2
      go_wp2_with fail
      go_roundw
      case rel => exact ⟨j + 1, v2, by omega, by go_num, h2, hb1.trans b2, hk1.trans k2⟩
      case measure => simp [intOf]; omega
    · obtain rfl : j = n := by omega
      go_wp2_with fail
      go_end0
      rw [List.take_of_length_le (by rw [← HLN.out]; omega)] at hw
      exact ⟨rfl, ⟨u, hw⟩, hb, hk⟩

def rsv (e : Int) (t : ByteArray) (iA : Option Addr) (iN iC : Nat) (dA : Option Addr) (dN dC : Nat) : Value := .agg #[.int .i64 e, .string t, .slice iA iN iC, .slice dA dN dC]

set_option maxRecDepth 100000 in
set_option maxHeartbeats 1600000 in
theorem response_any {w : World} {B iN iC dN dC : Nat} {iA dA : Option Addr} {img : List UInt8} {ds : List Dg} (x : Int) (t : ByteArray) (hi : Sl w B iA iN iC img) (hs : Sd w B dA dN ds) (hB : B ≤ w.heap.size)
    (ht : t.size ≤ 600) (hi4 : img.length ≤ 4096) (hn : ds.length ≤ 5000) (hd : ∀ d ∈ ds, d.frag.length ≤ 100) :
    Calls Try.prog 21 #[rsv x t iA iN iC dA dN dC] w (BytesEnd (Rs.enc ⟨x, bl t, img, ds⟩) w) := by
  unfold rsv
  have hln := hs.len
  have HLN := Lib.hid hln
  have HD := Lib.hid hd
  have hdN : dN ≤ 5000 := by omega
  clear hln hd
  obtain ⟨W1, hW1⟩ : ∃ W1, W1 = (w.alloc (.cells #[.int .i64 x, .string t, .slice iA iN iC, .slice dA dN dC] 42)).alloc (.cells #[.slice none 0 0] 67) := ⟨_, rfl⟩
  have hW : Wt W1 (w.heap.size + 1) (w.heap.size + 1) (.slice none 0 0) [] := by
    rw [hW1]
    exact ⟨Nat.le_refl _, by simpa using heap_alloc_new (w.alloc (.cells #[.int .i64 x, .string t, .slice iA iN iC, .slice dA dN dC] 42)) (.cells #[.slice none 0 0] 67), World.ownsRow_nil _ _ _ _⟩
  have b0 : Below w.heap.size w W1 := by rw [hW1]; exact ((Below.refl _ _).alloc (Nat.le_refl _) _).alloc (by simp) _
  have hq : W1.heap[w.heap.size]? = some (.cells #[.int .i64 x, .string t, .slice iA iN iC, .slice dA dN dC] 42 (0, 0)) := by
    rw [hW1]
    exact (Below.heap_alloc _ _ _ (by simp)).trans (heap_alloc_new w _)
  have HW1 := Lib.hid hW1
  clear hW1
  obtain ⟨c0, -, -, -⟩ := box4 hq
  have HQ := Lib.hid hq
  clear hq
  go_enter Try.func21, Try.ntmps21
  go_wp2_with fail
  rw [← HW1.out]
  refine (wnum_any (n := 1) hW x (by omega) (by omega) (by simp)).mono ?_
  rintro e w1 ⟨rfl, ⟨v1, h3⟩, b1, -⟩
  have b01 : Below w.heap.size w w1 := b0.trans (b1.mono (by omega))
  have HQ1 := Lib.hid ((b1.block w.heap.size (by omega)).trans HQ.out)
  obtain ⟨-, c1, -, -⟩ := box4 HQ1.out
  clear hW b0 b1 c0 HQ HW1
  rw [List.nil_append] at h3
  go_wp2_with fail
  refine (wtext_any (n := 2) h3 t (by omega) (by omega) (by rw [be_length]; omega) (by omega)).mono ?_
  rintro e w2 ⟨rfl, ⟨v2, h4⟩, b2, -⟩
  have b02 : Below w.heap.size w w2 := b01.trans (b2.mono (by omega))
  have HQ2 := Lib.hid ((b2.block w.heap.size (by omega)).trans HQ1.out)
  obtain ⟨-, -, c2, -⟩ := box4 HQ2.out
  have hcv := sl_string (hi.below (b02.mono hB))
  clear b01 b2 c1 HQ1 h3
  go_wp2_with fail
  refine (wtext_any (n := 2) h4 (ba img) (by omega) (by omega) (by rw [List.length_append, be_length, tx_length, bl_length]; omega) (by rw [ba_size]; omega)).mono ?_
  rintro e w3 ⟨rfl, ⟨v3, h5⟩, b3, -⟩
  have b03 : Below w.heap.size w w3 := b02.trans (b3.mono (by omega))
  have HQ3 := Lib.hid ((b3.block w.heap.size (by omega)).trans HQ2.out)
  obtain ⟨-, -, -, c3⟩ := box4 HQ3.out
  have hl3 : (be 1 x ++ tx 2 (bl t) ++ tx 2 (bl (ba img))).length ≤ 10000 := by rw [List.length_append, List.length_append, be_length, tx_length, tx_length, bl_length, bl_ba]; omega
  clear b02 b3 c2 HQ2 h4 hcv
  go_wp2_with fail
  refine (wnum_any (n := 2) h5 (dN : Int) (by omega) (by omega) (by omega)).mono ?_
  rintro e w4 ⟨rfl, ⟨v4, h6⟩, b4, -⟩
  have b04 : Below w.heap.size w w4 := b03.trans (b4.mono (by omega))
  have HQ4 := Lib.hid ((b4.block w.heap.size (by omega)).trans HQ3.out)
  clear c3
  obtain ⟨-, -, -, c3⟩ := box4 HQ4.out
  have hl4 : (be 1 x ++ tx 2 (bl t) ++ tx 2 (bl (ba img)) ++ be 2 (dN : Int)).length ≤ 10002 := by rw [List.length_append, be_length]; omega
  clear b03 b4 HQ3 h5
  go_wp2_with fail
  refine (wall_any h6 (hs.below (b04.mono hB)) (by omega) (by omega) hn HD.out).mono ?_
  rintro e w5 ⟨rfl, ⟨v5, h7⟩, b5, -⟩
  have b05 : Below w.heap.size w w5 := b04.trans (b5.mono (by omega))
  have hl5 : (be 1 x ++ tx 2 (bl t) ++ tx 2 (bl (ba img)) ++ be 2 (dN : Int) ++ encs ds).length ≤ 1000000 := by
    have := encs_len ds HD.out
    rw [List.length_append]; omega
  clear b04 b5 HQ4 h6 c3
  go_wp2_with fail
  refine (headed_any (n := 3) h7 (by omega) (by omega) (by omega)).mono ?_
  intro e w6 hE
  obtain ⟨A, m, c, rfl, hF⟩ := bytes_ret hE b05
  go_wp2_with fail
  go_ret
  have HE : Rs.enc ⟨x, bl t, img, ds⟩ = tx 3 (be 1 x ++ tx 2 (bl t) ++ tx 2 (bl (ba img)) ++ be 2 (dN : Int) ++ encs ds) := by
    rw [bl_ba, HLN.out]
    simp [Rs.enc, Rs.body]
  rw [HE]; exact hF
end Go.Proofs.Ytifdkkkcecpjoaa
