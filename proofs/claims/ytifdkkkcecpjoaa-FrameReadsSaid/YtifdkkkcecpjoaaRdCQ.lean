/-
  The reference's reader of bytes: a number, a text.
-/
import Derived.Test.YtifdkkkcecpjoaaRdBQ
namespace Go.Proofs.Ytifdkkkcecpjoaa
set_option linter.unusedVariables false
set_option linter.unusedSimpArgs false
open Go.RowKit
attribute [local go_sem ↓] Go.wp_at_zero Go.wp_at_succ
theorem Rdr.fail2 {T : TypeId} {w : World} {B p n c : Nat} {A : Option Addr} {s : St} (h : Rdr T w B p A n c s) : Rdr T ((w.setCell ⟨p, 1, none⟩ (.bool true)).setCell ⟨p, 0, none⟩ (.slice none 0 0)) B p none 0 0 ⟨[], true⟩ ∧ w.grownBy ((w.setCell ⟨p, 1, none⟩ (.bool true)).setCell ⟨p, 0, none⟩ (.slice none 0 0)) (some p) := by
  have hg0 : w.grownBy (w.setCell ⟨p, 1, none⟩ (.bool true)) (some p) := only_setCell (p := ⟨p, 1, none⟩) (World.grownBy.refl w (some p)) (.inl rfl) (.bool true)
  have hg : w.grownBy ((w.setCell ⟨p, 1, none⟩ (.bool true)).setCell ⟨p, 0, none⟩ (.slice none 0 0)) (some p) := only_setCell (p := ⟨p, 0, none⟩) hg0 (.inl rfl) (.slice none 0 0)
  have hb : ((w.setCell ⟨p, 1, none⟩ (.bool true)).setCell ⟨p, 0, none⟩ (.slice none 0 0)).heap[p]? = some (.cells #[.slice none 0 0, .bool true] T (0, 0)) := by
    have := h.blk
    simp [World.setCell, Array.getElem?_modify, this]
  exact ⟨⟨h.hB, hb, Sl.nil_ _ _⟩, hg⟩
theorem num_short {s : St} {k : Nat} (h : s.l.length < k) : s.num k = 0 := by rw [St.num, St.takes_short h]; rfl
theorem num_long {s : St} {k : Nat} (h : k ≤ s.l.length) : s.num k = un (s.l.take k) 0 := by rw [St.num, St.takes_long h]
theorem sgn0 : sgn 0 = 0 := by simp [sgn, wrap64]
set_option maxRecDepth 100000 in
set_option maxHeartbeats 800000 in
theorem num83 {w : World} {B p n c k : Nat} {A : Option Addr} {s : St} (h : Rdr 83 w B p A n c s) (hk : k ≤ 8) :
    Calls Try.prog 40 #[.pointer (some ⟨p, 0, none⟩), .int .i64 k] w (NumEnd 83 B p s k w) := by
  have c0 := h.cell0
  have c1 := h.cell1
  have f0 := h.free 0
  have f1 := h.free 1
  have hn := h.sl.len
  have hc := h.sl.cap
  have hm := h.sl.max
  unfold maxLen at hm
  have HN := Lib.hid hn
  clear hn
  by_cases hlt : n < k
  · have HF := Lib.hid h.fail2
    clear h
    go_enter Try.func40, Try.ntmps40
    go_wp2_with fail
    go_ret
    have hsh : s.l.length < k := by have := HN.out; omega
    exact ⟨none, 0, 0, by rw [num_short hsh, sgn0]; rfl, by rw [St.behind_short hsh]; exact HF.out.1, HF.out.2⟩
  · have hle : k ≤ s.l.length := by have := HN.out; omega
    have HH := Lib.hid h
    have hrd := h.sl.rd
    have HT := Lib.hid (num_long hle)
    have HL := Lib.hid hle
    clear h
    go_enter Try.func40, Try.ntmps40
    go_wp2_with fail
    go_loop [5, 6] (fun v i => ∃ j : Nat, j ≤ k ∧ i = .int .i64 j ∧ v = .int .i64 (sgn (un (s.l.take j) 0))) (fun _ i => k - (intOf i).toNat)
    case atStart => exact ⟨0, Nat.zero_le _, rfl, by simp [un, sgn, wrap64]⟩
    case round =>
      obtain ⟨j, hj, rfl, rfl⟩ := hrel
      by_cases hlt2 : j < k
      · have t1 : decide (j < k) = true := decide_eq_true hlt2
        obtain ⟨ad, u, rfl, -, hu, hcell⟩ := hrd.at_ (show j < n by omega)
        obtain ⟨x, hx, rfl⟩ := bv_get hu
        have HX := Lib.hid (un_take hx)
        clear hrd hu hx
        go_wp2_with fail
        go_round
        case rel => exact ⟨j + 1, by omega, by go_num, by rw [or_step, HX.out]⟩
        case measure => simp [intOf]; omega
      · have t1 : decide (j < k) = false := decide_eq_false hlt2
        obtain rfl : j = k := by omega
        clear hrd t1
        have h := HH.out
        have hcut := h.sl.cut (k := j) (by omega)
        by_cases hck : c = j
        · subst hck
          obtain rfl : n = c := by omega
          rw [if_pos rfl, Nat.sub_self] at hcut
          have HC := Lib.hid (h.set hcut)
          clear h hcut
          go_wp2_with fail
          go_ret
          obtain ⟨h1, h2⟩ := HC.out
          exact ⟨_, _, _, by rw [HT.out]; rfl, by rw [St.behind_long HL.out]; exact h1, h2⟩
        · rw [if_neg hck] at hcut
          have HC := Lib.hid (h.set hcut)
          clear h hcut
          go_wp2_with fail
          go_ret
          obtain ⟨h1, h2⟩ := HC.out
          exact ⟨_, _, _, by rw [HT.out]; rfl, by rw [St.behind_long HL.out]; exact h1, h2⟩
set_option maxRecDepth 100000 in
set_option maxHeartbeats 800000 in
theorem text83 {w : World} {B p n c k : Nat} {A : Option Addr} {s : St} (h : Rdr 83 w B p A n c s) (hk : k ≤ 3) :
    Calls Try.prog 41 #[.pointer (some ⟨p, 0, none⟩), .int .i64 k] w (TextEnd 83 B p s k w) := by
  have hm := num_lt3 s hk
  go_enter Try.func41, Try.ntmps41
  go_wp2_with fail
  refine (num83 h (by omega)).mono ?_
  rintro e w1 ⟨A1, n1, c1, rfl, hr, hg⟩
  rw [sgn_small hm]
  have HS : Hid (s.txt k = (s.behind k).takes (s.num k) ∧ s.past k = (s.behind k).behind (s.num k)) := Lib.hid ⟨rfl, rfl⟩
  generalize s.behind k = s1 at *
  generalize s.num k = m at *
  clear h
  have HG := Lib.hid hg
  have d0 := hr.cell0
  have d1 := hr.cell1
  have f0 := hr.free 0
  have f1 := hr.free 1
  have hn := hr.sl.len
  have hc := hr.sl.cap
  have hmx := hr.sl.max
  unfold maxLen at hmx
  have HN := Lib.hid hn
  clear hn hg
  by_cases hlt : n1 < m
  · have HF := Lib.hid hr.fail2
    clear hr
    go_wp2_with fail
    go_ret
    have hsh : s1.l.length < m := by have := HN.out; omega
    obtain ⟨h1, h2⟩ := HF.out
    exact ⟨none, 0, 0, by rw [HS.out.1, St.takes_short hsh]; rfl, by rw [HS.out.2, St.behind_short hsh]; exact h1, only_trans HG.out h2⟩
  · have hle : m ≤ s1.l.length := by have := HN.out; omega
    have HL := Lib.hid hle
    have hh := hr.sl.head (k := m) (by omega)
    have hcv := sl_string (w := w1) (B := B) (A := A1) (n := m) (c := c1) (l := s1.l.take m) ⟨hh.len, by omega, hr.sl.max, hh.rd⟩
    clear hh
    have hcut := hr.sl.cut (k := m) (by omega)
    by_cases hck : c1 = m
    · subst hck
      obtain rfl : n1 = c1 := by omega
      rw [if_pos rfl, Nat.sub_self] at hcut
      have HC := Lib.hid (hr.set hcut)
      clear hr hcut
      go_wp2_with fail
      go_ret
      obtain ⟨h1, h2⟩ := HC.out
      exact ⟨_, _, _, by rw [HS.out.1, St.takes_long HL.out]; rfl, by rw [HS.out.2, St.behind_long HL.out]; exact h1, only_trans HG.out h2⟩
    · rw [if_neg hck] at hcut
      have HC := Lib.hid (hr.set hcut)
      clear hr hcut
      go_wp2_with fail
      go_ret
      obtain ⟨h1, h2⟩ := HC.out
      exact ⟨_, _, _, by rw [HS.out.1, St.takes_long HL.out]; rfl, by rw [HS.out.2, St.behind_long HL.out]; exact h1, only_trans HG.out h2⟩
end Go.Proofs.Ytifdkkkcecpjoaa
