/-
  frame.writes and frame.Request: the bytes of any request, for whatever request.
-/
import Derived.Test.YtifdkkkcecpjoaaFrB
namespace Go.Proofs.Ytifdkkkcecpjoaa
open Go.RowKit
attribute [local go_sem ↓] Go.wp_at_zero Go.wp_at_succ

set_option maxHeartbeats 400000 in
theorem writes_any (k : Int) (w : World) : Calls Try.prog 31 #[.int .i64 k] w fun e w' => e = .returned (.bool (writesB k)) ∧ w = w' := by
  by_cases h1 : k = 1
  · subst h1
    go_enter Try.func31, Try.ntmps31
    go_wp2_with fail
    go_ret
    exact ⟨rfl, rfl⟩
  · have e1 : (k == 1) = false := by simpa using h1
    have e2 : writesB k = decide (k = 3) := by simp [writesB, h1]
    rw [e2]
    go_enter Try.func31, Try.ntmps31
    go_wp2_with fail
    go_ret
    exact ⟨by by_cases h : k = 3 <;> simp [h], rfl⟩

def rqv (k : Int) (nm t : ByteArray) (v : Int) : Value := .agg #[.int .i64 k, .string nm, .string t, .int .i64 v]
def rqOfV (k : Int) (nm t : ByteArray) (v : Int) : Rq := ⟨k, bl nm, bl t, v⟩

theorem box4 {W : World} {q : Nat} {t : TypeId} {a b c d : Value} (h : W.heap[q]? = some (.cells #[a, b, c, d] t (0, 0))) :
    W.cell? ⟨q, 0, none⟩ = some a ∧ W.cell? ⟨q, 1, none⟩ = some b ∧ W.cell? ⟨q, 2, none⟩ = some c ∧ W.cell? ⟨q, 3, none⟩ = some d :=
  ⟨cell_of_row W q 0 _ t (0, 0) h, cell_of_row W q 1 _ t (0, 0) h, cell_of_row W q 2 _ t (0, 0) h, cell_of_row W q 3 _ t (0, 0) h⟩

theorem BytesEnd.from {w w1 : World} {l : List UInt8} {e : Ending} {w' : World} (h : BytesEnd l w1 e w') (b : Below w.heap.size w w1) : BytesEnd l w e w' := by
  obtain ⟨v, he, ho, hb⟩ := h
  exact ⟨v, he, ownsRow_lower ho b.size, b.trans (hb.mono b.size)⟩

theorem bytes_ret {l : List UInt8} {w w1 : World} {e : Ending} {w' : World} (h : BytesEnd l w1 e w') (b : Below w.heap.size w w1) : ∃ A n c, e = .returned (.slice A n c) ∧ BytesEnd l w (.returned (.slice A n c)) w' := by
  obtain ⟨v, rfl, ho, hb⟩ := h
  obtain ⟨A, n, c, rfl⟩ := own_form ho
  exact ⟨A, n, c, rfl, BytesEnd.from ⟨_, rfl, ho, hb⟩ b⟩

set_option maxRecDepth 100000 in
set_option maxHeartbeats 1600000 in
theorem request_any (k : Int) (nm t : ByteArray) (x : Int) (w : World) (h1 : nm.size ≤ 100000) (h2 : t.size ≤ 100000) :
    Calls Try.prog 16 #[rqv k nm t x] w (BytesEnd (rqOfV k nm t x).enc w) := by
  unfold rqv
  go_enter Try.func16, Try.ntmps16
  go_wp2_with fail
  obtain ⟨W1, hW1⟩ : ∃ W1, W1 = (w.alloc (.cells #[.int .i64 k, .string nm, .string t, .int .i64 x] 27)).alloc (.cells #[.slice none 0 0] 67) := ⟨_, rfl⟩
  have hW : Wt W1 (w.heap.size + 1) (w.heap.size + 1) (.slice none 0 0) [] := by
    rw [hW1]
    exact ⟨Nat.le_refl _, by simpa using heap_alloc_new (w.alloc (.cells #[.int .i64 k, .string nm, .string t, .int .i64 x] 27)) (.cells #[.slice none 0 0] 67), World.ownsRow_nil _ _ _ _⟩
  have b0 : Below w.heap.size w W1 := by rw [hW1]; exact ((Below.refl _ _).alloc (Nat.le_refl _) _).alloc (by simp) _
  have hq : W1.heap[w.heap.size]? = some (.cells #[.int .i64 k, .string nm, .string t, .int .i64 x] 27 (0, 0)) := by
    rw [hW1]
    exact (Below.heap_alloc _ _ _ (by simp)).trans (heap_alloc_new w _)
  rw [← hW1]
  clear hW1
  obtain ⟨c0, -, -, -⟩ := box4 hq
  have HQ := Lib.hid hq
  clear hq
  go_wp2_with fail
  refine (wnum_any (n := 1) hW k (by omega) (by omega) (by simp)).mono ?_
  rintro e w1 ⟨rfl, ⟨v1, h3⟩, b1, -⟩
  have b01 : Below w.heap.size w w1 := b0.trans (b1.mono (by omega))
  have HQ1 := Lib.hid ((b1.block w.heap.size (by omega)).trans HQ.out)
  obtain ⟨-, c1, -, -⟩ := box4 HQ1.out
  clear hW b0 b1 c0 HQ
  rw [List.nil_append] at h3
  have hl1 : (be 1 k).length = 1 := be_length _ _
  go_wp2_with fail
  refine (wtext_any (n := 1) h3 nm (by omega) (by omega) (by omega) h1).mono ?_
  rintro e w2 ⟨rfl, ⟨v2, h4⟩, b2, -⟩
  have b02 : Below w.heap.size w w2 := b01.trans (b2.mono (by omega))
  have HQ2 := Lib.hid ((b2.block w.heap.size (by omega)).trans HQ1.out)
  obtain ⟨c0, -, ct, cx⟩ := box4 HQ2.out
  have hl2 : (be 1 k ++ tx 1 (bl nm)).length ≤ 100002 := by rw [List.length_append, be_length, tx_length, bl_length]; omega
  clear b01 b2 c1 HQ1 hl1 h3
  go_wp2_with fail
  refine (writes_any k w2).mono ?_
  rintro e w2' ⟨rfl, rfl⟩
  by_cases hw : writesB k = true
  · have h5 : ¬ k = 5 := by intro e; subst e; exact absurd hw (by decide)
    have e5 : (k == 5) = false := by simpa using h5
    have HE : Hid ((rqOfV k nm t x).enc = tx 2 (be 1 k ++ tx 1 (bl nm) ++ tx 2 (bl t))) := by
      show Rq.enc _ = _
      simp [Rq.enc, Rq.body, Rq.tail, rqOfV, hw, h5]
    have HW := Lib.hid hw
    rw [HW.out]
    clear hw
    go_wp2_with fail
    refine (wtext_any (n := 2) h4 t (by omega) (by omega) (by omega) h2).mono ?_
    rintro e w3 ⟨rfl, ⟨v3, h6⟩, b3, -⟩
    have b03 : Below w.heap.size w w3 := b02.trans (b3.mono (by omega))
    have HQ3 := Lib.hid ((b3.block w.heap.size (by omega)).trans HQ2.out)
    obtain ⟨c0', -, -, -⟩ := box4 HQ3.out
    have hl3 : (be 1 k ++ tx 1 (bl nm) ++ tx 2 (bl t)).length ≤ 200004 := by rw [List.length_append, tx_length, bl_length]; omega
    clear b02 b3 c0 ct cx HQ2 h4
    go_wp2_with fail
    refine (headed_any (n := 2) h6 (by omega) (by omega) (by omega)).mono ?_
    intro e w4 hE
    obtain ⟨A, m, c, rfl, hF⟩ := bytes_ret hE b03
    go_wp2_with fail
    go_ret
    rw [HE.out]; exact hF
  · have hw' : writesB k = false := by simpa using hw
    have HW := Lib.hid hw'
    rw [HW.out]
    by_cases h5 : k = 5
    · subst h5
      have HE : Hid ((rqOfV 5 nm t x).enc = tx 2 (be 1 5 ++ tx 1 (bl nm) ++ be 8 x)) := by
        show Rq.enc _ = _
        simp [Rq.enc, Rq.body, Rq.tail, rqOfV, hw']
      clear hw hw'
      go_wp2_with fail
      refine (wnum_any (n := 8) h4 x (by omega) (by omega) (by omega)).mono ?_
      rintro e w3 ⟨rfl, ⟨v3, h6⟩, b3, -⟩
      have b03 : Below w.heap.size w w3 := b02.trans (b3.mono (by omega))
      have hl3 : (be 1 5 ++ tx 1 (bl nm) ++ be 8 x).length ≤ 200004 := by rw [List.length_append, be_length]; omega
      clear b02 b3 c0 ct cx HQ2 h4
      go_wp2_with fail
      refine (headed_any (n := 2) h6 (by omega) (by omega) (by omega)).mono ?_
      intro e w4 hE
      obtain ⟨A, m, c, rfl, hF⟩ := bytes_ret hE b03
      go_wp2_with fail
      go_ret
      rw [HE.out]; exact hF
    · have e5 : (k == 5) = false := by simpa using h5
      have HE : Hid ((rqOfV k nm t x).enc = tx 2 (be 1 k ++ tx 1 (bl nm))) := by
        show Rq.enc _ = _
        simp [Rq.enc, Rq.body, Rq.tail, rqOfV, hw', h5]
      clear hw hw'
      go_wp2_with fail
      refine (headed_any (n := 2) h4 (by omega) (by omega) (by omega)).mono ?_
      intro e w4 hE
      obtain ⟨A, m, c, rfl, hF⟩ := bytes_ret hE b02
      go_wp2_with fail
      go_ret
      rw [HE.out]; exact hF
end Go.Proofs.Ytifdkkkcecpjoaa
