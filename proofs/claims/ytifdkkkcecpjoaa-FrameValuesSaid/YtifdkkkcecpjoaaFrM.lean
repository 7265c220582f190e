/-
  The statements' own first look: 'known' answers true.
-/
import Derived.Test.YtifdkkkcecpjoaaFrL
namespace Go.Proofs.Ytifdkkkcecpjoaa
open Go.RowKit
attribute [local go_sem ↓] Go.wp_at_zero Go.wp_at_succ

theorem sl_of_own {w : World} {base : Nat} {v : Value} {l : List UInt8} (h : w.ownsRow base 5 1 v l.length (bv l)) : ∃ A c, v = .slice A l.length c ∧ Sl w w.heap.size A l.length c l := by
  obtain ⟨A, c, e, hr⟩ := own_reads h
  refine ⟨A, c, e, rfl, ?_, ?_, hr⟩
  · rcases h.2 with ⟨rfl, h0⟩ | ⟨g, cap, cur, rfl, hb, hg, hnc, hcm, _⟩
    · injection e with e1 e2 e3; omega
    · injection e with e1 e2 e3; omega
  · rcases h.2 with ⟨rfl, h0⟩ | ⟨g, cap, cur, rfl, hb, hg, hnc, hcm, _⟩
    · injection e with e1 e2 e3; rw [← e3]; exact Nat.zero_le _
    · injection e with e1 e2 e3; rw [← e3]; exact hcm

theorem bytes_sl {l : List UInt8} {w : World} {e : Ending} {w' : World} (h : BytesEnd l w e w') : ∃ A c, e = .returned (.slice A l.length c) ∧ Sl w' w'.heap.size A l.length c l ∧ Below w.heap.size w w' := by
  obtain ⟨v, rfl, ho, hb⟩ := h
  obtain ⟨A, c, rfl, hs⟩ := sl_of_own ho
  exact ⟨A, c, rfl, hs, hb⟩

def sK : ByteArray := ⟨#[107]⟩
def rK : Rq := ⟨5, [107], [], -7⟩
theorem rK_right : rK.right = true := by decide
theorem rK_enc : (rqOfV 5 sK ⟨#[]⟩ (-7)).enc = rK.enc := rfl
theorem rK_read : rqRead rK.enc = (rK, 13, 0) := by
  have h := rqRead_enc rK_right []
  rw [List.append_nil] at h
  exact h
theorem rqRead_nil : rqRead [] = (noRq, 0, 0) := rfl
def rB : Rs := ⟨11, [], [], []⟩
theorem rB_ok : rB.Ok := ⟨by decide, by decide, by decide, by decide, by decide, by intro d hd; cases hd⟩
theorem rB_read : rsRead rB.enc = (rB, 10, true) := by
  have h := rsRead_enc rB_ok []
  rw [List.append_nil] at h
  exact h

def TrueEnd (w : World) (e : Ending) (w' : World) : Prop := e = .returned (.bool true) ∧ Below w.heap.size w w'

set_option maxRecDepth 100000 in
set_option maxHeartbeats 1600000 in
theorem known_any (w : World) : Calls Try.prog 12 #[] w (TrueEnd w) := by
  go_enter Try.func12, Try.ntmps12
  go_wp2_with fail
  refine (readRequest_any (Sl.nil_ w 0) (Nat.zero_le _)).mono ?_
  rintro e w1 ⟨he, b1⟩
  rw [rqRead_nil] at he
  obtain rfl : e = .returned (.tuple #[.agg #[.int .i64 0, .string ⟨#[]⟩, .string ⟨#[]⟩, .int .i64 0], .int .i64 0, .int .i64 0]) := he
  go_wp2_with fail
  obtain ⟨W2, hW2⟩ : ∃ W2, W2 = (w1.alloc (.cells #[.int .i64 0, .string ⟨#[]⟩, .string ⟨#[]⟩, .int .i64 0] 27)).alloc (.cells #[.int .i64 5, .string ⟨#[107]⟩, .string ⟨#[]⟩, .int .i64 (-7)] 27) := ⟨_, rfl⟩
  have hs1 := b1.size
  have b2 : Below w.heap.size w W2 := by rw [hW2]; exact (b1.alloc hs1 _).alloc (by simp; omega) _
  have hq2 : W2.heap[w1.heap.size + 1]? = some (.cells #[.int .i64 5, .string ⟨#[107]⟩, .string ⟨#[]⟩, .int .i64 (-7)] 27 (0, 0)) := by
    rw [hW2]
    have := heap_alloc_new (w1.alloc (.cells #[.int .i64 0, .string ⟨#[]⟩, .string ⟨#[]⟩, .int .i64 0] 27)) (.cells #[.int .i64 5, .string ⟨#[107]⟩, .string ⟨#[]⟩, .int .i64 (-7)] 27)
    simpa using this
  have hz2 : w1.heap.size + 1 < W2.heap.size := by rw [hW2]; simp
  rw [← hW2]
  have HQ2 := Lib.hid hq2
  clear hW2 hq2 b1
  refine (request_any 5 sK ⟨#[]⟩ (-7) _ (by decide) (by decide)).mono ?_
  intro e w3 h3
  rw [rK_enc] at h3
  obtain ⟨A3, c3, rfl, hs3, b3⟩ := bytes_sl h3
  have b03 : Below w.heap.size w w3 := b2.trans (b3.mono b2.size)
  have HQ3 := Lib.hid ((b3.block _ hz2).trans HQ2.out)
  have hz3 : w1.heap.size + 1 < w3.heap.size := Nat.lt_of_lt_of_le hz2 b3.size
  clear h3 b3 b2 HQ2 hz2
  go_wp2_with fail
  refine (readRequest_any hs3 (Nat.le_refl _)).mono ?_
  rintro e w4 ⟨he, b4⟩
  rw [rK_read] at he
  obtain rfl : e = .returned (.tuple #[.agg #[.int .i64 5, .string ⟨#[107]⟩, .string ⟨#[]⟩, .int .i64 (-7)], .int .i64 13, .int .i64 0]) := he
  have b04 : Below w.heap.size w w4 := b03.trans (b4.mono b03.size)
  have HQ4 := Lib.hid ((b4.block _ hz3).trans HQ3.out)
  have hz4 : w1.heap.size + 1 < w4.heap.size := Nat.lt_of_lt_of_le hz3 b4.size
  clear b4 b03 HQ3 hz3 hs3
  go_wp2_with fail
  obtain ⟨W5, hW5⟩ : ∃ W5, W5 = w4.alloc (.cells #[.int .i64 5, .string ⟨#[107]⟩, .string ⟨#[]⟩, .int .i64 (-7)] 27) := ⟨_, rfl⟩
  have b5 : Below w.heap.size w W5 := by rw [hW5]; exact b04.alloc b04.size _
  have hq5 : W5.heap[w4.heap.size]? = some (.cells #[.int .i64 5, .string ⟨#[107]⟩, .string ⟨#[]⟩, .int .i64 (-7)] 27 (0, 0)) := by rw [hW5]; exact heap_alloc_new _ _
  have hq5' : W5.heap[w1.heap.size + 1]? = some (.cells #[.int .i64 5, .string ⟨#[107]⟩, .string ⟨#[]⟩, .int .i64 (-7)] 27 (0, 0)) := by rw [hW5]; exact (Below.heap_alloc _ _ _ hz4).trans HQ4.out
  have hz5 : w4.heap.size < W5.heap.size := by rw [hW5]; simp
  rw [← hW5]
  have HQ5 := Lib.hid (And.intro hq5 hq5')
  clear hW5 hq5 hq5' b04 HQ4
  refine (response_any (w := W5) 11 ⟨#[]⟩ (Sl.nil_ W5 0) (⟨rfl, fun h => absurd h (by omega)⟩ : Sd W5 0 none 0 []) (Nat.zero_le _) (by decide) (by decide) (by decide) (by intro d hd; cases hd)).mono ?_
  intro e w6 h6
  obtain ⟨A6, c6, rfl, hs6, b6⟩ := bytes_sl h6
  have b06 : Below w.heap.size w w6 := b5.trans (b6.mono b5.size)
  have HQ6 := Lib.hid (And.intro ((b6.block _ hz5).trans HQ5.out.1) ((b6.block _ (by omega)).trans HQ5.out.2))
  have hz6 : w4.heap.size < w6.heap.size := Nat.lt_of_lt_of_le hz5 b6.size
  clear h6 b6 b5 HQ5 hz5
  go_wp2_with fail
  refine (readResponse_any hs6 (Nat.le_refl _)).mono ?_
  rintro e w7 ⟨iA, iC, dA, dC, he, -, -, b7⟩
  have hrd : rsRead (Rs.enc ⟨11, bl ⟨#[]⟩, [], []⟩) = (rB, 10, true) := rB_read
  rw [hrd] at he
  obtain rfl : e = .returned (.tuple #[.agg #[.int .i64 11, .string ⟨#[]⟩, .slice iA 0 iC, .slice dA 0 dC], .int .i64 10, .bool true]) := he
  have b07 : Below w.heap.size w w7 := b06.trans (b7.mono b06.size)
  have HQ7 := Lib.hid (And.intro ((b7.block _ hz6).trans HQ6.out.1) ((b7.block _ (by omega)).trans HQ6.out.2))
  have hz7 : w4.heap.size < w7.heap.size := Nat.lt_of_lt_of_le hz6 b7.size
  have hz17 : w1.heap.size + 1 < w7.heap.size := by omega
  obtain ⟨a0, a1, a2, a3⟩ := box4 HQ7.out.1
  obtain ⟨d0, d1, d2, d3⟩ := box4 HQ7.out.2
  clear b7 b06 HQ6 hz6 hs6 hrd
  go_wp2_with fail

  go_ret
  exact ⟨rfl, b07.alloc b07.size _⟩
end Go.Proofs.Ytifdkkkcecpjoaa
