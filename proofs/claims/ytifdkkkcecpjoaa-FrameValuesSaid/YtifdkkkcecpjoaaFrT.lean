/-
  The reference's num and text: bytes behind bytes.
-/
import Derived.Test.YtifdkkkcecpjoaaFrN
namespace Go.Proofs.Ytifdkkkcecpjoaa
open Go.RowKit
attribute [local go_sem ↓] Go.wp_at_zero Go.wp_at_succ

def RefEnd (base : Nat) (l : List UInt8) (w : World) (e : Ending) (w' : World) : Prop :=
  ∃ v, e = .returned v ∧ w'.ownsRow base 5 1 v l.length (bv l) ∧ Below base w w' ∧ WKeep w w'

set_option maxRecDepth 100000 in
set_option maxHeartbeats 800000 in
theorem rnum_any {w : World} {base n : Nat} {v : Value} {l : List UInt8} (h : w.ownsRow base 5 1 v l.length (bv l)) (hb : base ≤ w.heap.size) (x : Int) (h1 : 1 ≤ n) (h8 : n ≤ 8) (hl : l.length ≤ 1000000000) :
    Calls Try.prog 39 #[v, .int .i64 x, .int .i64 n] w (RefEnd base (l ++ be n x) w) := by
  obtain ⟨i5, hi, hz, hy, hx⟩ := info_parts info5
  go_enter Try.func39, Try.ntmps39
  go_wp2_with fail
  go_loopw [0, 7] (fun u k wr => ∃ j : Nat, j ≤ n ∧ k = .int .i64 ((n : Int) - 1 - j) ∧ wr.ownsRow base 5 1 u (l ++ (be n x).take j).length (bv (l ++ (be n x).take j)) ∧ Below base w wr ∧ WKeep w wr) (fun _ k _ => (intOf k + 1).toNat)
  case atStart => exact ⟨0, by omega, by simp, by simpa using h, Below.refl _ _, WKeep.refl _⟩
  case round =>
    obtain ⟨j, hj, rfl, hm, hb', hkp⟩ := hrel
    by_cases hlt : j < n
    · obtain ⟨a, m, c, rfl⟩ := own_form hm
      have hL : (l ++ (be n x).take j).length = l.length + j := by rw [List.length_append, be_take_len x hj]
      obtain ⟨c8, hc8⟩ : ∃ c8, c8 = byteOf (x / 256 ^ (n - 1 - j)) := ⟨_, rfl⟩
      have eb : x / 2 ^ (8 * (n - 1 - j)) % 256 = (c8.toNat : Int) := by
        rw [hc8, byteOf_toNat, Int.pow_mul]
        rfl
      have hn8 : (0 : Int) ≤ 8 * ((n : Int) - 1 - j) := by omega
      have hn9 : 8 * ((n : Int) - 1 - j) ≤ 56 := by omega
      have hlb : l ++ (be n x).take (j + 1) = l ++ (be n x).take j ++ [c8] := by rw [be_take x hlt, ← hc8, List.append_assoc]
      obtain ⟨L, hLe⟩ : ∃ L, L = l ++ (be n x).take j := ⟨_, rfl⟩
      rw [← hLe] at hlb hL hm
      have HLB := Lib.hid hlb
      have hmx : L.length ≤ 1000000008 := by omega
      have hbs := hb'.size
      have HKP := Lib.hid hkp
      clear hlb hL hc8 hLe hkp h
      go_wp2_with (at_builtin; refine wpList_append_lies _ rfl _ _ 23 rfl base 5 i5 _ 1 1 Try.underlying23 hi hz hy hx rfl (by decide) _ _ _ rfl (hm.alloc (.cells #[.int .u8 (c8.toNat : Int)] 5)) ⟨wr.heap.size, 0, none⟩ 1 1 [.int .u8 (c8.toNat : Int)] rfl rfl (World.news_of_block (cs := #[.int .u8 (c8.toNat : Int)]) (t := 5) (fr := (0, 0)) (heap_alloc_new wr _)) (by simp [Value.oneCell']) (by omega) (by unfold maxLen; omega) (by omega) (by simp; omega) _ rfl ?_; intro g4 cap4 w4 hown4 hgrow4 hat4 hlt4)
      have hb4 : Below base w w4 := (hb'.alloc (by omega) _).grown hgrow4 (by simp; omega) (own_base hm)
      have hk4 : WKeep wr w4 := (WKeep.of_below ((Below.refl _ _).alloc (Nat.le_refl _) _)).trans (WKeep.grown (hm.alloc (.cells #[.int .u8 (c8.toNat : Int)] 5)) hgrow4)
      have hF : w4.ownsRow base 5 1 (.slice (some ⟨g4, 0, none⟩) (L.length + 1) cap4) (l ++ (be n x).take (j + 1)).length (bv (l ++ (be n x).take (j + 1))) := by
        rw [HLB.out, bv_append, List.length_append]; exact hown4
      have HF := Lib.hid hF
      clear hF hown4 hgrow4 hat4
      go_roundw
      case rel => exact ⟨j + 1, by omega, by congr 1; omega, HF.out, hb4, HKP.out.trans hk4⟩
      case measure => simp [intOf]; omega
    · obtain rfl : j = n := by omega
      rw [be_take_all] at hm
      obtain ⟨a, m, c, rfl⟩ := own_form hm
      go_wp2
      go_ret
      exact ⟨_, rfl, hm, hb', hkp⟩

set_option maxRecDepth 100000 in
set_option maxHeartbeats 800000 in
theorem rtext_any {w : World} {base n : Nat} {v : Value} {l : List UInt8} (h : w.ownsRow base 5 1 v l.length (bv l)) (hb : base ≤ w.heap.size) (s : ByteArray) (h1 : 1 ≤ n) (h8 : n ≤ 8) (hl : l.length ≤ 900000000) (hs : s.size ≤ 100000) :
    Calls Try.prog 38 #[v, .string s, .int .i64 n] w (RefEnd base (l ++ tx n (bl s)) w) := by
  obtain ⟨i5, hi, hz, hy, hx⟩ := info_parts info5
  obtain ⟨a0, m0, c0, rfl⟩ := own_form h
  go_enter Try.func38, Try.ntmps38
  go_wp2_with fail
  refine (rnum_any (n := n) h hb (s.size : Int) h1 h8 (by omega)).mono ?_
  rintro e w1 ⟨v1, rfl, ho1, b1, k1⟩
  obtain ⟨a, m, c, rfl⟩ := own_form ho1
  have hL : (l ++ be n (s.size : Int)).length = l.length + n := by rw [List.length_append, be_length]
  have hconv := Lib.run_convert_string_bytes (P := Try.prog) w1 9 23 5 s Try.underlying9 Try.underlying23 Try.underlying5
  have hbs := b1.size
  obtain ⟨L, hLe⟩ : ∃ L, L = l ++ be n (s.size : Int) := ⟨_, rfl⟩
  rw [← hLe] at ho1 hL
  have HLe := Lib.hid hLe
  have hmx : L.length ≤ 900000008 := by omega
  clear hLe hL h
  have bw : Below w1.heap.size w1 (Lib.bytesWorld w1 5 s) := ⟨rfl, rfl, rfl, by rw [Lib.bytesWorld_size]; omega, fun k hk => Lib.bytesWorld_at_old w1 5 s k hk⟩
  have hob : (Lib.bytesWorld w1 5 s).ownsRow base 5 1 (.slice a m c) L.length (bv L) := by
    refine ⟨ho1.1, ?_⟩
    rcases ho1.2 with h0 | ⟨g, cap, cur, e, h1, h2, h3⟩
    · exact .inl h0
    · exact .inr ⟨g, cap, cur, e, h1, (bw.block g (Array.getElem?_eq_some_iff.1 h2).1).trans h2, h3⟩
  have hrd : Reads (Lib.bytesWorld w1 5 s) (w1.heap.size + 1) 1 (some ⟨w1.heap.size, 0, none⟩) s.size (bv (bl s)) := by
    refine ⟨by rw [bv_length, bl_length]; omega, fun _ => ⟨_, rfl, by show w1.heap.size < w1.heap.size + 1; omega, fun j u hu => ?_⟩⟩
    obtain ⟨y, hy, rfl⟩ := bv_get hu
    have hj : j < s.size := by have := (List.getElem?_eq_some_iff.1 hy).1; rw [bl_length] at this; exact this
    rw [Addr.add_lit, Nat.zero_add, Lib.bytesWorld_cell w1 5 s j hj]
    have : s.data.toList.getD j 0 = y := by
      have h' : s.data.toList[j]? = some y := hy
      simp [List.getD, h']
    rw [this]
  have hz1 := Lib.bytesWorld_size w1 5 s
  have HZ1 := Lib.hid hz1
  have hzz : base ≤ (Lib.bytesWorld w1 5 s).heap.size := by omega
  clear hz1
  generalize Lib.bytesWorld w1 5 s = W at *
  go_wp2_with (at_builtin; refine wpList_append_any _ rfl _ _ 23 rfl base 5 i5 _ 1 1 Try.underlying23 hi hz hy hx rfl (by decide) _ _ _ rfl hob (w1.heap.size + 1) _ s.size _ (bv (bl s)) rfl hrd (bv_one _) (by unfold maxLen; omega) (by omega) hzz ?_; intro v2 w2 hown2 hgrow2 _; obtain ⟨a2, m2, c2, rfl⟩ := own_form hown2)
  go_ret
  have hb2 : Below base w w2 := (b1.trans (bw.mono hbs |>.mono (by omega) |> fun h => h)).grown hgrow2 hzz (own_base hob)
  refine ⟨_, rfl, ?_, hb2, k1.trans ((WKeep.of_below bw).trans (WKeep.grown hob hgrow2))⟩
  rw [tx, ← List.append_assoc, bl_length, ← HLe.out, bv_append, List.length_append, bl_length]
  exact hown2
end Go.Proofs.Ytifdkkkcecpjoaa
