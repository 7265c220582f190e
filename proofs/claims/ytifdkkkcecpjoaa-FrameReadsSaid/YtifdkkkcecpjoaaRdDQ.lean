/-
  The reference's ReadRequest reads what rqRead says.
-/
import Derived.Test.YtifdkkkcecpjoaaRdCQ
namespace Go.Proofs.Ytifdkkkcecpjoaa
set_option linter.unusedVariables false
set_option linter.unusedSimpArgs false
open Go.RowKit
attribute [local go_sem ↓] Go.wp_at_zero Go.wp_at_succ
/-- The result's block, the read request's and the reader's. -/
structure RX3 (w : World) (r0 rx p B : Nat) (k : Int) (nm t : ByteArray) (v : Int) (s : St) : Prop where
  blk : w.heap[rx]? = some (.cells #[.int .i64 k, .string nm, .string t, .int .i64 v] 27 (0, 0))
  res : w.heap[r0]? = some (.cells #[.int .i64 0, .string ⟨#[]⟩, .string ⟨#[]⟩, .int .i64 0] 27 (0, 0))
  rd : ∃ A n c, Rdr 83 w B p A n c s
  hp : p ≠ rx
  hr : r0 ≠ p
  hx : r0 ≠ rx
  hB : B ≤ rx
namespace RX3
variable {w w' : World} {r0 rx p B : Nat} {k v : Int} {nm t : ByteArray} {s s' : St}
theorem lt (h : RX3 w r0 rx p B k nm t v s) : rx < w.heap.size := by
  rcases Nat.lt_or_ge rx w.heap.size with hlt | hge
  · exact hlt
  · have := h.blk; rw [Array.getElem?_eq_none hge] at this; cases this
theorem lt0 (h : RX3 w r0 rx p B k nm t v s) : r0 < w.heap.size := by
  rcases Nat.lt_or_ge r0 w.heap.size with hlt | hge
  · exact hlt
  · have := h.res; rw [Array.getElem?_eq_none hge] at this; cases this
theorem read {A : Option Addr} {n c : Nat} (h : RX3 w r0 rx p B k nm t v s) (hr : Rdr 83 w' B p A n c s') (hg : w.grownBy w' (some p)) : RX3 w' r0 rx p B k nm t v s' :=
  ⟨(hg.block rx h.lt (fun e => by injection e with e; exact h.hp e.symm)).trans h.blk, (hg.block r0 h.lt0 (fun e => by injection e with e; exact h.hr e)).trans h.res, ⟨A, n, c, hr⟩, h.hp, h.hr, h.hx, h.hB⟩
theorem free (h : RX3 w r0 rx p B k nm t v s) (o : Nat) : w.frozen? ⟨rx, o, none⟩ = false := by simp [World.frozen?, h.blk]
theorem cell (h : RX3 w r0 rx p B k nm t v s) : w.cell? ⟨rx, 0, none⟩ = some (.int .i64 k) ∧ w.cell? ⟨rx, 1, none⟩ = some (.string nm) ∧ w.cell? ⟨rx, 2, none⟩ = some (.string t) ∧ w.cell? ⟨rx, 3, none⟩ = some (.int .i64 v) := box4 h.blk
theorem keep (h : RX3 w r0 rx p B k nm t v s) (o : Nat) (u : Value) : (w.setCell ⟨rx, o, none⟩ u).heap[r0]? = some (.cells #[.int .i64 0, .string ⟨#[]⟩, .string ⟨#[]⟩, .int .i64 0] 27 (0, 0)) ∧ ∃ A n c, Rdr 83 (w.setCell ⟨rx, o, none⟩ u) B p A n c s := by
  obtain ⟨A, n, c, hr⟩ := h.rd
  have hB := h.hB
  refine ⟨(Below.heap_setCell w ⟨rx, o, none⟩ u r0 h.hx).trans h.res, A, n, c, hr.hB, (Below.heap_setCell w ⟨rx, o, none⟩ u p h.hp).trans hr.blk, ⟨hr.sl.len, hr.sl.cap, hr.sl.max, hr.sl.rd.setCell hB u⟩⟩
theorem set1 (h : RX3 w r0 rx p B k nm t v s) (x : ByteArray) : RX3 (w.setCell ⟨rx, 1, none⟩ (.string x)) r0 rx p B k x t v s :=
  ⟨by have := h.blk; simp [World.setCell, Array.getElem?_modify, this], (h.keep 1 _).1, (h.keep 1 _).2, h.hp, h.hr, h.hx, h.hB⟩
theorem set2 (h : RX3 w r0 rx p B k nm t v s) (x : ByteArray) : RX3 (w.setCell ⟨rx, 2, none⟩ (.string x)) r0 rx p B k nm x v s :=
  ⟨by have := h.blk; simp [World.setCell, Array.getElem?_modify, this], (h.keep 2 _).1, (h.keep 2 _).2, h.hp, h.hr, h.hx, h.hB⟩
theorem set3 (h : RX3 w r0 rx p B k nm t v s) (x : Int) : RX3 (w.setCell ⟨rx, 3, none⟩ (.int .i64 x)) r0 rx p B k nm t x s :=
  ⟨by have := h.blk; simp [World.setCell, Array.getElem?_modify, this], (h.keep 3 _).1, (h.keep 3 _).2, h.hp, h.hr, h.hx, h.hB⟩
end RX3
theorem num2_of {l : List UInt8} {x y : UInt8} (hx : l[0]? = some x) (hy : l[1]? = some y) : (St.mk l false).num 2 = x.toNat * 256 + y.toNat := by
  match l, hx, hy with
  | a :: b :: l, hx, hy =>
    injection hx with hx; injection hy with hy
    subst hx; subst hy
    rw [num_long (s := ⟨a :: b :: l, false⟩) (k := 2) (by simp)]
    simp [un]
theorem or2 (x y : UInt8) : bits BinOp.or IntKind.i64 (wrap64 ((x.toNat : Int) * 256)) (wrap64 (y.toNat : Int)) = ((x.toNat * 256 + y.toNat : Nat) : Int) := by
  have h1 := x.toNat_lt
  have h2 := y.toNat_lt
  have e : sgn x.toNat = (x.toNat : Int) := sgn_small (by omega)
  have := or_step x.toNat y
  rw [e] at this
  rw [this, sgn_small (by omega)]
theorem or_wrapped (x y : UInt8) : bits BinOp.or IntKind.i64 (wrap64 (wrap64 (x.toNat : Int) * 256)) (wrap64 (y.toNat : Int)) = ((x.toNat * 256 + y.toNat : Nat) : Int) := by
  have h1 := x.toNat_lt
  rw [show wrap64 (x.toNat : Int) = (x.toNat : Int) by unfold wrap64; omega]
  exact or2 x y

theorem txt_len9 (s : St) {k : Nat} (hk : k ≤ 3) : (ba (s.txt k)).size ≤ 9000000000000000000 := by
  have h1 := St.takes_length (s.behind k) (s.num k)
  have h2 := num_lt3 s hk
  rw [ba_size]
  unfold St.txt
  omega
theorem rqOf_cases (m : List UInt8) : ∃ (k : Int) (s1 : St), k = (((St.mk m false).num 1 : Nat) : Int) ∧ s1 = (St.mk m false).behind 1 ∧
    Hid (rqOf m = (if writesB k then ((⟨k, s1.txt 1, (s1.past 1).txt 2, 0⟩ : Rq), (s1.past 1).past 2) else if k = 5 then (⟨k, s1.txt 1, [], sgn ((s1.past 1).num 8)⟩, (s1.past 1).behind 8) else (⟨k, s1.txt 1, [], 0⟩, s1.past 1))) := by
  refine ⟨_, _, rfl, rfl, Lib.hid ?_⟩
  by_cases h5 : (((St.mk m false).num 1 : Nat) : Int) = 5
  · have hw : writesB (((St.mk m false).num 1 : Nat) : Int) = false := by rw [h5]; rfl
    simp only [rqOf, hw, if_false, Bool.false_eq_true, if_pos h5]
  · cases hw : writesB (((St.mk m false).num 1 : Nat) : Int) with
    | true => simp only [rqOf, hw, if_true, if_neg h5]
    | false => simp only [rqOf, hw, if_false, Bool.false_eq_true, if_neg h5]

set_option maxRecDepth 100000 in
set_option maxHeartbeats 6400000 in
theorem readRequest19 {w : World} {B n c : Nat} {A : Option Addr} {l : List UInt8} (h : Sl w B A n c l) (hB : B ≤ w.heap.size) :
    Calls Try.prog 19 #[.slice A n c] w (RdEnd l w) := by
  obtain ⟨W1, hW1⟩ : ∃ W1, W1 = w.alloc (.cells #[.int .i64 0, .string ⟨#[]⟩, .string ⟨#[]⟩, .int .i64 0] 27) := ⟨_, rfl⟩
  have b1 : Below w.heap.size w W1 := by rw [hW1]; exact (Below.refl _ _).alloc (Nat.le_refl _) _
  have hq : W1.heap[w.heap.size]? = some (.cells #[.int .i64 0, .string ⟨#[]⟩, .string ⟨#[]⟩, .int .i64 0] 27 (0, 0)) := by rw [hW1]; exact heap_alloc_new w _
  have hs1 : w.heap.size < W1.heap.size := by rw [hW1]; simp
  have h1 : Sl W1 B A n c l := h.below (b1.mono hB)
  have hln := h.len
  have HW1 := Lib.hid hW1
  have HQ := Lib.hid hq
  have HLN := Lib.hid hln
  have hcp := h1.cap
  have hmx := h1.max
  unfold maxLen at hmx
  obtain ⟨c0, c1, c2', c3⟩ := box4 hq
  have f0 : ∀ o, W1.frozen? ⟨w.heap.size, o, none⟩ = false := fun o => by have := HQ.out; simp [World.frozen?, this]
  have f00 := f0 0
  have f01 := f0 1
  have f02 := f0 2
  have f03 := f0 3
  clear hW1 hq h hln f0
  by_cases hl2 : l.length < 2
  · have HR : Hid (rqRead l = (noRq, 0, 0)) := by show _ = _; unfold rqRead; rw [if_pos hl2]
    have hn2' : (n : Int) < 2 := by have := HLN.out; omega
    have HH1 := Lib.hid h1
    clear h1
    go_enter Try.func19, Try.ntmps19
    go_upto_region 1 with fail
    rw [← HW1.out]
    go_wp2_with fail
    obtain ⟨q0, q1, q2, q3⟩ := box4 (put4 HQ.out (.int .i64 0) (.string ⟨#[]⟩) (.string ⟨#[]⟩) (.int .i64 0))
    refine bodyPost_ret (v := .tuple #[rqvOf noRq, .int .i64 0, .int .i64 0]) (by simp [results, Try.results19, go_sem, q0, q1, q2, q3]; rfl) rfl ⟨by rw [HR.out]; rfl, put4_below b1 (Nat.le_refl _) _ _ _ _⟩
  · have hrd := h1.rd
    obtain ⟨ad, u, rfl, hbk, hu, hc0⟩ := hrd.at_ (show 0 < n by have := HLN.out; omega)
    obtain ⟨ad', u', he, -, hu', hc1⟩ := hrd.at_ (show 1 < n by have := HLN.out; omega)
    injection he with he; subst he
    obtain ⟨x, hx, rfl⟩ := bv_get hu
    obtain ⟨y, hy, rfl⟩ := bv_get hu'
    have HN2 := Lib.hid (num2_of hx hy)
    have hn2' : (2 : Int) ≤ (n : Int) := by have := HLN.out; omega
    have hi0 : (0 : Int) < (n : Int) := by omega
    have hi1 : (1 : Int) < (n : Int) := by omega
    have hm0 : 0 < n := by omega
    have hm1 : 1 < n := by omega
    have hn2 : (St.mk l false).num 2 < 65536 := num_lt _ 2
    have HH1 := Lib.hid h1
    have hc0' : W1.cell? ad = some (.int .u8 (x.toNat : Int)) := by simpa [Addr.add] using hc0
    have hc1' : W1.cell? { block := ad.block, off := ad.off + 1 } = some (.int .u8 (y.toNat : Int)) := by simpa [Addr.add] using hc1
    clear hrd hu hu' hx hy h1 hc0 hc1
    go_enter Try.func19, Try.ntmps19
    go_upto_region 1 with fail
    rw [← HW1.out]
    go_upto_region 3 with fail
    go_quiet (fail)
    have b02 : Below w.heap.size w (W1.drewN nq) := below_drewN b1 nq
    have h2 : Sl (W1.drewN nq) B (some ad) n c l := HH1.out.below (below_drewN (Below.refl _ _) nq)
    have HQ2 : Hid ((W1.drewN nq).heap[w.heap.size]? = some (.cells #[.int .i64 0, .string ⟨#[]⟩, .string ⟨#[]⟩, .int .i64 0] 27 (0, 0))) := Lib.hid HQ.out
    have hs2 : w.heap.size < (W1.drewN nq).heap.size := hs1
    rw [or_wrapped x y, ← HN2.out]
    clear hc0' hc1' HW1 HQ HH1 hs1 b1 c0 c1 c2' c3 f00 f01 f02 f03 hi0 hi1 hm0 hm1 HN2
    generalize W1.drewN nq = w2 at *
    obtain ⟨c0, c1, c2', c3⟩ := box4 HQ2.out
    have f0 : ∀ o, w2.frozen? ⟨w.heap.size, o, none⟩ = false := fun o => by have := HQ2.out; simp [World.frozen?, this]
    have f00 := f0 0
    have f01 := f0 1
    have f02 := f0 2
    have f03 := f0 3
    clear f0
    by_cases hbig : 1000 < (St.mk l false).num 2
    · have HR : Hid (rqRead l = (noRq, 0, 8)) := by show _ = _; unfold rqRead; rw [if_neg hl2, if_pos hbig]
      have hb' : (1000 : Int) < ((St.mk l false).num 2 : Int) := by omega
      clear hbig hl2 h2
      go_wp2_with fail
      obtain ⟨q0, q1, q2, q3⟩ := box4 (put4 HQ2.out (.int .i64 0) (.string ⟨#[]⟩) (.string ⟨#[]⟩) (.int .i64 0))
      refine bodyPost_ret (v := .tuple #[rqvOf noRq, .int .i64 0, .int .i64 8]) (by simp [results, Try.results19, go_sem, q0, q1, q2, q3]; rfl) rfl ⟨by rw [HR.out]; rfl, put4_below b02 (Nat.le_refl _) _ _ _ _⟩
    · have hb' : ((St.mk l false).num 2 : Int) ≤ 1000 := by omega
      by_cases hcut : l.length < 2 + (St.mk l false).num 2
      · have HR : Hid (rqRead l = (noRq, 0, 0)) := by show _ = _; unfold rqRead; rw [if_neg hl2, if_neg hbig, if_pos hcut]
        have hcut' : (n : Int) < 2 + ((St.mk l false).num 2 : Int) := by have := HLN.out; omega
        clear hbig hl2 hcut h2
        go_wp2_with fail
        obtain ⟨q0, q1, q2, q3⟩ := box4 (put4 HQ2.out (.int .i64 0) (.string ⟨#[]⟩) (.string ⟨#[]⟩) (.int .i64 0))
        refine bodyPost_ret (v := .tuple #[rqvOf noRq, .int .i64 0, .int .i64 0]) (by simp [results, Try.results19, go_sem, q0, q1, q2, q3]; rfl) rfl ⟨by rw [HR.out]; rfl, put4_below b02 (Nat.le_refl _) _ _ _ _⟩
      · have HR : Hid (rqRead l = let x := rqOf ((l.drop 2).take ((St.mk l false).num 2)); if x.2.bad || !x.2.l.isEmpty || !x.1.right then (noRq, (St.mk l false).num 2 + 2, 12) else (x.1, (St.mk l false).num 2 + 2, 0)) := by
          show _ = _; unfold rqRead; rw [if_neg hl2, if_neg hbig, if_neg hcut]
        have hcut' : 2 + (St.mk l false).num 2 ≤ n := by have := HLN.out; omega
        have hs := h2.cut (k := 2) (by omega)
        have hs := hs.head (k := (St.mk l false).num 2) (by omega)
        clear hbig hl2 hcut h2
        generalize (St.mk l false).num 2 = N at *
        generalize (l.drop 2).take N = m at *
        go_wp2_with fail
        case' inl =>
          have hsl : Sl w2 B (some ad) N 0 m := ⟨hs.len, by omega, by unfold maxLen; omega, by have := hs.rd; rw [if_pos (show c = 2 by omega)] at this; exact this⟩
          obtain ⟨W3, hW3⟩ : ∃ W3, W3 = w2.alloc (.cells #[.slice (some ad) N 0, .bool false] 83) := ⟨_, rfl⟩
          have b3 : Below w2.heap.size w2 W3 := by rw [hW3]; exact (Below.refl _ _).alloc (Nat.le_refl _) _
          have hR3 : Rdr 83 W3 B w2.heap.size _ _ _ (St.mk m false) := ⟨by omega, by rw [hW3]; exact heap_alloc_new w2 _, hsl.below (b3.mono (by omega))⟩
          rw [← hW3]
        case' inr =>
          have hsl : Sl w2 B (some { block := ad.block, off := ad.off + 2 }) N (c - 2) m := ⟨hs.len, by omega, by unfold maxLen; omega, by have := hs.rd; rw [if_neg (by omega)] at this; exact this⟩
          obtain ⟨W3, hW3⟩ : ∃ W3, W3 = w2.alloc (.cells #[.slice (some { block := ad.block, off := ad.off + 2 }) N (c - 2), .bool false] 83) := ⟨_, rfl⟩
          have b3 : Below w2.heap.size w2 W3 := by rw [hW3]; exact (Below.refl _ _).alloc (Nat.le_refl _) _
          have hR3 : Rdr 83 W3 B w2.heap.size _ _ _ (St.mk m false) := ⟨by omega, by rw [hW3]; exact heap_alloc_new w2 _, hsl.below (b3.mono (by omega))⟩
          rw [← hW3]
        all_goals
         have b03 : Below w.heap.size w W3 := b02.trans (b3.mono (by omega))
         have hz3 := Lib.hid ((b3.block _ hs2).trans HQ2.out)
         have hs3 : w.heap.size < W3.heap.size := Nat.lt_of_lt_of_le hs2 b3.size
         have HP : Hid (w.heap.size < w2.heap.size) := Lib.hid hs2
         clear hW3 b3 b02 HQ2 c0 c1 c2' c3 f00 f01 f02 f03 hs
         refine (num83 (k := 1) hR3 (by omega)).mono ?_
         rintro e w4 ⟨A4, n4, c4, rfl, hr4, hg4⟩
         rw [sgn_small (num_lt3 (St.mk m false) (k := 1) (by omega))]
         have b04 : Below w.heap.size w w4 := b03.trans (only_below hg4 (by omega) (by omega))
         have hz4 := Lib.hid ((hg4.block _ hs3 (fun e => by injection e with e; have := HP.out; omega)).trans hz3.out)
         have hs4 : w.heap.size < w4.heap.size := Nat.lt_of_lt_of_le hs3 hg4.size
         obtain ⟨kk, s1, hkk, hs1, HQ9⟩ := rqOf_cases m
         rw [← hkk]
         rw [← hs1] at hr4
         obtain ⟨W5, hW5⟩ : ∃ W5, W5 = w4.alloc (.cells #[.int .i64 kk, .string ⟨#[]⟩, .string ⟨#[]⟩, .int .i64 0] 27) := ⟨_, rfl⟩
         have b5 : Below w4.heap.size w4 W5 := by rw [hW5]; exact (Below.refl _ _).alloc (Nat.le_refl _) _
         have hr5 : Rdr 83 W5 B w2.heap.size A4 n4 c4 s1 := hr4.below b5
         have hlt4 := hr4.lt
         have hS5 : RX3 W5 w.heap.size w4.heap.size w2.heap.size B kk ⟨#[]⟩ ⟨#[]⟩ 0 s1 := ⟨by rw [hW5]; exact heap_alloc_new w4 _, (b5.block _ hs4).trans hz4.out, ⟨_, _, _, hr5⟩, by omega, by omega, by omega, by omega⟩
         have b05 : Below w.heap.size w W5 := b04.trans (b5.mono (Nat.le_of_lt hs4))
         have HW5 := Lib.hid hW5
         have HX : Hid (w.heap.size < w4.heap.size) := Lib.hid hs4
         clear b03 hR3 hg4 hr4 hsl hz3 hz4 b04 hW5 b5 hkk hs1 hs4 hlt4 hs3 hs2
         go_wp2_with fail
         rw [← HW5.out]
         clear HW5
         generalize w4.heap.size = rx at *
         generalize w2.heap.size = px at *
         refine (text83 (k := 1) hr5 (by omega)).mono ?_
         rintro e w6 ⟨A6, n6, c6, rfl, hr6, hg6⟩
         have hS6 := hS5.read hr6 hg6
         have b06 : Below w.heap.size w w6 := b05.trans (only_below hg6 (by have := hS5.lt0; omega) (by have := HP.out; omega))
         obtain ⟨q0, q1, -, -⟩ := hS6.cell
         have F1 := hS6.free 1
         clear b05 hS5 hr5 hg6 hr6
         have HE2 : Hid ((2 : Int) + (N : Int) = ((N + 2 : Nat) : Int)) := Lib.hid (by omega)
         rcases (show (kk = 1 ∨ kk = 3) ∨ kk = 5 ∨ (kk ≠ 1 ∧ kk ≠ 3 ∧ kk ≠ 5) by omega) with h13 | rfl | ⟨k1, k3, k5⟩
         · have HQA : Hid (rqOf m = ((⟨kk, s1.txt 1, (s1.past 1).txt 2, 0⟩ : Rq), (s1.past 1).past 2)) := Lib.hid (by rw [HQ9.out, if_pos (by rcases h13 with rfl | rfl <;> rfl)])
           have hb13 : ((kk == 1) = true) ∨ ((kk == 1) = false ∧ (kk == 3) = true) := by rcases h13 with rfl | rfl; exact .inl rfl; exact .inr ⟨rfl, rfl⟩
           clear h13
           rcases hb13 with e1 | ⟨e1, e3⟩
           all_goals
            go_wp2_with fail
            have hS7 := hS6.set1 (ba (s1.txt 1))
            have b07 : Below w.heap.size w (w6.setCell ⟨rx, 1, none⟩ (.string (ba (s1.txt 1)))) := b06.setCell (p := ⟨rx, 1, none⟩) (Nat.le_of_lt HX.out) _
            have HZN : Hid ((ba (s1.txt 1)).size ≤ 9000000000000000000) := Lib.hid (txt_len9 _ (by omega))
            generalize w6.setCell ⟨rx, 1, none⟩ (.string (ba (s1.txt 1))) = w7 at *
            clear b06 hS6 q0 q1 F1
            obtain ⟨A7, n7, c7, hr7⟩ := hS7.rd
            refine (text83 (k := 2) hr7 (by omega)).mono ?_
            rintro e w8 ⟨A8, n8, c8, rfl, hr8, hg8⟩
            have hS8 := hS7.read hr8 hg8
            have b08 : Below w.heap.size w w8 := b07.trans (only_below hg8 (by have := hS7.lt0; omega) (by have := HP.out; omega))
            obtain ⟨q0, -, q2, -⟩ := hS8.cell
            have F2 := hS8.free 2
            have HZT : Hid ((ba ((s1.past 1).txt 2)).size ≤ 9000000000000000000) := Lib.hid (txt_len9 _ (by omega))
            clear b07 hS7 hr7 hg8 hr8
            go_upto_region 17 with fail
            have hRt := hS8.set2 (ba ((s1.past 1).txt 2))
            have bt : Below w.heap.size w (w8.setCell ⟨rx, 2, none⟩ (.string (ba ((s1.past 1).txt 2)))) := b08.setCell (p := ⟨rx, 2, none⟩) (Nat.le_of_lt HX.out) _
            generalize w8.setCell ⟨rx, 2, none⟩ (.string (ba ((s1.past 1).txt 2))) = wt at *
            clear b08 hS8 q0 q2 F2
            have HR2 : Hid (rqRead l = if ((s1.past 1).past 2).bad || !((s1.past 1).past 2).l.isEmpty || !(⟨kk, s1.txt 1, (s1.past 1).txt 2, 0⟩ : Rq).right then (noRq, N + 2, 12) else ((⟨kk, s1.txt 1, (s1.past 1).txt 2, 0⟩ : Rq), N + 2, 0)) := by
              show _ = _
              rw [HR.out, HQA.out]
            obtain ⟨A9, n9, c9, hr9⟩ := hRt.rd
            obtain ⟨q0, q1, q2, q3⟩ := hRt.cell
            obtain ⟨c0, c1, c2, c3⟩ := box4 hRt.res
            have F0 := hRt.free 0
            have F1 := hRt.free 1
            have F2 := hRt.free 2
            have F3 := hRt.free 3
            have f0 : ∀ o, wt.frozen? ⟨w.heap.size, o, none⟩ = false := fun o => by have := hRt.res; simp [World.frozen?, this]
            have f00 := f0 0
            have f01 := f0 1
            have f02 := f0 2
            have f03 := f0 3
            have d0 := hr9.cell0
            have d1 := hr9.cell1
            have HL9 := Lib.hid hr9.sl.len
            have HRT := Lib.hid hRt
            clear f0 hr9 hRt
            cases hbad : ((s1.past 1).past 2).bad with
            | true =>
              have HF : Hid (rqRead l = (noRq, N + 2, 12)) := by show _ = _; rw [HR2.out, hbad]; rfl
              rw [hbad] at d1
              clear hbad
              go_wp2_with fail
              obtain ⟨q0, q1, q2, q3⟩ := box4 (put4 HRT.out.res (.int .i64 0) (.string (⟨#[]⟩)) (.string (⟨#[]⟩)) (.int .i64 (0)))
              refine bodyPost_ret (v := .tuple #[rqvOf noRq, .int .i64 (2 + (N : Int)), .int .i64 12]) (by simp [results, Try.results19, go_sem, q0, q1, q2, q3]; rfl) rfl ⟨by rw [HF.out, HE2.out]; rfl, put4_below bt (Nat.le_refl _) _ _ _ _⟩
            | false =>
              rw [hbad] at d1
              by_cases hl9 : (0 : Int) < (n9 : Int)
              · have HF : Hid (rqRead l = (noRq, N + 2, 12)) := by
                  show _ = _
                  have : ((s1.past 1).past 2).l.isEmpty = false := by
                    cases hq : ((s1.past 1).past 2).l with
                    | nil => exfalso; have := HL9.out; rw [hq] at this; simp at this; omega
                    | cons _ _ => rfl
                  rw [HR2.out, hbad, this]; rfl
                clear hbad
                go_wp2_with fail
                obtain ⟨q0, q1, q2, q3⟩ := box4 (put4 HRT.out.res (.int .i64 0) (.string (⟨#[]⟩)) (.string (⟨#[]⟩)) (.int .i64 (0)))
                refine bodyPost_ret (v := .tuple #[rqvOf noRq, .int .i64 (2 + (N : Int)), .int .i64 12]) (by simp [results, Try.results19, go_sem, q0, q1, q2, q3]; rfl) rfl ⟨by rw [HF.out, HE2.out]; rfl, put4_below bt (Nat.le_refl _) _ _ _ _⟩
              · have HR3 : Hid (rqRead l = if !(⟨kk, s1.txt 1, (s1.past 1).txt 2, 0⟩ : Rq).right then (noRq, N + 2, 12) else ((⟨kk, s1.txt 1, (s1.past 1).txt 2, 0⟩ : Rq), N + 2, 0)) := by
                  show _ = _
                  have : ((s1.past 1).past 2).l.isEmpty = true := by
                    cases hq : ((s1.past 1).past 2).l with
                    | nil => rfl
                    | cons _ _ => exfalso; have := HL9.out; rw [hq] at this; simp at this; omega
                  rw [HR2.out, hbad, this]; rfl
                clear hbad
                go_wp2_with fail
                refine (right42 kk (ba (s1.txt 1)) (ba ((s1.past 1).txt 2)) (0) _ HZN.out (by first | exact HZT.out | decide)).mono ?_
                rintro e w10 ⟨rfl, b10⟩
                have hres := (b10.block _ HRT.out.lt0).trans HRT.out.res
                have hblk := (b10.block _ HRT.out.lt).trans HRT.out.blk
                have HRES := Lib.hid hres
                have bt10 : Below w.heap.size w w10 := bt.trans (b10.mono (Nat.le_of_lt HRT.out.lt0))
                clear q0 q1 q2 q3 c0 c1 c2 c3 F0 F1 F2 F3 f00 f01 f02 f03 d0 d1
                obtain ⟨q0, q1, q2, q3⟩ := box4 hblk
                obtain ⟨c0, c1, c2, c3⟩ := box4 hres
                have F0 : w10.frozen? ⟨rx, 0, none⟩ = false := by simp [World.frozen?, hblk]
                have F1 : w10.frozen? ⟨rx, 1, none⟩ = false := by simp [World.frozen?, hblk]
                have F2 : w10.frozen? ⟨rx, 2, none⟩ = false := by simp [World.frozen?, hblk]
                have F3 : w10.frozen? ⟨rx, 3, none⟩ = false := by simp [World.frozen?, hblk]
                have f00 : w10.frozen? ⟨w.heap.size, 0, none⟩ = false := by simp [World.frozen?, hres]
                have f01 : w10.frozen? ⟨w.heap.size, 1, none⟩ = false := by simp [World.frozen?, hres]
                have f02 : w10.frozen? ⟨w.heap.size, 2, none⟩ = false := by simp [World.frozen?, hres]
                have f03 : w10.frozen? ⟨w.heap.size, 3, none⟩ = false := by simp [World.frozen?, hres]
                clear hblk hres
                cases hri : (rqOfV kk (ba (s1.txt 1)) (ba ((s1.past 1).txt 2)) (0)).right with
                | false =>
                  have HF : Hid (rqRead l = (noRq, N + 2, 12)) := by
                    show _ = _
                    have h' : (⟨kk, s1.txt 1, (s1.past 1).txt 2, 0⟩ : Rq).right = false := by have h4 := hri; unfold rqOfV at h4; simp only [bl_ba] at h4; first | exact h4 | (simp only [bl_nil] at h4; exact h4)
                    rw [HR3.out, h']; rfl
                  clear hri
                  go_wp2_with fail
                  obtain ⟨q0, q1, q2, q3⟩ := box4 (put4 HRES.out (.int .i64 0) (.string (⟨#[]⟩)) (.string (⟨#[]⟩)) (.int .i64 (0)))
                  refine bodyPost_ret (v := .tuple #[rqvOf noRq, .int .i64 (2 + (N : Int)), .int .i64 12]) (by simp [results, Try.results19, go_sem, q0, q1, q2, q3]; rfl) rfl ⟨by rw [HF.out, HE2.out]; rfl, put4_below bt10 (Nat.le_refl _) _ _ _ _⟩
                | true =>
                  have HF : Hid (rqRead l = ((⟨kk, s1.txt 1, (s1.past 1).txt 2, 0⟩ : Rq), N + 2, 0)) := by
                    show _ = _
                    have h' : (⟨kk, s1.txt 1, (s1.past 1).txt 2, 0⟩ : Rq).right = true := by have h4 := hri; unfold rqOfV at h4; simp only [bl_ba] at h4; first | exact h4 | (simp only [bl_nil] at h4; exact h4)
                    rw [HR3.out, h']; rfl
                  clear hri
                  go_wp2_with fail
                  obtain ⟨q0, q1, q2, q3⟩ := box4 (put4 HRES.out (.int .i64 kk) (.string (ba (s1.txt 1))) (.string (ba ((s1.past 1).txt 2))) (.int .i64 (0)))
                  refine bodyPost_ret (v := .tuple #[rqv kk (ba (s1.txt 1)) (ba ((s1.past 1).txt 2)) (0), .int .i64 (2 + (N : Int)), .int .i64 0]) (by simp [results, Try.results19, go_sem, q0, q1, q2, q3]; rfl) rfl ⟨by rw [HF.out, HE2.out]; rfl, put4_below bt10 (Nat.le_refl _) _ _ _ _⟩
         · have HQA : Hid (rqOf m = ((⟨5, s1.txt 1, [], sgn ((s1.past 1).num 8)⟩ : Rq), (s1.past 1).behind 8)) := Lib.hid (by rw [HQ9.out]; rfl)
           go_wp2_with fail
           have hS7 := hS6.set1 (ba (s1.txt 1))
           have b07 : Below w.heap.size w (w6.setCell ⟨rx, 1, none⟩ (.string (ba (s1.txt 1)))) := b06.setCell (p := ⟨rx, 1, none⟩) (Nat.le_of_lt HX.out) _
           have HZN : Hid ((ba (s1.txt 1)).size ≤ 9000000000000000000) := Lib.hid (txt_len9 _ (by omega))
           generalize w6.setCell ⟨rx, 1, none⟩ (.string (ba (s1.txt 1))) = w7 at *
           clear b06 hS6 q0 q1 F1
           obtain ⟨A7, n7, c7, hr7⟩ := hS7.rd
           refine (num83 (k := 8) hr7 (by omega)).mono ?_
           rintro e w8 ⟨A8, n8, c8, rfl, hr8, hg8⟩
           generalize sgn ((s1.past 1).num 8) = vv at *
           have hS8 := hS7.read hr8 hg8
           have b08 : Below w.heap.size w w8 := b07.trans (only_below hg8 (by have := hS7.lt0; omega) (by have := HP.out; omega))
           obtain ⟨q0, -, -, q3⟩ := hS8.cell
           have F3 := hS8.free 3
           clear b07 hS7 hr7 hg8 hr8
           go_upto_region 17 with fail
           have hRt := hS8.set3 vv
           have bt : Below w.heap.size w (w8.setCell ⟨rx, 3, none⟩ (.int .i64 vv)) := b08.setCell (p := ⟨rx, 3, none⟩) (Nat.le_of_lt HX.out) _
           generalize w8.setCell ⟨rx, 3, none⟩ (.int .i64 vv) = wt at *
           clear b08 hS8 q0 q3 F3
           have HR2 : Hid (rqRead l = if ((s1.past 1).behind 8).bad || !((s1.past 1).behind 8).l.isEmpty || !(⟨5, s1.txt 1, [], vv⟩ : Rq).right then (noRq, N + 2, 12) else ((⟨5, s1.txt 1, [], vv⟩ : Rq), N + 2, 0)) := by
             show _ = _
             rw [HR.out, HQA.out]
           obtain ⟨A9, n9, c9, hr9⟩ := hRt.rd
           obtain ⟨q0, q1, q2, q3⟩ := hRt.cell
           obtain ⟨c0, c1, c2, c3⟩ := box4 hRt.res
           have F0 := hRt.free 0
           have F1 := hRt.free 1
           have F2 := hRt.free 2
           have F3 := hRt.free 3
           have f0 : ∀ o, wt.frozen? ⟨w.heap.size, o, none⟩ = false := fun o => by have := hRt.res; simp [World.frozen?, this]
           have f00 := f0 0
           have f01 := f0 1
           have f02 := f0 2
           have f03 := f0 3
           have d0 := hr9.cell0
           have d1 := hr9.cell1
           have HL9 := Lib.hid hr9.sl.len
           have HRT := Lib.hid hRt
           clear f0 hr9 hRt
           cases hbad : ((s1.past 1).behind 8).bad with
           | true =>
             have HF : Hid (rqRead l = (noRq, N + 2, 12)) := by show _ = _; rw [HR2.out, hbad]; rfl
             rw [hbad] at d1
             clear hbad
             go_wp2_with fail
             obtain ⟨q0, q1, q2, q3⟩ := box4 (put4 HRT.out.res (.int .i64 0) (.string (⟨#[]⟩)) (.string (⟨#[]⟩)) (.int .i64 (0)))
             refine bodyPost_ret (v := .tuple #[rqvOf noRq, .int .i64 (2 + (N : Int)), .int .i64 12]) (by simp [results, Try.results19, go_sem, q0, q1, q2, q3]; rfl) rfl ⟨by rw [HF.out, HE2.out]; rfl, put4_below bt (Nat.le_refl _) _ _ _ _⟩
           | false =>
             rw [hbad] at d1
             by_cases hl9 : (0 : Int) < (n9 : Int)
             · have HF : Hid (rqRead l = (noRq, N + 2, 12)) := by
                 show _ = _
                 have : ((s1.past 1).behind 8).l.isEmpty = false := by
                   cases hq : ((s1.past 1).behind 8).l with
                   | nil => exfalso; have := HL9.out; rw [hq] at this; simp at this; omega
                   | cons _ _ => rfl
                 rw [HR2.out, hbad, this]; rfl
               clear hbad
               go_wp2_with fail
               obtain ⟨q0, q1, q2, q3⟩ := box4 (put4 HRT.out.res (.int .i64 0) (.string (⟨#[]⟩)) (.string (⟨#[]⟩)) (.int .i64 (0)))
               refine bodyPost_ret (v := .tuple #[rqvOf noRq, .int .i64 (2 + (N : Int)), .int .i64 12]) (by simp [results, Try.results19, go_sem, q0, q1, q2, q3]; rfl) rfl ⟨by rw [HF.out, HE2.out]; rfl, put4_below bt (Nat.le_refl _) _ _ _ _⟩
             · have HR3 : Hid (rqRead l = if !(⟨5, s1.txt 1, [], vv⟩ : Rq).right then (noRq, N + 2, 12) else ((⟨5, s1.txt 1, [], vv⟩ : Rq), N + 2, 0)) := by
                 show _ = _
                 have : ((s1.past 1).behind 8).l.isEmpty = true := by
                   cases hq : ((s1.past 1).behind 8).l with
                   | nil => rfl
                   | cons _ _ => exfalso; have := HL9.out; rw [hq] at this; simp at this; omega
                 rw [HR2.out, hbad, this]; rfl
               clear hbad
               go_wp2_with fail
               refine (right42 5 (ba (s1.txt 1)) (⟨#[]⟩) (vv) _ HZN.out (by first | exact HZT.out | decide)).mono ?_
               rintro e w10 ⟨rfl, b10⟩
               have hres := (b10.block _ HRT.out.lt0).trans HRT.out.res
               have hblk := (b10.block _ HRT.out.lt).trans HRT.out.blk
               have HRES := Lib.hid hres
               have bt10 : Below w.heap.size w w10 := bt.trans (b10.mono (Nat.le_of_lt HRT.out.lt0))
               clear q0 q1 q2 q3 c0 c1 c2 c3 F0 F1 F2 F3 f00 f01 f02 f03 d0 d1
               obtain ⟨q0, q1, q2, q3⟩ := box4 hblk
               obtain ⟨c0, c1, c2, c3⟩ := box4 hres
               have F0 : w10.frozen? ⟨rx, 0, none⟩ = false := by simp [World.frozen?, hblk]
               have F1 : w10.frozen? ⟨rx, 1, none⟩ = false := by simp [World.frozen?, hblk]
               have F2 : w10.frozen? ⟨rx, 2, none⟩ = false := by simp [World.frozen?, hblk]
               have F3 : w10.frozen? ⟨rx, 3, none⟩ = false := by simp [World.frozen?, hblk]
               have f00 : w10.frozen? ⟨w.heap.size, 0, none⟩ = false := by simp [World.frozen?, hres]
               have f01 : w10.frozen? ⟨w.heap.size, 1, none⟩ = false := by simp [World.frozen?, hres]
               have f02 : w10.frozen? ⟨w.heap.size, 2, none⟩ = false := by simp [World.frozen?, hres]
               have f03 : w10.frozen? ⟨w.heap.size, 3, none⟩ = false := by simp [World.frozen?, hres]
               clear hblk hres
               cases hri : (rqOfV 5 (ba (s1.txt 1)) (⟨#[]⟩) (vv)).right with
               | false =>
                 have HF : Hid (rqRead l = (noRq, N + 2, 12)) := by
                   show _ = _
                   have h' : (⟨5, s1.txt 1, [], vv⟩ : Rq).right = false := by have h4 := hri; unfold rqOfV at h4; simp only [bl_ba] at h4; first | exact h4 | (simp only [bl_nil] at h4; exact h4)
                   rw [HR3.out, h']; rfl
                 clear hri
                 go_wp2_with fail
                 obtain ⟨q0, q1, q2, q3⟩ := box4 (put4 HRES.out (.int .i64 0) (.string (⟨#[]⟩)) (.string (⟨#[]⟩)) (.int .i64 (0)))
                 refine bodyPost_ret (v := .tuple #[rqvOf noRq, .int .i64 (2 + (N : Int)), .int .i64 12]) (by simp [results, Try.results19, go_sem, q0, q1, q2, q3]; rfl) rfl ⟨by rw [HF.out, HE2.out]; rfl, put4_below bt10 (Nat.le_refl _) _ _ _ _⟩
               | true =>
                 have HF : Hid (rqRead l = ((⟨5, s1.txt 1, [], vv⟩ : Rq), N + 2, 0)) := by
                   show _ = _
                   have h' : (⟨5, s1.txt 1, [], vv⟩ : Rq).right = true := by have h4 := hri; unfold rqOfV at h4; simp only [bl_ba] at h4; first | exact h4 | (simp only [bl_nil] at h4; exact h4)
                   rw [HR3.out, h']; rfl
                 clear hri
                 go_wp2_with fail
                 obtain ⟨q0, q1, q2, q3⟩ := box4 (put4 HRES.out (.int .i64 5) (.string (ba (s1.txt 1))) (.string (⟨#[]⟩)) (.int .i64 (vv)))
                 refine bodyPost_ret (v := .tuple #[rqv 5 (ba (s1.txt 1)) (⟨#[]⟩) (vv), .int .i64 (2 + (N : Int)), .int .i64 0]) (by simp [results, Try.results19, go_sem, q0, q1, q2, q3]; rfl) rfl ⟨by rw [HF.out, HE2.out]; rfl, put4_below bt10 (Nat.le_refl _) _ _ _ _⟩
         · have HQA : Hid (rqOf m = ((⟨kk, s1.txt 1, [], 0⟩ : Rq), s1.past 1)) := Lib.hid (by rw [HQ9.out, if_neg (by simp [writesB, k1, k3]), if_neg k5])
           have e1 : (kk == 1) = false := by simp [k1]
           have e3 : (kk == 3) = false := by simp [k3]
           have e5 : (kk == 5) = false := by simp [k5]
           go_upto_region 17 with fail
           have hS7 := hS6.set1 (ba (s1.txt 1))
           have b07 : Below w.heap.size w (w6.setCell ⟨rx, 1, none⟩ (.string (ba (s1.txt 1)))) := b06.setCell (p := ⟨rx, 1, none⟩) (Nat.le_of_lt HX.out) _
           have HZN : Hid ((ba (s1.txt 1)).size ≤ 9000000000000000000) := Lib.hid (txt_len9 _ (by omega))
           generalize w6.setCell ⟨rx, 1, none⟩ (.string (ba (s1.txt 1))) = w7 at *
           clear b06 hS6 q0 q1 F1
           have hRt := hS7
           have bt := b07
           generalize w7 = wt at *
           clear hS7 b07
           have HR2 : Hid (rqRead l = if (s1.past 1).bad || !(s1.past 1).l.isEmpty || !(⟨kk, s1.txt 1, [], 0⟩ : Rq).right then (noRq, N + 2, 12) else ((⟨kk, s1.txt 1, [], 0⟩ : Rq), N + 2, 0)) := by
             show _ = _
             rw [HR.out, HQA.out]
           obtain ⟨A9, n9, c9, hr9⟩ := hRt.rd
           obtain ⟨q0, q1, q2, q3⟩ := hRt.cell
           obtain ⟨c0, c1, c2, c3⟩ := box4 hRt.res
           have F0 := hRt.free 0
           have F1 := hRt.free 1
           have F2 := hRt.free 2
           have F3 := hRt.free 3
           have f0 : ∀ o, wt.frozen? ⟨w.heap.size, o, none⟩ = false := fun o => by have := hRt.res; simp [World.frozen?, this]
           have f00 := f0 0
           have f01 := f0 1
           have f02 := f0 2
           have f03 := f0 3
           have d0 := hr9.cell0
           have d1 := hr9.cell1
           have HL9 := Lib.hid hr9.sl.len
           have HRT := Lib.hid hRt
           clear f0 hr9 hRt
           cases hbad : (s1.past 1).bad with
           | true =>
             have HF : Hid (rqRead l = (noRq, N + 2, 12)) := by show _ = _; rw [HR2.out, hbad]; rfl
             rw [hbad] at d1
             clear hbad
             go_wp2_with fail
             obtain ⟨q0, q1, q2, q3⟩ := box4 (put4 HRT.out.res (.int .i64 0) (.string (⟨#[]⟩)) (.string (⟨#[]⟩)) (.int .i64 (0)))
             refine bodyPost_ret (v := .tuple #[rqvOf noRq, .int .i64 (2 + (N : Int)), .int .i64 12]) (by simp [results, Try.results19, go_sem, q0, q1, q2, q3]; rfl) rfl ⟨by rw [HF.out, HE2.out]; rfl, put4_below bt (Nat.le_refl _) _ _ _ _⟩
           | false =>
             rw [hbad] at d1
             by_cases hl9 : (0 : Int) < (n9 : Int)
             · have HF : Hid (rqRead l = (noRq, N + 2, 12)) := by
                 show _ = _
                 have : (s1.past 1).l.isEmpty = false := by
                   cases hq : (s1.past 1).l with
                   | nil => exfalso; have := HL9.out; rw [hq] at this; simp at this; omega
                   | cons _ _ => rfl
                 rw [HR2.out, hbad, this]; rfl
               clear hbad
               go_wp2_with fail
               obtain ⟨q0, q1, q2, q3⟩ := box4 (put4 HRT.out.res (.int .i64 0) (.string (⟨#[]⟩)) (.string (⟨#[]⟩)) (.int .i64 (0)))
               refine bodyPost_ret (v := .tuple #[rqvOf noRq, .int .i64 (2 + (N : Int)), .int .i64 12]) (by simp [results, Try.results19, go_sem, q0, q1, q2, q3]; rfl) rfl ⟨by rw [HF.out, HE2.out]; rfl, put4_below bt (Nat.le_refl _) _ _ _ _⟩
             · have HR3 : Hid (rqRead l = if !(⟨kk, s1.txt 1, [], 0⟩ : Rq).right then (noRq, N + 2, 12) else ((⟨kk, s1.txt 1, [], 0⟩ : Rq), N + 2, 0)) := by
                 show _ = _
                 have : (s1.past 1).l.isEmpty = true := by
                   cases hq : (s1.past 1).l with
                   | nil => rfl
                   | cons _ _ => exfalso; have := HL9.out; rw [hq] at this; simp at this; omega
                 rw [HR2.out, hbad, this]; rfl
               clear hbad
               go_wp2_with fail
               refine (right42 kk (ba (s1.txt 1)) (⟨#[]⟩) (0) _ HZN.out (by first | exact HZT.out | decide)).mono ?_
               rintro e w10 ⟨rfl, b10⟩
               have hres := (b10.block _ HRT.out.lt0).trans HRT.out.res
               have hblk := (b10.block _ HRT.out.lt).trans HRT.out.blk
               have HRES := Lib.hid hres
               have bt10 : Below w.heap.size w w10 := bt.trans (b10.mono (Nat.le_of_lt HRT.out.lt0))
               clear q0 q1 q2 q3 c0 c1 c2 c3 F0 F1 F2 F3 f00 f01 f02 f03 d0 d1
               obtain ⟨q0, q1, q2, q3⟩ := box4 hblk
               obtain ⟨c0, c1, c2, c3⟩ := box4 hres
               have F0 : w10.frozen? ⟨rx, 0, none⟩ = false := by simp [World.frozen?, hblk]
               have F1 : w10.frozen? ⟨rx, 1, none⟩ = false := by simp [World.frozen?, hblk]
               have F2 : w10.frozen? ⟨rx, 2, none⟩ = false := by simp [World.frozen?, hblk]
               have F3 : w10.frozen? ⟨rx, 3, none⟩ = false := by simp [World.frozen?, hblk]
               have f00 : w10.frozen? ⟨w.heap.size, 0, none⟩ = false := by simp [World.frozen?, hres]
               have f01 : w10.frozen? ⟨w.heap.size, 1, none⟩ = false := by simp [World.frozen?, hres]
               have f02 : w10.frozen? ⟨w.heap.size, 2, none⟩ = false := by simp [World.frozen?, hres]
               have f03 : w10.frozen? ⟨w.heap.size, 3, none⟩ = false := by simp [World.frozen?, hres]
               clear hblk hres
               cases hri : (rqOfV kk (ba (s1.txt 1)) (⟨#[]⟩) (0)).right with
               | false =>
                 have HF : Hid (rqRead l = (noRq, N + 2, 12)) := by
                   show _ = _
                   have h' : (⟨kk, s1.txt 1, [], 0⟩ : Rq).right = false := by have h4 := hri; unfold rqOfV at h4; simp only [bl_ba] at h4; first | exact h4 | (simp only [bl_nil] at h4; exact h4)
                   rw [HR3.out, h']; rfl
                 clear hri
                 go_wp2_with fail
                 obtain ⟨q0, q1, q2, q3⟩ := box4 (put4 HRES.out (.int .i64 0) (.string (⟨#[]⟩)) (.string (⟨#[]⟩)) (.int .i64 (0)))
                 refine bodyPost_ret (v := .tuple #[rqvOf noRq, .int .i64 (2 + (N : Int)), .int .i64 12]) (by simp [results, Try.results19, go_sem, q0, q1, q2, q3]; rfl) rfl ⟨by rw [HF.out, HE2.out]; rfl, put4_below bt10 (Nat.le_refl _) _ _ _ _⟩
               | true =>
                 have HF : Hid (rqRead l = ((⟨kk, s1.txt 1, [], 0⟩ : Rq), N + 2, 0)) := by
                   show _ = _
                   have h' : (⟨kk, s1.txt 1, [], 0⟩ : Rq).right = true := by have h4 := hri; unfold rqOfV at h4; simp only [bl_ba] at h4; first | exact h4 | (simp only [bl_nil] at h4; exact h4)
                   rw [HR3.out, h']; rfl
                 clear hri
                 go_wp2_with fail
                 obtain ⟨q0, q1, q2, q3⟩ := box4 (put4 HRES.out (.int .i64 kk) (.string (ba (s1.txt 1))) (.string (⟨#[]⟩)) (.int .i64 (0)))
                 refine bodyPost_ret (v := .tuple #[rqv kk (ba (s1.txt 1)) (⟨#[]⟩) (0), .int .i64 (2 + (N : Int)), .int .i64 0]) (by simp [results, Try.results19, go_sem, q0, q1, q2, q3]; rfl) rfl ⟨by rw [HF.out, HE2.out]; rfl, put4_below bt10 (Nat.le_refl _) _ _ _ _⟩
end Go.Proofs.Ytifdkkkcecpjoaa
