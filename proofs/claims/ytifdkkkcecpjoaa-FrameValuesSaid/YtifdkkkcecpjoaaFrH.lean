/-
  frame.ReadRequest: what any bytes are read as.
-/
import Derived.Test.YtifdkkkcecpjoaaFrG
namespace Go.Proofs.Ytifdkkkcecpjoaa
open Go.RowKit
attribute [local go_sem ↓] Go.wp_at_zero Go.wp_at_succ

def rqvOf (r : Rq) : Value := rqv r.kind (ba r.name) (ba r.text) r.value

/-- The result's block and the reader's. -/
structure RS (w : World) (r0 p B : Nat) (k : Int) (nm t : ByteArray) (v : Int) (s : St) : Prop where
  blk : w.heap[r0]? = some (.cells #[.int .i64 k, .string nm, .string t, .int .i64 v] 27 (0, 0))
  rd : ∃ A n c, Rdr 76 w B p A n c s
  hlt : r0 < p
  hB : B ≤ r0
namespace RS
variable {w w' : World} {r0 p B : Nat} {k v : Int} {nm t : ByteArray} {s s' : St}
theorem lt (h : RS w r0 p B k nm t v s) : r0 < w.heap.size := by
  obtain ⟨A, n, c, hr⟩ := h.rd
  have := hr.lt
  have := h.hlt
  omega
theorem read {A : Option Addr} {n c : Nat} (h : RS w r0 p B k nm t v s) (hr : Rdr 76 w' B p A n c s') (hg : w.grownBy w' (some p)) : RS w' r0 p B k nm t v s' :=
  ⟨(hg.block r0 h.lt (fun e => by injection e; have := h.hlt; omega)).trans h.blk, ⟨A, n, c, hr⟩, h.hlt, h.hB⟩
theorem free (h : RS w r0 p B k nm t v s) (o : Nat) : w.frozen? ⟨r0, o, none⟩ = false := by simp [World.frozen?, h.blk]
theorem cell (h : RS w r0 p B k nm t v s) : w.cell? ⟨r0, 0, none⟩ = some (.int .i64 k) ∧ w.cell? ⟨r0, 1, none⟩ = some (.string nm) ∧ w.cell? ⟨r0, 2, none⟩ = some (.string t) ∧ w.cell? ⟨r0, 3, none⟩ = some (.int .i64 v) := box4 h.blk
theorem keep (h : RS w r0 p B k nm t v s) (o : Nat) (u : Value) : ∃ A n c, Rdr 76 (w.setCell ⟨r0, o, none⟩ u) B p A n c s := by
  obtain ⟨A, n, c, hr⟩ := h.rd
  have hlt := h.hlt
  have hB := h.hB
  have hl := hr.lt
  refine ⟨A, n, c, hr.hB, (Below.heap_setCell w ⟨r0, o, none⟩ u p (fun e => ?_)).trans hr.blk, ⟨hr.sl.len, hr.sl.cap, hr.sl.max, hr.sl.rd.setCell hB u⟩⟩
  have : p = r0 := e
  omega
theorem set0 (h : RS w r0 p B k nm t v s) (x : Int) : RS (w.setCell ⟨r0, 0, none⟩ (.int .i64 x)) r0 p B x nm t v s :=
  ⟨by have := h.blk; simp [World.setCell, Array.getElem?_modify, this], h.keep 0 _, h.hlt, h.hB⟩
theorem set1 (h : RS w r0 p B k nm t v s) (x : ByteArray) : RS (w.setCell ⟨r0, 1, none⟩ (.string x)) r0 p B k x t v s :=
  ⟨by have := h.blk; simp [World.setCell, Array.getElem?_modify, this], h.keep 1 _, h.hlt, h.hB⟩
theorem set2 (h : RS w r0 p B k nm t v s) (x : ByteArray) : RS (w.setCell ⟨r0, 2, none⟩ (.string x)) r0 p B k nm x v s :=
  ⟨by have := h.blk; simp [World.setCell, Array.getElem?_modify, this], h.keep 2 _, h.hlt, h.hB⟩
theorem set3 (h : RS w r0 p B k nm t v s) (x : Int) : RS (w.setCell ⟨r0, 3, none⟩ (.int .i64 x)) r0 p B k nm t x s :=
  ⟨by have := h.blk; simp [World.setCell, Array.getElem?_modify, this], h.keep 3 _, h.hlt, h.hB⟩
end RS

theorem head_short {l : List UInt8} (h : l.length < 2) : (!(((St.mk l false).behind 2).behind ((St.mk l false).num 2)).bad) = false := by
  rw [St.behind_short (s := ⟨l, false⟩) (k := 2) h]
  simp [St.behind]

theorem head_cut {l : List UInt8} (h : 2 ≤ l.length) (h' : l.length < 2 + (St.mk l false).num 2) : (!(((St.mk l false).behind 2).behind ((St.mk l false).num 2)).bad) = false := by
  rw [St.behind_long (s := ⟨l, false⟩) h, St.behind_short (by simp; omega)]; rfl
theorem head_ok {l : List UInt8} (h : 2 + (St.mk l false).num 2 ≤ l.length) : (!(((St.mk l false).behind 2).behind ((St.mk l false).num 2)).bad) = true ∧ (St.mk l false).txt 2 = (l.drop 2).take ((St.mk l false).num 2) := by
  have e := St.behind_long (s := ⟨l, false⟩) (k := 2) (by show 2 ≤ l.length; omega)
  have hn : (St.mk l false).num 2 ≤ ((St.mk l false).behind 2).l.length := by rw [e]; simp; omega
  refine ⟨by rw [St.behind_long hn, e]; rfl, by rw [St.txt, St.takes_long hn, e]⟩

theorem put4 {w : World} {r : Nat} {t : TypeId} {a b c d : Value} (h : w.heap[r]? = some (.cells #[a, b, c, d] t (0, 0))) (a' b' c' d' : Value) :
    ((((w.setCell ⟨r, 0, none⟩ a').setCell ⟨r, 1, none⟩ b').setCell ⟨r, 2, none⟩ c').setCell ⟨r, 3, none⟩ d').heap[r]? = some (.cells #[a', b', c', d'] t (0, 0)) := by
  simp [World.setCell, Array.getElem?_modify, h]
theorem put4_below {w0 w : World} {B r : Nat} (h : Below B w0 w) (hr : B ≤ r) (a' b' c' d' : Value) :
    Below B w0 ((((w.setCell ⟨r, 0, none⟩ a').setCell ⟨r, 1, none⟩ b').setCell ⟨r, 2, none⟩ c').setCell ⟨r, 3, none⟩ d') :=
  (((h.setCell (p := ⟨r, 0, none⟩) hr _).setCell (p := ⟨r, 1, none⟩) hr _).setCell (p := ⟨r, 2, none⟩) hr _).setCell (p := ⟨r, 3, none⟩) hr _

theorem bad3 : ∀ {a b x : Bool}, (!a && b) = false → (a || !b || !x) = true := by decide
theorem good3 : ∀ {a b x : Bool}, (!a && b) = true → x = true → (a || !b || !x) = false := by decide
theorem bl_nil : bl ⟨#[]⟩ = [] := rfl
theorem txt_len (s : St) {k : Nat} (hk : k ≤ 3) : (ba (s.txt k)).size ≤ maxLen := by
  have h1 := St.takes_length (s.behind k) (s.num k)
  have h2 := num_lt3 s hk
  rw [ba_size]
  unfold maxLen St.txt
  omega

def RdEnd (l : List UInt8) (w : World) (e : Ending) (w' : World) : Prop :=
  e = .returned (.tuple #[rqvOf (rqRead l).1, .int .i64 (rqRead l).2.1, .int .i64 (rqRead l).2.2]) ∧ Below w.heap.size w w'

set_option maxRecDepth 100000 in
set_option maxHeartbeats 6400000 in
theorem readRequest_any {w : World} {B n c : Nat} {A : Option Addr} {l : List UInt8} (h : Sl w B A n c l) (hB : B ≤ w.heap.size) :
    Calls Try.prog 17 #[.slice A n c] w (RdEnd l w) := by
  obtain ⟨W1, hW1⟩ : ∃ W1, W1 = w.alloc (.cells #[.int .i64 0, .string ⟨#[]⟩, .string ⟨#[]⟩, .int .i64 0] 27) := ⟨_, rfl⟩
  have b1 : Below w.heap.size w W1 := by rw [hW1]; exact (Below.refl _ _).alloc (Nat.le_refl _) _
  have hq : W1.heap[w.heap.size]? = some (.cells #[.int .i64 0, .string ⟨#[]⟩, .string ⟨#[]⟩, .int .i64 0] 27 (0, 0)) := by rw [hW1]; exact heap_alloc_new w _
  have hs1 : w.heap.size < W1.heap.size := by rw [hW1]; simp
  have h1 : Sl W1 B A n c l := h.below (b1.mono hB)
  have hln := h.len
  have HW1 := Lib.hid hW1
  have HQ := Lib.hid hq
  have HLN := Lib.hid hln
  have hcp := h1.cap
  have hmx := h1.max
  unfold maxLen at hmx
  clear hW1 hq h hln
  go_enter Try.func17, Try.ntmps17
  go_wp2_with fail
  rw [← HW1.out]
  refine (head_any h1 (by omega) (k := 2) (by omega)).mono ?_
  rintro e w2 ⟨A2, n2, c2, rfl, h2, b2⟩
  have b02 : Below w.heap.size w w2 := b1.trans (b2.mono (by omega))
  have HQ2 := Lib.hid ((b2.block w.heap.size hs1).trans HQ.out)
  have hs2 := b2.size
  obtain ⟨c0, c1, c2', c3⟩ := box4 HQ2.out
  have hn2 : (St.mk l false).num 2 < 65536 := num_lt _ 2
  have f0 : ∀ o, w2.frozen? ⟨w.heap.size, o, none⟩ = false := fun o => by have := HQ2.out; simp [World.frozen?, this]
  have f00 := f0 0
  have f01 := f0 1
  have f02 := f0 2
  have f03 := f0 3
  have hs12 : w.heap.size < w2.heap.size := by omega
  clear f0 b1 b2 h1 HQ hs1
  by_cases hl2 : l.length < 2
  · have HR : Hid (rqRead l = (noRq, 0, 0)) := by show _ = _; unfold rqRead; rw [if_pos hl2]
    rw [head_short hl2]
    have hn2' : (n : Int) < 2 := by have := HLN.out; omega
    go_wp2_with fail
    obtain ⟨q0, q1, q2, q3⟩ := box4 (put4 HQ2.out (.int .i64 0) (.string ⟨#[]⟩) (.string ⟨#[]⟩) (.int .i64 0))
    refine bodyPost_ret (v := .tuple #[rqvOf noRq, .int .i64 0, .int .i64 0]) (by simp [results, Try.results17, go_sem, q0, q1, q2, q3]; rfl) rfl ⟨by rw [HR.out]; rfl, put4_below b02 (Nat.le_refl _) _ _ _ _⟩
  · by_cases hbig : 1000 < (St.mk l false).num 2
    · have HR : Hid (rqRead l = (noRq, 0, 8)) := by show _ = _; unfold rqRead; rw [if_neg hl2, if_pos hbig]
      have hn2' : (2 : Int) ≤ (n : Int) := by have := HLN.out; omega
      have hb' : (1000 : Int) < ((St.mk l false).num 2 : Int) := by omega
      clear hbig hl2
      go_wp2_with fail
      obtain ⟨q0, q1, q2, q3⟩ := box4 (put4 HQ2.out (.int .i64 0) (.string ⟨#[]⟩) (.string ⟨#[]⟩) (.int .i64 0))
      refine bodyPost_ret (v := .tuple #[rqvOf noRq, .int .i64 0, .int .i64 8]) (by simp [results, Try.results17, go_sem, q0, q1, q2, q3]; rfl) rfl ⟨by rw [HR.out]; rfl, put4_below b02 (Nat.le_refl _) _ _ _ _⟩
    · have hn2' : (2 : Int) ≤ (n : Int) := by have := HLN.out; omega
      have hb' : ((St.mk l false).num 2 : Int) ≤ 1000 := by omega
      by_cases hcut : l.length < 2 + (St.mk l false).num 2
      · have HR : Hid (rqRead l = (noRq, 0, 0)) := by show _ = _; unfold rqRead; rw [if_neg hl2, if_neg hbig, if_pos hcut]
        rw [head_cut (by omega) hcut]
        clear hbig hl2 hcut
        go_wp2_with fail
        obtain ⟨q0, q1, q2, q3⟩ := box4 (put4 HQ2.out (.int .i64 0) (.string ⟨#[]⟩) (.string ⟨#[]⟩) (.int .i64 0))
        refine bodyPost_ret (v := .tuple #[rqvOf noRq, .int .i64 0, .int .i64 0]) (by simp [results, Try.results17, go_sem, q0, q1, q2, q3]; rfl) rfl ⟨by rw [HR.out]; rfl, put4_below b02 (Nat.le_refl _) _ _ _ _⟩
      · have HR : Hid (rqRead l = let x := rqOf ((l.drop 2).take ((St.mk l false).num 2)); if x.2.bad || !x.2.l.isEmpty || !x.1.right then (noRq, (St.mk l false).num 2 + 2, 12) else (x.1, (St.mk l false).num 2 + 2, 0)) := by
          show _ = _; unfold rqRead; rw [if_neg hl2, if_neg hbig, if_neg hcut]
        obtain ⟨ho1, ho2⟩ := head_ok (l := l) (by omega)
        rw [ho1]
        rw [ho2] at h2
        clear hbig hl2 hcut ho1 ho2
        generalize (l.drop 2).take ((St.mk l false).num 2) = m at *
        go_wp2_with fail
        obtain ⟨W3, hW3⟩ : ∃ W3, W3 = w2.alloc (.cells #[.slice A2 n2 c2, .bool false] 76) := ⟨_, rfl⟩
        have b3 : Below w2.heap.size w2 W3 := by rw [hW3]; exact (Below.refl _ _).alloc (Nat.le_refl _) _
        have hB2 : B ≤ w2.heap.size := by omega
        have hR3 : Rdr 76 W3 B w2.heap.size A2 n2 c2 (St.mk m false) := ⟨hB2, by rw [hW3]; exact heap_alloc_new w2 _, h2.below (b3.mono hB2)⟩
        have hS3 : RS W3 w.heap.size w2.heap.size B 0 ⟨#[]⟩ ⟨#[]⟩ 0 (St.mk m false) := ⟨(b3.block _ (by omega)).trans HQ2.out, ⟨_, _, _, hR3⟩, by omega, hB⟩
        have b03 : Below w.heap.size w W3 := b02.trans (b3.mono (by omega))
        rw [← hW3]
        clear hW3 b3 b02 HQ2 c0 c1 c2' c3 f00 f01 f02 f03 h2
        refine (num_any (k := 1) hR3 (by omega)).mono ?_
        rintro e w4 ⟨A4, n4, c4, rfl, hr4, hg4⟩
        rw [sgn_small (num_lt3 (St.mk m false) (k := 1) (by omega))]
        have hS4 := hS3.read hr4 hg4
        have b04 : Below w.heap.size w w4 := b03.trans (only_below hg4 (by have := hS3.lt; omega) (by omega))
        obtain ⟨q0, -, -, -⟩ := hS4.cell
        have F0 := hS4.free 0
        clear b03 hS3 hR3 hg4 hr4
        go_wp2_with fail
        have hS5 := hS4.set0 (((St.mk m false).num 1 : Nat) : Int)
        have b05 : Below w.heap.size w (w4.setCell ⟨w.heap.size, 0, none⟩ (.int .i64 (((St.mk m false).num 1 : Nat) : Int))) := b04.setCell (p := ⟨w.heap.size, 0, none⟩) (Nat.le_refl _) _
        generalize w4.setCell ⟨w.heap.size, 0, none⟩ (.int .i64 (((St.mk m false).num 1 : Nat) : Int)) = w5 at *
        clear b04 hS4 q0 F0
        obtain ⟨A5, n5, c5, hr5⟩ := hS5.rd
        refine (text_any (k := 1) hr5 (by omega)).mono ?_
        rintro e w6 ⟨A6, n6, c6, rfl, hr6, hg6⟩
        have hS6 := hS5.read hr6 hg6
        have b06 : Below w.heap.size w w6 := b05.trans (only_below hg6 (by have := hS5.lt; omega) (by omega))
        obtain ⟨q0, q1, -, -⟩ := hS6.cell
        have F1 := hS6.free 1
        clear b05 hS5 hr5 hg6 hr6
        go_wp2_with fail
        have hS7 := hS6.set1 (ba (((St.mk m false).behind 1).txt 1))
        have b07 : Below w.heap.size w (w6.setCell ⟨w.heap.size, 1, none⟩ (.string (ba (((St.mk m false).behind 1).txt 1)))) := b06.setCell (p := ⟨w.heap.size, 1, none⟩) (Nat.le_refl _) _
        generalize w6.setCell ⟨w.heap.size, 1, none⟩ (.string (ba (((St.mk m false).behind 1).txt 1))) = w7 at *
        clear b06 hS6 q0 q1 F1
        have hsz : (ba (((St.mk m false).behind 1).txt 1)).size ≤ maxLen := txt_len _ (by omega)
        obtain ⟨q0, -, -, -⟩ := hS7.cell
        refine (writes_any (((St.mk m false).num 1 : Nat) : Int) w7).mono ?_
        rintro e w7' ⟨rfl, rfl⟩
        cases hw : writesB (((St.mk m false).num 1 : Nat) : Int) with
        | true =>
          have h5 : ¬ (((St.mk m false).num 1 : Nat) : Int) = 5 := by
            intro e
            rw [e] at hw
            exact absurd hw (by decide)
          have e5 : ((((St.mk m false).num 1 : Nat) : Int) == (5 : Int)) = false := by simpa using h5
          have HQ9 : Hid (rqOf m = (⟨(((St.mk m false).num 1 : Nat) : Int), ((St.mk m false).behind 1).txt 1, (((St.mk m false).behind 1).past 1).txt 2, 0⟩, (((St.mk m false).behind 1).past 1).past 2)) := by
            show _ = _
            simp only [rqOf, hw, if_true, if_neg h5]
          have HWW := Lib.hid hw
          clear hw h5
          go_wp2_with fail
          obtain ⟨A7, n7, c7, hr7⟩ := hS7.rd
          refine (text_any (k := 2) hr7 (by omega)).mono ?_
          rintro e w8 ⟨A8, n8, c8, rfl, hr8, hg8⟩
          have hS8 := hS7.read hr8 hg8
          have b08 : Below w.heap.size w w8 := b07.trans (only_below hg8 (by have := hS7.lt; omega) (by omega))
          clear q0
          obtain ⟨q0, -, q2, -⟩ := hS8.cell
          have F2 := hS8.free 2
          clear b07 hS7 hr7 hg8 hr8
          have hRt := hS8.set2 (ba ((((St.mk m false).behind 1).past 1).txt 2))
          have bt : Below w.heap.size w (w8.setCell ⟨w.heap.size, 2, none⟩ (.string (ba ((((St.mk m false).behind 1).past 1).txt 2)))) := b08.setCell (p := ⟨w.heap.size, 2, none⟩) (Nat.le_refl _) _
          clear b08 hS8
          obtain ⟨A9, n9, c9, hr9⟩ := hRt.rd
          obtain ⟨q0, q1, q2, q3⟩ := hRt.cell
          have F0 := hRt.free 0
          have F1 := hRt.free 1
          have F2 := hRt.free 2
          have F3 := hRt.free 3
          go_wp2_with fail
          generalize w8.setCell ⟨w.heap.size, 2, none⟩ (.string (ba ((((St.mk m false).behind 1).past 1).txt 2))) = wt at *
          refine (ended_any hr9).mono ?_
          rintro e w9 ⟨rfl, rfl⟩
          cases he : (!((((St.mk m false).behind 1).past 1).past 2).bad && ((((St.mk m false).behind 1).past 1).past 2).l.isEmpty) with
          | false =>
            have HF : Hid (rqRead l = (noRq, (St.mk l false).num 2 + 2, 12)) := by
              show _ = _
              have h' := he
              rw [HR.out, HQ9.out]
              have h3' : (((((St.mk m false).behind 1).past 1).past 2).bad || !((((St.mk m false).behind 1).past 1).past 2).l.isEmpty || !((⟨(((St.mk m false).num 1 : Nat) : Int), ((St.mk m false).behind 1).txt 1, (((St.mk m false).behind 1).past 1).txt 2, 0⟩ : Rq)).right) = true := bad3 h'
              simp only [h3', if_true]
            clear he
            go_wp2_with fail
            obtain ⟨q0, q1, q2, q3⟩ := box4 (put4 hRt.blk (.int .i64 0) (.string ⟨#[]⟩) (.string ⟨#[]⟩) (.int .i64 0))
            refine bodyPost_ret (v := .tuple #[rqvOf noRq, .int .i64 (((St.mk l false).num 2 + 2 : Nat) : Int), .int .i64 12]) (by simp [results, Try.results17, go_sem, q0, q1, q2, q3]; rfl) rfl ⟨by rw [HF.out]; rfl, put4_below bt (Nat.le_refl _) _ _ _ _⟩
          | true =>
            have HST := Lib.hid he
            clear he
            go_wp2_with fail
            refine (right_any ((((St.mk m false).num 1 : Nat) : Int)) (ba (((St.mk m false).behind 1).txt 1)) (ba ((((St.mk m false).behind 1).past 1).txt 2)) (0) _ hsz).mono ?_
            rintro e w10 ⟨rfl, b10⟩
            have hlt := hRt.lt
            have hq10 := (b10.block w.heap.size hlt).trans hRt.blk
            have bt10 : Below w.heap.size w w10 := bt.trans (b10.mono (Nat.le_of_lt hlt))
            have HB10 := Lib.hid hq10
            have f10 : ∀ o, w10.frozen? ⟨w.heap.size, o, none⟩ = false := fun o => by have := HB10.out; simp [World.frozen?, this]
            obtain ⟨q0, q1, q2, q3⟩ := box4 HB10.out
            have F0 := f10 0
            have F1 := f10 1
            have F2 := f10 2
            have F3 := f10 3
            clear f10 hq10
            cases hri : (rqOfV ((((St.mk m false).num 1 : Nat) : Int)) (ba (((St.mk m false).behind 1).txt 1)) (ba ((((St.mk m false).behind 1).past 1).txt 2)) (0)).right with
            | false =>
              have HF : Hid (rqRead l = (noRq, (St.mk l false).num 2 + 2, 12)) := by
                show _ = _
                have h' : ((⟨(((St.mk m false).num 1 : Nat) : Int), ((St.mk m false).behind 1).txt 1, (((St.mk m false).behind 1).past 1).txt 2, 0⟩ : Rq)).right = false := by have h4 := hri; unfold rqOfV at h4; simp only [bl_ba] at h4; first | exact h4 | (simp only [bl_nil] at h4; exact h4)
                rw [HR.out, HQ9.out]
                simp only [h', Bool.not_false, Bool.or_true, if_true]
              have HRI := Lib.hid hri
              clear hri
              go_wp2_with fail
              obtain ⟨q0, q1, q2, q3⟩ := box4 (put4 HB10.out (.int .i64 0) (.string ⟨#[]⟩) (.string ⟨#[]⟩) (.int .i64 0))
              refine bodyPost_ret (v := .tuple #[rqvOf noRq, .int .i64 (((St.mk l false).num 2 + 2 : Nat) : Int), .int .i64 12]) (by simp [results, Try.results17, go_sem, q0, q1, q2, q3]; rfl) rfl ⟨by rw [HF.out]; rfl, put4_below bt10 (Nat.le_refl _) _ _ _ _⟩
            | true =>
              have HF : Hid (rqRead l = ((⟨(((St.mk m false).num 1 : Nat) : Int), ((St.mk m false).behind 1).txt 1, (((St.mk m false).behind 1).past 1).txt 2, 0⟩ : Rq), (St.mk l false).num 2 + 2, 0)) := by
                show _ = _
                have h' : ((⟨(((St.mk m false).num 1 : Nat) : Int), ((St.mk m false).behind 1).txt 1, (((St.mk m false).behind 1).past 1).txt 2, 0⟩ : Rq)).right = true := by have h4 := hri; unfold rqOfV at h4; simp only [bl_ba] at h4; first | exact h4 | (simp only [bl_nil] at h4; exact h4)
                have h2' := HST.out
                rw [HR.out, HQ9.out]
                have h3' : (((((St.mk m false).behind 1).past 1).past 2).bad || !((((St.mk m false).behind 1).past 1).past 2).l.isEmpty || !((⟨(((St.mk m false).num 1 : Nat) : Int), ((St.mk m false).behind 1).txt 1, (((St.mk m false).behind 1).past 1).txt 2, 0⟩ : Rq)).right) = false := good3 h2' h'
                simp only [h3', Bool.false_eq_true, if_false]
              have HRI := Lib.hid hri
              clear hri
              go_wp2_with fail
              obtain ⟨q0, q1, q2, q3⟩ := box4 (put4 HB10.out (.int .i64 ((((St.mk m false).num 1 : Nat) : Int))) (.string (ba (((St.mk m false).behind 1).txt 1))) (.string (ba ((((St.mk m false).behind 1).past 1).txt 2))) (.int .i64 (0)))
              refine bodyPost_ret (v := .tuple #[rqvOf ((⟨(((St.mk m false).num 1 : Nat) : Int), ((St.mk m false).behind 1).txt 1, (((St.mk m false).behind 1).past 1).txt 2, 0⟩ : Rq)), .int .i64 (((St.mk l false).num 2 + 2 : Nat) : Int), .int .i64 0]) (by simp [results, Try.results17, go_sem, q0, q1, q2, q3]; rfl) rfl ⟨by rw [HF.out]; rfl, put4_below bt10 (Nat.le_refl _) _ _ _ _⟩
        | false =>
          have HWW := Lib.hid hw
          by_cases h5 : (((St.mk m false).num 1 : Nat) : Int) = 5
          · have HQ9 : Hid (rqOf m = (⟨(((St.mk m false).num 1 : Nat) : Int), ((St.mk m false).behind 1).txt 1, [], sgn ((((St.mk m false).behind 1).past 1).num 8)⟩, (((St.mk m false).behind 1).past 1).behind 8)) := by
              show _ = _
              simp only [rqOf, hw, if_false, Bool.false_eq_true, if_pos h5]
            have e5 : ((((St.mk m false).num 1 : Nat) : Int) == (5 : Int)) = true := by simpa using h5
            clear hw h5
            go_wp2_with fail
            obtain ⟨A7, n7, c7, hr7⟩ := hS7.rd
            refine (num_any (k := 8) hr7 (by omega)).mono ?_
            rintro e w8 ⟨A8, n8, c8, rfl, hr8, hg8⟩
            generalize sgn ((((St.mk m false).behind 1).past 1).num 8) = vv at *
            have hS8 := hS7.read hr8 hg8
            have b08 : Below w.heap.size w w8 := b07.trans (only_below hg8 (by have := hS7.lt; omega) (by omega))
            clear q0
            obtain ⟨q0, -, -, q3⟩ := hS8.cell
            have F3 := hS8.free 3
            clear b07 hS7 hr7 hg8 hr8
            have hRt := hS8.set3 (vv)
            have bt : Below w.heap.size w (w8.setCell ⟨w.heap.size, 3, none⟩ (.int .i64 (vv))) := b08.setCell (p := ⟨w.heap.size, 3, none⟩) (Nat.le_refl _) _
            clear b08 hS8
            obtain ⟨A9, n9, c9, hr9⟩ := hRt.rd
            obtain ⟨q0, q1, q2, q3⟩ := hRt.cell
            have F0 := hRt.free 0
            have F1 := hRt.free 1
            have F2 := hRt.free 2
            have F3 := hRt.free 3
            go_wp2_with fail
            generalize w8.setCell ⟨w.heap.size, 3, none⟩ (.int .i64 (vv)) = wt at *
            refine (ended_any hr9).mono ?_
            rintro e w9 ⟨rfl, rfl⟩
            cases he : (!((((St.mk m false).behind 1).past 1).behind 8).bad && ((((St.mk m false).behind 1).past 1).behind 8).l.isEmpty) with
            | false =>
              have HF : Hid (rqRead l = (noRq, (St.mk l false).num 2 + 2, 12)) := by
                show _ = _
                have h' := he
                rw [HR.out, HQ9.out]
                have h3' : (((((St.mk m false).behind 1).past 1).behind 8).bad || !((((St.mk m false).behind 1).past 1).behind 8).l.isEmpty || !((⟨(((St.mk m false).num 1 : Nat) : Int), ((St.mk m false).behind 1).txt 1, [], vv⟩ : Rq)).right) = true := bad3 h'
                simp only [h3', if_true]
              clear he
              go_wp2_with fail
              obtain ⟨q0, q1, q2, q3⟩ := box4 (put4 hRt.blk (.int .i64 0) (.string ⟨#[]⟩) (.string ⟨#[]⟩) (.int .i64 0))
              refine bodyPost_ret (v := .tuple #[rqvOf noRq, .int .i64 (((St.mk l false).num 2 + 2 : Nat) : Int), .int .i64 12]) (by simp [results, Try.results17, go_sem, q0, q1, q2, q3]; rfl) rfl ⟨by rw [HF.out]; rfl, put4_below bt (Nat.le_refl _) _ _ _ _⟩
            | true =>
              have HST := Lib.hid he
              clear he
              go_wp2_with fail
              refine (right_any ((((St.mk m false).num 1 : Nat) : Int)) (ba (((St.mk m false).behind 1).txt 1)) (⟨#[]⟩) (vv) _ hsz).mono ?_
              rintro e w10 ⟨rfl, b10⟩
              have hlt := hRt.lt
              have hq10 := (b10.block w.heap.size hlt).trans hRt.blk
              have bt10 : Below w.heap.size w w10 := bt.trans (b10.mono (Nat.le_of_lt hlt))
              have HB10 := Lib.hid hq10
              have f10 : ∀ o, w10.frozen? ⟨w.heap.size, o, none⟩ = false := fun o => by have := HB10.out; simp [World.frozen?, this]
              obtain ⟨q0, q1, q2, q3⟩ := box4 HB10.out
              have F0 := f10 0
              have F1 := f10 1
              have F2 := f10 2
              have F3 := f10 3
              clear f10 hq10
              cases hri : (rqOfV ((((St.mk m false).num 1 : Nat) : Int)) (ba (((St.mk m false).behind 1).txt 1)) (⟨#[]⟩) (vv)).right with
              | false =>
                have HF : Hid (rqRead l = (noRq, (St.mk l false).num 2 + 2, 12)) := by
                  show _ = _
                  have h' : ((⟨(((St.mk m false).num 1 : Nat) : Int), ((St.mk m false).behind 1).txt 1, [], vv⟩ : Rq)).right = false := by have h4 := hri; unfold rqOfV at h4; simp only [bl_ba] at h4; first | exact h4 | (simp only [bl_nil] at h4; exact h4)
                  rw [HR.out, HQ9.out]
                  simp only [h', Bool.not_false, Bool.or_true, if_true]
                have HRI := Lib.hid hri
                clear hri
                go_wp2_with fail
                obtain ⟨q0, q1, q2, q3⟩ := box4 (put4 HB10.out (.int .i64 0) (.string ⟨#[]⟩) (.string ⟨#[]⟩) (.int .i64 0))
                refine bodyPost_ret (v := .tuple #[rqvOf noRq, .int .i64 (((St.mk l false).num 2 + 2 : Nat) : Int), .int .i64 12]) (by simp [results, Try.results17, go_sem, q0, q1, q2, q3]; rfl) rfl ⟨by rw [HF.out]; rfl, put4_below bt10 (Nat.le_refl _) _ _ _ _⟩
              | true =>
                have HF : Hid (rqRead l = ((⟨(((St.mk m false).num 1 : Nat) : Int), ((St.mk m false).behind 1).txt 1, [], vv⟩ : Rq), (St.mk l false).num 2 + 2, 0)) := by
                  show _ = _
                  have h' : ((⟨(((St.mk m false).num 1 : Nat) : Int), ((St.mk m false).behind 1).txt 1, [], vv⟩ : Rq)).right = true := by have h4 := hri; unfold rqOfV at h4; simp only [bl_ba] at h4; first | exact h4 | (simp only [bl_nil] at h4; exact h4)
                  have h2' := HST.out
                  rw [HR.out, HQ9.out]
                  have h3' : (((((St.mk m false).behind 1).past 1).behind 8).bad || !((((St.mk m false).behind 1).past 1).behind 8).l.isEmpty || !((⟨(((St.mk m false).num 1 : Nat) : Int), ((St.mk m false).behind 1).txt 1, [], vv⟩ : Rq)).right) = false := good3 h2' h'
                  simp only [h3', Bool.false_eq_true, if_false]
                have HRI := Lib.hid hri
                clear hri
                go_wp2_with fail
                obtain ⟨q0, q1, q2, q3⟩ := box4 (put4 HB10.out (.int .i64 ((((St.mk m false).num 1 : Nat) : Int))) (.string (ba (((St.mk m false).behind 1).txt 1))) (.string (⟨#[]⟩)) (.int .i64 (vv)))
                refine bodyPost_ret (v := .tuple #[rqvOf ((⟨(((St.mk m false).num 1 : Nat) : Int), ((St.mk m false).behind 1).txt 1, [], vv⟩ : Rq)), .int .i64 (((St.mk l false).num 2 + 2 : Nat) : Int), .int .i64 0]) (by simp [results, Try.results17, go_sem, q0, q1, q2, q3]; rfl) rfl ⟨by rw [HF.out]; rfl, put4_below bt10 (Nat.le_refl _) _ _ _ _⟩
          · have e5 : ((((St.mk m false).num 1 : Nat) : Int) == (5 : Int)) = false := by simpa using h5
            have HQ9 : Hid (rqOf m = (⟨(((St.mk m false).num 1 : Nat) : Int), ((St.mk m false).behind 1).txt 1, [], 0⟩, ((St.mk m false).behind 1).past 1)) := by
              show _ = _
              simp only [rqOf, hw, if_false, Bool.false_eq_true, if_neg h5]
            clear hw h5
            have hRt := hS7
            have bt := b07
            obtain ⟨A9, n9, c9, hr9⟩ := hRt.rd
            obtain ⟨q0, q1, q2, q3⟩ := hRt.cell
            have F0 := hRt.free 0
            have F1 := hRt.free 1
            have F2 := hRt.free 2
            have F3 := hRt.free 3
            go_wp2_with fail
            refine (ended_any hr9).mono ?_
            rintro e w9 ⟨rfl, rfl⟩
            cases he : (!(((St.mk m false).behind 1).past 1).bad && (((St.mk m false).behind 1).past 1).l.isEmpty) with
            | false =>
              have HF : Hid (rqRead l = (noRq, (St.mk l false).num 2 + 2, 12)) := by
                show _ = _
                have h' := he
                rw [HR.out, HQ9.out]
                have h3' : ((((St.mk m false).behind 1).past 1).bad || !(((St.mk m false).behind 1).past 1).l.isEmpty || !((⟨(((St.mk m false).num 1 : Nat) : Int), ((St.mk m false).behind 1).txt 1, [], 0⟩ : Rq)).right) = true := bad3 h'
                simp only [h3', if_true]
              clear he
              go_wp2_with fail
              obtain ⟨q0, q1, q2, q3⟩ := box4 (put4 hRt.blk (.int .i64 0) (.string ⟨#[]⟩) (.string ⟨#[]⟩) (.int .i64 0))
              refine bodyPost_ret (v := .tuple #[rqvOf noRq, .int .i64 (((St.mk l false).num 2 + 2 : Nat) : Int), .int .i64 12]) (by simp [results, Try.results17, go_sem, q0, q1, q2, q3]; rfl) rfl ⟨by rw [HF.out]; rfl, put4_below bt (Nat.le_refl _) _ _ _ _⟩
            | true =>
              have HST := Lib.hid he
              clear he
              go_wp2_with fail
              refine (right_any ((((St.mk m false).num 1 : Nat) : Int)) (ba (((St.mk m false).behind 1).txt 1)) (⟨#[]⟩) (0) _ hsz).mono ?_
              rintro e w10 ⟨rfl, b10⟩
              have hlt := hRt.lt
              have hq10 := (b10.block w.heap.size hlt).trans hRt.blk
              have bt10 : Below w.heap.size w w10 := bt.trans (b10.mono (Nat.le_of_lt hlt))
              have HB10 := Lib.hid hq10
              have f10 : ∀ o, w10.frozen? ⟨w.heap.size, o, none⟩ = false := fun o => by have := HB10.out; simp [World.frozen?, this]
              obtain ⟨q0, q1, q2, q3⟩ := box4 HB10.out
              have F0 := f10 0
              have F1 := f10 1
              have F2 := f10 2
              have F3 := f10 3
              clear f10 hq10
              cases hri : (rqOfV ((((St.mk m false).num 1 : Nat) : Int)) (ba (((St.mk m false).behind 1).txt 1)) (⟨#[]⟩) (0)).right with
              | false =>
                have HF : Hid (rqRead l = (noRq, (St.mk l false).num 2 + 2, 12)) := by
                  show _ = _
                  have h' : ((⟨(((St.mk m false).num 1 : Nat) : Int), ((St.mk m false).behind 1).txt 1, [], 0⟩ : Rq)).right = false := by have h4 := hri; unfold rqOfV at h4; simp only [bl_ba] at h4; first | exact h4 | (simp only [bl_nil] at h4; exact h4)
                  rw [HR.out, HQ9.out]
                  simp only [h', Bool.not_false, Bool.or_true, if_true]
                have HRI := Lib.hid hri
                clear hri
                go_wp2_with fail
                obtain ⟨q0, q1, q2, q3⟩ := box4 (put4 HB10.out (.int .i64 0) (.string ⟨#[]⟩) (.string ⟨#[]⟩) (.int .i64 0))
                refine bodyPost_ret (v := .tuple #[rqvOf noRq, .int .i64 (((St.mk l false).num 2 + 2 : Nat) : Int), .int .i64 12]) (by simp [results, Try.results17, go_sem, q0, q1, q2, q3]; rfl) rfl ⟨by rw [HF.out]; rfl, put4_below bt10 (Nat.le_refl _) _ _ _ _⟩
              | true =>
                have HF : Hid (rqRead l = ((⟨(((St.mk m false).num 1 : Nat) : Int), ((St.mk m false).behind 1).txt 1, [], 0⟩ : Rq), (St.mk l false).num 2 + 2, 0)) := by
                  show _ = _
                  have h' : ((⟨(((St.mk m false).num 1 : Nat) : Int), ((St.mk m false).behind 1).txt 1, [], 0⟩ : Rq)).right = true := by have h4 := hri; unfold rqOfV at h4; simp only [bl_ba] at h4; first | exact h4 | (simp only [bl_nil] at h4; exact h4)
                  have h2' := HST.out
                  rw [HR.out, HQ9.out]
                  have h3' : ((((St.mk m false).behind 1).past 1).bad || !(((St.mk m false).behind 1).past 1).l.isEmpty || !((⟨(((St.mk m false).num 1 : Nat) : Int), ((St.mk m false).behind 1).txt 1, [], 0⟩ : Rq)).right) = false := good3 h2' h'
                  simp only [h3', Bool.false_eq_true, if_false]
                have HRI := Lib.hid hri
                clear hri
                go_wp2_with fail
                obtain ⟨q0, q1, q2, q3⟩ := box4 (put4 HB10.out (.int .i64 ((((St.mk m false).num 1 : Nat) : Int))) (.string (ba (((St.mk m false).behind 1).txt 1))) (.string (⟨#[]⟩)) (.int .i64 (0)))
                refine bodyPost_ret (v := .tuple #[rqvOf ((⟨(((St.mk m false).num 1 : Nat) : Int), ((St.mk m false).behind 1).txt 1, [], 0⟩ : Rq)), .int .i64 (((St.mk l false).num 2 + 2 : Nat) : Int), .int .i64 0]) (by simp [results, Try.results17, go_sem, q0, q1, q2, q3]; rfl) rfl ⟨by rw [HF.out]; rfl, put4_below bt10 (Nat.le_refl _) _ _ _ _⟩
end Go.Proofs.Ytifdkkkcecpjoaa
