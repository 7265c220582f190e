/-
  frame.ReadResponse: what any bytes are read as.
-/
import Derived.Test.YtifdkkkcecpjoaaFrH
import Derived.Test.YtifdkkkcecpjoaaFrK
import Derived.Deep.DeepCutAuto
import Derived.Deep.CutBlock
namespace Go.Proofs.Ytifdkkkcecpjoaa
open Go.RowKit
attribute [local go_sem ↓] Go.wp_at_zero Go.wp_at_succ

/-- The result's block, its rows, and the reader's. -/
structure RT (w : World) (r0 p B : Nat) (e : Int) (t : ByteArray) (iA : Option Addr) (iN iC : Nat) (img : List UInt8) (dv : Value) (ds : List Dg) (s : St) : Prop where
  blk : w.heap[r0]? = some (.cells #[.int .i64 e, .string t, .slice iA iN iC, dv] 42 (0, 0))
  rd : ∃ A n c, Rdr 76 w B p A n c s
  imo : w.ownsRow r0 5 1 (.slice iA iN iC) iN (bv img)
  imgN : iN = img.length
  dgs : w.ownsRow r0 57 3 dv ds.length (dcells ds)
  hlt : r0 < p
  hB : B ≤ r0

theorem own_keep {w w' : World} {base n size q : Nat} {e t : TypeId} {v : Value} {xs : List Value} {cs : Array Value} (h : w.ownsRow base e size v n xs) (hq : w.heap[q]? = some (.cells cs t (0, 0))) (hne : e ≠ t)
    (hg : w.grownBy w' (some q)) : w'.ownsRow base e size v n xs := by
  refine h.kept hg (.inr ?_)
  intro he
  exact own_blk_ne h hq hne he

namespace RT
variable {w w' : World} {r0 p B : Nat} {e : Int} {t : ByteArray} {iA : Option Addr} {iN iC : Nat} {img : List UInt8} {dv : Value} {ds : List Dg} {s s' : St}
theorem lt (h : RT w r0 p B e t iA iN iC img dv ds s) : r0 < w.heap.size := by
  obtain ⟨A, n, c, hr⟩ := h.rd
  have := hr.lt
  have := h.hlt
  omega
theorem read {A : Option Addr} {n c : Nat} (h : RT w r0 p B e t iA iN iC img dv ds s) (hr : Rdr 76 w' B p A n c s') (hg : w.grownBy w' (some p)) : RT w' r0 p B e t iA iN iC img dv ds s' := by
  obtain ⟨A0, n0, c0, hr0⟩ := h.rd
  exact ⟨(hg.block r0 h.lt (fun e => by injection e; have := h.hlt; omega)).trans h.blk, ⟨A, n, c, hr⟩, own_keep h.imo hr0.blk (by decide) hg, h.imgN, own_keep h.dgs hr0.blk (by decide) hg, h.hlt, h.hB⟩
theorem free (h : RT w r0 p B e t iA iN iC img dv ds s) (o : Nat) : w.frozen? ⟨r0, o, none⟩ = false := by simp [World.frozen?, h.blk]
theorem cell (h : RT w r0 p B e t iA iN iC img dv ds s) : w.cell? ⟨r0, 0, none⟩ = some (.int .i64 e) ∧ w.cell? ⟨r0, 1, none⟩ = some (.string t) ∧ w.cell? ⟨r0, 2, none⟩ = some (.slice iA iN iC) ∧ w.cell? ⟨r0, 3, none⟩ = some dv := box4 h.blk
theorem keep (h : RT w r0 p B e t iA iN iC img dv ds s) (o : Nat) (u : Value) : ∃ A n c, Rdr 76 (w.setCell ⟨r0, o, none⟩ u) B p A n c s := by
  obtain ⟨A, n, c, hr⟩ := h.rd
  exact ⟨A, n, c, hr.far (q := ⟨r0, o, none⟩) (fun e => by have e : p = r0 := e; have := h.hlt; omega) h.hB u⟩
theorem keepo (h : RT w r0 p B e t iA iN iC img dv ds s) (o : Nat) (u : Value) {ty : TypeId} {size n : Nat} {v : Value} {xs : List Value} (ho : w.ownsRow r0 ty size v n xs) (hne : ty ≠ 42) : (w.setCell ⟨r0, o, none⟩ u).ownsRow r0 ty size v n xs :=
  own_keep ho h.blk hne (only_setCell (p := ⟨r0, o, none⟩) (World.grownBy.refl w (some r0)) (.inl rfl) u)
theorem set0 (h : RT w r0 p B e t iA iN iC img dv ds s) (x : Int) : RT (w.setCell ⟨r0, 0, none⟩ (.int .i64 x)) r0 p B x t iA iN iC img dv ds s :=
  ⟨by have := h.blk; simp [World.setCell, Array.getElem?_modify, this], h.keep 0 _, h.keepo 0 _ h.imo (by decide), h.imgN, h.keepo 0 _ h.dgs (by decide), h.hlt, h.hB⟩
theorem set1 (h : RT w r0 p B e t iA iN iC img dv ds s) (x : ByteArray) : RT (w.setCell ⟨r0, 1, none⟩ (.string x)) r0 p B e x iA iN iC img dv ds s :=
  ⟨by have := h.blk; simp [World.setCell, Array.getElem?_modify, this], h.keep 1 _, h.keepo 1 _ h.imo (by decide), h.imgN, h.keepo 1 _ h.dgs (by decide), h.hlt, h.hB⟩
theorem set2 (h : RT w r0 p B e t iA iN iC img dv ds s) {jA : Option Addr} {jN jC : Nat} {img' : List UInt8} (ho : w.ownsRow r0 5 1 (.slice jA jN jC) jN (bv img')) (hN : jN = img'.length) : RT (w.setCell ⟨r0, 2, none⟩ (.slice jA jN jC)) r0 p B e t jA jN jC img' dv ds s :=
  ⟨by have := h.blk; simp [World.setCell, Array.getElem?_modify, this], h.keep 2 _, h.keepo 2 _ ho (by decide), hN, h.keepo 2 _ h.dgs (by decide), h.hlt, h.hB⟩
theorem set3 (h : RT w r0 p B e t iA iN iC img dv ds s) {v : Value} {ds' : List Dg} {n : Nat} (hn : n = ds'.length) (ho : w.ownsRow r0 57 3 v n (dcells ds')) : RT (w.setCell ⟨r0, 3, none⟩ v) r0 p B e t iA iN iC img v ds' s := by
  subst hn
  exact ⟨by have := h.blk; simp [World.setCell, Array.getElem?_modify, this], h.keep 3 _, h.keepo 3 _ h.imo (by decide), h.imgN, h.keepo 3 _ ho (by decide), h.hlt, h.hB⟩
theorem below (h : RT w r0 p B e t iA iN iC img dv ds s) (hb : Below w.heap.size w w') : RT w' r0 p B e t iA iN iC img dv ds s := by
  obtain ⟨A, n, c, hr⟩ := h.rd
  have hk : ∀ {ty : TypeId} {size n : Nat} {v : Value} {xs : List Value}, w.ownsRow r0 ty size v n xs → w'.ownsRow r0 ty size v n xs := by
    intro ty size n v xs ho
    refine ⟨ho.1, ?_⟩
    rcases ho.2 with h0 | ⟨g, cap, cur, rfl, h1, h2, h3⟩
    · exact .inl h0
    · exact .inr ⟨g, cap, cur, rfl, h1, (hb.block g (Array.getElem?_eq_some_iff.1 h2).1).trans h2, h3⟩
  exact ⟨(hb.block r0 h.lt).trans h.blk, ⟨A, n, c, hr.below hb⟩, hk h.imo, h.imgN, hk h.dgs, h.hlt, h.hB⟩
end RT

/-- A response as it lies. -/
theorem head_is (l : List UInt8) (k : Nat) : (!(((St.mk l false).behind k).behind ((St.mk l false).num k)).bad) = decide (k + (St.mk l false).num k ≤ l.length) := by
  by_cases h : l.length < k
  · rw [St.behind_short (s := ⟨l, false⟩) h]
    have e : decide (k + (St.mk l false).num k ≤ l.length) = false := by simp; omega
    rw [e]
    simp [St.behind]
  · have h2 : k ≤ (St.mk l false).l.length := by show k ≤ l.length; omega
    rw [St.behind_long h2]
    by_cases h' : k + (St.mk l false).num k ≤ l.length
    · rw [St.behind_long (by simp; omega)]; simp [h']
    · rw [St.behind_short (by simp; omega)]; simp; omega
theorem head_txt {l : List UInt8} {k : Nat} (h : k + (St.mk l false).num k ≤ l.length) : (St.mk l false).txt k = (l.drop k).take ((St.mk l false).num k) := by
  have e := St.behind_long (s := ⟨l, false⟩) (k := k) (by show k ≤ l.length; omega)
  have hn : (St.mk l false).num k ≤ ((St.mk l false).behind k).l.length := by rw [e]; simp; omega
  rw [St.txt, St.takes_long hn, e]

theorem rsRead_eq {l m : List UInt8} {isv : Bool} (hi : (!(((St.mk l false).behind 3).behind ((St.mk l false).num 3)).bad) = isv) (hm : (St.mk l false).txt 3 = m) {r : Rs} {C : Nat} {s5 : St} (hx : rsOf m = (r, C, s5)) :
    rsRead l = if (!isv || !(!s5.bad && s5.l.isEmpty) || decide (5000 < C) || decide (600 < r.text.length) || decide (4096 < r.image.length)) = true then (noRs, 0, false) else (r, (St.mk l false).num 3 + 3, true) := by
  rw [head_is] at hi
  unfold rsRead
  by_cases h : 3 + (St.mk l false).num 3 ≤ l.length
  · have : isv = true := by rw [← hi]; simp [h]
    rw [this]
    rw [head_txt h] at hm
    simp only [hm, hx]
    rw [if_neg (by omega)]
    cases s5.bad <;> cases s5.l.isEmpty <;> simp
  · have : isv = false := by rw [← hi]; simp [h]
    rw [this]
    simp only
    rw [if_pos (by omega)]
    simp

def RsEnd (l : List UInt8) (w : World) (e : Ending) (w' : World) : Prop :=
  ∃ iA iC dA dC, e = .returned (.tuple #[rsv (rsRead l).1.e (ba (rsRead l).1.text) iA (rsRead l).1.image.length iC dA (rsRead l).1.diags.length dC, .int .i64 (rsRead l).2.1, .bool (rsRead l).2.2]) ∧
    w'.ownsRow w.heap.size 5 1 (.slice iA (rsRead l).1.image.length iC) (rsRead l).1.image.length (bv (rsRead l).1.image) ∧
    w'.ownsRow w.heap.size 57 3 (.slice dA (rsRead l).1.diags.length dC) (rsRead l).1.diags.length (dcells (rsRead l).1.diags) ∧ Below w.heap.size w w'

theorem rdiag_eq {w : World} {B p n c : Nat} {A : Option Addr} {s s' : St} {d : Dg} (h : Rdr 76 w B p A n c s) (hd : Hid (dgOf s = (d, s'))) :
    Calls Try.prog 47 #[.pointer (some ⟨p, 0, none⟩)] w fun e w' => ∃ A n c, e = .returned (.agg #[.string (ba d.frag), .int .i64 d.line, .int .i64 d.e]) ∧ Rdr 76 w' B p A n c s' ∧ w.grownBy w' (some p) := by
  refine (rdiag_any h).mono ?_
  rintro e w' ⟨A, n, c, he, hr, hg⟩
  rw [hd.out] at he hr
  exact ⟨A, n, c, he, hr, hg⟩
theorem RT.drew {w : World} {r0 p B : Nat} {e : Int} {t : ByteArray} {iA : Option Addr} {iN iC : Nat} {img : List UInt8} {dv : Value} {ds : List Dg} {s : St} (h : RT w r0 p B e t iA iN iC img dv ds s) : RT w.drew r0 p B e t iA iN iC img dv ds s := h.below ((Below.refl _ _).drew)
/-- The row of diagnostics grows by one, and is stored. -/
theorem RT.push {w w4 : World} {r0 p B : Nat} {e : Int} {t : ByteArray} {iA : Option Addr} {iN iC : Nat} {img : List UInt8} {dv v : Value} {ds : List Dg} {d : Dg} {s : St} (h : RT w r0 p B e t iA iN iC img dv ds s)
    (hg : w.grownBy w4 dv.ownBlock) (ho : w4.ownsRow r0 57 3 v (ds.length + 1) (dcells ds ++ [.string (ba d.frag), .int .i64 d.line, .int .i64 d.e])) : RT (w4.setCell ⟨r0, 3, none⟩ v) r0 p B e t iA iN iC img v (ds ++ [d]) s := by
  obtain ⟨A, n, c, hr⟩ := h.rd
  have hne : ∀ {q : Nat} {ty : TypeId} {cs : Array Value}, w.heap[q]? = some (.cells cs ty (0, 0)) → 57 ≠ ty → w4.heap[q]? = w.heap[q]? := fun hq hn => hg.block _ (Array.getElem?_eq_some_iff.1 hq).1 (fun e => own_blk_ne h.dgs hq hn e.symm)
  have hr4 : Rdr 76 w4 B p A n c s := ⟨hr.hB, (hne hr.blk (by decide)).trans hr.blk, ⟨hr.sl.len, hr.sl.cap, hr.sl.max, hr.sl.rd.grown hg (by have := h.hB; have := h.lt; omega) (fun g hgv => by
    rcases h.dgs.2 with ⟨rfl, _⟩ | ⟨g', cap, cur, rfl, hb, _⟩
    · simp [Value.ownBlock] at hgv
    · simp [Value.ownBlock] at hgv; have := h.hB; omega)⟩⟩
  have hi4 : w4.ownsRow r0 5 1 (.slice iA iN iC) iN (bv img) := by
    refine ⟨h.imo.1, ?_⟩
    rcases h.imo.2 with h0 | ⟨g, cap, cur, e1, h1, h2, h3⟩
    · exact .inl h0
    · exact .inr ⟨g, cap, cur, e1, h1, (hne h2 (by decide)).trans h2, h3⟩
  have hd4 : w4.ownsRow r0 57 3 v (ds ++ [d]).length (dcells (ds ++ [d])) := by
    have : dcells (ds ++ [d]) = dcells ds ++ [.string (ba d.frag), .int .i64 d.line, .int .i64 d.e] := by rw [dcells_append]; rfl
    rw [this, List.length_append]; exact ho
  have hT : RT w4 r0 p B e t iA iN iC img dv [] s ∨ True := .inr trivial
  clear hT
  have hb4 : w4.heap[r0]? = some (.cells #[.int .i64 e, .string t, .slice iA iN iC, dv] 42 (0, 0)) := (hne h.blk (by decide)).trans h.blk
  have hk : ∀ {ty : TypeId} {size n : Nat} {v' : Value} {xs : List Value}, w4.ownsRow r0 ty size v' n xs → ty ≠ 42 → (w4.setCell ⟨r0, 3, none⟩ v).ownsRow r0 ty size v' n xs := fun ho hne => own_keep ho hb4 hne (only_setCell (p := ⟨r0, 3, none⟩) (World.grownBy.refl w4 (some r0)) (.inl rfl) v)
  exact ⟨by simp [World.setCell, Array.getElem?_modify, hb4], ⟨A, n, c, hr4.far (q := ⟨r0, 3, none⟩) (fun e => by have e : p = r0 := e; have := h.hlt; omega) h.hB v⟩, hk hi4 (by decide), h.imgN, hk hd4 (by decide), h.hlt, h.hB⟩

theorem dgs_step {C : Nat} {l1 : List Dg} {s4 s5 s6 : St} {d6 : Dg} (hlt : l1.length < C) (hd : dgsOf C s4 = (l1 ++ (dgsOf (C - l1.length) s5).1, (dgsOf (C - l1.length) s5).2)) (hb : s5.bad = false) (hds : dgOf s5 = (d6, s6)) :
    dgsOf C s4 = ((l1 ++ [d6]) ++ (dgsOf (C - (l1 ++ [d6]).length) s6).1, (dgsOf (C - (l1 ++ [d6]).length) s6).2) := by
  have e : C - l1.length = (C - (l1 ++ [d6]).length) + 1 := by simp; omega
  rw [hd, e, dgsOf, hb]
  simp [hds]

theorem put4_only {w0 w : World} {r : Nat} (h : w0.grownBy w (some r)) (a' b' c' d' : Value) :
    w0.grownBy ((((w.setCell ⟨r, 0, none⟩ a').setCell ⟨r, 1, none⟩ b').setCell ⟨r, 2, none⟩ c').setCell ⟨r, 3, none⟩ d') (some r) :=
  only_setCell (p := ⟨r, 3, none⟩) (only_setCell (p := ⟨r, 2, none⟩) (only_setCell (p := ⟨r, 1, none⟩) (only_setCell (p := ⟨r, 0, none⟩) h (.inl rfl) a') (.inl rfl) b') (.inl rfl) c') (.inl rfl) d'

def dgsRd (C : Nat) (s : St) : List Dg × St := if C ≤ 5000 then dgsOf C s else ([], s)
def DDone (w : World) (p B : Nat) (E : Int) (T : List UInt8) (iA : Option Addr) (I : List UInt8) (iC C : Nat) (s4 : St) (wc : World) : Prop :=
  ∃ dv, RT wc w.heap.size p B E (ba T) iA I.length iC I dv (dgsRd C s4).1 (dgsRd C s4).2 ∧ Below w.heap.size w wc
def DInv (w : World) (p B : Nat) (E : Int) (T : List UInt8) (iA : Option Addr) (I : List UInt8) (iC C : Nat) (s4 : St) (g : Nat) (wc : World) : Prop :=
  ∃ l1 s5 dv, g = 70000 - l1.length ∧ l1.length ≤ C ∧ RT wc w.heap.size p B E (ba T) iA I.length iC I dv l1 s5 ∧ Below w.heap.size w wc ∧
    (C ≤ 5000 → dgsOf C s4 = (l1 ++ (dgsOf (C - l1.length) s5).1, (dgsOf (C - l1.length) s5).2)) ∧ (5000 < C → l1 = [] ∧ s5 = s4)
theorem DDone.of {w : World} {p B : Nat} {E : Int} {T : List UInt8} {iA : Option Addr} {I : List UInt8} {iC C : Nat} {s4 : St} {wc : World} {l1 : List Dg} {s5 : St} {dv : Value}
    (h : RT wc w.heap.size p B E (ba T) iA I.length iC I dv l1 s5) (hb : Below w.heap.size w wc) (he : (dgsRd C s4) = (l1, s5)) : DDone w p B E T iA I iC C s4 wc := by
  refine ⟨dv, ?_, hb⟩
  rw [he]; exact h
theorem dgsOf_bad {n : Nat} {s : St} (h : s.bad = true) : dgsOf n s = ([], s) := by
  cases n with
  | zero => rfl
  | succ n => rw [dgsOf, if_pos h]
theorem dgsOf_len : ∀ (n : Nat) (s : St), (dgsOf n s).1.length ≤ n
  | 0, _ => by simp [dgsOf]
  | n + 1, s => by
    rw [dgsOf]
    split
    · simp
    · have := dgsOf_len n (dgOf s).2
      simp; omega

set_option maxRecDepth 100000 in
set_option maxHeartbeats 3200000 in
theorem readResponse_any {w : World} {B n c : Nat} {A : Option Addr} {l : List UInt8} (h : Sl w B A n c l) (hB : B ≤ w.heap.size) :
    Calls Try.prog 22 #[.slice A n c] w (RsEnd l w) := by
  obtain ⟨i57, hi, hz, hy, hx⟩ := info_parts info57
  obtain ⟨W1, hW1⟩ : ∃ W1, W1 = w.alloc (.cells #[.int .i64 0, .string ⟨#[]⟩, .slice none 0 0, .slice none 0 0] 42) := ⟨_, rfl⟩
  have b1 : Below w.heap.size w W1 := by rw [hW1]; exact (Below.refl _ _).alloc (Nat.le_refl _) _
  have hq : W1.heap[w.heap.size]? = some (.cells #[.int .i64 0, .string ⟨#[]⟩, .slice none 0 0, .slice none 0 0] 42 (0, 0)) := by rw [hW1]; exact heap_alloc_new w _
  have hs1 : w.heap.size < W1.heap.size := by rw [hW1]; simp
  have h1 : Sl W1 B A n c l := h.below (b1.mono hB)
  have HW1 := Lib.hid hW1
  have HQ := Lib.hid hq
  clear hW1 hq h
  go_enter Try.func22, Try.ntmps22
  go_wp2_with fail
  rw [← HW1.out]
  refine (head_any h1 (by omega) (k := 3) (by omega)).mono ?_
  rintro e w2 ⟨A2, n2, c2, rfl, h2, b2⟩
  have b02 : Below w.heap.size w w2 := b1.trans (b2.mono (by omega))
  have hs12 : w.heap.size < w2.heap.size := by have := b2.size; omega
  have HQ2 := Lib.hid ((b2.block w.heap.size hs1).trans HQ.out)
  clear b1 b2 h1 HQ hs1
  generalize hisv : (!(((St.mk l false).behind 3).behind ((St.mk l false).num 3)).bad) = isv at *
  generalize hm : (St.mk l false).txt 3 = m at *
  have HIS := Lib.hid hisv
  have HM := Lib.hid hm
  clear hisv hm
  go_wp2_with fail
  obtain ⟨W3, hW3⟩ : ∃ W3, W3 = w2.alloc (.cells #[.slice A2 n2 c2, .bool false] 76) := ⟨_, rfl⟩
  have b3 : Below w2.heap.size w2 W3 := by rw [hW3]; exact (Below.refl _ _).alloc (Nat.le_refl _) _
  have hB2 : B ≤ w2.heap.size := by omega
  have hR3 : Rdr 76 W3 B w2.heap.size A2 n2 c2 (St.mk m false) := ⟨hB2, by rw [hW3]; exact heap_alloc_new w2 _, h2.below (b3.mono hB2)⟩
  have hS3 : RT W3 w.heap.size w2.heap.size B 0 ⟨#[]⟩ none 0 0 [] (.slice none 0 0) [] (St.mk m false) := ⟨(b3.block _ (by omega)).trans HQ2.out, ⟨_, _, _, hR3⟩, World.ownsRow_nil _ _ _ _, rfl, World.ownsRow_nil _ _ _ _, by omega, hB⟩
  have b03 : Below w.heap.size w W3 := b02.trans (b3.mono (by omega))
  rw [← hW3]
  clear hW3 b3 b02 HQ2 h2
  refine (num_any (k := 1) hR3 (by omega)).mono ?_
  rintro e w4 ⟨A4, n4, c4, rfl, hr4, hg4⟩
  rw [sgn_small (num_lt3 (St.mk m false) (k := 1) (by omega))]
  have hS4 := hS3.read hr4 hg4
  have b04 : Below w.heap.size w w4 := b03.trans (only_below hg4 (by have := hS3.lt; omega) (by omega))
  obtain ⟨q0, -, -, -⟩ := hS4.cell
  have F0 := hS4.free 0
  clear b03 hS3 hR3 hg4 hr4
  obtain ⟨E, hE⟩ : ∃ E, E = (St.mk m false).num 1 := ⟨_, rfl⟩
  obtain ⟨s1, hs1⟩ : ∃ s1, s1 = (St.mk m false).behind 1 := ⟨_, rfl⟩
  rw [← hE]
  rw [← hs1] at hS4
  have HEs := Lib.hid (And.intro hE hs1)
  clear hE hs1
  go_wp2_with fail
  have hS5 := hS4.set0 (E : Int)
  have b05 : Below w.heap.size w (w4.setCell ⟨w.heap.size, 0, none⟩ (.int .i64 (E : Int))) := b04.setCell (p := ⟨w.heap.size, 0, none⟩) (Nat.le_refl _) _
  generalize w4.setCell ⟨w.heap.size, 0, none⟩ (.int .i64 (E : Int)) = w5 at *
  clear b04 hS4 q0 F0
  obtain ⟨A5, n5, c5, hr5⟩ := hS5.rd
  refine (text_any (k := 2) hr5 (by omega)).mono ?_
  rintro e w6 ⟨A6, n6, c6, rfl, hr6, hg6⟩
  have hS6 := hS5.read hr6 hg6
  have b06 : Below w.heap.size w w6 := b05.trans (only_below hg6 (by have := hS5.lt; omega) (by omega))
  obtain ⟨-, q1, -, -⟩ := hS6.cell
  have F1 := hS6.free 1
  clear b05 hS5 hr5 hg6 hr6
  obtain ⟨T, hT⟩ : ∃ T, T = s1.txt 2 := ⟨_, rfl⟩
  obtain ⟨s2, hs2⟩ : ∃ s2, s2 = s1.past 2 := ⟨_, rfl⟩
  rw [← hT]
  rw [← hs2] at hS6
  have HTs := Lib.hid (And.intro hT hs2)
  clear hT hs2
  go_wp2_with fail
  have hS7 := hS6.set1 (ba T)
  have b07 : Below w.heap.size w (w6.setCell ⟨w.heap.size, 1, none⟩ (.string (ba T))) := b06.setCell (p := ⟨w.heap.size, 1, none⟩) (Nat.le_refl _) _
  generalize w6.setCell ⟨w.heap.size, 1, none⟩ (.string (ba T)) = w7 at *
  clear b06 hS6 q1 F1
  obtain ⟨A7, n7, c7, hr7⟩ := hS7.rd
  refine (num_any (k := 2) hr7 (by omega)).mono ?_
  rintro e w8 ⟨A8, n8, c8, rfl, hr8, hg8⟩
  have hnI := num_lt3 s2 (k := 2) (by omega)
  rw [sgn_small hnI]
  have hS8 := hS7.read hr8 hg8
  have b08 : Below w.heap.size w w8 := b07.trans (only_below hg8 (by have := hS7.lt; omega) (by omega))
  clear b07 hS7 hr7 hg8
  go_wp2_with fail
  refine (bytes_any hr8 (by omega)).mono ?_
  rintro e w9 ⟨A9, n9, c9, A10, n10, c10, rfl, hsl, hr10, hg10⟩
  have hS9 := hS8.read hr10 hg10
  have b09 : Below w.heap.size w w9 := b08.trans (only_below hg10 (by have := hS8.lt; omega) (by omega))
  clear b08 hS8 hr8 hg10
  go_wp2_with fail
  have hlI : ((s2.behind 2).takes (s2.num 2)).length ≤ 16777216 := by have := St.takes_length (s2.behind 2) (s2.num 2); omega
  refine (clone_n hsl.len hsl.rd (by have := hS9.lt; have := hS9.hB; omega) (by omega)).mono ?_
  rintro e w10 ⟨v10, rfl, ho10, b10⟩
  obtain ⟨iA, iC, rfl⟩ := own_slice ho10
  have hS10 := (hS9.below b10)
  have ho10' : w10.ownsRow w.heap.size 5 1 (.slice iA ((s2.behind 2).takes (s2.num 2)).length iC) ((s2.behind 2).takes (s2.num 2)).length (bv ((s2.behind 2).takes (s2.num 2))) := ownsRow_lower ho10 (Nat.le_of_lt hS9.lt)
  have b010 : Below w.heap.size w w10 := b09.trans (b10.mono (Nat.le_of_lt hS9.lt))
  obtain ⟨-, -, q2, -⟩ := hS10.cell
  have F2 := hS10.free 2
  clear b09 hS9 hsl hr10 ho10 b10
  obtain ⟨I, hI⟩ : ∃ I, I = (s2.behind 2).takes (s2.num 2) := ⟨_, rfl⟩
  rw [← hI] at ho10' hlI ⊢
  have HI := Lib.hid (show I = s2.txt 2 from hI)
  clear hI
  go_wp2_with fail
  have hS11 := hS10.set2 ho10' rfl
  have b011 : Below w.heap.size w (w10.setCell ⟨w.heap.size, 2, none⟩ (.slice iA I.length iC)) := b010.setCell (p := ⟨w.heap.size, 2, none⟩) (Nat.le_refl _) _
  generalize w10.setCell ⟨w.heap.size, 2, none⟩ (.slice iA I.length iC) = w11 at *
  clear b010 hS10 q2 F2 ho10'
  obtain ⟨s3, hs3⟩ : ∃ s3, s3 = (s2.behind 2).behind (s2.num 2) := ⟨_, rfl⟩
  rw [← hs3] at hS11
  have HS3 := Lib.hid (show s3 = s2.past 2 from hs3)
  clear hs3
  obtain ⟨A11, n11, c11, hr11⟩ := hS11.rd
  refine (num_any (k := 2) hr11 (by omega)).mono ?_
  rintro e w12 ⟨A12, n12, c12, rfl, hr12, hg12⟩
  rw [sgn_small (num_lt3 s3 (k := 2) (by omega))]
  have hS12 := hS11.read hr12 hg12
  have b012 : Below w.heap.size w w12 := b011.trans (only_below hg12 (by have := hS11.lt; omega) (by omega))
  have hC := num_lt s3 2
  obtain ⟨C, hCe⟩ : ∃ C, C = s3.num 2 := ⟨_, rfl⟩
  obtain ⟨s4, hs4⟩ : ∃ s4, s4 = s3.behind 2 := ⟨_, rfl⟩
  rw [← hCe] at hC ⊢
  rw [← hs4] at hS12
  have HC := Lib.hid (And.intro hCe hs4)
  clear b011 hS11 hr11 hg12 hr12 hCe hs4
  go_upto_block 0 with fail
  go_cut [] (fun wc => DDone w w2.heap.size B (E : Int) T iA I iC C s4 wc)
  case first =>
    go_wp2_with fail
    go_loopg [] 70000 (fun g wr => DInv w w2.heap.size B (E : Int) T iA I iC C s4 g wr)
    case atStart => exact ⟨[], s4, .slice none 0 0, by simp, Nat.zero_le _, hS12, b012, fun _ => by simp, fun _ => ⟨rfl, rfl⟩⟩
    case round =>
      obtain ⟨l1, s5, dv, rfl, hlC, hS, hb, hd1, hd2⟩ := hrel
      obtain ⟨-, -, -, k3⟩ := hS.cell
      obtain ⟨dA, dC, rfl⟩ := own_slice hS.dgs
      obtain ⟨A0, n0, c0, hr⟩ := hS.rd
      have kb := hr.cell1
      clear hS12 b012
      by_cases hbig : 5000 < C
      · obtain ⟨rfl, rfl⟩ := hd2 hbig
        have hb1 : (5000 : Int) < (C : Int) := by omega
        have hl0 : (([] : List Dg).length : Int) < (C : Int) := by simp; omega
        have hY : dgsRd C s5 = ([], s5) := by unfold dgsRd; rw [if_neg (by omega)]
        have HY := Lib.hid hY
        clear hd1 hd2 hY
        go_wp2_with fail
        go_meet
        case rel => exact DDone.of hS hb HY.out
      · have hb1 : (C : Int) ≤ 5000 := by omega
        have hd := hd1 (by omega)
        have hY : dgsRd C s4 = dgsOf C s4 := by unfold dgsRd; rw [if_pos (by omega)]
        have HY := Lib.hid hY
        have HD := Lib.hid hd
        clear hd1 hd2 hY hd hbig
        by_cases hlt : l1.length < C
        · cases hbad : s5.bad with
          | true =>
            rw [hbad] at kb
            have HB := Lib.hid hbad
            have hlt' : (l1.length : Int) < (C : Int) := by omega
            clear hbad
            go_wp2_with fail
            go_meet
            case rel => exact DDone.of hS hb (by rw [HY.out, HD.out, dgsOf_bad HB.out]; simp)
          | false =>
            rw [hbad] at kb
            have HB := Lib.hid hbad
            have hlt' : (l1.length : Int) < (C : Int) := by omega
            clear hbad
            go_wp2_with fail
            obtain ⟨d6, s6, hds⟩ : ∃ d6 s6, dgOf s5 = (d6, s6) := ⟨_, _, rfl⟩
            have HDS := Lib.hid hds
            clear hds
            have hll : l1.length ≤ 5000 := by omega
            have F3 := hS.free 3
            have hr0 := hS.lt
            have hrD : Rdr 76 wr.drew B w2.heap.size A0 n0 c0 s5 := hr.below ((Below.refl _ _).drew)
            have hSD := hS.drew
            go_region_law (first
              | (refine step_append_lies _ (by rfl) _ _ _ (by rfl) w.heap.size 57 i57 _ 3 32 Try.underlying40 hi hz hy hx rfl (by omega) _ _ _ (by rfl) (hS6.dgs.alloc (.cells #[.string (ba d6.frag), .int .i64 d6.line, .int .i64 d6.e] 57)) ⟨w6.heap.size, 0, none⟩ 1 1 [.string (ba d6.frag), .int .i64 d6.line, .int .i64 d6.e] (by rfl) (by rfl) (World.news_of_block (cs := #[.string (ba d6.frag), .int .i64 d6.line, .int .i64 d6.e]) (t := 57) (fr := (0, 0)) (heap_alloc_new w6 _)) (by simp [Value.oneCell']) (by omega) (by unfold maxLen; omega) (by omega) (by first | omega | (simp; done) | (simp; omega)) _ rfl ?_; intro g7 cap7 w7 hown7 hgrow7 hat7 hlt7; have hS7 := hS6a.push hgrow7 hown7; have hB7 := (hgrow7.block w.heap.size hS6a.lt (fun e => own_blk_ne hS6a.dgs hS6a.blk (by decide) e.symm)).trans hS6a.blk; have f7 : w7.frozen? ⟨w.heap.size, 3, none⟩ = false := (by simp [World.frozen?, hB7]); have c7 := (box4 hB7).2.2.2; clear hB7)
              | (go_simp; go_at_call 47; first | (refine (rdiag_eq hr HDS).mono ?_; rintro e w6 ⟨A6', n6', c6', rfl, hr6, hg6⟩; have hS6 := hS.read hr6 hg6; have hS6a := hS6.below ((Below.refl _ _).alloc (Nat.le_refl _) (.cells #[.string (ba d6.frag), .int .i64 d6.line, .int .i64 d6.e] 57)); have k36 := hS6.cell.2.2.2; have hr06 := hS6.lt) | (refine (rdiag_eq hrD HDS).mono ?_; rintro e w6 ⟨A6', n6', c6', rfl, hr6, hg6⟩; have hS6 := hSD.read hr6 hg6; have hS6a := hS6.below ((Below.refl _ _).alloc (Nat.le_refl _) (.cells #[.string (ba d6.frag), .int .i64 d6.line, .int .i64 d6.e] 57)); have k36 := hS6.cell.2.2.2; have hr06 := hS6.lt)))
            all_goals
              have hb6 : Below w.heap.size w w6 := (hb.drew).trans (only_below hg6 (Nat.le_of_lt hr0) (by omega))
              have hb7 : Below w.heap.size w w7 := (hb6.alloc (Nat.le_of_lt hr06) _).grown hgrow7 (by simp; omega) (fun k hk => by
                rcases hS6.dgs.2 with ⟨e1, _⟩ | ⟨g', cap', cur', e1, hb', _⟩
                · rw [e1] at hk; simp [Value.ownBlock] at hk
                · rw [e1] at hk; simp [Value.ownBlock] at hk; omega)
              have HF : Hid (DInv w w2.heap.size B (E : Int) T iA I iC C s4 (70000 - (l1 ++ [d6]).length) (w7.setCell ⟨w.heap.size, 3, none⟩ (.slice (some ⟨g7, 0, none⟩) (l1.length + 1) cap7))) :=
                ⟨l1 ++ [d6], s6, _, rfl, by simp; omega, hS7, hb7.setCell (p := ⟨w.heap.size, 3, none⟩) (Nat.le_refl _) _, fun _ => dgs_step hlt HD.out HB.out HDS.out, fun h => absurd h (by omega)⟩
              clear hb6 hb7 hS7 hgrow7 hown7 hat7 hS6 hS6a hS hSD hr hrD hr6 hg6 c7 f7 k36 k3 kb F3
              go_wp2
              go_roundg (70000 - (l1 ++ [d6]).length)
              case measure => simp; omega
              case rel => exact HF.out
        · have hlt' : (C : Int) ≤ (l1.length : Int) := by omega
          go_wp2_with fail
          go_meet
          case rel => exact DDone.of hS hb (by rw [HY.out, HD.out, show C - l1.length = 0 by omega]; simp [dgsOf])
  case rest =>
    obtain ⟨dv, hS, hb⟩ := hcut
    obtain ⟨dA, dC, rfl⟩ := own_slice hS.dgs
    obtain ⟨A0, n0, c0, hr⟩ := hS.rd
    have HX : Hid (rsOf m = (⟨(E : Int), T, I, (dgsRd C s4).1⟩, C, (dgsRd C s4).2)) := by
      obtain ⟨e1, e2⟩ := HEs.out
      obtain ⟨e3, e4⟩ := HTs.out
      have e5 := HI.out
      have e6 := HS3.out
      obtain ⟨e7, e8⟩ := HC.out
      show _ = _
      simp only [rsOf, ← e1, ← e2, ← e3, ← e4, ← e5, ← e6, ← e7, ← e8]
      rfl
    have HDL : Hid ((dgsRd C s4).1.length ≤ 65536) := by
      show _ ≤ _
      unfold dgsRd
      split
      · have := dgsOf_len C s4; omega
      · simp
    generalize (dgsRd C s4).1 = ds at *
    generalize (dgsRd C s4).2 = s5 at *
    have HRD := Lib.hid (rsRead_eq HIS.out HM.out HX.out)
    have HBLK := Lib.hid hS.blk
    have HFAIL : Hid ((rsRead l = (noRs, 0, false)) → ∀ wf, Below w.heap.size w wf → RsEnd l w (.returned (.tuple #[rsv 0 ⟨#[]⟩ none 0 0 none 0 0, .int .i64 0, .bool false])) wf) := by
      intro hr wf hbf
      unfold RsEnd
      rw [hr]
      exact ⟨none, 0, none, 0, rfl, World.ownsRow_nil _ _ _ _, World.ownsRow_nil _ _ _ _, hbf⟩
    obtain ⟨k0, k1, k2, k3⟩ := hS.cell
    have F0 := hS.free 0
    have F1 := hS.free 1
    have F2 := hS.free 2
    have F3 := hS.free 3
    have hTs : (ba T).size = T.length := ba_size T
    have HTS := Lib.hid hTs
    have hT0 : T.length < 16777216 := by have := HTs.out.1; rw [this]; exact txt_lt _ (by omega)
    clear hTs hS12 b012
    cases isv with
    | false =>
      have HR : Hid (rsRead l = (noRs, 0, false)) := by show _ = _; rw [HRD.out]; simp
      go_wp2_with fail
      obtain ⟨q0, q1, q2, q3⟩ := box4 (put4 HBLK.out (.int .i64 0) (.string ⟨#[]⟩) (.slice none 0 0) (.slice none 0 0))
      refine bodyPost_ret (v := .tuple #[rsv 0 ⟨#[]⟩ none 0 0 none 0 0, .int .i64 0, .bool false]) (by simp [results, Try.results22, go_sem, q0, q1, q2, q3]; rfl) rfl ?_
      exact HFAIL.out HR.out _ (put4_below hb (Nat.le_refl _) _ _ _ _)
    | true =>
      cases he : (!s5.bad && s5.l.isEmpty) with
      | false =>
        have HR : Hid (rsRead l = (noRs, 0, false)) := by show _ = _; rw [HRD.out, he]; simp
        have HE := Lib.hid he
        clear he
        go_wp2_with (go_at_call 36; refine (ended_any hr).mono ?_; rintro e w' ⟨rfl, rfl⟩; rw [HE.out])
        obtain ⟨q0, q1, q2, q3⟩ := box4 (put4 HBLK.out (.int .i64 0) (.string ⟨#[]⟩) (.slice none 0 0) (.slice none 0 0))
        refine bodyPost_ret (v := .tuple #[rsv 0 ⟨#[]⟩ none 0 0 none 0 0, .int .i64 0, .bool false]) (by simp [results, Try.results22, go_sem, q0, q1, q2, q3]; rfl) rfl ?_
        exact HFAIL.out HR.out _ (put4_below hb (Nat.le_refl _) _ _ _ _)
      | true =>
        have HE := Lib.hid he
        by_cases hc5 : 5000 < C
        · have HR : Hid (rsRead l = (noRs, 0, false)) := by show _ = _; rw [HRD.out]; simp [hc5]
          have hc5' : (5000 : Int) < (C : Int) := by omega
          clear he
          go_wp2_with (go_at_call 36; refine (ended_any hr).mono ?_; rintro e w' ⟨rfl, rfl⟩; rw [HE.out])
          obtain ⟨q0, q1, q2, q3⟩ := box4 (put4 HBLK.out (.int .i64 0) (.string ⟨#[]⟩) (.slice none 0 0) (.slice none 0 0))
          refine bodyPost_ret (v := .tuple #[rsv 0 ⟨#[]⟩ none 0 0 none 0 0, .int .i64 0, .bool false]) (by simp [results, Try.results22, go_sem, q0, q1, q2, q3]; rfl) rfl ?_
          exact HFAIL.out HR.out _ (put4_below hb (Nat.le_refl _) _ _ _ _)
        · have hc5' : (C : Int) ≤ 5000 := by omega
          by_cases ht6 : 600 < T.length
          · have HR : Hid (rsRead l = (noRs, 0, false)) := by show _ = _; rw [HRD.out]; simp [ht6]
            have ht6' : (600 : Int) < ((ba T).size : Int) := by have := HTS.out; omega
            clear he
            go_wp2_with (go_at_call 36; refine (ended_any hr).mono ?_; rintro e w' ⟨rfl, rfl⟩; rw [HE.out])
            obtain ⟨q0, q1, q2, q3⟩ := box4 (put4 HBLK.out (.int .i64 0) (.string ⟨#[]⟩) (.slice none 0 0) (.slice none 0 0))
            refine bodyPost_ret (v := .tuple #[rsv 0 ⟨#[]⟩ none 0 0 none 0 0, .int .i64 0, .bool false]) (by simp [results, Try.results22, go_sem, q0, q1, q2, q3]; rfl) rfl ?_
            exact HFAIL.out HR.out _ (put4_below hb (Nat.le_refl _) _ _ _ _)
          · have ht6' : ((ba T).size : Int) ≤ 600 := by have := HTS.out; omega
            by_cases hi4 : 4096 < I.length
            · have HR : Hid (rsRead l = (noRs, 0, false)) := by show _ = _; rw [HRD.out]; simp [hi4]
              have hi4' : (4096 : Int) < (I.length : Int) := by omega
              clear he
              go_wp2_with (go_at_call 36; refine (ended_any hr).mono ?_; rintro e w' ⟨rfl, rfl⟩; rw [HE.out])
              obtain ⟨q0, q1, q2, q3⟩ := box4 (put4 HBLK.out (.int .i64 0) (.string ⟨#[]⟩) (.slice none 0 0) (.slice none 0 0))
              refine bodyPost_ret (v := .tuple #[rsv 0 ⟨#[]⟩ none 0 0 none 0 0, .int .i64 0, .bool false]) (by simp [results, Try.results22, go_sem, q0, q1, q2, q3]; rfl) rfl ?_
              exact HFAIL.out HR.out _ (put4_below hb (Nat.le_refl _) _ _ _ _)
            · have hi4' : (I.length : Int) ≤ 4096 := by omega
              have HR : Hid (rsRead l = (⟨(E : Int), T, I, ds⟩, (St.mk l false).num 3 + 3, true)) := by
                show _ = _; rw [HRD.out, he]; simp [ht6, hi4]; omega
              clear he
              go_wp2_with (go_at_call 36; refine (ended_any hr).mono ?_; rintro e w' ⟨rfl, rfl⟩; rw [HE.out])
              have hdl : ds.length ≤ 65536 := HDL.out
              refine (dclone_any rfl hS.dgs (by omega)).mono ?_
              rintro e w13 ⟨dA', dC', rfl, ho13, b13⟩
              have hS13 := hS.below b13
              have hlt13 := hS.lt
              have b013 : Below w.heap.size w w13 := hb.trans (b13.mono (Nat.le_of_lt hlt13))
              have ho13' := ownsRow_lower ho13 (Nat.le_of_lt hlt13)
              clear k0 k1 k2 k3 F0 F1 F2 F3 hS hr hb ho13 b13
              obtain ⟨k0, k1, k2, k3⟩ := hS13.cell
              have F0 := hS13.free 0
              have F1 := hS13.free 1
              have F2 := hS13.free 2
              have F3 := hS13.free 3
              have hS14 := hS13.set3 rfl ho13'
              have b014 : Below w.heap.size w (w13.setCell ⟨w.heap.size, 3, none⟩ (.slice dA' ds.length dC')) := b013.setCell (p := ⟨w.heap.size, 3, none⟩) (Nat.le_refl _) _
              obtain ⟨m0, m1, m2, m3⟩ := hS14.cell
              have G0 := hS14.free 0
              have G1 := hS14.free 1
              have G2 := hS14.free 2
              have G3 := hS14.free 3
              have hn3 := num_lt3 (St.mk l false) (k := 3) (by omega)
              go_wp2_with fail
              have hq := put4 hS14.blk (.int .i64 (E : Int)) (.string (ba T)) (.slice iA I.length iC) (.slice dA' ds.length dC')
              have hbf := put4_below b014 (Nat.le_refl _) (.int .i64 (E : Int)) (.string (ba T)) (.slice iA I.length iC) (.slice dA' ds.length dC')
              have hgf := put4_only (World.grownBy.refl (w13.setCell ⟨w.heap.size, 3, none⟩ (.slice dA' ds.length dC')) (some w.heap.size)) (.int .i64 (E : Int)) (.string (ba T)) (.slice iA I.length iC) (.slice dA' ds.length dC')
              obtain ⟨q0, q1, q2, q3⟩ := box4 hq
              have hi1 := own_keep hS14.imo hS14.blk (by decide) hgf
              have hi2 := own_keep hS14.dgs hS14.blk (by decide) hgf
              refine bodyPost_ret (v := .tuple #[rsv (E : Int) (ba T) iA I.length iC dA' ds.length dC', .int .i64 (((St.mk l false).num 3 + 3 : Nat) : Int), .bool true]) (by simp [results, Try.results22, go_sem, q0, q1, q2, q3]; rfl) rfl ?_
              unfold RsEnd
              rw [HR.out]
              exact ⟨iA, iC, dA', dC', rfl, hi1, hi2, hbf⟩
end Go.Proofs.Ytifdkkkcecpjoaa
