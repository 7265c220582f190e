/-
  frame's reader of a diagnostic; slices.Clone of diagnostics.
-/
import Derived.Test.YtifdkkkcecpjoaaFrF
import Derived.Test.YtifdkkkcecpjoaaFrI
namespace Go.Proofs.Ytifdkkkcecpjoaa
open Go.RowKit
attribute [local go_sem ↓] Go.wp_at_zero Go.wp_at_succ

theorem Rdr.alloc {T : TypeId} {w : World} {B p n c : Nat} {A : Option Addr} {s : St} (h : Rdr T w B p A n c s) (o : Obj) : Rdr T (w.alloc o) B p A n c s := h.below ((Below.refl _ _).alloc (Nat.le_refl _) o)
theorem txt_lt (s : St) {k : Nat} (hk : k ≤ 3) : (s.txt k).length < 16777216 := by
  have h1 := St.takes_length (s.behind k) (s.num k)
  have h2 := num_lt3 s hk
  unfold St.txt
  omega

def DiagEnd (B p : Nat) (s : St) (w : World) (e : Ending) (w' : World) : Prop :=
  ∃ A n c, e = .returned (dgv (dgOf s).1) ∧ Rdr 76 w' B p A n c (dgOf s).2 ∧ w.grownBy w' (some p)

/-- How the reader stands behind its last word. -/
theorem Rdr.mark {T : TypeId} {w : World} {B p n c : Nat} {A : Option Addr} {s : St} (h : Rdr T w B p A n c s) (b : Bool) : Rdr T (w.setCell ⟨p, 1, none⟩ (.bool b)) B p A n c ⟨s.l, b⟩ ∧ w.grownBy (w.setCell ⟨p, 1, none⟩ (.bool b)) (some p) := by
  have hg : w.grownBy (w.setCell ⟨p, 1, none⟩ (.bool b)) (some p) := only_setCell (p := ⟨p, 1, none⟩) (World.grownBy.refl w (some p)) (.inl rfl) (.bool b)
  have hb : (w.setCell ⟨p, 1, none⟩ (.bool b)).heap[p]? = some (.cells #[.slice A n c, .bool b] T (0, 0)) := by
    have := h.blk
    simp [World.setCell, Array.getElem?_modify, this]
  have hs' := h.sl.only hg h.hB (Nat.le_trans h.hB (Nat.le_of_lt h.lt))
  exact ⟨⟨h.hB, hb, hs'⟩, hg⟩
theorem put3 {w : World} {r : Nat} {t : TypeId} {a b c : Value} (h : w.heap[r]? = some (.cells #[a, b, c] t (0, 0))) (a' b' c' : Value) :
    (((w.setCell ⟨r, 0, none⟩ a').setCell ⟨r, 1, none⟩ b').setCell ⟨r, 2, none⟩ c').heap[r]? = some (.cells #[a', b', c'] t (0, 0)) := by
  simp [World.setCell, Array.getElem?_modify, h]
theorem put3_only {w0 w : World} {p r : Nat} (h : w0.grownBy w (some p)) (hr : w0.heap.size ≤ r) (a' b' c' : Value) :
    w0.grownBy (((w.setCell ⟨r, 0, none⟩ a').setCell ⟨r, 1, none⟩ b').setCell ⟨r, 2, none⟩ c') (some p) :=
  only_setCell (p := ⟨r, 2, none⟩) (only_setCell (p := ⟨r, 1, none⟩) (only_setCell (p := ⟨r, 0, none⟩) h (.inr hr) a') (.inr hr) b') (.inr hr) c'
theorem Rdr.far {T : TypeId} {w : World} {B p n c : Nat} {A : Option Addr} {s : St} (h : Rdr T w B p A n c s) {q : Addr} (hq : p ≠ q.block) (hB : B ≤ q.block) (u : Value) : Rdr T (w.setCell q u) B p A n c s :=
  ⟨h.hB, (Below.heap_setCell w q u p hq).trans h.blk, ⟨h.sl.len, h.sl.cap, h.sl.max, h.sl.rd.setCell hB u⟩⟩

set_option maxRecDepth 100000 in
set_option maxHeartbeats 1600000 in
theorem rdiag_any {w : World} {B p n c : Nat} {A : Option Addr} {s : St} (h : Rdr 76 w B p A n c s) :
    Calls Try.prog 47 #[.pointer (some ⟨p, 0, none⟩)] w (DiagEnd B p s w) := by
  obtain ⟨W1, hW1⟩ : ∃ W1, W1 = w.alloc (.cells #[.string ⟨#[]⟩, .int .i64 0, .int .i64 0] 57) := ⟨_, rfl⟩
  have h1 : Rdr 76 W1 B p A n c s := by rw [hW1]; exact h.alloc _
  have hq : W1.heap[w.heap.size]? = some (.cells #[.string ⟨#[]⟩, .int .i64 0, .int .i64 0] 57 (0, 0)) := by rw [hW1]; exact heap_alloc_new w _
  have hlt := h.lt
  have hBp := h.hB
  have g1 : w.grownBy W1 (some p) := by rw [hW1]; exact only_alloc (World.grownBy.refl _ _) _
  have hz1 : W1.heap.size = w.heap.size + 1 := by rw [hW1]; simp
  have HW1 := Lib.hid hW1
  have HQ := Lib.hid hq
  clear hW1 hq h
  have hs1 : w.heap.size < W1.heap.size := by omega
  clear hz1
  go_enter Try.func47, Try.ntmps47
  go_wp2_with fail
  rw [← HW1.out]
  refine (text_any (k := 1) h1 (by omega)).mono ?_
  rintro e w2 ⟨A2, n2, c2, rfl, h2, g2⟩
  go_wp2_with fail
  refine (num_any (k := 2) h2 (by omega)).mono ?_
  rintro e w3 ⟨A3, n3, c3, rfl, h3, g3⟩
  rw [sgn_small (num_lt3 _ (k := 2) (by omega))]
  go_wp2_with fail
  refine (num_any (k := 1) h3 (by omega)).mono ?_
  rintro e w4 ⟨A4, n4, c4, rfl, h4, g4⟩
  rw [sgn_small (num_lt3 _ (k := 1) (by omega))]
  have g04 : w.grownBy w4 (some p) := only_trans (only_trans (only_trans g1 g2) g3) g4
  have g14 : W1.grownBy w4 (some p) := only_trans (only_trans g2 g3) g4
  have HQ4 := Lib.hid ((g14.block w.heap.size hs1 (fun e => by injection e; omega)).trans HQ.out)
  have hs4 : w.heap.size < w4.heap.size := Nat.lt_of_lt_of_le hs1 g14.size
  have HS : Hid (dgOf s = (⟨s.txt 1, (((s.past 1).num 2 : Nat) : Int), ((((s.past 1).behind 2).num 1 : Nat) : Int)⟩, ⟨(((s.past 1).behind 2).behind 1).l, (((s.past 1).behind 2).behind 1).bad || !(Dg.right ⟨s.txt 1, (((s.past 1).num 2 : Nat) : Int), ((((s.past 1).behind 2).num 1 : Nat) : Int)⟩)⟩)) := rfl
  have hfl := txt_lt s (k := 1) (by omega)
  clear h1 h2 h3 g1 g2 g3 g4 g14 HQ hs1
  generalize s.txt 1 = F at *
  generalize (s.past 1).num 2 = L at *
  generalize ((s.past 1).behind 2).num 1 = E at *
  generalize ((s.past 1).behind 2).behind 1 = sx at *
  obtain ⟨sl, sb⟩ := sx
  have c4' := h4.cell1
  have f4' := h4.free 1
  have hp4 := h4.lt
  obtain ⟨e0, e1, e2⟩ := box3 HQ4.out
  have fw : ∀ o, w4.frozen? ⟨w.heap.size, o, none⟩ = false := fun o => by have := HQ4.out; simp [World.frozen?, this]
  have fw0 := fw 0
  have fw1 := fw 1
  have fw2 := fw 2
  clear fw
  have HQ6 : Hid (∀ b, (((((w4.setCell ⟨p, 1, none⟩ b).setCell ⟨w.heap.size, 0, none⟩ (.string (ba F))).setCell ⟨w.heap.size, 1, none⟩ (.int .i64 (L : Int))).setCell ⟨w.heap.size, 2, none⟩ (.int .i64 (E : Int))).alloc (.cells #[.string (ba F), .int .i64 (L : Int), .int .i64 (E : Int)] 57)).heap[w.heap.size]? = some (.cells #[.string (ba F), .int .i64 (L : Int), .int .i64 (E : Int)] 57 (0, 0))) :=
    fun b => (Below.heap_alloc _ _ _ (by simp [World.setCell]; exact hs4)).trans (put3 ((Below.heap_setCell w4 ⟨p, 1, none⟩ b w.heap.size (fun e => by have e : w.heap.size = p := e; omega)).trans HQ4.out) _ _ _)
  have FIN : Hid (∀ nb : Bool, Hid (nb = (sb || !(Dg.right ⟨F, (L : Int), (E : Int)⟩))) → DiagEnd B p s w (.returned (dgv ⟨F, (L : Int), (E : Int)⟩)) (((((w4.setCell ⟨p, 1, none⟩ (.bool nb)).setCell ⟨w.heap.size, 0, none⟩ (.string (ba F))).setCell ⟨w.heap.size, 1, none⟩ (.int .i64 (L : Int))).setCell ⟨w.heap.size, 2, none⟩ (.int .i64 (E : Int))).alloc (.cells #[.string (ba F), .int .i64 (L : Int), .int .i64 (E : Int)] 57))) := by
    intro nb hnb
    obtain ⟨m1, m2⟩ := h4.mark nb
    have hne : p ≠ w.heap.size := by omega
    refine ⟨A4, n4, c4, ?_, ?_, only_alloc (put3_only (only_trans g04 m2) (Nat.le_refl _) _ _ _) _⟩
    · rw [HS.out]
    · rw [HS.out]
      simp only
      rw [← hnb.out]
      exact (((m1.far (q := ⟨w.heap.size, 0, none⟩) hne (by show B ≤ w.heap.size; omega) _).far (q := ⟨w.heap.size, 1, none⟩) hne (by show B ≤ w.heap.size; omega) _).far (q := ⟨w.heap.size, 2, none⟩) hne (by show B ≤ w.heap.size; omega) _).alloc _
  have hsz : (ba F).size ≤ maxLen := by rw [ba_size]; unfold maxLen; omega
  have HSZ := Lib.hid hsz
  clear h4 HQ4 hsz hfl g04 HS
  cases sb with
  | true =>
    have HB : Hid (true = (true || !(Dg.right ⟨F, (L : Int), (E : Int)⟩))) := rfl
    go_wp2_with fail
    obtain ⟨q0, q1, q2⟩ := box3 (HQ6.out (.bool true))
    refine bodyPost_ret (v := dgv ⟨F, (L : Int), (E : Int)⟩) (by simp [results, Try.results47, go_sem, q0, q1, q2]; rfl) rfl ?_
    exact FIN.out true HB
  | false =>
    have hrt : (false || !(Dg.right ⟨F, (L : Int), (E : Int)⟩)) = (!((F.isEmpty || isWord F)) || decide (5000 < L)) := by
      have e : decide ((0 : Int) ≤ (L : Int)) = true := by simp
      have e2 : decide ((L : Int) ≤ 5000) = !decide (5000 < L) := by
        rw [Bool.eq_iff_iff]; simp; omega
      rw [Dg.right, e, e2]
      cases F.isEmpty <;> cases isWord F <;> simp
    rw [hrt] at FIN
    cases hF : F with
    | nil =>
      subst hF
      have he : (ba []).toList = [] := by rw [Go.ByteArray.toList_eq]; rfl
      have he2 : (ba []).toList.isEmpty = true := by rw [he]; rfl
      have HB : Hid (decide ((5000 : Int) < (L : Int)) = (!((([] : List UInt8).isEmpty || isWord [])) || decide (5000 < L))) := by
        show _ = _
        rw [Bool.eq_iff_iff]; simp; omega
      go_wp2_with fail
      obtain ⟨q0, q1, q2⟩ := box3 (HQ6.out (.bool (decide ((5000 : Int) < (L : Int)))))
      refine bodyPost_ret (v := dgv ⟨[], (L : Int), (E : Int)⟩) (by simp [results, Try.results47, go_sem, q0, q1, q2]; rfl) rfl ?_
      exact FIN.out (decide ((5000 : Int) < (L : Int))) HB
    | cons f0 f1 =>
      have he : (ba F).toList.isEmpty = false := by rw [Go.ByteArray.toList_eq]; show (bl (ba F)).isEmpty = false; rw [bl_ba, hF]; rfl
      have hFe : F.isEmpty = false := by rw [hF]; rfl
      rw [← hF]
      clear hF
      rw [hFe] at FIN
      cases hw : isWord F with
      | false =>
        rw [hw] at FIN
        have HB : Hid (true = (!(false || false) || decide (5000 < L))) := rfl
        have HW : Hid (isWord (bl (ba F)) = false) := by show _ = _; rw [bl_ba]; exact hw
        clear hw hrt hFe
        go_wp2_with (go_at_call 54; (with_reducible refine (word_any (ba F) _ HSZ.out).mono ?_); rintro e w' ⟨rfl, rfl⟩; rw [HW.out])
        obtain ⟨q0, q1, q2⟩ := box3 (HQ6.out (.bool true))
        refine bodyPost_ret (v := dgv ⟨F, (L : Int), (E : Int)⟩) (by simp [results, Try.results47, go_sem, q0, q1, q2]; rfl) rfl ?_
        exact FIN.out true HB
      | true =>
        rw [hw] at FIN
        have HB : Hid (decide ((5000 : Int) < (L : Int)) = (!(false || true) || decide (5000 < L))) := by
          show _ = _
          rw [Bool.eq_iff_iff]; simp; omega
        have HW : Hid (isWord (bl (ba F)) = true) := by show _ = _; rw [bl_ba]; exact hw
        clear hw hrt hFe
        go_wp2_with (go_at_call 54; (with_reducible refine (word_any (ba F) _ HSZ.out).mono ?_); rintro e w' ⟨rfl, rfl⟩; rw [HW.out])
        obtain ⟨q0, q1, q2⟩ := box3 (HQ6.out (.bool (decide ((5000 : Int) < (L : Int)))))
        refine bodyPost_ret (v := dgv ⟨F, (L : Int), (E : Int)⟩) (by simp [results, Try.results47, go_sem, q0, q1, q2]; rfl) rfl ?_
        exact FIN.out (decide ((5000 : Int) < (L : Int))) HB
end Go.Proofs.Ytifdkkkcecpjoaa
