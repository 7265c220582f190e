/-
  The reference's store: Pin, Commit, Unpin.
-/
import Derived.Test.YtghddmlndafefaaStS
import Derived.Test.YtghddmlndafefaaWLast
import Derived.Deep.AppendLies
import Derived.Deep.DeepCutAuto
namespace Go.Proofs.Ytghddmlndafefaa
open Go.RowKit Go.Maps Go.Proofs.YtghddmlndafefaaW
attribute [local go_sem ↓] Go.wp_at_zero Go.wp_at_succ
set_option linter.unusedSimpArgs false
theorem info3' : (Try.prog.info? 3).map (fun i => (i.zero, i.size, i.bytes)) = some (some (.int .i64 0), 1, 8) := by kernel_rfl
theorem info82' : (Try.prog.info? 82).map (fun i => (i.zero, i.size, i.bytes)) = some (some (.agg #[.string ⟨#[]⟩, .string ⟨#[]⟩, .bool false, .int .i64 0]), 4, 48) := by kernel_rfl
theorem RHold.free {w : World} {base : Nat} {r : Rto} {vv pv : Value} (h : RHold w base r vv pv) (o : Nat) : w.frozen? ⟨r.rb, o, none⟩ = false := by
  simp [World.frozen?, h.blk]

/-- The blocks that a reference store may turn: at or above base, of its three element types. -/
def RS (base : Nat) (w : World) (k : Nat) : Prop := base ≤ k ∧ ∃ (cur : Array Value) (t : TypeId), w.heap[k]? = some (.cells cur t (0, 0)) ∧ (t = 55 ∨ t = 82 ∨ t = 3)
def RT (base : Nat) (w w' : World) : Prop := Turn (RS base w) w w'
theorem RT.refl (base : Nat) (w : World) : RT base w w := Turn.refl _ _
theorem RT.trans {base : Nat} {a b c : World} (h : RT base a b) (h' : RT base b c) : RT base a c :=
  ⟨h'.os.trans h.os, h'.tape.trans h.tape, h'.output.trans h.output, Nat.le_trans h.size h'.size, fun k hk hs => by
    have e := h.block k hk hs
    refine (h'.block k (Nat.lt_of_lt_of_le hk h.size) (fun ⟨h1, cur, t, h2, h3⟩ => hs ⟨h1, cur, t, by rw [← e]; exact h2, h3⟩)).trans e⟩
theorem RT.of_below {base : Nat} {w w' : World} (h : Below w.heap.size w w') : RT base w w' := Turn.of_below h
theorem RT.drew {base : Nat} {a b : World} (h : RT base a b) : RT base a b.drew := ⟨h.os, h.tape, h.output, h.size, h.block⟩
theorem RT.below {base : Nat} {w w' : World} (h : RT base w w') : Below (min base w.heap.size) w w' :=
  ⟨h.os, h.tape, h.output, h.size, fun k hk => h.block k (by omega) (fun ⟨h1, _⟩ => by omega)⟩

theorem rown_ne {w : World} {base size n q : Nat} {e t : TypeId} {v : Value} {xs : List Value} {cs : Array Value} (h : w.ownsRow base e size v n xs) (hq : w.heap[q]? = some (.cells cs t (0, 0))) (hne : e ≠ t) : v.ownBlock ≠ some q := by
  rcases h.2 with ⟨e1, _⟩ | ⟨g, cap, cur, e1, _, hb, _⟩
  · rw [e1]; simp [Value.ownBlock]
  · rw [e1]
    intro e2
    simp [Value.ownBlock] at e2
    subst e2
    rw [hq] at hb
    simp at hb
    exact hne hb.2.symm
theorem rown_rs {w : World} {base size n : Nat} {e : TypeId} {v : Value} {xs : List Value} (h : w.ownsRow base e size v n xs) (he : e = 55 ∨ e = 82 ∨ e = 3) : ∀ k, v.ownBlock = some k → RS base w k := by
  intro k hk
  rcases h.2 with ⟨e1, _⟩ | ⟨g, cap, cur, e1, hg, hb, _⟩
  · rw [e1] at hk; simp [Value.ownBlock] at hk
  · rw [e1] at hk
    simp [Value.ownBlock] at hk
    subst hk
    exact ⟨hg, cur, e, hb, he⟩
theorem rset_block {w : World} {a : Addr} {u : Value} {k : Nat} (h : k ≠ a.block) : (w.setCell a u).heap[k]? = w.heap[k]? := Below.heap_setCell _ _ _ _ h
/-- A row of another type than the block whose cell was set. -/
theorem rown_set {w : World} {base size n : Nat} {e : TypeId} {v : Value} {xs : List Value} (h : w.ownsRow base e size v n xs) {a : Addr} {u : Value} {cs : Array Value} {t : TypeId} (hq : w.heap[a.block]? = some (.cells cs t (0, 0))) (hne : e ≠ t) : (w.setCell a u).ownsRow base e size v n xs :=
  ownsRow_of_blocks h (fun k cur hk => rset_block (fun e1 => by rw [e1, hq] at hk; simp at hk; exact hne hk.2.symm))
/-- The pins turn. -/
theorem RHold.setP {w w9 : World} {base : Nat} {r : Rto} {vv pv u : Value} {pins' : List Nat} (h : RHold w base r vv pv) (hg : w.grownBy w9 pv.ownBlock) (ho : w9.ownsRow base 3 1 u pins'.length (pinCells pins')) :
    RHold (w9.setCell ⟨r.rb, 3, none⟩ u) base { r with pins := pins' } vv u ∧ RT base w (w9.setCell ⟨r.rb, 3, none⟩ u) := by
  have hq9 := (hg.block r.rb h.lt (fun e => rown_ne h.prow h.blk (by decide) e.symm)).trans h.blk
  have hv9 : w9.ownsRow base 82 4 vv r.L.length (cellsOf r.L) := ownsRow_of_blocks h.vrow (fun k cur hk => hg.block k (Array.getElem?_eq_some_iff.1 hk).1 (fun e => rown_ne h.prow hk (by decide) e.symm))
  refine ⟨⟨?_, h.hrb, rown_set hv9 hq9 (by decide), rown_set ho hq9 (by decide)⟩, ⟨hg.os, hg.tape, hg.output, by simpa [World.setCell] using hg.size, fun k hk hs => ?_⟩⟩
  · simp [World.setCell, Array.getElem?_modify, hq9]
  · refine (rset_block (fun e => hs ?_)).trans (hg.block k hk (fun e => hs (rown_rs h.prow (.inr (.inr rfl)) k e.symm)))
    subst e
    exact ⟨h.hrb, _, 55, h.blk, .inl rfl⟩
/-- The versions turn. -/
theorem RHold.setV {w w9 : World} {base : Nat} {r : Rto} {vv pv u : Value} {L' : List Ver} (h : RHold w base r vv pv) (hg : w.grownBy w9 vv.ownBlock) (ho : w9.ownsRow base 82 4 u L'.length (cellsOf L')) :
    RHold (w9.setCell ⟨r.rb, 2, none⟩ u) base { r with L := L' } u pv ∧ RT base w (w9.setCell ⟨r.rb, 2, none⟩ u) := by
  have hq9 := (hg.block r.rb h.lt (fun e => rown_ne h.vrow h.blk (by decide) e.symm)).trans h.blk
  have hv9 : w9.ownsRow base 3 1 pv r.pins.length (pinCells r.pins) := ownsRow_of_blocks h.prow (fun k cur hk => hg.block k (Array.getElem?_eq_some_iff.1 hk).1 (fun e => rown_ne h.vrow hk (by decide) e.symm))
  refine ⟨⟨?_, h.hrb, rown_set ho hq9 (by decide), rown_set hv9 hq9 (by decide)⟩, ⟨hg.os, hg.tape, hg.output, by simpa [World.setCell] using hg.size, fun k hk hs => ?_⟩⟩
  · simp [World.setCell, Array.getElem?_modify, hq9]
  · refine (rset_block (fun e => hs ?_)).trans (hg.block k hk (fun e => hs (rown_rs h.vrow (.inr (.inl rfl)) k e.symm)))
    subst e
    exact ⟨h.hrb, _, 55, h.blk, .inl rfl⟩
theorem rgrown_of {w W w9 : World} {x : Option Nat} (hb : Below w.heap.size w W) (hg : W.grownBy w9 x) : w.grownBy w9 x :=
  ⟨hg.os.trans hb.os, hg.tape.trans hb.tape, hg.output.trans hb.output, Nat.le_trans hb.size hg.size, fun k hk he => (hg.block k (Nat.lt_of_lt_of_le hk hb.size) he).trans (hb.block k hk)⟩
theorem pin_append (l : List Nat) (p : Nat) : pinCells (l ++ [p]) = pinCells l ++ [.int .i64 (p : Int)] := by simp [pinCells]
theorem pin_length (l : List Nat) : (pinCells l).length = l.length := by simp [pinCells]

def RPinEnd (base : Nat) (r : Rto) (w : World) (e : Ending) (w' : World) : Prop := e = .returned (.int .i64 r.now) ∧ RHolds w' base { r with pins := r.pins ++ [r.now] } ∧ RT base w w'
set_option maxRecDepth 100000 in
set_option maxHeartbeats 800000 in
theorem rpin_any {w : World} {base : Nat} {r : Rto} (h : RHolds w base r) (hp : r.pins.length ≤ 10000) :
    Calls Try.prog 28 #[.pointer (some ⟨r.rb, 0, none⟩)] w (RPinEnd base r w) := by
  obtain ⟨i3, hi3, hz3, hy3, hx3⟩ := info_parts info3'
  obtain ⟨vv, pv, h⟩ := h
  obtain ⟨c0, c1, c2, c3⟩ := h.cell
  obtain ⟨a3, k3, rfl⟩ := slice_of_owns h.prow
  have hprow := h.prow
  have hown : ((w.alloc (.cells #[.int .i64 (r.now : Int)] 3)).drew).ownsRow base 3 1 (.slice a3 r.pins.length k3) r.pins.length (pinCells r.pins) := (hprow.alloc _).drew
  have hnb : ((w.alloc (.cells #[.int .i64 (r.now : Int)] 3)).drew).heap[w.heap.size]? = some (.cells #[.int .i64 (r.now : Int)] 3 (0, 0)) := heap_alloc_new w _
  have hSB : ((w.alloc (.cells #[.int .i64 (r.now : Int)] 3)).drew).cell? ⟨r.rb, 3, none⟩ = some (.slice a3 r.pins.length k3) ∧ ((w.alloc (.cells #[.int .i64 (r.now : Int)] 3)).drew).cell? ⟨r.rb, 1, none⟩ = some (.int .i64 (r.now : Int)) :=
    ⟨(World.cell?_of_block (a := ⟨r.rb, 3, none⟩) (Below.heap_alloc w _ _ h.lt)).trans c3, (World.cell?_of_block (a := ⟨r.rb, 1, none⟩) (Below.heap_alloc w _ _ h.lt)).trans c1⟩
  have hbs : base ≤ ((w.alloc (.cells #[.int .i64 (r.now : Int)] 3)).drew).heap.size := by have := h.hrb; have := h.lt; simp; omega
  have hb0 : Below w.heap.size w ((w.alloc (.cells #[.int .i64 (r.now : Int)] 3)).drew) := ((Below.refl _ _).alloc (Nat.le_refl _) _).drew
  have hGB : ∀ w9 : World, ((w.alloc (.cells #[.int .i64 (r.now : Int)] 3)).drew).grownBy w9 (Value.slice a3 r.pins.length k3).ownBlock → w9.cell? ⟨r.rb, 3, none⟩ = some (.slice a3 r.pins.length k3) ∧ w9.cell? ⟨r.rb, 1, none⟩ = some (.int .i64 (r.now : Int)) ∧ w9.frozen? ⟨r.rb, 3, none⟩ = false := fun w9 hg => by
    have e9 := ((rgrown_of hb0 hg).block r.rb h.lt (fun e => rown_ne hprow h.blk (by decide) e.symm)).trans h.blk
    refine ⟨?_, ?_, ?_⟩
    · simp [World.cell?, e9]
    · simp [World.cell?, e9]
    · simp [World.frozen?, e9]
  have hFIN : ∀ (g9 cap9 : Nat) (w9 : World), ((w.alloc (.cells #[.int .i64 (r.now : Int)] 3)).drew).grownBy w9 (Value.slice a3 r.pins.length k3).ownBlock → w9.ownsRow base 3 1 (.slice (some ⟨g9, 0, none⟩) (r.pins.length + 1) cap9) (r.pins.length + 1) (pinCells r.pins ++ [.int .i64 (r.now : Int)]) →
      Hid (RHolds (w9.setCell ⟨r.rb, 3, none⟩ (.slice (some ⟨g9, 0, none⟩) (r.pins.length + 1) cap9)) base { r with pins := r.pins ++ [r.now] }) ∧ Hid (RT base w (w9.setCell ⟨r.rb, 3, none⟩ (.slice (some ⟨g9, 0, none⟩) (r.pins.length + 1) cap9))) ∧ (w9.setCell ⟨r.rb, 3, none⟩ (.slice (some ⟨g9, 0, none⟩) (r.pins.length + 1) cap9)).cell? ⟨r.rb, 1, none⟩ = some (.int .i64 (r.now : Int)) := fun g9 cap9 w9 hg ho => by
    have := h.setP (pins' := r.pins ++ [r.now]) (rgrown_of hb0 hg) (u := .slice (some ⟨g9, 0, none⟩) (r.pins.length + 1) cap9) (by rw [pin_append, List.length_append]; exact ho)
    exact ⟨Lib.hid ⟨_, _, this.1⟩, Lib.hid this.2, this.1.cell.2.1⟩
  have HOWN := Lib.hid hown
  have HNB := Lib.hid hnb
  have HSB := Lib.hid hSB
  have HBS := Lib.hid hbs
  have HGB := Lib.hid hGB
  have HFIN := Lib.hid hFIN
  clear hown hnb hSB hbs hb0 hGB hFIN hprow h c0 c2
  go_enter Try.func28, Try.ntmps28
  go_wp2_with fail
  refine PrintLast.start_ (n := 14) (S := fun w' => w'.cell? ⟨r.rb, 3, none⟩ = some (.slice a3 r.pins.length k3) ∧ w'.cell? ⟨r.rb, 1, none⟩ = some (.int .i64 (r.now : Int))) (ds := [13]) #[false, false, false, false, false, false, false, false, false, false, false, false, false, false] (by kernel_rfl) rfl rfl ⟨c3, c1⟩ (fun hHeld => ?_)
  refine PrintLast.pure_ (i := 0) (N := some 3) (v := ?_) (a' := ?_) #[true, false, false, false, false, false, false, false, false, false, false, false, false, false] rfl rfl (by kernel_rfl) (fun _ _ _ h => h) (Or.inl ⟨by rfl, ?_⟩) ?_ ?_
  rotate_left
  · intro w'
    go_simp
    with_reducible rfl
  rotate_left
  · simp only [Act.put, List.setIfInBounds_toArray, List.set_cons_zero, List.set_cons_succ]
    rfl
  refine PrintLast.pure_ (i := 1) (N := some 4) (v := ?_) (a' := ?_) #[true, true, false, false, false, false, false, false, false, false, false, false, false, false] rfl rfl (by kernel_rfl) (fun _ _ _ h => h) (Or.inl ⟨by rfl, ?_⟩) ?_ ?_
  rotate_left
  · intro w'
    go_simp
    with_reducible rfl
  rotate_left
  · simp only [Act.put, List.setIfInBounds_toArray, List.set_cons_zero, List.set_cons_succ]
    rfl
  refine PrintLast.pure_ (i := 2) (N := some 5) (v := ?_) (a' := ?_) #[true, true, true, false, false, false, false, false, false, false, false, false, false, false] rfl rfl (by kernel_rfl) (fun _ _ _ h => h) (Or.inl ⟨by rfl, ?_⟩) ?_ ?_
  rotate_left
  · intro w'
    go_simp
    with_reducible rfl
  rotate_left
  · simp only [Act.put, List.setIfInBounds_toArray, List.set_cons_zero, List.set_cons_succ]
    rfl
  refine PrintLast.pure_ (i := 3) (N := some 6) (v := ?_) (a' := ?_) #[true, true, true, true, false, false, false, false, false, false, false, false, false, false] rfl rfl (by kernel_rfl) (fun _ _ _ h => h) (Or.inl ⟨by rfl, ?_⟩) ?_ ?_
  rotate_left
  · intro w'
    go_simp
    with_reducible rfl
  rotate_left
  · simp only [Act.put, List.setIfInBounds_toArray, List.set_cons_zero, List.set_cons_succ]
    rfl
  refine PrintLast.pure_ (i := 5) (N := some 8) (v := ?_) (a' := ?_) #[true, true, true, true, false, true, false, false, false, false, false, false, false, false] rfl rfl (by kernel_rfl) (fun _ _ _ h => h) (Or.inl ⟨by rfl, ?_⟩) ?_ ?_
  rotate_left
  · intro w'
    go_simp
    with_reducible rfl
  rotate_left
  · simp only [Act.put, List.setIfInBounds_toArray, List.set_cons_zero, List.set_cons_succ]
    rfl
  refine PrintLast.pure_ (i := 6) (N := some 9) (v := ?_) (a' := ?_) #[true, true, true, true, false, true, true, false, false, false, false, false, false, false] rfl rfl (by kernel_rfl) (fun _ _ _ h => h) (Or.inl ⟨by rfl, ?_⟩) ?_ ?_
  rotate_left
  · intro w'
    go_simp
    with_reducible rfl
  rotate_left
  · simp only [Act.put, List.setIfInBounds_toArray, List.set_cons_zero, List.set_cons_succ]
    rfl
  refine PrintLast.pure_ (i := 7) (N := some 10) (v := ?_) (a' := ?_) #[true, true, true, true, false, true, true, true, false, false, false, false, false, false] rfl rfl (by kernel_rfl) (fun _ _ _ h => h) (Or.inl ⟨by rfl, ?_⟩) ?_ ?_
  rotate_left
  · intro w'
    go_simp
    with_reducible rfl
  rotate_left
  · simp only [Act.put, List.setIfInBounds_toArray, List.set_cons_zero, List.set_cons_succ]
    rfl
  refine PrintLast.take_ (i := 4) (N := some 7) (v := ?_) (a' := ?_) #[true, true, true, true, true, true, true, true, false, false, false, false, false, false] rfl rfl (by kernel_rfl) (fun _ _ _ h => h) (Or.inl ⟨by rfl, ?_⟩) hHeld ?_ ?_
  rotate_left
  · rintro w' ⟨s0, s1⟩
    go_simp
    with_reducible rfl
  rotate_left
  · simp only [Act.put, List.setIfInBounds_toArray, List.set_cons_zero, List.set_cons_succ]
    rfl
  refine PrintLast.take_ (i := 8) (N := some 11) (v := ?_) (a' := ?_) #[true, true, true, true, true, true, true, true, true, false, false, false, false, false] rfl rfl (by kernel_rfl) (fun _ _ _ h => h) (Or.inl ⟨by rfl, ?_⟩) hHeld ?_ ?_
  rotate_left
  · rintro w' ⟨s0, s1⟩
    go_simp
    with_reducible rfl
  rotate_left
  · simp only [Act.put, List.setIfInBounds_toArray, List.set_cons_zero, List.set_cons_succ]
    rfl
  refine PrintLast.one_ (i := 9) (N := some 12) #[true, true, true, true, true, true, true, true, true, true, false, false, false, false] rfl rfl (by kernel_rfl) (by decide) (fun K hK => ?_)
  refine PrintLast.value_ (w1 := ?_) (v := ?_) (by rfl) rfl ?_ ?_
  rotate_left 2
  · go_simp
    constructor
    · rfl
    · rfl
  refine hK.out _ _ HSB.out (fun hHeld => ?_)
  clear hK K
  refine PrintLast.norm_ (a' := ?_) ?_ ?_
  rotate_left
  · show Act.put _ (some 12) _ = _
    simp only [Act.put, List.setIfInBounds_toArray, List.set_cons_zero, List.set_cons_succ]
    rfl
  refine PrintLast.one_ (i := 10) (N := some 13) #[true, true, true, true, true, true, true, true, true, true, true, false, false, false] rfl rfl (by kernel_rfl) (by decide) (fun K hK => ?_)
  refine step_append_lies _ (by rfl) _ _ _ (by rfl) base 3 i3 _ 1 8 Try.underlying22 hi3 hz3 hy3 hx3 rfl (by omega) _ _ _ (by rfl) HOWN.out ⟨w.heap.size, 0, none⟩ 1 1 [.int .i64 (r.now : Int)] (by rfl) (by rfl) (World.news_of_block (cs := #[.int .i64 (r.now : Int)]) (t := 3) (fr := (0, 0)) HNB.out) (by simp [Value.oneCell']) (by omega) (by unfold maxLen; omega) (by omega) HBS.out _ rfl ?_
  intro g9 cap9 w9 hown9 hgrow9 _ _
  have hF9 := HGB.out w9 hgrow9
  have f9 : w9.frozen? ⟨r.rb, 3, none⟩ = false := hF9.2.2
  refine hK.out _ _ ⟨hF9.1, hF9.2.1⟩ (fun hHeld => ?_)
  clear hK K
  refine PrintLast.norm_ (a' := ?_) ?_ ?_
  rotate_left
  · show Act.put _ (some 13) _ = _
    simp only [Act.put, List.setIfInBounds_toArray, List.set_cons_zero, List.set_cons_succ]
    rfl
  refine PrintLast.pure_ (i := 11) (N := some 14) (v := ?_) (a' := ?_) #[true, true, true, true, true, true, true, true, true, true, true, true, false, false] rfl rfl (by kernel_rfl) (fun _ _ _ h => h) (Or.inl ⟨by rfl, ?_⟩) ?_ ?_
  rotate_left
  · intro w'
    go_simp
    with_reducible rfl
  rotate_left
  · simp only [Act.put, List.setIfInBounds_toArray, List.set_cons_zero, List.set_cons_succ]
    rfl
  refine PrintLast.pure_ (i := 12) (N := some 15) (v := ?_) (a' := ?_) #[true, true, true, true, true, true, true, true, true, true, true, true, true, false] rfl rfl (by kernel_rfl) (fun _ _ _ h => h) (Or.inl ⟨by rfl, ?_⟩) ?_ ?_
  rotate_left
  · intro w'
    go_simp
    with_reducible rfl
  rotate_left
  · simp only [Act.put, List.setIfInBounds_toArray, List.set_cons_zero, List.set_cons_succ]
    rfl
  refine PrintLast.last_ (i := 13) (N := none) #[true, true, true, true, true, true, true, true, true, true, true, true, true, true] rfl rfl (by kernel_rfl) (by decide) (fun K hK => ?_)
  refine PrintLast.skip_ (w1 := ?_) (by rfl) rfl ?_ ?_
  rotate_left
  · go_simp
    rfl
  refine hK.out _ _ ?_
  clear hK K
  refine PrintLast.done_ (by kernel_rfl) ?_
  have HF := HFIN.out g9 cap9 w9 hgrow9 hown9
  have cN := HF.2.2
  clear hown9 hgrow9 hF9 f9 hHeld
  go_wp2_with fail
  go_ret
  exact ⟨rfl, HF.1, HF.2.1⟩

/-- Writes as the reference's Commit takes them: a row of its own type. -/
def RWr (w : World) (v : Value) (ws : List Wr) : Prop := ∃ g cap, v = .slice (some ⟨g, 0, none⟩) ws.length cap ∧ (∃ cur, w.heap[g]? = some (.cells cur 66 (0, 0))) ∧
  ∀ i u, ws[i]? = some u → w.cell? ⟨g, i * 3, none⟩ = some (.string u.key) ∧ w.cell? ⟨g, i * 3 + 1, none⟩ = some (.string u.val) ∧ w.cell? ⟨g, i * 3 + 2, none⟩ = some (.bool u.gone)
def rup (r : Rto) (ws : List Wr) (j : Nat) : Rto := { r with now := r.now + 1, L := r.L ++ vers (ws.take j) (r.now + 1) }
def ROkEnd (base : Nat) (r : Rto) (ws : List Wr) (w : World) (e : Ending) (w' : World) : Prop := e = .returned (.tuple #[.int .i64 ((r.now + 1 : Nat) : Int), .int .i64 0]) ∧ RHolds w' base (rup r ws ws.length) ∧ RT base w w'
theorem RHold.tick {w : World} {base : Nat} {r : Rto} {vv pv : Value} (h : RHold w base r vv pv) (ws : List Wr) : RHolds (w.setCell ⟨r.rb, 1, none⟩ (.int .i64 ((r.now : Int) + 1))) base (rup r ws 0) ∧ RT base w (w.setCell ⟨r.rb, 1, none⟩ (.int .i64 ((r.now : Int) + 1))) := by
  have e : rup r ws 0 = { r with now := r.now + 1 } := by simp [rup, vers]
  rw [e]
  refine ⟨⟨vv, pv, ?_, h.hrb, rown_set h.vrow h.blk (by decide), rown_set h.prow h.blk (by decide)⟩, Turn.of_setCell ⟨h.hrb, _, 55, h.blk, .inl rfl⟩ _⟩
  have := h.blk
  simp [World.setCell, Array.getElem?_modify, this]
theorem rup_succ (r : Rto) (ws : List Wr) (j : Nat) (u : Wr) (h : ws[j]? = some u) : rup r ws (j + 1) = { rup r ws j with L := (rup r ws j).L ++ [u.ver (r.now + 1)] } := by
  simp [rup, vers, List.take_add_one, h]
set_option maxRecDepth 100000 in
set_option maxHeartbeats 1600000 in
theorem rcommit_any {w : World} {base : Nat} {r : Rto} (h : RHolds w base r) {v : Value} {ws : List Wr} (hw : RWr w v ws) (hL : r.L.length + ws.length ≤ r.lim) (hlim : r.lim ≤ 10000) (hnow : r.now ≤ 1000000) :
    Calls Try.prog 27 #[.pointer (some ⟨r.rb, 0, none⟩), v] w (ROkEnd base r ws w) := by
  obtain ⟨i82, hi, hz, hy, hx⟩ := info_parts info82'
  obtain ⟨g, cap, rfl, hgb, hcells⟩ := hw
  obtain ⟨vv, pv, h⟩ := h
  obtain ⟨c0, c1, c2, c3⟩ := h.cell
  obtain ⟨a2, k2, rfl⟩ := slice_of_owns h.vrow
  have f1 := h.free 1
  have hwr : IntKind.i64.wrap ((r.L.length : Int) + (ws.length : Int)) = (r.L.length : Int) + (ws.length : Int) := IntWalk.i64_in _ (by omega)
  have hd : ¬ ((r.lim : Int) < (r.L.length : Int) + (ws.length : Int)) := by omega
  have HT := Lib.hid (h.tick ws)
  have HG := Lib.hid hgb
  have HC := Lib.hid hcells
  clear hgb hcells h
  go_enter Try.func27, Try.ntmps27
  go_wp2_with fail
  refine PrintLast.start_ (n := 13) (S := fun w' => w'.cell? ⟨r.rb, 2, none⟩ = some (.slice a2 r.L.length k2) ∧ w'.cell? ⟨r.rb, 0, none⟩ = some (.int .i64 r.lim)) (ds := []) #[false, false, false, false, false, false, false, false, false, false, false, false, false] (by kernel_rfl) rfl rfl ⟨c2, c0⟩ (fun hHeld => ?_)
  refine PrintLast.pure_ (i := 0) (N := some 7) (v := ?_) (a' := ?_) #[true, false, false, false, false, false, false, false, false, false, false, false, false] rfl rfl (by kernel_rfl) (fun _ _ _ h => h) (Or.inl ⟨by rfl, ?_⟩) ?_ ?_
  rotate_left
  · intro w'
    go_simp
    with_reducible rfl
  rotate_left
  · simp only [Act.put, List.setIfInBounds_toArray, List.set_cons_zero, List.set_cons_succ]
    rfl
  refine PrintLast.pure_ (i := 1) (N := some 8) (v := ?_) (a' := ?_) #[true, true, false, false, false, false, false, false, false, false, false, false, false] rfl rfl (by kernel_rfl) (fun _ _ _ h => h) (Or.inl ⟨by rfl, ?_⟩) ?_ ?_
  rotate_left
  · intro w'
    go_simp
    with_reducible rfl
  rotate_left
  · simp only [Act.put, List.setIfInBounds_toArray, List.set_cons_zero, List.set_cons_succ]
    rfl
  refine PrintLast.pure_ (i := 2) (N := some 9) (v := ?_) (a' := ?_) #[true, true, true, false, false, false, false, false, false, false, false, false, false] rfl rfl (by kernel_rfl) (fun _ _ _ h => h) (Or.inl ⟨by rfl, ?_⟩) ?_ ?_
  rotate_left
  · intro w'
    go_simp
    with_reducible rfl
  rotate_left
  · simp only [Act.put, List.setIfInBounds_toArray, List.set_cons_zero, List.set_cons_succ]
    rfl
  refine PrintLast.pure_ (i := 5) (N := some 12) (v := ?_) (a' := ?_) #[true, true, true, false, false, true, false, false, false, false, false, false, false] rfl rfl (by kernel_rfl) (fun _ _ _ h => h) (Or.inl ⟨by rfl, ?_⟩) ?_ ?_
  rotate_left
  · intro w'
    go_simp
    with_reducible rfl
  rotate_left
  · simp only [Act.put, List.setIfInBounds_toArray, List.set_cons_zero, List.set_cons_succ]
    rfl
  refine PrintLast.pure_ (i := 6) (N := some 13) (v := ?_) (a' := ?_) #[true, true, true, false, false, true, true, false, false, false, false, false, false] rfl rfl (by kernel_rfl) (fun _ _ _ h => h) (Or.inl ⟨by rfl, ?_⟩) ?_ ?_
  rotate_left
  · intro w'
    go_simp
    with_reducible rfl
  rotate_left
  · simp only [Act.put, List.setIfInBounds_toArray, List.set_cons_zero, List.set_cons_succ]
    rfl
  refine PrintLast.pure_ (i := 8) (N := some 15) (v := ?_) (a' := ?_) #[true, true, true, false, false, true, true, false, true, false, false, false, false] rfl rfl (by kernel_rfl) (fun _ _ _ h => h) (Or.inl ⟨by rfl, ?_⟩) ?_ ?_
  rotate_left
  · intro w'
    go_simp
    with_reducible rfl
  rotate_left
  · simp only [Act.put, List.setIfInBounds_toArray, List.set_cons_zero, List.set_cons_succ]
    rfl
  refine PrintLast.pure_ (i := 9) (N := some 16) (v := ?_) (a' := ?_) #[true, true, true, false, false, true, true, false, true, true, false, false, false] rfl rfl (by kernel_rfl) (fun _ _ _ h => h) (Or.inl ⟨by rfl, ?_⟩) ?_ ?_
  rotate_left
  · intro w'
    go_simp
    with_reducible rfl
  rotate_left
  · simp only [Act.put, List.setIfInBounds_toArray, List.set_cons_zero, List.set_cons_succ]
    rfl
  refine PrintLast.pure_ (i := 10) (N := some 17) (v := ?_) (a' := ?_) #[true, true, true, false, false, true, true, false, true, true, true, false, false] rfl rfl (by kernel_rfl) (fun _ _ _ h => h) (Or.inl ⟨by rfl, ?_⟩) ?_ ?_
  rotate_left
  · intro w'
    go_simp
    with_reducible rfl
  rotate_left
  · simp only [Act.put, List.setIfInBounds_toArray, List.set_cons_zero, List.set_cons_succ]
    rfl
  refine PrintLast.take_ (i := 3) (N := some 10) (v := ?_) (a' := ?_) #[true, true, true, true, false, true, true, false, true, true, true, false, false] rfl rfl (by kernel_rfl) (fun _ _ _ h => h) (Or.inl ⟨by rfl, ?_⟩) hHeld ?_ ?_
  rotate_left
  · rintro w' ⟨s0, s1⟩
    go_simp
    with_reducible rfl
  rotate_left
  · simp only [Act.put, List.setIfInBounds_toArray, List.set_cons_zero, List.set_cons_succ]
    rfl
  refine PrintLast.pure_ (i := 4) (N := some 11) (v := ?_) (a' := ?_) #[true, true, true, true, true, true, true, false, true, true, true, false, false] rfl rfl (by kernel_rfl) (fun _ _ _ h => h) (Or.inl ⟨by rfl, ?_⟩) ?_ ?_
  rotate_left
  · intro w'
    go_simp
    with_reducible rfl
  rotate_left
  · simp only [Act.put, List.setIfInBounds_toArray, List.set_cons_zero, List.set_cons_succ]
    rfl
  refine PrintLast.pure_ (i := 7) (N := some 14) (v := ?_) (a' := ?_) #[true, true, true, true, true, true, true, true, true, true, true, false, false] rfl rfl (by kernel_rfl) (fun _ _ _ h => h) (Or.inl ⟨by rfl, ?_⟩) ?_ ?_
  rotate_left
  · intro w'
    go_simp
    with_reducible rfl
  rotate_left
  · simp only [Act.put, List.setIfInBounds_toArray, List.set_cons_zero, List.set_cons_succ]
    rfl
  refine PrintLast.take_ (i := 11) (N := some 18) (v := ?_) (a' := ?_) #[true, true, true, true, true, true, true, true, true, true, true, true, false] rfl rfl (by kernel_rfl) (fun _ _ _ h => h) (Or.inl ⟨by rfl, ?_⟩) hHeld ?_ ?_
  rotate_left
  · rintro w' ⟨s0, s1⟩
    go_simp
    with_reducible rfl
  rotate_left
  · simp only [Act.put, List.setIfInBounds_toArray, List.set_cons_zero, List.set_cons_succ]
    rfl
  refine PrintLast.pure_ (i := 12) (N := some 19) (v := ?_) (a' := ?_) #[true, true, true, true, true, true, true, true, true, true, true, true, true] rfl rfl (by kernel_rfl) (fun _ _ _ h => h) (Or.inl ⟨by rfl, ?_⟩) ?_ ?_
  rotate_left
  · intro w'
    go_simp
    with_reducible rfl
  rotate_left
  · simp only [Act.put, List.setIfInBounds_toArray, List.set_cons_zero, List.set_cons_succ]
    rfl
  refine PrintLast.done_ (by kernel_rfl) ?_
  skip
  clear hHeld c0 c2 c3
  go_wp2_with fail
  clear f1 c1 hwr hd
  go_loopw [6] (fun i wr => ∃ (j : Nat), j ≤ ws.length ∧ i = .int .i64 j ∧ Hid (RHolds wr base (rup r ws j) ∧ RT base w wr)) (fun i _ => ws.length - (intOf i).toNat)
  case atStart =>
    refine ⟨0, Nat.zero_le _, rfl, Lib.hid ⟨?_, ?_⟩⟩
    · exact HT.out.1.drew
    · exact HT.out.2.drew
  case round =>
    obtain ⟨j, hj, rfl, HI⟩ := hrel
    by_cases hlt : j < ws.length
    · obtain ⟨u, hu⟩ : ∃ u, ws[j]? = some u := ⟨ws[j], List.getElem?_eq_getElem hlt⟩
      obtain ⟨⟨vv, pv, hH⟩, hT⟩ := HI.out
      clear HI
      obtain ⟨e0, e1, e2⟩ := HC.out j u hu
      obtain ⟨cur, hgb⟩ := HG.out
      have hgl := (Array.getElem?_eq_some_iff.1 hgb).1
      have hgt : wr.heap[g]? = some (.cells cur 66 (0, 0)) := (hT.block g hgl (fun ⟨_, cur', t', h1, h2⟩ => by rw [hgb] at h1; simp at h1; obtain ⟨_, rfl⟩ := h1; revert h2; decide)).trans hgb
      have hge : wr.heap[g]? = w.heap[g]? := hgt.trans hgb.symm
      have x0 := (World.cell?_of_block (a := ⟨g, j * 3, none⟩) hge).trans e0
      have x1 := (World.cell?_of_block (a := ⟨g, j * 3 + 1, none⟩) hge).trans e1
      have x2 := (World.cell?_of_block (a := ⟨g, j * 3 + 2, none⟩) hge).trans e2
      have hgw : g < wr.heap.size := (Array.getElem?_eq_some_iff.1 hgt).1
      obtain ⟨_, c1, c2, _⟩ := hH.cell
      obtain ⟨b2, k2, rfl⟩ := slice_of_owns hH.vrow
      have hvrow := hH.vrow
      have hml : (rup r ws j).L.length = r.L.length + j := by simp [rup, vers, List.length_take]; omega
      obtain ⟨LL, hLL⟩ : ∃ LL, LL = (rup r ws j).L := ⟨_, rfl⟩
      obtain ⟨m, hm⟩ : ∃ m, m = LL.length := ⟨_, rfl⟩
      obtain ⟨t, ht⟩ : ∃ t : Int, t = ((rup r ws j).now : Int) := ⟨_, rfl⟩
      rw [← hLL, ← hm] at hml hvrow c2
      rw [← ht] at c1
      replace c1 : wr.cell? ⟨r.rb, 1, none⟩ = some (.int .i64 t) := c1
      replace c2 : wr.cell? ⟨r.rb, 2, none⟩ = some (.slice b2 m k2) := c2
      have hblk : ∃ pv', wr.heap[r.rb]? = some (.cells #[.int .i64 r.lim, .int .i64 t, .slice b2 m k2, pv'] 55 (0, 0)) := ⟨pv, by have := hH.blk; rw [← hLL, ← hm, ← ht] at this; exact this⟩
      have hrlt : r.rb < wr.heap.size := hH.lt
      have hmle : m ≤ 10000 := by omega
      clear hml
      have hwb : ∀ y : World, y.heap[r.rb]? = wr.heap[r.rb]? → y.heap[g]? = wr.heap[g]? → y.cell? ⟨r.rb, 2, none⟩ = some (.slice b2 m k2) ∧ y.cell? ⟨r.rb, 1, none⟩ = some (.int .i64 t) ∧ y.cell? ⟨g, j * 3, none⟩ = some (.string u.key) ∧ y.cell? ⟨g, j * 3 + 1, none⟩ = some (.string u.val) ∧ y.cell? ⟨g, j * 3 + 2, none⟩ = some (.bool u.gone) := fun y h1 h2 =>
        ⟨(World.cell?_of_block (a := ⟨r.rb, 2, none⟩) h1).trans c2, (World.cell?_of_block (a := ⟨r.rb, 1, none⟩) h1).trans c1, (World.cell?_of_block (a := ⟨g, j * 3, none⟩) h2).trans x0, (World.cell?_of_block (a := ⟨g, j * 3 + 1, none⟩) h2).trans x1, (World.cell?_of_block (a := ⟨g, j * 3 + 2, none⟩) h2).trans x2⟩
      have hown : ((wr.alloc (.cells #[.string u.key, .string u.val, .bool u.gone, .int .i64 t] 82)).drew).ownsRow base 82 4 (.slice b2 m k2) m (cellsOf LL) := (hvrow.alloc _).drew
      have hnb : ((wr.alloc (.cells #[.string u.key, .string u.val, .bool u.gone, .int .i64 t] 82)).drew).heap[wr.heap.size]? = some (.cells #[.string u.key, .string u.val, .bool u.gone, .int .i64 t] 82 (0, 0)) := heap_alloc_new wr _
      have hSB := hwb ((wr.alloc (.cells #[.string u.key, .string u.val, .bool u.gone, .int .i64 t] 82)).drew) (Below.heap_alloc wr _ _ hrlt) (Below.heap_alloc wr _ _ hgw)
      have hbs : base ≤ ((wr.alloc (.cells #[.string u.key, .string u.val, .bool u.gone, .int .i64 t] 82)).drew).heap.size := by have := hH.hrb; have h0 : (rup r ws j).rb = r.rb := rfl; rw [h0] at this; simp; omega
      have hb0 : Below wr.heap.size wr ((wr.alloc (.cells #[.string u.key, .string u.val, .bool u.gone, .int .i64 t] 82)).drew) := ((Below.refl _ _).alloc (Nat.le_refl _) _).drew
      have hGB : ∀ w9 : World, ((wr.alloc (.cells #[.string u.key, .string u.val, .bool u.gone, .int .i64 t] 82)).drew).grownBy w9 (Value.slice b2 m k2).ownBlock → (w9.cell? ⟨r.rb, 2, none⟩ = some (.slice b2 m k2) ∧ w9.cell? ⟨r.rb, 1, none⟩ = some (.int .i64 t) ∧ w9.cell? ⟨g, j * 3, none⟩ = some (.string u.key) ∧ w9.cell? ⟨g, j * 3 + 1, none⟩ = some (.string u.val) ∧ w9.cell? ⟨g, j * 3 + 2, none⟩ = some (.bool u.gone)) ∧ w9.frozen? ⟨r.rb, 2, none⟩ = false := fun w9 hg => by
        obtain ⟨pv', hb'⟩ := hblk
        have e9 := (rgrown_of hb0 hg).block r.rb hrlt (fun e => rown_ne hvrow hb' (by decide) e.symm)
        have e8 := (rgrown_of hb0 hg).block g hgw (fun e => rown_ne hvrow hgt (by decide) e.symm)
        refine ⟨hwb w9 e9 e8, ?_⟩
        simp [World.frozen?, e9.trans hb']
      have hFIN : ∀ (g9 cap9 : Nat) (w9 : World), ((wr.alloc (.cells #[.string u.key, .string u.val, .bool u.gone, .int .i64 t] 82)).drew).grownBy w9 (Value.slice b2 m k2).ownBlock → w9.ownsRow base 82 4 (.slice (some ⟨g9, 0, none⟩) (m + 1) cap9) (m + 1) (cellsOf LL ++ [.string u.key, .string u.val, .bool u.gone, .int .i64 t]) →
          Hid (RHolds (w9.setCell ⟨r.rb, 2, none⟩ (.slice (some ⟨g9, 0, none⟩) (m + 1) cap9)) base (rup r ws (j + 1)) ∧ RT base w (w9.setCell ⟨r.rb, 2, none⟩ (.slice (some ⟨g9, 0, none⟩) (m + 1) cap9))) := fun g9 cap9 w9 hg ho => by
        have hvv : Value.slice b2 m k2 = .slice b2 (rup r ws j).L.length k2 := by rw [hm, hLL]
        have := hH.setV (L' := LL ++ [u.ver (r.now + 1)]) (u := .slice (some ⟨g9, 0, none⟩) (m + 1) cap9) (by rw [← hvv]; exact rgrown_of hb0 hg) (by
          rw [cellsOf_append, List.length_append, ← hm]
          have e : cellsOf [u.ver (r.now + 1)] = [.string u.key, .string u.val, .bool u.gone, .int .i64 t] := by simp [cellsOf, Ver.cells, Wr.ver, ht, rup]
          rw [e]; exact ho)
        refine Lib.hid ⟨?_, hT.trans this.2⟩
        rw [rup_succ r ws j u hu, ← hLL]
        exact ⟨_, _, this.1⟩
      have HOWN := Lib.hid hown
      have HNB := Lib.hid hnb
      have HSB := Lib.hid hSB
      have HBS := Lib.hid hbs
      have HGB := Lib.hid hGB
      have HFIN := Lib.hid hFIN
      clear hown hnb hSB hbs hb0 hGB hFIN hvrow hH hT hblk hwb hgt hge hgb hgl e0 e1 e2 hLL hm ht hu cur
      go_wp2_with fail
      refine PrintLast.start_ (n := 19) (S := fun w' => w'.cell? ⟨r.rb, 2, none⟩ = some (.slice b2 m k2) ∧ w'.cell? ⟨r.rb, 1, none⟩ = some (.int .i64 t) ∧ w'.cell? ⟨g, j * 3, none⟩ = some (.string u.key) ∧ w'.cell? ⟨g, j * 3 + 1, none⟩ = some (.string u.val) ∧ w'.cell? ⟨g, j * 3 + 2, none⟩ = some (.bool u.gone)) (ds := [18]) #[false, false, false, false, false, false, false, false, false, false, false, false, false, false, false, false, false, false, false] (by kernel_rfl) rfl rfl ⟨c2, c1, x0, x1, x2⟩ (fun hHeld => ?_)
      refine PrintLast.pure_ (i := 0) (N := some 33) (v := ?_) (a' := ?_) #[true, false, false, false, false, false, false, false, false, false, false, false, false, false, false, false, false, false, false] rfl rfl (by kernel_rfl) (fun _ _ _ h => h) (Or.inl ⟨by rfl, ?_⟩) ?_ ?_
      rotate_left
      · intro w'
        go_simp
        with_reducible rfl
      rotate_left
      · simp only [Act.put, List.setIfInBounds_toArray, List.set_cons_zero, List.set_cons_succ]
        rfl
      refine PrintLast.pure_ (i := 1) (N := some 34) (v := ?_) (a' := ?_) #[true, true, false, false, false, false, false, false, false, false, false, false, false, false, false, false, false, false, false] rfl rfl (by kernel_rfl) (fun _ _ _ h => h) (Or.inl ⟨by rfl, ?_⟩) ?_ ?_
      rotate_left
      · intro w'
        go_simp
        with_reducible rfl
      rotate_left
      · simp only [Act.put, List.setIfInBounds_toArray, List.set_cons_zero, List.set_cons_succ]
        rfl
      refine PrintLast.pure_ (i := 2) (N := some 35) (v := ?_) (a' := ?_) #[true, true, true, false, false, false, false, false, false, false, false, false, false, false, false, false, false, false, false] rfl rfl (by kernel_rfl) (fun _ _ _ h => h) (Or.inl ⟨by rfl, ?_⟩) ?_ ?_
      rotate_left
      · intro w'
        go_simp
        with_reducible rfl
      rotate_left
      · simp only [Act.put, List.setIfInBounds_toArray, List.set_cons_zero, List.set_cons_succ]
        rfl
      refine PrintLast.pure_ (i := 3) (N := some 36) (v := ?_) (a' := ?_) #[true, true, true, true, false, false, false, false, false, false, false, false, false, false, false, false, false, false, false] rfl rfl (by kernel_rfl) (fun _ _ _ h => h) (Or.inl ⟨by rfl, ?_⟩) ?_ ?_
      rotate_left
      · intro w'
        go_simp
        with_reducible rfl
      rotate_left
      · simp only [Act.put, List.setIfInBounds_toArray, List.set_cons_zero, List.set_cons_succ]
        rfl
      refine PrintLast.pure_ (i := 5) (N := some 38) (v := ?_) (a' := ?_) #[true, true, true, true, false, true, false, false, false, false, false, false, false, false, false, false, false, false, false] rfl rfl (by kernel_rfl) (fun _ _ _ h => h) (Or.inl ⟨by rfl, ?_⟩) ?_ ?_
      rotate_left
      · intro w'
        go_simp
        with_reducible rfl
      rotate_left
      · simp only [Act.put, List.setIfInBounds_toArray, List.set_cons_zero, List.set_cons_succ]
        rfl
      refine PrintLast.pure_ (i := 6) (N := some 39) (v := ?_) (a' := ?_) #[true, true, true, true, false, true, true, false, false, false, false, false, false, false, false, false, false, false, false] rfl rfl (by kernel_rfl) (fun _ _ _ h => h) (Or.inl ⟨by rfl, ?_⟩) ?_ ?_
      rotate_left
      · intro w'
        go_simp
        with_reducible rfl
      rotate_left
      · simp only [Act.put, List.setIfInBounds_toArray, List.set_cons_zero, List.set_cons_succ]
        rfl
      refine PrintLast.pure_ (i := 7) (N := some 40) (v := ?_) (a' := ?_) #[true, true, true, true, false, true, true, true, false, false, false, false, false, false, false, false, false, false, false] rfl rfl (by kernel_rfl) (fun _ _ _ h => h) (Or.inl ⟨by rfl, ?_⟩) ?_ ?_
      rotate_left
      · intro w'
        go_simp
        with_reducible rfl
      rotate_left
      · simp only [Act.put, List.setIfInBounds_toArray, List.set_cons_zero, List.set_cons_succ]
        rfl
      refine PrintLast.pure_ (i := 9) (N := some 42) (v := ?_) (a' := ?_) #[true, true, true, true, false, true, true, true, false, true, false, false, false, false, false, false, false, false, false] rfl rfl (by kernel_rfl) (fun _ _ _ h => h) (Or.inl ⟨by rfl, ?_⟩) ?_ ?_
      rotate_left
      · intro w'
        go_simp
        with_reducible rfl
      rotate_left
      · simp only [Act.put, List.setIfInBounds_toArray, List.set_cons_zero, List.set_cons_succ]
        rfl
      refine PrintLast.pure_ (i := 10) (N := some 43) (v := ?_) (a' := ?_) #[true, true, true, true, false, true, true, true, false, true, true, false, false, false, false, false, false, false, false] rfl rfl (by kernel_rfl) (fun _ _ _ h => h) (Or.inl ⟨by rfl, ?_⟩) ?_ ?_
      rotate_left
      · intro w'
        go_simp
        with_reducible rfl
      rotate_left
      · simp only [Act.put, List.setIfInBounds_toArray, List.set_cons_zero, List.set_cons_succ]
        rfl
      refine PrintLast.pure_ (i := 11) (N := some 44) (v := ?_) (a' := ?_) #[true, true, true, true, false, true, true, true, false, true, true, true, false, false, false, false, false, false, false] rfl rfl (by kernel_rfl) (fun _ _ _ h => h) (Or.inl ⟨by rfl, ?_⟩) ?_ ?_
      rotate_left
      · intro w'
        go_simp
        with_reducible rfl
      rotate_left
      · simp only [Act.put, List.setIfInBounds_toArray, List.set_cons_zero, List.set_cons_succ]
        rfl
      refine PrintLast.take_ (i := 4) (N := some 37) (v := ?_) (a' := ?_) #[true, true, true, true, true, true, true, true, false, true, true, true, false, false, false, false, false, false, false] rfl rfl (by kernel_rfl) (fun _ _ _ h => h) (Or.inl ⟨by rfl, ?_⟩) hHeld ?_ ?_
      rotate_left
      · rintro w' ⟨s0, s1, s2, s3, s4⟩
        go_simp
        with_reducible rfl
      rotate_left
      · simp only [Act.put, List.setIfInBounds_toArray, List.set_cons_zero, List.set_cons_succ]
        rfl
      refine PrintLast.take_ (i := 8) (N := some 41) (v := ?_) (a' := ?_) #[true, true, true, true, true, true, true, true, true, true, true, true, false, false, false, false, false, false, false] rfl rfl (by kernel_rfl) (fun _ _ _ h => h) (Or.inl ⟨by rfl, ?_⟩) hHeld ?_ ?_
      rotate_left
      · rintro w' ⟨s0, s1, s2, s3, s4⟩
        go_simp
        with_reducible rfl
      rotate_left
      · simp only [Act.put, List.setIfInBounds_toArray, List.set_cons_zero, List.set_cons_succ]
        rfl
      refine PrintLast.take_ (i := 12) (N := some 45) (v := ?_) (a' := ?_) #[true, true, true, true, true, true, true, true, true, true, true, true, true, false, false, false, false, false, false] rfl rfl (by kernel_rfl) (fun _ _ _ h => h) (Or.inl ⟨by rfl, ?_⟩) hHeld ?_ ?_
      rotate_left
      · rintro w' ⟨s0, s1, s2, s3, s4⟩
        go_simp
        with_reducible rfl
      rotate_left
      · simp only [Act.put, List.setIfInBounds_toArray, List.set_cons_zero, List.set_cons_succ]
        rfl
      refine PrintLast.pure_ (i := 13) (N := some 46) (v := ?_) (a' := ?_) #[true, true, true, true, true, true, true, true, true, true, true, true, true, true, false, false, false, false, false] rfl rfl (by kernel_rfl) (fun _ _ _ h => h) (Or.inl ⟨by rfl, ?_⟩) ?_ ?_
      rotate_left
      · intro w'
        go_simp
        with_reducible rfl
      rotate_left
      · simp only [Act.put, List.setIfInBounds_toArray, List.set_cons_zero, List.set_cons_succ]
        rfl
      refine PrintLast.one_ (i := 14) (N := some 47) #[true, true, true, true, true, true, true, true, true, true, true, true, true, true, true, false, false, false, false] rfl rfl (by kernel_rfl) (by decide) (fun K hK => ?_)
      refine PrintLast.value_ (w1 := ?_) (v := ?_) (by rfl) rfl ?_ ?_
      rotate_left 2
      · go_simp
        constructor
        · rfl
        · rfl
      refine hK.out _ _ HSB.out (fun hHeld => ?_)
      clear hK K
      refine PrintLast.norm_ (a' := ?_) ?_ ?_
      rotate_left
      · show Act.put _ (some 47) _ = _
        simp only [Act.put, List.setIfInBounds_toArray, List.set_cons_zero, List.set_cons_succ]
        rfl
      refine PrintLast.one_ (i := 15) (N := some 48) #[true, true, true, true, true, true, true, true, true, true, true, true, true, true, true, true, false, false, false] rfl rfl (by kernel_rfl) (by decide) (fun K hK => ?_)
      refine step_append_lies _ (by rfl) _ _ _ (by rfl) base 82 i82 _ 4 48 Try.underlying53 hi hz hy hx rfl (by omega) _ _ _ (by rfl) HOWN.out ⟨wr.heap.size, 0, none⟩ 1 1 [.string u.key, .string u.val, .bool u.gone, .int .i64 t] (by rfl) (by rfl) (World.news_of_block (cs := #[.string u.key, .string u.val, .bool u.gone, .int .i64 t]) (t := 82) (fr := (0, 0)) HNB.out) (by simp [Value.oneCell']) (by omega) (by unfold maxLen; omega) (by omega) HBS.out _ rfl ?_
      intro g9 cap9 w9 hown9 hgrow9 _ _
      have hF9 := HGB.out w9 hgrow9
      have f9 : w9.frozen? ⟨r.rb, 2, none⟩ = false := hF9.2
      refine hK.out _ _ hF9.1 (fun hHeld => ?_)
      clear hK K
      refine PrintLast.norm_ (a' := ?_) ?_ ?_
      rotate_left
      · show Act.put _ (some 48) _ = _
        simp only [Act.put, List.setIfInBounds_toArray, List.set_cons_zero, List.set_cons_succ]
        rfl
      refine PrintLast.pure_ (i := 16) (N := some 49) (v := ?_) (a' := ?_) #[true, true, true, true, true, true, true, true, true, true, true, true, true, true, true, true, true, false, false] rfl rfl (by kernel_rfl) (fun _ _ _ h => h) (Or.inl ⟨by rfl, ?_⟩) ?_ ?_
      rotate_left
      · intro w'
        go_simp
        with_reducible rfl
      rotate_left
      · simp only [Act.put, List.setIfInBounds_toArray, List.set_cons_zero, List.set_cons_succ]
        rfl
      refine PrintLast.pure_ (i := 17) (N := some 50) (v := ?_) (a' := ?_) #[true, true, true, true, true, true, true, true, true, true, true, true, true, true, true, true, true, true, false] rfl rfl (by kernel_rfl) (fun _ _ _ h => h) (Or.inl ⟨by rfl, ?_⟩) ?_ ?_
      rotate_left
      · intro w'
        go_simp
        with_reducible rfl
      rotate_left
      · simp only [Act.put, List.setIfInBounds_toArray, List.set_cons_zero, List.set_cons_succ]
        rfl
      refine PrintLast.last_ (i := 18) (N := none) #[true, true, true, true, true, true, true, true, true, true, true, true, true, true, true, true, true, true, true] rfl rfl (by kernel_rfl) (by decide) (fun K hK => ?_)
      refine PrintLast.skip_ (w1 := ?_) (by rfl) rfl ?_ ?_
      rotate_left
      · go_simp
        rfl
      refine hK.out _ _ ?_
      clear hK K
      refine PrintLast.done_ (by kernel_rfl) ?_
      have HF := HFIN.out g9 cap9 w9 hgrow9 hown9
      clear hown9 hgrow9 hF9 f9 hHeld
      go_wp2_with fail
      go_roundw
      case rel => exact ⟨j + 1, by omega, by go_num, HF.out⟩
      case measure => simp [intOf]; omega
    · obtain rfl : j = ws.length := by omega
      obtain ⟨⟨vv, pv, hH⟩, hT⟩ := HI.out
      have c1 : wr.cell? ⟨r.rb, 1, none⟩ = some (.int .i64 ((r.now + 1 : Nat) : Int)) := hH.cell.2.1
      clear hH hT
      go_wp2
      go_ret2
      exact ⟨rfl, HI.out⟩

def RFullEnd (w : World) (e : Ending) (w' : World) : Prop := e = .returned (.tuple #[.int .i64 0, .int .i64 13]) ∧ Below w.heap.size w w'
set_option maxRecDepth 100000 in
set_option maxHeartbeats 1600000 in
theorem rcommit_no {w : World} {base : Nat} {r : Rto} (h : RHolds w base r) {v : Value} {ws : List Wr} (hw : RWr w v ws) (hn : ws.length ≤ 10000) (hL : r.lim < r.L.length + ws.length) (hlim : r.L.length ≤ 10000) :
    Calls Try.prog 27 #[.pointer (some ⟨r.rb, 0, none⟩), v] w (RFullEnd w) := by
  obtain ⟨g, cap, rfl, hgb, hcells⟩ := hw
  obtain ⟨vv, pv, h⟩ := h
  obtain ⟨c0, c1, c2, c3⟩ := h.cell
  obtain ⟨a2, k2, rfl⟩ := slice_of_owns h.vrow
  have hwr : IntKind.i64.wrap ((r.L.length : Int) + (ws.length : Int)) = (r.L.length : Int) + (ws.length : Int) := IntWalk.i64_in _ (by omega)
  have hd : ((r.lim : Int) < (r.L.length : Int) + (ws.length : Int)) := by omega
  clear hgb hcells h
  go_enter Try.func27, Try.ntmps27
  go_wp2_with fail
  refine PrintLast.start_ (n := 13) (S := fun w' => w'.cell? ⟨r.rb, 2, none⟩ = some (.slice a2 r.L.length k2) ∧ w'.cell? ⟨r.rb, 0, none⟩ = some (.int .i64 r.lim)) (ds := []) #[false, false, false, false, false, false, false, false, false, false, false, false, false] (by kernel_rfl) rfl rfl ⟨c2, c0⟩ (fun hHeld => ?_)
  refine PrintLast.pure_ (i := 0) (N := some 7) (v := ?_) (a' := ?_) #[true, false, false, false, false, false, false, false, false, false, false, false, false] rfl rfl (by kernel_rfl) (fun _ _ _ h => h) (Or.inl ⟨by rfl, ?_⟩) ?_ ?_
  rotate_left
  · intro w'
    go_simp
    with_reducible rfl
  rotate_left
  · simp only [Act.put, List.setIfInBounds_toArray, List.set_cons_zero, List.set_cons_succ]
    rfl
  refine PrintLast.pure_ (i := 1) (N := some 8) (v := ?_) (a' := ?_) #[true, true, false, false, false, false, false, false, false, false, false, false, false] rfl rfl (by kernel_rfl) (fun _ _ _ h => h) (Or.inl ⟨by rfl, ?_⟩) ?_ ?_
  rotate_left
  · intro w'
    go_simp
    with_reducible rfl
  rotate_left
  · simp only [Act.put, List.setIfInBounds_toArray, List.set_cons_zero, List.set_cons_succ]
    rfl
  refine PrintLast.pure_ (i := 2) (N := some 9) (v := ?_) (a' := ?_) #[true, true, true, false, false, false, false, false, false, false, false, false, false] rfl rfl (by kernel_rfl) (fun _ _ _ h => h) (Or.inl ⟨by rfl, ?_⟩) ?_ ?_
  rotate_left
  · intro w'
    go_simp
    with_reducible rfl
  rotate_left
  · simp only [Act.put, List.setIfInBounds_toArray, List.set_cons_zero, List.set_cons_succ]
    rfl
  refine PrintLast.pure_ (i := 5) (N := some 12) (v := ?_) (a' := ?_) #[true, true, true, false, false, true, false, false, false, false, false, false, false] rfl rfl (by kernel_rfl) (fun _ _ _ h => h) (Or.inl ⟨by rfl, ?_⟩) ?_ ?_
  rotate_left
  · intro w'
    go_simp
    with_reducible rfl
  rotate_left
  · simp only [Act.put, List.setIfInBounds_toArray, List.set_cons_zero, List.set_cons_succ]
    rfl
  refine PrintLast.pure_ (i := 6) (N := some 13) (v := ?_) (a' := ?_) #[true, true, true, false, false, true, true, false, false, false, false, false, false] rfl rfl (by kernel_rfl) (fun _ _ _ h => h) (Or.inl ⟨by rfl, ?_⟩) ?_ ?_
  rotate_left
  · intro w'
    go_simp
    with_reducible rfl
  rotate_left
  · simp only [Act.put, List.setIfInBounds_toArray, List.set_cons_zero, List.set_cons_succ]
    rfl
  refine PrintLast.pure_ (i := 8) (N := some 15) (v := ?_) (a' := ?_) #[true, true, true, false, false, true, true, false, true, false, false, false, false] rfl rfl (by kernel_rfl) (fun _ _ _ h => h) (Or.inl ⟨by rfl, ?_⟩) ?_ ?_
  rotate_left
  · intro w'
    go_simp
    with_reducible rfl
  rotate_left
  · simp only [Act.put, List.setIfInBounds_toArray, List.set_cons_zero, List.set_cons_succ]
    rfl
  refine PrintLast.pure_ (i := 9) (N := some 16) (v := ?_) (a' := ?_) #[true, true, true, false, false, true, true, false, true, true, false, false, false] rfl rfl (by kernel_rfl) (fun _ _ _ h => h) (Or.inl ⟨by rfl, ?_⟩) ?_ ?_
  rotate_left
  · intro w'
    go_simp
    with_reducible rfl
  rotate_left
  · simp only [Act.put, List.setIfInBounds_toArray, List.set_cons_zero, List.set_cons_succ]
    rfl
  refine PrintLast.pure_ (i := 10) (N := some 17) (v := ?_) (a' := ?_) #[true, true, true, false, false, true, true, false, true, true, true, false, false] rfl rfl (by kernel_rfl) (fun _ _ _ h => h) (Or.inl ⟨by rfl, ?_⟩) ?_ ?_
  rotate_left
  · intro w'
    go_simp
    with_reducible rfl
  rotate_left
  · simp only [Act.put, List.setIfInBounds_toArray, List.set_cons_zero, List.set_cons_succ]
    rfl
  refine PrintLast.take_ (i := 3) (N := some 10) (v := ?_) (a' := ?_) #[true, true, true, true, false, true, true, false, true, true, true, false, false] rfl rfl (by kernel_rfl) (fun _ _ _ h => h) (Or.inl ⟨by rfl, ?_⟩) hHeld ?_ ?_
  rotate_left
  · rintro w' ⟨s0, s1⟩
    go_simp
    with_reducible rfl
  rotate_left
  · simp only [Act.put, List.setIfInBounds_toArray, List.set_cons_zero, List.set_cons_succ]
    rfl
  refine PrintLast.pure_ (i := 4) (N := some 11) (v := ?_) (a' := ?_) #[true, true, true, true, true, true, true, false, true, true, true, false, false] rfl rfl (by kernel_rfl) (fun _ _ _ h => h) (Or.inl ⟨by rfl, ?_⟩) ?_ ?_
  rotate_left
  · intro w'
    go_simp
    with_reducible rfl
  rotate_left
  · simp only [Act.put, List.setIfInBounds_toArray, List.set_cons_zero, List.set_cons_succ]
    rfl
  refine PrintLast.pure_ (i := 7) (N := some 14) (v := ?_) (a' := ?_) #[true, true, true, true, true, true, true, true, true, true, true, false, false] rfl rfl (by kernel_rfl) (fun _ _ _ h => h) (Or.inl ⟨by rfl, ?_⟩) ?_ ?_
  rotate_left
  · intro w'
    go_simp
    with_reducible rfl
  rotate_left
  · simp only [Act.put, List.setIfInBounds_toArray, List.set_cons_zero, List.set_cons_succ]
    rfl
  refine PrintLast.take_ (i := 11) (N := some 18) (v := ?_) (a' := ?_) #[true, true, true, true, true, true, true, true, true, true, true, true, false] rfl rfl (by kernel_rfl) (fun _ _ _ h => h) (Or.inl ⟨by rfl, ?_⟩) hHeld ?_ ?_
  rotate_left
  · rintro w' ⟨s0, s1⟩
    go_simp
    with_reducible rfl
  rotate_left
  · simp only [Act.put, List.setIfInBounds_toArray, List.set_cons_zero, List.set_cons_succ]
    rfl
  refine PrintLast.pure_ (i := 12) (N := some 19) (v := ?_) (a' := ?_) #[true, true, true, true, true, true, true, true, true, true, true, true, true] rfl rfl (by kernel_rfl) (fun _ _ _ h => h) (Or.inl ⟨by rfl, ?_⟩) ?_ ?_
  rotate_left
  · intro w'
    go_simp
    with_reducible rfl
  rotate_left
  · simp only [Act.put, List.setIfInBounds_toArray, List.set_cons_zero, List.set_cons_succ]
    rfl
  refine PrintLast.done_ (by kernel_rfl) ?_
  skip
  clear hHeld c0 c2 c3
  go_wp2_with fail
  go_ret2
  exact ⟨rfl, (Below.refl _ _).drew⟩
end Go.Proofs.Ytghddmlndafefaa
