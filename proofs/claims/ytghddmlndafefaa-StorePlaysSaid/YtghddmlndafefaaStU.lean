/-
  The reference's store: Unpin.
-/
import Derived.Test.YtghddmlndafefaaStT
import Derived.Test.YtghddmlndafefaaStX
namespace Go.Proofs.Ytghddmlndafefaa
open Go.RowKit Go.Maps Go.Proofs.YtghddmlndafefaaW
attribute [local go_sem ↓] Go.wp_at_zero Go.wp_at_succ
set_option linter.unusedSimpArgs false

theorem unpin_at : ∀ (pins : List Nat) (j p : Nat) (t : Int), pins[j]? = some p → (p : Int) = t → (∀ q ∈ pins.take j, (q : Int) ≠ t) → unpin pins t = pins.take j ++ pins.drop (j + 1)
  | [], j, p, t, h, _, _ => by simp at h
  | a :: l, 0, p, t, h, ht, _ => by
    simp at h
    subst h
    unfold unpin
    rw [List.eraseP_cons_of_pos (by simpa using ht)]
    simp
  | a :: l, j + 1, p, t, h, ht, hn => by
    have ha : (a : Int) ≠ t := hn a (by simp)
    unfold unpin
    rw [List.eraseP_cons_of_neg (by simpa using ha)]
    have := unpin_at l j p t (by simpa using h) ht (fun q hq => hn q (by simp [hq]))
    unfold unpin at this
    rw [this]
    simp
theorem unpin_none {pins : List Nat} {t : Int} (h : ∀ q ∈ pins, (q : Int) ≠ t) : unpin pins t = pins := by
  unfold unpin
  exact List.eraseP_of_forall_not (fun a ha => by simpa using h a ha)
theorem pin_one (l : List Nat) : ∀ u ∈ pinCells l, u.oneCell' = true := by
  intro u hu
  obtain ⟨p, _, rfl⟩ := List.mem_map.1 hu
  rfl
theorem head_run {g len cap n : Nat} (hn : n ≤ cap) (hc : 0 < cap) (x : World) :
    (Instr.slice 22 (.slice (some ⟨g, 0, none⟩) len cap) none (some (.int .i64 (n : Int))) none).run Try.prog x = .ok (.slice (some ⟨g, 0, none⟩) n cap) x := by
  have hs : (sizeOf 3).run Try.prog x = .ok 1 x := by kernel_rfl
  have h0 : ¬ cap = 0 := by omega
  unfold Instr.slice
  simp [run_underlying Try.underlying22, Instr.sliceBounds, Instr.sliceBound, asIntOf, hs, Result.andThen, hn, h0, Addr.add]
theorem tail_run {g len cap n : Nat} (hn : n ≤ len) (x : World) :
    (Instr.slice 22 (.slice (some ⟨g, 0, none⟩) len cap) (some (.int .i64 (n : Int))) none none).run Try.prog x = .ok (.slice (if cap = n then some ⟨g, 0, none⟩ else (some (⟨g, 0, none⟩ : Addr)).map (·.add (n * 1))) (len - n) (cap - n)) x := by
  have hs : (sizeOf 3).run Try.prog x = .ok 1 x := by kernel_rfl
  unfold Instr.slice
  simp [run_underlying Try.underlying22, Instr.sliceBounds, Instr.sliceBound, asIntOf, hs, Result.andThen, hn]
theorem pin_get (l : List Nat) (i p : Nat) (h : l[i]? = some p) : (pinCells l)[i]? = some (.int .i64 (p : Int)) := by
  simp [pinCells, h]
def RUnpinEnd (base : Nat) (r : Rto) (t : Int) (w : World) (e : Ending) (w' : World) : Prop := e = .returned (.tuple #[]) ∧ RHolds w' base { r with pins := unpin r.pins t } ∧ RT base w w'
set_option maxRecDepth 100000 in
set_option maxHeartbeats 1600000 in
theorem runpin_any {w : World} {base : Nat} {r : Rto} (h : RHolds w base r) (t : Int) (hp : r.pins.length ≤ 10000) :
    Calls Try.prog 33 #[.pointer (some ⟨r.rb, 0, none⟩), .int .i64 t] w (RUnpinEnd base r t w) := by
  obtain ⟨i3, hi, hz, hy, hx⟩ := info_parts info3'
  have HR := Lib.hid h
  obtain ⟨vv, pv, h⟩ := h
  obtain ⟨c0, c1, c2, c3⟩ := h.cell
  obtain ⟨a3, k3, rfl⟩ := slice_of_owns h.prow
  have HH := Lib.hid h
  have hrlt := h.lt
  clear h c0 c1 c2
  go_enter Try.func33, Try.ntmps33
  go_wp2
  go_loopw [4] (fun i wr => ∃ (j : Nat), j ≤ r.pins.length ∧ i = .int .i64 j ∧ Hid (∀ q ∈ r.pins.take j, (q : Int) ≠ t) ∧ w = wr) (fun i _ => r.pins.length - (intOf i).toNat)
  case atStart => exact ⟨0, Nat.zero_le _, rfl, Lib.hid (by simp), rfl⟩
  case round =>
    obtain ⟨j, hj, rfl, HN, rfl⟩ := hrel
    by_cases hlt : j < r.pins.length
    · have h := HH.out
      obtain ⟨p, hu⟩ : ∃ p, r.pins[j]? = some p := ⟨r.pins[j], List.getElem?_eq_getElem hlt⟩
      obtain ⟨g, k3', e3, hgl⟩ := h.prow.form (by omega)
      obtain ⟨rfl, rfl⟩ : a3 = some ⟨g, 0, none⟩ ∧ k3 = k3' := by simpa using e3
      have hcell : w.cell? ⟨g, j, none⟩ = some (.int .i64 (p : Int)) := by
        have := (h.prow.cellAt (g := g) j (by omega)).trans (pin_get _ _ _ hu)
        exact this
      by_cases heq : (p : Int) = t
      · have hq : ((p : Int) == t) = true := by simpa using heq
        have hown : ((w.alloc (.cells #[] 3)).drew).ownsRow w.heap.size 3 1 (.slice (some ⟨w.heap.size, 0, none⟩) 0 0) 0 [] := (World.ownsRow_made w #[] 0 (Nat.le_refl _) (Nat.zero_le _) rfl : (w.alloc (.cells #[] 3)).ownsRow w.heap.size 3 1 (.slice (some ⟨w.heap.size, 0, none⟩) 0 0) 0 []).drew
        have hb1 : Below w.heap.size w ((w.alloc (.cells #[] 3)).drew) := ((Below.refl _ _).alloc (Nat.le_refl _) _).drew
        have hsb : ∀ x, Below w.heap.size w x → x.cell? ⟨r.rb, 3, none⟩ = some (.slice (some ⟨g, 0, none⟩) r.pins.length k3) := fun x hb => (hb.cell (p := ⟨r.rb, 3, none⟩) hrlt).trans c3
        have hf : ∀ x, Below w.heap.size w x → x.frozen? ⟨r.rb, 3, none⟩ = false := fun x hb => by simp [World.frozen?, hb.block r.rb hrlt, h.blk]
        have hcap : r.pins.length ≤ k3 := by
          rcases h.prow.2 with ⟨e1, h0⟩ | ⟨g', cap', cur', e1, _, _, h1, _⟩
          · omega
          · simp at e1
            obtain ⟨_, rfl⟩ := e1
            exact h1
        have hrd : Reads w w.heap.size 1 (some ⟨g, 0, none⟩) r.pins.length (pinCells r.pins) := Reads.of_own h.prow
        have hr1 : Reads w w.heap.size 1 (some ⟨g, 0, none⟩) j (pinCells (r.pins.take j)) := ⟨by simp [pinCells]; omega, fun hj0 => by
          obtain ⟨ad, e, hb, hc⟩ := hrd.2 (by omega)
          refine ⟨ad, e, hb, fun q u hu => hc q u ?_⟩
          simp only [pinCells, List.map_take] at hu
          rw [List.getElem?_take] at hu
          split at hu
          · exact hu
          · cases hu⟩
        have hsl1 : ∀ x, (Instr.slice 22 (.slice (some ⟨g, 0, none⟩) r.pins.length k3) none (some (.int .i64 (j : Int))) none).run Try.prog x = .ok (.slice (some ⟨g, 0, none⟩) j k3) x := fun x => head_run (by omega) (by omega) x
        have hsl2 : ∀ x, (Instr.slice 22 (.slice (some ⟨g, 0, none⟩) r.pins.length k3) (some (.int .i64 ((j : Int) + 1))) none none).run Try.prog x = .ok (.slice (if k3 = j + 1 then some ⟨g, 0, none⟩ else (some (⟨g, 0, none⟩ : Addr)).map (·.add ((j + 1) * 1))) (r.pins.length - (j + 1)) (k3 - (j + 1))) x := fun x => tail_run (n := j + 1) (by omega) x
        have hr2 := hrd.cut (k := j + 1) (cap := k3) (by omega) hcap
        rw [show (pinCells r.pins).drop ((j + 1) * 1) = pinCells (r.pins.drop (j + 1)) by simp [pinCells, List.map_drop]] at hr2
        revert hsl2 hr2
        generalize (if k3 = j + 1 then some (⟨g, 0, none⟩ : Addr) else (some (⟨g, 0, none⟩ : Addr)).map (·.add ((j + 1) * 1))) = A2
        intro hsl2 hr2
        have hg8 : ∀ w8, ((w.alloc (.cells #[] 3)).drew).grownBy w8 (Value.slice (some ⟨w.heap.size, 0, none⟩) 0 0).ownBlock → Below w.heap.size w w8 := fun w8 hg => hb1.grown hg hb1.size (fun k hk => by simp [Value.ownBlock] at hk; omega)
        have hg9 : ∀ (v8 : Value) (m : Nat) (w8 w9 : World), Below w.heap.size w w8 → w8.ownsRow w.heap.size 3 1 v8 m (pinCells (r.pins.take j)) → w8.grownBy w9 v8.ownBlock → Below w.heap.size w w9 := fun v8 m w8 w9 hb ho hg => hb.grown hg hb.size (fun k hk => (ho.lt k hk).1)
        have hfin : ∀ (v9 : Value) (m : Nat) (w9 : World), Below w.heap.size w w9 → w9.ownsRow w.heap.size 3 1 v9 m (pinCells (r.pins.take j) ++ pinCells (r.pins.drop (j + 1))) → Hid (RHolds (w9.setCell ⟨r.rb, 3, none⟩ v9) base { r with pins := unpin r.pins t } ∧ RT base w (w9.setCell ⟨r.rb, 3, none⟩ v9)) := fun v9 m w9 hb ho => by
          have e : unpin r.pins t = r.pins.take j ++ r.pins.drop (j + 1) := unpin_at r.pins j p t hu heq HN.out
          have e2 : pinCells (r.pins.take j) ++ pinCells (r.pins.drop (j + 1)) = pinCells (unpin r.pins t) := by rw [e]; simp [pinCells]
          rw [e2] at ho
          have hm : m = (unpin r.pins t).length := by have := ho.1; rw [pin_length] at this; omega
          rw [hm] at ho
          have := h.setP (pins' := unpin r.pins t) (u := v9) (w9 := w9) ⟨hb.os, hb.tape, hb.output, hb.size, fun k hk _ => hb.block k hk⟩ (ownsRow_base ho (by have := h.hrb; omega))
          exact Lib.hid ⟨⟨_, _, this.1⟩, this.2⟩
        have hwr : IntKind.i64.wrap ((j : Int) + 1) = (j : Int) + 1 := IntWalk.i64_in _ (by omega)
        have HOWN := Lib.hid hown
        have HB1 := Lib.hid hb1
        have HSB := Lib.hid hsb
        have HF := Lib.hid hf
        have HR1 := Lib.hid hr1
        have HR2 := Lib.hid hr2
        have HG8 := Lib.hid hg8
        have HG9 := Lib.hid hg9
        have HFIN := Lib.hid hfin
        clear hown hb1 hsb hf hr1 hr2 hg8 hg9 hfin hrd h hu heq hgl e3
        go_wp2_with fail
        refine PrintLast.start_ (n := 20) (S := fun w' => w'.cell? ⟨r.rb, 3, none⟩ = some (.slice (some ⟨g, 0, none⟩) r.pins.length k3)) (ds := [19]) #[false, false, false, false, false, false, false, false, false, false, false, false, false, false, false, false, false, false, false, false] (by kernel_rfl) rfl rfl (c3) (fun hHeld => ?_)
        refine PrintLast.pure_ (i := 0) (N := some 23) (v := ?_) (a' := ?_) #[true, false, false, false, false, false, false, false, false, false, false, false, false, false, false, false, false, false, false, false] rfl rfl (by kernel_rfl) (fun _ _ _ h => h) (Or.inl ⟨by rfl, ?_⟩) ?_ ?_
        rotate_left
        · intro w'
          go_simp
          with_reducible rfl
        rotate_left
        · simp only [Act.put, List.setIfInBounds_toArray, List.set_cons_zero, List.set_cons_succ]
          rfl
        refine PrintLast.pure_ (i := 2) (N := some 25) (v := ?_) (a' := ?_) #[true, false, true, false, false, false, false, false, false, false, false, false, false, false, false, false, false, false, false, false] rfl rfl (by kernel_rfl) (fun _ _ _ h => h) (Or.inl ⟨by rfl, ?_⟩) ?_ ?_
        rotate_left
        · intro w'
          go_simp
          with_reducible rfl
        rotate_left
        · simp only [Act.put, List.setIfInBounds_toArray, List.set_cons_zero, List.set_cons_succ]
          rfl
        refine PrintLast.pure_ (i := 3) (N := some 26) (v := ?_) (a' := ?_) #[true, false, true, true, false, false, false, false, false, false, false, false, false, false, false, false, false, false, false, false] rfl rfl (by kernel_rfl) (fun _ _ _ h => h) (Or.inl ⟨by rfl, ?_⟩) ?_ ?_
        rotate_left
        · intro w'
          go_simp
          with_reducible rfl
        rotate_left
        · simp only [Act.put, List.setIfInBounds_toArray, List.set_cons_zero, List.set_cons_succ]
          rfl
        refine PrintLast.pure_ (i := 4) (N := some 27) (v := ?_) (a' := ?_) #[true, false, true, true, true, false, false, false, false, false, false, false, false, false, false, false, false, false, false, false] rfl rfl (by kernel_rfl) (fun _ _ _ h => h) (Or.inl ⟨by rfl, ?_⟩) ?_ ?_
        rotate_left
        · intro w'
          go_simp
          with_reducible rfl
        rotate_left
        · simp only [Act.put, List.setIfInBounds_toArray, List.set_cons_zero, List.set_cons_succ]
          rfl
        refine PrintLast.pure_ (i := 6) (N := some 29) (v := ?_) (a' := ?_) #[true, false, true, true, true, false, true, false, false, false, false, false, false, false, false, false, false, false, false, false] rfl rfl (by kernel_rfl) (fun _ _ _ h => h) (Or.inl ⟨by rfl, ?_⟩) ?_ ?_
        rotate_left
        · intro w'
          go_simp
          with_reducible rfl
        rotate_left
        · simp only [Act.put, List.setIfInBounds_toArray, List.set_cons_zero, List.set_cons_succ]
          rfl
        refine PrintLast.pure_ (i := 9) (N := some 32) (v := ?_) (a' := ?_) #[true, false, true, true, true, false, true, false, false, true, false, false, false, false, false, false, false, false, false, false] rfl rfl (by kernel_rfl) (fun _ _ _ h => h) (Or.inl ⟨by rfl, ?_⟩) ?_ ?_
        rotate_left
        · intro w'
          go_simp
          with_reducible rfl
        rotate_left
        · simp only [Act.put, List.setIfInBounds_toArray, List.set_cons_zero, List.set_cons_succ]
          rfl
        refine PrintLast.pure_ (i := 10) (N := some 33) (v := ?_) (a' := ?_) #[true, false, true, true, true, false, true, false, false, true, true, false, false, false, false, false, false, false, false, false] rfl rfl (by kernel_rfl) (fun _ _ _ h => h) (Or.inl ⟨by rfl, ?_⟩) ?_ ?_
        rotate_left
        · intro w'
          go_simp
          with_reducible rfl
        rotate_left
        · simp only [Act.put, List.setIfInBounds_toArray, List.set_cons_zero, List.set_cons_succ]
          rfl
        refine PrintLast.pure_ (i := 11) (N := some 34) (v := ?_) (a' := ?_) #[true, false, true, true, true, false, true, false, false, true, true, true, false, false, false, false, false, false, false, false] rfl rfl (by kernel_rfl) (fun _ _ _ h => h) (Or.inl ⟨by rfl, ?_⟩) ?_ ?_
        rotate_left
        · intro w'
          go_simp
          with_reducible rfl
        rotate_left
        · simp only [Act.put, List.setIfInBounds_toArray, List.set_cons_zero, List.set_cons_succ]
          rfl
        refine PrintLast.pure_ (i := 13) (N := some 36) (v := ?_) (a' := ?_) #[true, false, true, true, true, false, true, false, false, true, true, true, false, true, false, false, false, false, false, false] rfl rfl (by kernel_rfl) (fun _ _ _ h => h) (Or.inl ⟨by rfl, ?_⟩) ?_ ?_
        rotate_left
        · intro w'
          go_simp
          with_reducible rfl
        rotate_left
        · simp only [Act.put, List.setIfInBounds_toArray, List.set_cons_zero, List.set_cons_succ]
          rfl
        refine PrintLast.pure_ (i := 14) (N := some 37) (v := ?_) (a' := ?_) #[true, false, true, true, true, false, true, false, false, true, true, true, false, true, true, false, false, false, false, false] rfl rfl (by kernel_rfl) (fun _ _ _ h => h) (Or.inl ⟨by rfl, ?_⟩) ?_ ?_
        rotate_left
        · intro w'
          go_simp
          with_reducible rfl
        rotate_left
        · simp only [Act.put, List.setIfInBounds_toArray, List.set_cons_zero, List.set_cons_succ]
          rfl
        refine PrintLast.take_ (i := 5) (N := some 28) (v := ?_) (a' := ?_) #[true, false, true, true, true, true, true, false, false, true, true, true, false, true, true, false, false, false, false, false] rfl rfl (by kernel_rfl) (fun _ _ _ h => h) (Or.inl ⟨by rfl, ?_⟩) hHeld ?_ ?_
        rotate_left
        · intro w' s0
          go_simp
          with_reducible rfl
        rotate_left
        · simp only [Act.put, List.setIfInBounds_toArray, List.set_cons_zero, List.set_cons_succ]
          rfl
        refine PrintLast.pure_ (i := 7) (N := some 30) (v := ?_) (a' := ?_) #[true, false, true, true, true, true, true, true, false, true, true, true, false, true, true, false, false, false, false, false] rfl rfl (by kernel_rfl) (fun _ _ _ h => h) (Or.inl ⟨by rfl, ?_⟩) ?_ ?_
        rotate_left
        · intro w'
          go_simp
          with_reducible rfl
        rotate_left
        · simp only [Act.put, List.setIfInBounds_toArray, List.set_cons_zero, List.set_cons_succ]
          rfl
        refine PrintLast.take_ (i := 12) (N := some 35) (v := ?_) (a' := ?_) #[true, false, true, true, true, true, true, true, false, true, true, true, true, true, true, false, false, false, false, false] rfl rfl (by kernel_rfl) (fun _ _ _ h => h) (Or.inl ⟨by rfl, ?_⟩) hHeld ?_ ?_
        rotate_left
        · intro w' s0
          go_simp
          with_reducible rfl
        rotate_left
        · simp only [Act.put, List.setIfInBounds_toArray, List.set_cons_zero, List.set_cons_succ]
          rfl
        refine PrintLast.pure_ (i := 15) (N := some 38) (v := ?_) (a' := ?_) #[true, false, true, true, true, true, true, true, false, true, true, true, true, true, true, true, false, false, false, false] rfl rfl (by kernel_rfl) (fun _ _ _ h => h) (Or.inl ⟨by rfl, ?_⟩) ?_ ?_
        rotate_left
        · intro w'
          go_simp
          with_reducible rfl
        rotate_left
        · simp only [Act.put, List.setIfInBounds_toArray, List.set_cons_zero, List.set_cons_succ]
          rfl
        refine PrintLast.one_ (i := 1) (N := some 24) #[true, true, true, true, true, true, true, true, false, true, true, true, true, true, true, true, false, false, false, false] rfl rfl (by kernel_rfl) (by decide) (fun K hK => ?_)
        refine PrintLast.value_ (w1 := ?_) (v := ?_) (by rfl) rfl ?_ ?_
        rotate_left 2
        · go_simp
          constructor
          · rfl
          · rfl
        refine hK.out _ _ (HSB.out _ HB1.out) (fun hHeld => ?_)
        clear hK K
        refine PrintLast.norm_ (a' := ?_) ?_ ?_
        rotate_left
        · show Act.put _ (some 24) _ = _
          simp only [Act.put, List.setIfInBounds_toArray, List.set_cons_zero, List.set_cons_succ]
          rfl
        refine PrintLast.one_ (i := 8) (N := some 31) #[true, true, true, true, true, true, true, true, true, true, true, true, true, true, true, true, false, false, false, false] rfl rfl (by kernel_rfl) (by decide) (fun K hK => ?_)
        refine step_append_any _ (by rfl) _ _ _ (by rfl) w.heap.size 3 i3 _ 1 8 Try.underlying22 hi hz hy hx rfl (by omega) _ _ _ (by rfl) HOWN.out w.heap.size (some ⟨g, 0, none⟩) j k3 (pinCells (r.pins.take j)) (by rfl) (HR1.out.below HB1.out) (pin_one _) (by unfold maxLen; omega) (by omega) HB1.out.size ?_
        intro v8 w8 hown8 hgrow8 _
        have hB8 := HG8.out w8 hgrow8
        obtain ⟨a8, c8, rfl⟩ := slice_of_owns hown8
        rw [Nat.zero_add, List.nil_append] at hown8
        rw [Nat.zero_add]
        refine hK.out _ _ (HSB.out _ hB8) (fun hHeld => ?_)
        clear hK K
        refine PrintLast.norm_ (a' := ?_) ?_ ?_
        rotate_left
        · show Act.put _ (some 31) _ = _
          simp only [Act.put, List.setIfInBounds_toArray, List.set_cons_zero, List.set_cons_succ]
          rfl
        refine PrintLast.one_ (i := 16) (N := some 39) #[true, true, true, true, true, true, true, true, true, true, true, true, true, true, true, true, true, false, false, false] rfl rfl (by kernel_rfl) (by decide) (fun K hK => ?_)
        refine step_append_any _ (by rfl) _ _ _ (by rfl) w.heap.size 3 i3 _ 1 8 Try.underlying22 hi hz hy hx rfl (by omega) _ _ _ (by rfl) hown8 w.heap.size A2 (r.pins.length - (j + 1)) (k3 - (j + 1)) (pinCells (r.pins.drop (j + 1))) (by rfl) (HR2.out.below hB8) (pin_one _) (by unfold maxLen; omega) (by omega) hB8.size ?_
        intro v9 w9 hown9 hgrow9 _
        have hB9 := HG9.out _ _ _ _ hB8 hown8 hgrow9
        obtain ⟨a9, c9, rfl⟩ := slice_of_owns hown9
        have f9 : w9.frozen? ⟨r.rb, 3, none⟩ = false := HF.out _ hB9
        refine hK.out _ _ (HSB.out _ hB9) (fun hHeld => ?_)
        clear hK K
        refine PrintLast.norm_ (a' := ?_) ?_ ?_
        rotate_left
        · show Act.put _ (some 39) _ = _
          simp only [Act.put, List.setIfInBounds_toArray, List.set_cons_zero, List.set_cons_succ]
          rfl
        refine PrintLast.pure_ (i := 17) (N := some 40) (v := ?_) (a' := ?_) #[true, true, true, true, true, true, true, true, true, true, true, true, true, true, true, true, true, true, false, false] rfl rfl (by kernel_rfl) (fun _ _ _ h => h) (Or.inl ⟨by rfl, ?_⟩) ?_ ?_
        rotate_left
        · intro w'
          go_simp
          with_reducible rfl
        rotate_left
        · simp only [Act.put, List.setIfInBounds_toArray, List.set_cons_zero, List.set_cons_succ]
          rfl
        refine PrintLast.pure_ (i := 18) (N := some 41) (v := ?_) (a' := ?_) #[true, true, true, true, true, true, true, true, true, true, true, true, true, true, true, true, true, true, true, false] rfl rfl (by kernel_rfl) (fun _ _ _ h => h) (Or.inl ⟨by rfl, ?_⟩) ?_ ?_
        rotate_left
        · intro w'
          go_simp
          with_reducible rfl
        rotate_left
        · simp only [Act.put, List.setIfInBounds_toArray, List.set_cons_zero, List.set_cons_succ]
          rfl
        refine PrintLast.last_ (i := 19) (N := none) #[true, true, true, true, true, true, true, true, true, true, true, true, true, true, true, true, true, true, true, true] rfl rfl (by kernel_rfl) (by decide) (fun K hK => ?_)
        refine PrintLast.skip_ (w1 := ?_) (by rfl) rfl ?_ ?_
        rotate_left
        · go_simp
          rfl
        refine hK.out _ _ ?_
        clear hK K
        refine PrintLast.done_ (by kernel_rfl) ?_
        have HX := HFIN.out _ _ _ hB9 hown9
        clear hown8 hgrow8 hown9 hgrow9 hB8 hB9 f9 hHeld
        go_wp2_with fail
        go_end0
        exact ⟨rfl, HX.out⟩
      · have hq : ((p : Int) == t) = false := by simpa using heq
        have HN' : Hid (∀ q ∈ r.pins.take (j + 1), (q : Int) ≠ t) := Lib.hid (by
          intro q hq'
          rw [List.take_add_one, hu] at hq'
          rcases List.mem_append.1 hq' with h1 | h1
          · exact HN.out q h1
          · simp at h1; rw [h1]; exact heq)
        clear hu heq h e3
        go_wp2_with fail
        go_roundw
        case rel => exact ⟨j + 1, by omega, by go_num, HN', by first | trivial | rfl⟩
        case measure => simp [intOf]; omega
    · obtain rfl : j = r.pins.length := by omega
      have e : unpin r.pins t = r.pins := unpin_none (fun q hq => HN.out q (by rw [List.take_length]; exact hq))
      have HE := Lib.hid e
      clear e
      go_wp2_with fail
      go_end0
      refine ⟨rfl, ?_, RT.refl _ _⟩
      rw [HE.out]
      exact HR.out
end Go.Proofs.Ytghddmlndafefaa
