/-
  What is left, and what is read, where Clean has gone over a store without pins.
-/
import Derived.Test.YtghddmlndafefaaStO
namespace Go.Proofs.Ytghddmlndafefaa
open Go.RowKit Go.Maps

theorem WrIs.below {w w' : World} {v : Value} {ws : List Wr} (h : WrIs w v ws) (hb : Below w.heap.size w w') : WrIs w' v ws := by
  rcases h with h | ⟨g, off, cap, rfl, hc⟩
  · exact .inl h
  · refine .inr ⟨g, off, cap, rfl, fun i u hu => ?_⟩
    obtain ⟨a, b, c⟩ := hc i u hu
    have hg := World.block_lt_of_cell? w _ a
    have e := fun o => hb.cell (p := ⟨g, o, none⟩) hg
    exact ⟨(e _).trans a, (e _).trans b, (e _).trans c⟩
theorem leadN_all {l : List Ver} {low : Nat} (h : ∀ u ∈ l, u.at_ ≤ low) : leadN l low = l.length := by
  induction l with
  | nil => rfl
  | cons v l ih => rw [leadN_cons_pos (h v (by simp)), ih (fun u hu => h u (by simp [hu]))]; rfl
/-- The newest version, if it is there. -/
def newestOf : Option Ver → List Ver
  | none => []
  | some u => if u.gone then [] else [u]
theorem drop_gone {l : List Ver} {low : Nat} (h : ∀ u ∈ l, u.at_ ≤ low) : l.drop (goneN l low) = newestOf l.getLast? := by
  rcases List.eq_nil_or_concat l with rfl | ⟨l', u, rfl⟩
  · rfl
  · have hl := leadN_all h
    unfold goneN
    rw [hl]
    simp only [List.concat_eq_append, List.length_append, List.length_singleton, Nat.add_sub_cancel]
    rw [List.getElem?_append_right (Nat.le_refl _)]
    simp only [Nat.sub_self, List.getElem?_cons_zero, List.getLast?_append, List.getLast?_singleton, Option.some_or]
    cases hg : u.gone
    · simp [newestOf, hg]
    · simp [newestOf, hg]
theorem cleaned_row {L : List Ver} {low : Nat} (hs : Sorted L) (h : ∀ v ∈ L, v.at_ ≤ low) (k : ByteArray) : ofKey (cleanL low L) k = newestOf (ofKey L k).getLast? := by
  unfold cleanL
  rw [ofKey_keep_in _ low rfl L hs]
  exact drop_gone (fun u hu => h u (mem_ofKey hu))
theorem newestOf_last (o : Option Ver) : newestOf (newestOf o).getLast? = newestOf o := by
  cases o with
  | none => rfl
  | some u => cases h : u.gone <;> simp [newestOf, h]
def Lettered (L : List Ver) : Prop := ∀ v ∈ L, ∃ c, c < 5 ∧ v.key = letter c
theorem rows_length : ∀ (L : List Ver), Lettered L → L.length = (ofKey L (letter 0)).length + (ofKey L (letter 1)).length + (ofKey L (letter 2)).length + (ofKey L (letter 3)).length + (ofKey L (letter 4)).length
  | [], _ => rfl
  | v :: L, h => by
    have ih := rows_length L (fun u hu => h u (by simp [hu]))
    obtain ⟨c, hc, hv⟩ := h v (by simp)
    simp only [ofKey_cons, hv, List.length_cons]
    match c, hc with
    | 0, _ => simp [show letter 0 ≠ letter 1 by decide, show letter 0 ≠ letter 2 by decide, show letter 0 ≠ letter 3 by decide, show letter 0 ≠ letter 4 by decide]; omega
    | 1, _ => simp [show letter 1 ≠ letter 0 by decide, show letter 1 ≠ letter 2 by decide, show letter 1 ≠ letter 3 by decide, show letter 1 ≠ letter 4 by decide]; omega
    | 2, _ => simp [show letter 2 ≠ letter 0 by decide, show letter 2 ≠ letter 1 by decide, show letter 2 ≠ letter 3 by decide, show letter 2 ≠ letter 4 by decide]; omega
    | 3, _ => simp [show letter 3 ≠ letter 0 by decide, show letter 3 ≠ letter 1 by decide, show letter 3 ≠ letter 2 by decide, show letter 3 ≠ letter 4 by decide]; omega
    | 4, _ => simp [show letter 4 ≠ letter 0 by decide, show letter 4 ≠ letter 1 by decide, show letter 4 ≠ letter 2 by decide, show letter 4 ≠ letter 3 by decide]; omega
theorem hist_letter (f : Nat → Nat) : ∀ j, Lettered (hist f j)
  | 0, v, h => by simp [hist] at h
  | j + 1, v, h => by
    rcases List.mem_append.1 h with h | h
    · exact hist_letter f j v h
    · obtain ⟨x, hx, rfl⟩ := List.mem_map.1 h
      obtain ⟨c, hc, e, _⟩ := wn_mem hx
      exact ⟨c, hc, e⟩
theorem hist_sorted (f : Nat → Nat) : ∀ j, Sorted (hist f j)
  | 0 => sorted_nil
  | j + 1 => sorted_snoc (hist_sorted f j) (hist_at f j) _
theorem clean_lettered {L : List Ver} (h : Lettered L) (low : Nat) : Lettered (cleanL low L) := fun v hv => h v ((keepL_sub _ low L).subset hv)
theorem clean_twice {L : List Ver} {low : Nat} (hs : Sorted L) (h : ∀ v ∈ L, v.at_ ≤ low) (hl : Lettered L) : (cleanL low (cleanL low L)).length = (cleanL low L).length := by
  have hs' := sorted_clean hs low
  have h' : ∀ v ∈ cleanL low L, v.at_ ≤ low := fun v hv => h v ((keepL_sub _ low L).subset hv)
  rw [rows_length _ (clean_lettered (clean_lettered hl low) low), rows_length _ (clean_lettered hl low)]
  simp only [cleaned_row hs' h', cleaned_row hs h, newestOf_last]
/-- Is there a value? -/
def isIn (L : List Ver) (k : Nat) : Nat := if lastOf L k = ⟨#[]⟩ then 0 else 1
theorem newest_length (L : List Ver) (h : ∀ v ∈ L, (v.gone = true ↔ v.val = ⟨#[]⟩)) (k : Nat) : (newestOf (ofKey L (letter k)).getLast?).length = isIn L k := by
  unfold isIn lastOf
  cases hg : (ofKey L (letter k)).getLast? with
  | none => rfl
  | some u =>
    have hu := h u (mem_ofKey (List.mem_of_getLast? hg))
    simp only [newestOf, valOf]
    cases hgo : u.gone
    · have : ¬ u.val = ⟨#[]⟩ := fun e => by rw [hu.2 e] at hgo; cases hgo
      simp [this]
    · simp [hu.1 hgo]
def wantOf (L : List Ver) : Nat → Nat
  | 0 => 0
  | k + 1 => wantOf L k + isIn L k
theorem clean_want {L : List Ver} {low : Nat} (hs : Sorted L) (h : ∀ v ∈ L, v.at_ ≤ low) (hl : Lettered L) (hg : ∀ v ∈ L, (v.gone = true ↔ v.val = ⟨#[]⟩)) : (cleanL low L).length = wantOf L 5 := by
  rw [rows_length _ (clean_lettered hl low)]
  simp only [cleaned_row hs h, newest_length L hg, wantOf]
  omega
theorem read_clean {L : List Ver} {low : Nat} (hs : Sorted L) (h : ∀ v ∈ L, v.at_ ≤ low) (hg : ∀ v ∈ L, (v.gone = true ↔ v.val = ⟨#[]⟩)) (k : Nat) : readOf (vis (ofKey (cleanL low L) (letter k)) (low : Int)) = (lastOf L k, decide (lastOf L k ≠ ⟨#[]⟩)) := by
  rw [cleaned_row hs h]
  unfold lastOf
  cases hgl : (ofKey L (letter k)).getLast? with
  | none => rfl
  | some u =>
    have hm := mem_ofKey (List.mem_of_getLast? hgl)
    have hu := hg u hm
    have ha := h u hm
    simp only [newestOf, valOf]
    cases hgo : u.gone
    · have hv : ¬ u.val = ⟨#[]⟩ := fun e => by rw [hu.2 e] at hgo; cases hgo
      simp [vis, ha, readOf, hgo, hv]
    · simp [vis, readOf, hu.1 hgo]

/-! ### reads at a stamp that Clean spares -/
theorem vis_drop {l : List Ver} {low : Nat} {at_ : Int} (ha : (low : Int) ≤ at_) : readOf (vis (l.drop (goneN l low)) at_) = readOf (vis l at_) := by
  have key : ∀ (l1 l2 : List Ver), (∃ u ∈ l2, (u.at_ : Int) ≤ at_) → vis (l1 ++ l2) at_ = vis l2 at_ := by
    intro l1 l2 ⟨u, hu, hua⟩
    unfold vis
    rw [List.filter_append, List.getLast?_append]
    have hne : (l2.filter fun v => decide ((v.at_ : Int) ≤ at_)) ≠ [] := by
      intro e
      have : u ∈ (l2.filter fun v => decide ((v.at_ : Int) ≤ at_)) := by simp [hu, hua]
      rw [e] at this; simp at this
    cases hx : (l2.filter fun v => decide ((v.at_ : Int) ≤ at_)).getLast? with
    | none => exact absurd (List.getLast?_eq_none_iff.1 hx) hne
    | some x => rfl
  have hle := leadN_le l low
  by_cases h0 : leadN l low = 0
  · rw [goneN_zero h0]; rfl
  obtain ⟨m, hm⟩ : ∃ m, leadN l low = m + 1 := ⟨leadN l low - 1, by omega⟩
  obtain ⟨u, hu⟩ : ∃ u, l[m]? = some u := ⟨l[m], List.getElem?_eq_getElem (by omega)⟩
  have hua : u.at_ ≤ low := (leadN_at (by omega) hu).2 (by omega)
  have hgn : goneN l low = if u.gone = false then m else m + 1 := by
    unfold goneN
    rw [hm]
    simp only [Nat.add_sub_cancel, hu]
    by_cases hg : u.gone = false <;> simp [hg]
  have hml : m < l.length := by omega
  have hd : l.drop m = u :: l.drop (m + 1) := by
    rw [List.drop_eq_getElem_cons hml]
    rw [(List.getElem?_eq_some_iff.1 hu).2]
  have e1 : vis l at_ = vis (u :: l.drop (m + 1)) at_ := by
    have := key (l.take m) (l.drop m) ⟨u, by rw [hd]; simp, by omega⟩
    rw [List.take_append_drop] at this
    rw [this, hd]
  rw [e1, hgn]
  cases hg : u.gone
  · simp only [if_true]; rw [hd]
  · simp only [Bool.true_eq_false, if_false]
    by_cases hx : ∃ x ∈ l.drop (m + 1), (x.at_ : Int) ≤ at_
    · exact (congrArg readOf (key [u] _ hx)).symm
    · have hn : (l.drop (m + 1)).filter (fun v => decide ((v.at_ : Int) ≤ at_)) = [] := by
        rw [List.filter_eq_nil_iff]
        intro x hxm hxa
        exact hx ⟨x, hxm, by simpa using hxa⟩
      have hua' : (u.at_ : Int) ≤ at_ := by omega
      simp [vis, hn, hua', readOf, hg]
theorem read_kept {L : List Ver} (hs : Sorted L) {low : Nat} {at_ : Int} (ha : (low : Int) ≤ at_) (k : ByteArray) : readOf (vis (ofKey (cleanL low L) k) at_) = readOf (vis (ofKey L k) at_) := by
  unfold cleanL
  rw [ofKey_keep_in _ low rfl L hs]
  exact vis_drop ha
theorem read_more (L : List Ver) (ws : List Wr) (n : Nat) {at_ : Int} (ha : at_ ≤ (n : Int)) (k : ByteArray) : readOf (vis (ofKey (L ++ vers ws (n + 1)) k) at_) = readOf (vis (ofKey L k) at_) := by
  rw [ofKey_append]
  have : vis (ofKey L k ++ ofKey (vers ws (n + 1)) k) at_ = vis (ofKey L k) at_ := by
    unfold vis
    have hn : (ofKey (vers ws (n + 1)) k).filter (fun v => decide ((v.at_ : Int) ≤ at_)) = [] := by
      rw [List.filter_eq_nil_iff]
      intro v hv
      have := vers_stamp (mem_ofKey hv)
      simp; omega
    rw [List.filter_append, hn, List.append_nil]
  rw [this]
end Go.Proofs.Ytghddmlndafefaa
