/-
  What a store holds behind so many commits of the statements' own writes, and what is read of it.
-/
import Derived.Test.YtghddmlndafefaaStH
namespace Go.Proofs.Ytghddmlndafefaa
open Go.RowKit Go.Maps

def wn (m : Nat) : List Wr := wrs m (m % 3 + 1)
/-- The versions behind j commits; the i-th commit writes what the number f i says. -/
def hist (f : Nat → Nat) : Nat → List Ver
  | 0 => []
  | j + 1 => hist f j ++ vers (wn (f j)) (j + 1)
theorem wn_length_le (m : Nat) : (wn m).length ≤ 3 := by
  have := Nat.mod_lt m (show 0 < 3 by omega)
  simp [wn, wrs_length]; omega
theorem wn_mem {m : Nat} {x : Wr} (h : x ∈ wn m) : ∃ c, c < 5 ∧ x.key = letter c ∧ (x.gone = true ↔ x.val = ⟨#[]⟩) := by
  obtain ⟨i, _, rfl⟩ := List.mem_map.1 h
  refine ⟨(m / 3 + i) % 5, Nat.mod_lt _ (by omega), rfl, ?_⟩
  simp only [wrAt]
  by_cases hg : m / (41 + i) % 4 = 0
  · simp [hg]
  · simp only [hg, decide_false, if_false, Bool.false_eq_true, false_iff]
    have hc : m / (17 + i) % 5 < 5 := Nat.mod_lt _ (by omega)
    generalize m / (17 + i) % 5 = c at hc
    match c, hc with
    | 0, _ => decide
    | 1, _ => decide
    | 2, _ => decide
    | 3, _ => decide
    | 4, _ => decide
theorem wn_key_size {m : Nat} : ∀ x ∈ wn m, x.key.size ≤ maxLen := fun x hx => by
  obtain ⟨c, _, e, _⟩ := wn_mem hx
  rw [e]; exact letter_size c
theorem hist_length_le (f : Nat → Nat) : ∀ j, (hist f j).length ≤ 3 * j
  | 0 => Nat.le_refl _
  | j + 1 => by
    have := hist_length_le f j
    have := wn_length_le (f j)
    simp [hist, vers]; omega
theorem hist_at (f : Nat → Nat) : ∀ j, ∀ v ∈ hist f j, v.at_ ≤ j
  | 0, v, h => by simp [hist] at h
  | j + 1, v, h => by
    rcases List.mem_append.1 h with h | h
    · have := hist_at f j v h; omega
    · obtain ⟨x, _, rfl⟩ := List.mem_map.1 h
      exact Nat.le_refl _
theorem hist_gone (f : Nat → Nat) : ∀ j, ∀ v ∈ hist f j, (v.gone = true ↔ v.val = ⟨#[]⟩)
  | 0, v, h => by simp [hist] at h
  | j + 1, v, h => by
    rcases List.mem_append.1 h with h | h
    · exact hist_gone f j v h
    · obtain ⟨x, hx, rfl⟩ := List.mem_map.1 h
      obtain ⟨_, _, _, hg⟩ := wn_mem hx
      exact hg
theorem mem_ofKey {L : List Ver} {k : ByteArray} {v : Ver} (h : v ∈ ofKey L k) : v ∈ L := (List.mem_filter.1 h).1
theorem vers_at {ws : List Wr} {t : Nat} {v : Ver} (h : v ∈ vers ws t) : v.at_ = t := by
  obtain ⟨x, _, rfl⟩ := List.mem_map.1 h
  rfl

theorem vis_all (l : List Ver) (at_ : Int) (h : ∀ v ∈ l, (v.at_ : Int) ≤ at_) : vis l at_ = l.getLast? := by
  unfold vis
  rw [List.filter_eq_self.2 (fun v hv => decide_eq_true (h v hv))]
theorem vis_old (l l' : List Ver) (at_ : Int) (h : ∀ v ∈ l, (v.at_ : Int) ≤ at_) (h' : ∀ v ∈ l', at_ < (v.at_ : Int)) : vis (l ++ l') at_ = l.getLast? := by
  unfold vis
  rw [List.filter_append, List.filter_eq_self.2 (fun v hv => decide_eq_true (h v hv)), List.filter_eq_nil_iff.2 (fun v hv => by have := h' v hv; simp; omega), List.append_nil]

/-- The value that was written last at a key; none: the empty text. -/
def valOf : Option Ver → ByteArray
  | none => ⟨#[]⟩
  | some v => v.val
def lastOf (L : List Ver) (k : Nat) : ByteArray := valOf (ofKey L (letter k)).getLast?
theorem lastOf_snoc (L : List Ver) (x : Wr) (t k : Nat) : lastOf (L ++ [x.ver t]) k = if x.key = letter k then x.val else lastOf L k := by
  unfold lastOf
  rw [ofKey_append, ofKey_ver]
  by_cases h : x.key = letter k <;> simp [h, valOf, Wr.ver]
theorem readOf_last {o : Option Ver} (h : ∀ v, o = some v → (v.gone = true ↔ v.val = ⟨#[]⟩)) : readOf o = (valOf o, decide (valOf o ≠ ⟨#[]⟩)) := by
  cases o with
  | none => rfl
  | some v =>
    have := h v rfl
    cases hg : v.gone
    · have hv : v.val ≠ ⟨#[]⟩ := fun e => by rw [this.2 e] at hg; cases hg
      simp [readOf, valOf, hg, hv]
    · have hv : v.val = ⟨#[]⟩ := this.1 hg
      simp [readOf, valOf, hg, hv]

theorem read_now (f : Nat → Nat) (j k : Nat) : readOf (vis (ofKey (hist f j) (letter k)) (j : Int)) = (lastOf (hist f j) k, decide (lastOf (hist f j) k ≠ ⟨#[]⟩)) := by
  rw [vis_all _ _ (fun v hv => by have := hist_at f j v (mem_ofKey hv); omega)]
  exact readOf_last (fun v hv => hist_gone f j v (mem_ofKey (List.mem_of_getLast? hv)))
theorem read_before (f : Nat → Nat) (j k : Nat) : readOf (vis (ofKey (hist f (j + 1)) (letter k)) (j : Int)) = (lastOf (hist f j) k, decide (lastOf (hist f j) k ≠ ⟨#[]⟩)) := by
  show readOf (vis (ofKey (hist f j ++ vers (wn (f j)) (j + 1)) (letter k)) (j : Int)) = _
  rw [ofKey_append, vis_old _ _ _ (fun v hv => by have := hist_at f j v (mem_ofKey hv); omega) (fun v hv => by rw [vers_at (mem_ofKey hv)]; omega)]
  rw [readOf_last (fun v hv => hist_gone f j v (mem_ofKey (List.mem_of_getLast? hv)))]
  rfl

theorem writes_int (a : Int) (h0 : 0 ≤ a) (h1 : a ≤ 2000000000) (w : World) : Calls Try.prog 17 #[.int .i64 a] w (WritesEnd a.toNat w) := by
  obtain ⟨n, rfl⟩ := Int.eq_ofNat_of_zero_le h0
  exact writes_any n (by omega) w

/-- The five last values, in their cells. -/
def lastCells (L : List Ver) : Array Value := #[.string (lastOf L 0), .string (lastOf L 1), .string (lastOf L 2), .string (lastOf L 3), .string (lastOf L 4)]
theorem lastCells_snoc (L : List Ver) (x : Wr) (t c : Nat) (hc : c < 5) (hx : x.key = letter c) : lastCells (L ++ [x.ver t]) = (lastCells L).setIfInBounds c (.string x.val) := by
  unfold lastCells
  simp only [lastOf_snoc, hx]
  match c, hc with
  | 0, _ => simp [show letter 0 ≠ letter 1 by decide, show letter 0 ≠ letter 2 by decide, show letter 0 ≠ letter 3 by decide, show letter 0 ≠ letter 4 by decide]
  | 1, _ => simp [show letter 1 ≠ letter 0 by decide, show letter 1 ≠ letter 2 by decide, show letter 1 ≠ letter 3 by decide, show letter 1 ≠ letter 4 by decide]
  | 2, _ => simp [show letter 2 ≠ letter 0 by decide, show letter 2 ≠ letter 1 by decide, show letter 2 ≠ letter 3 by decide, show letter 2 ≠ letter 4 by decide]
  | 3, _ => simp [show letter 3 ≠ letter 0 by decide, show letter 3 ≠ letter 1 by decide, show letter 3 ≠ letter 2 by decide, show letter 3 ≠ letter 4 by decide]
  | 4, _ => simp [show letter 4 ≠ letter 0 by decide, show letter 4 ≠ letter 1 by decide, show letter 4 ≠ letter 2 by decide, show letter 4 ≠ letter 3 by decide]
theorem lastCells_get (L : List Ver) (k : Nat) (h : k < 5) : (lastCells L)[k]? = some (.string (lastOf L k)) := by
  match k, h with
  | 0, _ => rfl
  | 1, _ => rfl
  | 2, _ => rfl
  | 3, _ => rfl
  | 4, _ => rfl
theorem tdiv_bounds {z : Int} (h1 : -9223372036854775808 ≤ z) (h2 : z ≤ 9223372036854775807) : -9223372036854775808 ≤ z.tdiv 7 ∧ z.tdiv 7 ≤ 9223372036854775807 := by
  by_cases h : 0 ≤ z
  · rw [Int.tdiv_eq_ediv_of_nonneg h]; omega
  · obtain ⟨b, rfl⟩ : ∃ b : Int, z = -b := ⟨-z, by omega⟩
    rw [Int.neg_tdiv, Int.tdiv_eq_ediv_of_nonneg (by omega)]; omega

/-- The stamp of what was written last at a key; none: 0. -/
def stampOf : Option Ver → Nat
  | none => 0
  | some v => v.at_
def atOf (L : List Ver) (k : Nat) : Nat := stampOf (ofKey L (letter k)).getLast?
theorem atOf_snoc (L : List Ver) (x : Wr) (t k : Nat) : atOf (L ++ [x.ver t]) k = if x.key = letter k then t else atOf L k := by
  unfold atOf
  rw [ofKey_append, ofKey_ver]
  by_cases h : x.key = letter k <;> simp [h, stampOf, Wr.ver]
def atCells (L : List Ver) : Array Value := #[.int .i64 (atOf L 0), .int .i64 (atOf L 1), .int .i64 (atOf L 2), .int .i64 (atOf L 3), .int .i64 (atOf L 4)]
theorem atCells_snoc (L : List Ver) (x : Wr) (t c : Nat) (hc : c < 5) (hx : x.key = letter c) : atCells (L ++ [x.ver t]) = (atCells L).setIfInBounds c (.int .i64 t) := by
  unfold atCells
  simp only [atOf_snoc, hx]
  match c, hc with
  | 0, _ => simp [show letter 0 ≠ letter 1 by decide, show letter 0 ≠ letter 2 by decide, show letter 0 ≠ letter 3 by decide, show letter 0 ≠ letter 4 by decide]
  | 1, _ => simp [show letter 1 ≠ letter 0 by decide, show letter 1 ≠ letter 2 by decide, show letter 1 ≠ letter 3 by decide, show letter 1 ≠ letter 4 by decide]
  | 2, _ => simp [show letter 2 ≠ letter 0 by decide, show letter 2 ≠ letter 1 by decide, show letter 2 ≠ letter 3 by decide, show letter 2 ≠ letter 4 by decide]
  | 3, _ => simp [show letter 3 ≠ letter 0 by decide, show letter 3 ≠ letter 1 by decide, show letter 3 ≠ letter 2 by decide, show letter 3 ≠ letter 4 by decide]
  | 4, _ => simp [show letter 4 ≠ letter 0 by decide, show letter 4 ≠ letter 1 by decide, show letter 4 ≠ letter 2 by decide, show letter 4 ≠ letter 3 by decide]
theorem atCells_get (L : List Ver) (k : Nat) (h : k < 5) : (atCells L)[k]? = some (.int .i64 (atOf L k)) := by
  match k, h with
  | 0, _ => rfl
  | 1, _ => rfl
  | 2, _ => rfl
  | 3, _ => rfl
  | 4, _ => rfl
theorem changed_at (L : List Ver) (k : Nat) (since : Int) (h : 0 ≤ since) : changedOf (ofKey L (letter k)) since = decide (since < (atOf L k : Int)) := by
  unfold changedOf atOf
  cases (ofKey L (letter k)).getLast? with
  | none => show false = decide (since < 0); exact (decide_eq_false (by omega)).symm
  | some v => rfl
theorem vers_take_succ (ws : List Wr) (t p : Nat) (u : Wr) (h : ws[p]? = some u) : vers (ws.take (p + 1)) t = vers (ws.take p) t ++ [u.ver t] := by
  simp [vers, List.take_add_one, h]
theorem setCell_block (w : World) (b o : Nat) (v : Value) (cs : Array Value) (t : TypeId) (fr : Nat × Nat) (h : w.heap[b]? = some (.cells cs t fr)) : (w.setCell ⟨b, o, none⟩ v).heap[b]? = some (.cells (cs.setIfInBounds o v) t fr) := by
  simp [World.setCell, Array.getElem?_modify, h]
/-- A store is kept where one block of another element type is written. -/
theorem Holds.beside {w w' : World} {base : Nat} {s : Sto} {D PD : DataW Value} (h : Holds w base s D PD) {B : Nat} {cs : Array Value} {t : TypeId} {fr : Nat × Nat} (hB : w.heap[B]? = some (.cells cs t fr)) (ht : t ≠ 65) (ht' : t ≠ 70) (hT : Turn (fun k => k = B) w w') : Holds w' base s D PD := by
  obtain ⟨l1, l2, l3⟩ := h.lts
  obtain ⟨es0, ck0, hkb, _⟩ := h.own
  obtain ⟨es1, ck1, hpb, _⟩ := h.pown
  refine h.keep (hT.block _ l1 (fun e => ?_)) (hT.block _ l2 (fun e => ?_)) (hT.block _ l3 (fun e => ?_)) (fun k cur hk => hT.block _ (Array.getElem?_eq_some_iff.1 hk).1 (fun e => ?_))
  · have := h.blk; rw [e, hB] at this; simp at this; exact ht this.2.1
  · rw [e, hB] at hpb; simp at hpb
  · rw [e, hB] at hkb; simp at hkb
  · rw [e, hB] at hk; simp at hk; exact ht' hk.2.1

theorem Turn.drew {S : Nat → Prop} {a b : World} (h : Turn S a b) : Turn S a b.drew := ⟨h.os, h.tape, h.output, h.size, h.block⟩

theorem letter_cases {c : Nat} (h : c < 5) : letter c = ⟨#[97 + c.toUInt8]⟩ := by
  match c, h with
  | 0, _ => rfl
  | 1, _ => rfl
  | 2, _ => rfl
  | 3, _ => rfl
  | 4, _ => rfl

/-- A slice of numbers that came in: it is empty, or its numbers lie in cells. -/
theorem row_open {w : World} {a : Option Addr} {len cap : Nat} {zs : List Int}
    (h : (a = none ∧ len = 0 ∧ cap = 0 ∧ zs = []) ∨ ∃ x, a = some x ∧ len ≤ cap ∧ cap ≤ maxLen ∧ zs.length = cap ∧ (∀ i, i < zs.length → w.cell? (x.add i) = some (.int .i64 (zs.getD i 0))) ∧ ∀ n ∈ zs, (Lit.int .i64 n).wf = true) :
    len = 0 ∨ ∃ b off, a = some ⟨b, off, none⟩ ∧ len ≤ maxLen ∧ b < w.heap.size ∧ ∀ i, i < len → w.cell? ⟨b, off + i, none⟩ = some (.int .i64 (zs.getD i 0)) ∧ -9223372036854775808 ≤ zs.getD i 0 ∧ zs.getD i 0 ≤ 9223372036854775807 := by
  rcases h with ⟨_, h, _, _⟩ | ⟨x, rfl, hl, hm, hz, hcell, hwz⟩
  · exact .inl h
  · by_cases h0 : len = 0
    · exact .inl h0
    · obtain ⟨b, off, spot⟩ := x
      have hc := hcell 0 (by omega)
      have hspot : spot = none := by simpa [Addr.add] using World.cell?_spot hc
      subst hspot
      refine .inr ⟨b, off, rfl, Nat.le_trans hl hm, ?_, fun i hi => ⟨?_, ?_⟩⟩
      · have := World.block_lt_of_cell? w _ hc
        simpa [Addr.add] using this
      · have := hcell i (by omega)
        by_cases hi0 : i = 0
        · subst hi0; simpa [Addr.add] using this
        · simpa [Addr.add, hi0] using this
      · refine wf_bounds (hwz _ ?_)
        rw [List.getD_eq_getElem?_getD, List.getElem?_eq_getElem (by omega)]
        exact List.getElem_mem _

/-- The numbers of a slice that came in. -/
def numAt (zs : List Int) (i : Nat) : Nat := (zs.getD i 0 % 1073741824).toNat
end Go.Proofs.Ytghddmlndafefaa
