/-
  Rows beside a store: what is kept of each where the other turns.
-/
import Derived.Test.YtghddmlndafefaaStQ
namespace Go.Proofs.Ytghddmlndafefaa
open Go.RowKit Go.Maps

/-- A store is kept where a row of another element type grows. -/
theorem Holds.grown {w w' : World} {base base' : Nat} {s : Sto} {D PD : DataW Value} (h : Holds w base s D PD) {e : TypeId} {size n : Nat} {v : Value} {xs : List Value} (hr : w.ownsRow base' e size v n xs) (he : e ≠ 65) (he' : e ≠ 70) (hg : w.grownBy w' v.ownBlock) : Holds w' base s D PD := by
  rcases hr.2 with ⟨rfl, _⟩ | ⟨g, cap, cur, rfl, _, hb, _⟩
  · exact h.below ⟨hg.os, hg.tape, hg.output, hg.size, fun k hk => hg.block k hk (by simp [Value.ownBlock])⟩
  · exact h.beside hb he he' (Turn.of_grown hg (fun k hk => by simp [Value.ownBlock] at hk; exact hk.symm))
/-- A row of another element type is kept where a store turns. -/
theorem Holds.row {w w' : World} {base base' : Nat} {s : Sto} {D PD : DataW Value} (h : Holds w base s D PD) {e : TypeId} {size n : Nat} {v : Value} {xs : List Value} (hr : w.ownsRow base' e size v n xs) (he : e ≠ 65) (hT : Turn (Bs s) w w') : w'.ownsRow base' e size v n xs := by
  obtain ⟨es0, ck0, hkb, _⟩ := h.own
  obtain ⟨es1, ck1, hpb, _⟩ := h.pown
  refine ownsRow_of_blocks hr (fun k cur hk => hT.block k (Array.getElem?_eq_some_iff.1 hk).1 ?_)
  rintro (rfl | rfl | rfl)
  · have := h.blk; rw [hk] at this; simp at this; exact he (by first | exact this | exact this.2)
  · rw [hk] at hpb; simp at hpb
  · rw [hk] at hkb; simp at hkb
theorem ownsRow_below {w w' : World} {base : Nat} {e : TypeId} {size n : Nat} {v : Value} {xs : List Value} (hr : w.ownsRow base e size v n xs) (hb : Below w.heap.size w w') : w'.ownsRow base e size v n xs :=
  ownsRow_of_blocks hr (fun k _ hk => hb.block k (Array.getElem?_eq_some_iff.1 hk).1)
theorem Turn.kb {s : Sto} {w w' : World} (h : Turn (fun k => k = s.kb) w w') : Turn (Bs s) w w' := h.mono (fun _ _ e => .inr (.inr e))
theorem Turn.pb {s : Sto} {w w' : World} (h : Turn (fun k => k = s.pb) w w') : Turn (Bs s) w w' := h.mono (fun _ _ e => .inr (.inl e))
theorem Turn.sk {s : Sto} {w w' : World} (h : Turn (fun k => k = s.sb ∨ k = s.kb) w w') : Turn (Bs s) w w' := h.mono (fun _ _ e => e.elim .inl (fun e => .inr (.inr e)))

/-- What is read at a stamp of the five keys. -/
def rdV (L : List Ver) (p : Nat) (q : Nat) : ByteArray := (readOf (vis (ofKey L (letter q)) (p : Int))).1
def rdB (L : List Ver) (p : Nat) (q : Nat) : Bool := (readOf (vis (ofKey L (letter q)) (p : Int))).2
def rdVs (L : List Ver) (p m : Nat) : List Value := (List.range m).map fun q => .string (rdV L p q)
def rdBs (L : List Ver) (p m : Nat) : List Value := (List.range m).map fun q => .bool (rdB L p q)
theorem rdVs_succ (L : List Ver) (p m : Nat) : rdVs L p (m + 1) = rdVs L p m ++ [.string (rdV L p m)] := by simp [rdVs, List.range_succ]
theorem rdBs_succ (L : List Ver) (p m : Nat) : rdBs L p (m + 1) = rdBs L p m ++ [.bool (rdB L p m)] := by simp [rdBs, List.range_succ]
theorem rdVs_get (L : List Ver) (p m q : Nat) (h : q < m) : (rdVs L p m)[q]? = some (.string (rdV L p q)) := by simp [rdVs, h]
theorem rdBs_get (L : List Ver) (p m q : Nat) (h : q < m) : (rdBs L p m)[q]? = some (.bool (rdB L p q)) := by simp [rdBs, h]
theorem rd_pair (L : List Ver) (p q : Nat) : readOf (vis (ofKey L (letter q)) (p : Int)) = (rdV L p q, rdB L p q) := rfl
theorem rd_clean {L : List Ver} (hs : Sorted L) {low p : Nat} (ha : low ≤ p) (m : Nat) : rdVs (cleanL low L) p m = rdVs L p m ∧ rdBs (cleanL low L) p m = rdBs L p m := by
  have h : ∀ q, readOf (vis (ofKey (cleanL low L) (letter q)) (p : Int)) = readOf (vis (ofKey L (letter q)) (p : Int)) := fun q => read_kept hs (by omega) _
  unfold rdVs rdBs rdV rdB
  simp only [h]
  exact ⟨trivial, trivial⟩
theorem rd_more (L : List Ver) (ws : List Wr) {n p : Nat} (ha : p ≤ n) (m : Nat) : rdVs (L ++ vers ws (n + 1)) p m = rdVs L p m ∧ rdBs (L ++ vers ws (n + 1)) p m = rdBs L p m := by
  have h : ∀ q, readOf (vis (ofKey (L ++ vers ws (n + 1)) (letter q)) (p : Int)) = readOf (vis (ofKey L (letter q)) (p : Int)) := fun q => read_more L ws n (by omega) _
  unfold rdVs rdBs rdV rdB
  simp only [h]
  exact ⟨trivial, trivial⟩
theorem tmod_min {a : Int} (h : -9223372036854775808 < a) (h' : a ≤ 9223372036854775807) : a.tmod 9223372036854775808 = a := by
  by_cases h0 : 0 ≤ a
  · rw [Int.tmod_eq_emod_of_nonneg h0]; omega
  · obtain ⟨b, rfl⟩ : ∃ b : Int, a = -b := ⟨-a, by omega⟩
    rw [Int.neg_tmod, Int.tmod_eq_emod_of_nonneg (by omega)]; omega

set_option maxHeartbeats 400000 in
theorem within_edge (a : Int) (h1 : -9223372036854775808 ≤ a) (h2 : a ≤ 9223372036854775807) : ∃ K : Nat, (K : Int) ≤ 9223372036854775807 ∧ ∀ x, Calls Try.prog 18 #[.int .i64 a, .int .i64 (-9223372036854775808)] x (RetI K x) := by
  by_cases h3 : a = -9223372036854775808
  · subst h3
    refine ⟨0, by omega, fun x => ?_⟩
    go_enter Try.func18, Try.ntmps18
    go_wp2
    go_ret
    exact ⟨rfl, rfl⟩
  · have ht := tmod_min (a := a) (by omega) h2
    have ht' : a.tmod (-9223372036854775808) = a := by rw [Int.tmod_neg]; exact ht
    by_cases h0 : 0 ≤ a
    · refine ⟨a.toNat, by omega, fun x => ?_⟩
      go_enter Try.func18, Try.ntmps18
      go_wp2
      go_ret
      exact ⟨ret_int (by omega), rfl⟩
    · refine ⟨(a + 9223372036854775808).toNat, by omega, fun x => ?_⟩
      have hw : IntKind.i64.wrap (a + -9223372036854775808) = a + 9223372036854775808 := by rw [IntKind.wrap_i64]; omega
      go_enter Try.func18, Try.ntmps18
      go_wp2
      go_ret
      exact ⟨ret_int (by omega), rfl⟩
theorem within_len (a : Int) (len : Nat) (hl : len ≤ maxLen) (h1 : -9223372036854775808 ≤ a) (h2 : a ≤ 9223372036854775807) : ∃ (K : Nat) (n : Int), (K : Int) ≤ 9223372036854775807 ∧ IntKind.i64.wrap ((len : Int) + 1) = n ∧ ∀ x, Calls Try.prog 18 #[.int .i64 a, .int .i64 n] x (RetI K x) := by
  unfold maxLen at hl
  by_cases h : len = 9223372036854775807
  · subst h
    obtain ⟨K, hK, hc⟩ := within_edge a h1 h2
    exact ⟨K, _, hK, by rfl, hc⟩
  · have h3 := Int.emod_nonneg a (show (len : Int) + 1 ≠ 0 by omega)
    have h4 := Int.emod_lt_of_pos a (show 0 < (len : Int) + 1 by omega)
    refine ⟨(a % ((len : Int) + 1)).toNat, _, by omega, IntWalk.i64_in _ (by omega), fun x => ?_⟩
    refine (within_any a ((len : Int) + 1) x (by omega) (by omega) h1 h2).mono ?_
    rintro e w' ⟨rfl, rfl⟩
    exact ⟨ret_int (by omega), rfl⟩
end Go.Proofs.Ytghddmlndafefaa
