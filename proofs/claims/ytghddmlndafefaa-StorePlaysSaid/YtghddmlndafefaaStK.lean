/-
  What cleaning leaves of a list of versions: plain lists, no program.
-/
import Derived.Test.YtghddmlndafefaaStJ
namespace Go.Proofs.Ytghddmlndafefaa
open Go.RowKit Go.Maps

/-- How many of a key's versions may go. -/
def leadN (l : List Ver) (low : Nat) : Nat := (l.takeWhile fun v => decide (v.at_ ≤ low)).length
def goneN (l : List Ver) (low : Nat) : Nat :=
  match l[leadN l low - 1]? with
  | some u => if 0 < leadN l low ∧ u.gone = false then leadN l low - 1 else leadN l low
  | none => leadN l low
theorem leadN_le (l : List Ver) (low : Nat) : leadN l low ≤ l.length := (List.takeWhile_sublist _).length_le
theorem goneN_le (l : List Ver) (low : Nat) : goneN l low ≤ l.length := by
  have := leadN_le l low
  unfold goneN
  split
  · split <;> omega
  · omega
theorem leadN_cons_pos {v : Ver} {l : List Ver} {low : Nat} (h : v.at_ ≤ low) : leadN (v :: l) low = leadN l low + 1 := by
  simp [leadN, h]
theorem leadN_cons_neg {v : Ver} {l : List Ver} {low : Nat} (h : ¬ v.at_ ≤ low) : leadN (v :: l) low = 0 := by
  simp [leadN, h]
theorem leadN_zero {l : List Ver} {low : Nat} (h : ∀ u ∈ l, ¬ u.at_ ≤ low) : leadN l low = 0 := by
  cases l with
  | nil => rfl
  | cons v l => exact leadN_cons_neg (h v (by simp))
theorem goneN_zero {l : List Ver} {low : Nat} (h : leadN l low = 0) : goneN l low = 0 := by
  unfold goneN
  rw [h]
  split
  · simp
  · rfl

def dropIt (S : ByteArray → Bool) (low : Nat) (v : Ver) (rest : List Ver) : Bool :=
  S v.key && decide (v.at_ ≤ low) && (v.gone || rest.any fun u => decide (u.key = v.key) && decide (u.at_ ≤ low))
/-- What is left where the keys of S have been cleaned. -/
def keepL (S : ByteArray → Bool) (low : Nat) : List Ver → List Ver
  | [] => []
  | v :: rest => if dropIt S low v rest then keepL S low rest else v :: keepL S low rest
def Sorted (L : List Ver) : Prop := L.Pairwise fun a b => a.at_ ≤ b.at_

theorem keepL_sub (S : ByteArray → Bool) (low : Nat) : ∀ L : List Ver, (keepL S low L).Sublist L
  | [] => List.Sublist.refl _
  | v :: rest => by
    unfold keepL
    split
    · exact (keepL_sub S low rest).cons _
    · exact (keepL_sub S low rest).cons_cons _
theorem ofKey_cons (v : Ver) (L : List Ver) (k : ByteArray) : ofKey (v :: L) k = if v.key = k then v :: ofKey L k else ofKey L k := by
  unfold ofKey
  by_cases h : v.key = k <;> simp [h]
theorem ofKey_keep_out (S : ByteArray → Bool) (low : Nat) {k : ByteArray} (hk : S k = false) : ∀ L : List Ver, ofKey (keepL S low L) k = ofKey L k
  | [] => rfl
  | v :: rest => by
    have ih := ofKey_keep_out S low hk rest
    unfold keepL
    by_cases h : v.key = k
    · have : dropIt S low v rest = false := by simp [dropIt, h, hk]
      rw [this, ofKey_cons v rest, if_pos h]
      simp only [Bool.false_eq_true, if_false]
      rw [ofKey_cons, if_pos h, ih]
    · rw [ofKey_cons v rest, if_neg h]
      split
      · exact ih
      · rw [ofKey_cons, if_neg h, ih]
theorem any_ofKey (rest : List Ver) (k : ByteArray) (low : Nat) : (rest.any fun u => decide (u.key = k) && decide (u.at_ ≤ low)) = (ofKey rest k).any fun u => decide (u.at_ ≤ low) := by
  unfold ofKey
  rw [List.any_filter]
theorem sorted_ofKey {L : List Ver} (h : Sorted L) (k : ByteArray) : Sorted (ofKey L k) := h.filter _
theorem any_lead {l : List Ver} {low : Nat} (h : Sorted l) : (l.any fun u => decide (u.at_ ≤ low)) = decide (0 < leadN l low) := by
  cases l with
  | nil => rfl
  | cons v l =>
    by_cases hv : v.at_ ≤ low
    · rw [leadN_cons_pos hv]; simp [hv]
    · rw [leadN_cons_neg hv]
      obtain ⟨h1, _⟩ := List.pairwise_cons.1 h
      simp only [Nat.lt_irrefl, decide_false, List.any_eq_false]
      intro u hu
      rcases List.mem_cons.1 hu with rfl | hu
      · simpa using hv
      · have := h1 u hu; simp; omega
theorem goneN_cons {v : Ver} {l : List Ver} {low : Nat} (hv : v.at_ ≤ low) (hl : 0 < leadN l low) : goneN (v :: l) low = goneN l low + 1 := by
  have hle := leadN_le l low
  unfold goneN
  rw [leadN_cons_pos hv]
  simp only [Nat.add_sub_cancel]
  rw [show (v :: l)[leadN l low]? = l[leadN l low - 1]? by rw [show leadN l low = (leadN l low - 1) + 1 by omega]; simp]
  cases hu : l[leadN l low - 1]? with
  | none => rfl
  | some u =>
    simp only []
    by_cases hg : u.gone = false <;> simp [hg, hl]
    omega

theorem ofKey_keep_in (S : ByteArray → Bool) (low : Nat) {k : ByteArray} (hk : S k = true) : ∀ L : List Ver, Sorted L → ofKey (keepL S low L) k = (ofKey L k).drop (goneN (ofKey L k) low)
  | [], _ => rfl
  | v :: rest, hs => by
    obtain ⟨h1, h2⟩ := List.pairwise_cons.1 hs
    have ih := ofKey_keep_in S low hk rest h2
    have hso := sorted_ofKey h2 k
    unfold keepL
    by_cases h : v.key = k
    · subst h
      rw [ofKey_cons v rest, if_pos rfl]
      have hd : dropIt S low v rest = (decide (v.at_ ≤ low) && (v.gone || decide (0 < leadN (ofKey rest v.key) low))) := by
        simp only [dropIt, hk, Bool.true_and, any_ofKey, any_lead hso]
      rw [hd]
      by_cases hv : v.at_ ≤ low
      · by_cases hl : 0 < leadN (ofKey rest v.key) low
        · rw [goneN_cons hv hl]
          simp [hv, hl, ih]
        · have hl0 : leadN (ofKey rest v.key) low = 0 := by omega
          have hg : goneN (v :: ofKey rest v.key) low = if v.gone then 1 else 0 := by
            unfold goneN
            rw [leadN_cons_pos hv, hl0]
            simp only [Nat.zero_add, Nat.sub_self, List.getElem?_cons_zero]
            cases v.gone <;> simp
          rw [hg]
          cases hgo : v.gone
          · simp only [hv, hl, decide_true, decide_false, Bool.or_false, Bool.and_false, Bool.false_eq_true, if_false]
            rw [ofKey_cons, if_pos rfl, ih, goneN_zero hl0]
            rfl
          · simp only [hv, decide_true, Bool.true_or, Bool.and_true, if_true]
            rw [ih, goneN_zero hl0]
            rfl
      · rw [goneN_zero (leadN_cons_neg hv)]
        simp only [hv, decide_false, Bool.false_and, Bool.false_eq_true, if_false]
        rw [ofKey_cons, if_pos rfl, ih]
        have : leadN (ofKey rest v.key) low = 0 := leadN_zero (fun u hu => by have := h1 u (mem_ofKey hu); omega)
        rw [goneN_zero this]
        rfl
    · rw [ofKey_cons v rest, if_neg h]
      split
      · exact ih
      · rw [ofKey_cons, if_neg h, ih]

/-- One key more is cleaned. -/
def alsoKey (S : ByteArray → Bool) (k : ByteArray) : ByteArray → Bool := fun x => S x || decide (x = k)
theorem keep_beside (S : ByteArray → Bool) (low : Nat) (k : ByteArray) : ∀ L : List Ver, (keepL (alsoKey S k) low L).filter (fun v => !decide (v.key = k)) = (keepL S low L).filter (fun v => !decide (v.key = k))
  | [] => rfl
  | v :: rest => by
    have ih := keep_beside S low k rest
    unfold keepL
    by_cases h : v.key = k
    · split <;> split <;> simp [h, ih]
    · have : dropIt (alsoKey S k) low v rest = dropIt S low v rest := by simp [dropIt, alsoKey, h]
      rw [this]
      split
      · exact ih
      · simp [h, ih]
theorem length_parts (L : List Ver) (k : ByteArray) : L.length = (ofKey L k).length + (L.filter (fun v => !decide (v.key = k))).length := by
  unfold ofKey
  induction L with
  | nil => rfl
  | cons v L ih =>
    by_cases h : v.key = k <;> simp [h, ih] <;> omega
theorem keep_length (S : ByteArray → Bool) (low : Nat) {k : ByteArray} (hk : S k = false) (L : List Ver) (hs : Sorted L) : (keepL S low L).length = (keepL (alsoKey S k) low L).length + goneN (ofKey L k) low := by
  have hk' : alsoKey S k k = true := by simp [alsoKey]
  have h1 := length_parts (keepL S low L) k
  have h2 := length_parts (keepL (alsoKey S k) low L) k
  rw [keep_beside] at h2
  rw [ofKey_keep_out S low hk] at h1
  rw [ofKey_keep_in (alsoKey S k) low hk' L hs] at h2
  have := goneN_le (ofKey L k) low
  simp at h2
  omega
theorem ofKey_keep_also (S : ByteArray → Bool) (low : Nat) (k k' : ByteArray) (hne : k' ≠ k) (L : List Ver) : ofKey (keepL (alsoKey S k) low L) k' = ofKey (keepL S low L) k' := by
  have h := congrArg (fun l => l.filter fun v => decide (v.key = k')) (keep_beside S low k L)
  simp only [List.filter_filter] at h
  have e : ∀ v : Ver, (decide (v.key = k') && !decide (v.key = k)) = decide (v.key = k') := fun v => by
    by_cases h : v.key = k'
    · simp [h, hne]
    · simp [h]
  simp only [e] at h
  exact h
/-- What Clean leaves. -/
def cleanL (low : Nat) (L : List Ver) : List Ver := keepL (fun _ => true) low L
theorem keepL_congr (S S' : ByteArray → Bool) (low : Nat) : ∀ L : List Ver, (∀ v ∈ L, S v.key = S' v.key) → keepL S low L = keepL S' low L
  | [], _ => rfl
  | v :: rest, h => by
    have ih := keepL_congr S S' low rest (fun u hu => h u (by simp [hu]))
    unfold keepL
    rw [ih, show dropIt S low v rest = dropIt S' low v rest by simp [dropIt, h v (by simp)]]
theorem keepL_none (low : Nat) : ∀ L : List Ver, keepL (fun _ => false) low L = L
  | [] => rfl
  | v :: rest => by
    have ih := keepL_none low rest
    unfold keepL
    simp [dropIt, ih]
end Go.Proofs.Ytghddmlndafefaa
