/-
  Stores whose versions lie in order: small facts for the laws' loops.
-/
import Derived.Test.YtghddmlndafefaaStM
import Derived.Test.YtghddmlndafefaaStI
namespace Go.Proofs.Ytghddmlndafefaa
open Go.RowKit Go.Maps

/-- A store at a stamp, with its versions and its pins. -/
def stoP (s0 : Sto) (n : Nat) (L : List Ver) (pins : List Nat) : Sto := { s0 with now := n, L := L, pins := pins }

theorem vers_length (ws : List Wr) (t : Nat) : (vers ws t).length = ws.length := by simp [vers]
theorem vers_stamp {ws : List Wr} {t : Nat} {v : Ver} (h : v ∈ vers ws t) : v.at_ = t := by
  simp [vers] at h
  obtain ⟨x, _, rfl⟩ := h
  rfl
theorem sorted_vers (ws : List Wr) (t : Nat) : Sorted (vers ws t) := by
  unfold Sorted
  rw [List.pairwise_iff_getElem]
  intro i j hi hj _
  rw [vers_stamp (List.getElem_mem hi), vers_stamp (List.getElem_mem hj)]
  exact Nat.le_refl _
theorem sorted_snoc {L : List Ver} {n : Nat} (h : Sorted L) (hs : ∀ v ∈ L, v.at_ ≤ n) (ws : List Wr) : Sorted (L ++ vers ws (n + 1)) := by
  refine List.pairwise_append.2 ⟨h, sorted_vers _ _, fun a ha b hb => ?_⟩
  have := hs a ha
  rw [vers_stamp hb]; omega
theorem stamps_snoc {L : List Ver} {n : Nat} (hs : ∀ v ∈ L, v.at_ ≤ n) (ws : List Wr) : ∀ v ∈ L ++ vers ws (n + 1), v.at_ ≤ n + 1 := by
  intro v hv
  rcases List.mem_append.1 hv with h | h
  · have := hs v h; omega
  · rw [vers_stamp h]; exact Nat.le_refl _
theorem sorted_clean {L : List Ver} (h : Sorted L) (low : Nat) : Sorted (cleanL low L) := List.Pairwise.sublist (keepL_sub _ low L) h
theorem clean_length (low : Nat) (L : List Ver) : (cleanL low L).length ≤ L.length := (keepL_sub _ low L).length_le
theorem sorted_nil : Sorted [] := List.Pairwise.nil

/-- A store that was written to, pinned and cleaned: so many rounds. -/
def Lives (s0 : Sto) (base n m : Nat) (w : World) : Prop :=
  ∃ L pins D PD, Holds w base (stoP s0 n L pins) D PD ∧ Sorted L ∧ L.length ≤ 3 * m ∧ pins.length ≤ m ∧ ∀ p ∈ pins, p ≤ n
theorem Lives.new {w : World} {base : Nat} {s0 : Sto} {D PD : DataW Value} (h : Holds w base s0 D PD) (hL : s0.L = []) (hp : s0.pins = []) (hn : s0.now = 0) : Lives s0 base 0 0 w := by
  refine ⟨[], [], D, PD, ?_, sorted_nil, by simp, by simp, by simp⟩
  have : stoP s0 0 [] [] = s0 := by
    cases s0; simp_all [stoP]
  rw [this]; exact h
def Bs (s0 : Sto) (k : Nat) : Prop := k = s0.sb ∨ k = s0.pb ∨ k = s0.kb
theorem Lives.drew {s0 : Sto} {base n m : Nat} {w : World} (h : Lives s0 base n m w) : Lives s0 base n m w.drew := by
  obtain ⟨L, pins, D, PD, hH, h⟩ := h
  exact ⟨L, pins, D, PD, hH.drew, h⟩
theorem Lives.more {s0 : Sto} {base n m : Nat} {w : World} (h : Lives s0 base n m w) : Lives s0 base n (m + 1) w := by
  obtain ⟨L, pins, D, PD, hH, a, b, c, d⟩ := h
  exact ⟨L, pins, D, PD, hH, a, by omega, by omega, d⟩
theorem Lives.below {s0 : Sto} {base n m : Nat} {w w' : World} (h : Lives s0 base n m w) (hb : Below w.heap.size w w') : Lives s0 base n m w' := by
  obtain ⟨L, pins, D, PD, hH, h⟩ := h
  exact ⟨L, pins, D, PD, hH.below hb, h⟩
theorem Lives.now {s0 : Sto} {base n m : Nat} {w : World} (h : Lives s0 base n m w) : Calls Try.prog 19 #[.pointer (some ⟨s0.sb, 0, none⟩)] w (RetI n w) := by
  obtain ⟨L, pins, D, PD, hH, h⟩ := h
  exact now_as hH _ rfl
def LCommit (s0 : Sto) (base n m : Nat) (w : World) (e : Ending) (w' : World) : Prop := e = .returned (.tuple #[.int .i64 ((n : Int) + 1), .int .i64 0]) ∧ Lives s0 base (n + 1) (m + 1) w' ∧ Turn (Bs s0) w w'
theorem Lives.commit {s0 : Sto} {base n m : Nat} {w : World} (h : Lives s0 base n m w) {v : Value} {ws : List Wr} (hw : WrIs w v ws) (hk : ∀ x ∈ ws, x.key.size ≤ maxLen) (hl : ws.length ≤ 3) (hr : 3 * m + 3 ≤ s0.lim) (hn : n ≤ 1000000) :
    Calls Try.prog 20 #[.pointer (some ⟨s0.sb, 0, none⟩), v] w (LCommit s0 base n m w) := by
  obtain ⟨L, pins, D, PD, hH, hs, hL, hp, hpn⟩ := h
  refine (commit_any hH hw hk (by show L.length + ws.length ≤ s0.lim; omega) hn).mono ?_
  rintro e w' ⟨he, ⟨D', hH'⟩, hT⟩
  exact ⟨he, ⟨L ++ vers ws (n + 1), pins, D', PD, hH', sorted_snoc hs hH.stamps ws, by rw [List.length_append, vers_length]; omega, by omega, fun p h => by have := hpn p h; omega⟩, hT.mono (fun k _ h => h.elim .inl (fun h => .inr (.inr h)))⟩
def LPin (s0 : Sto) (base n m : Nat) (w : World) (e : Ending) (w' : World) : Prop := e = .returned (.int .i64 n) ∧ Lives s0 base n (m + 1) w' ∧ Turn (Bs s0) w w'
theorem Lives.pin {s0 : Sto} {base n m : Nat} {w : World} (h : Lives s0 base n m w) (hm : m ≤ 1000000) (hn : n ≤ 1000000) :
    Calls Try.prog 25 #[.pointer (some ⟨s0.sb, 0, none⟩)] w (LPin s0 base n m w) := by
  obtain ⟨L, pins, D, PD, hH, hs, hL, hp, hpn⟩ := h
  refine (pin_any hH hn (by show pins.length ≤ 1000000; omega)).mono ?_
  rintro e w' ⟨he, ⟨PD', hH'⟩, hT⟩
  exact ⟨he, ⟨L, pins ++ [n], D, PD', hH', hs, by omega, by simp; omega, fun p h => by rcases List.mem_append.1 h with h | h; exact hpn p h; simp at h; omega⟩, hT.mono (fun k _ h => .inr (.inl h))⟩
def LClean (s0 : Sto) (base n m : Nat) (w : World) (e : Ending) (w' : World) : Prop := ∃ c : Nat, e = .returned (.int .i64 c) ∧ Lives s0 base n (m + 1) w' ∧ Turn (Bs s0) w w'
theorem Lives.clean {s0 : Sto} {base n m : Nat} {w : World} (h : Lives s0 base n m w) (hn : n ≤ 1000000) :
    Calls Try.prog 24 #[.pointer (some ⟨s0.sb, 0, none⟩)] w (LClean s0 base n m w) := by
  obtain ⟨L, pins, D, PD, hH, hs, hL, hp, hpn⟩ := h
  refine (clean_any hH hs hn (fun p h => by have := hpn p h; omega)).mono ?_
  rintro e w' ⟨he, ⟨D', hH'⟩, hT⟩
  exact ⟨_, he, ⟨_, pins, D', PD, hH', sorted_clean hs _, by have := clean_length (leastOf pins n) L; exact Nat.le_trans this (by omega), by omega, hpn⟩, hT.mono (fun k _ h => .inr (.inr h))⟩
/-- The writes that a number says. -/
def WnEnd (k : Nat) (w : World) (e : Ending) (w' : World) : Prop := ∃ va vb, e = .returned (.tuple #[va, vb]) ∧ WrIs w' va (wn k) ∧ Below w.heap.size w w'
theorem writes_wn (z : Int) (w : World) : Calls Try.prog 17 #[.int .i64 (z % 1073741824)] w (WnEnd (z % 1073741824).toNat w) := by
  have hm0 : 0 ≤ z % 1073741824 := Int.emod_nonneg _ (by omega)
  have hm1 : z % 1073741824 < 1073741824 := Int.emod_lt_of_pos _ (by omega)
  refine (writes_int _ hm0 (by omega) w).mono ?_
  rintro e w' ⟨va, vb, he, ha, hb, h⟩
  exact ⟨va, vb, he, wrIs_of_owns ha, h⟩
end Go.Proofs.Ytghddmlndafefaa
