/-
  A store and the reference's store side by side, through a law's rounds: bounds, and what Clean does twice.
-/
import Derived.Test.YtghddmlndafefaaStW
namespace Go.Proofs.Ytghddmlndafefaa
open Go.RowKit Go.Maps

theorem dropIt_keep (S : ByteArray → Bool) (low : Nat) (v : Ver) (rest : List Ver) (h : dropIt S low v rest = false) : dropIt S low v (keepL S low rest) = false := by
  unfold dropIt at h ⊢
  by_cases h1 : (S v.key && decide (v.at_ ≤ low)) = true
  · rw [h1, Bool.true_and] at h ⊢
    rw [Bool.or_eq_false_iff] at h ⊢
    refine ⟨h.1, ?_⟩
    rw [List.any_eq_false] at h ⊢
    exact fun u hu => h.2 u ((keepL_sub S low rest).subset hu)
  · rw [Bool.not_eq_true] at h1
    rw [h1]
    rfl
theorem keepL_idem (S : ByteArray → Bool) (low : Nat) : ∀ L : List Ver, keepL S low (keepL S low L) = keepL S low L
  | [] => rfl
  | v :: rest => by
    have ih := keepL_idem S low rest
    by_cases h : dropIt S low v rest = true
    · rw [show keepL S low (v :: rest) = keepL S low rest by rw [keepL, if_pos h]]
      exact ih
    · rw [show keepL S low (v :: rest) = v :: keepL S low rest by rw [keepL, if_neg h]]
      rw [keepL, dropIt_keep S low v rest (by simpa using h), ih]
      rfl
theorem clean_idem (low : Nat) (L : List Ver) : cleanL low (cleanL low L) = cleanL low L := keepL_idem _ low L

structure Pr (s0 : Sto) (r0 : Rto) (base rbase n m : Nat) (L : List Ver) (pins : List Nat) (w : World) : Prop where
  pair : Pair s0 r0 base rbase n L pins w
  sorted : Sorted L
  len : L.length ≤ 3 * m
  plen : pins.length ≤ m
  pins : ∀ p ∈ pins, p ≤ n
  now : n ≤ m
theorem Pr.more {s0 : Sto} {r0 : Rto} {base rbase n m m' : Nat} {L : List Ver} {pins : List Nat} {w : World} (h : Pr s0 r0 base rbase n m L pins w) (hm : m ≤ m') : Pr s0 r0 base rbase n m' L pins w :=
  ⟨h.pair, h.sorted, by have := h.len; omega, by have := h.plen; omega, h.pins, by have := h.now; omega⟩
theorem Pr.below {s0 : Sto} {r0 : Rto} {base rbase n m : Nat} {L : List Ver} {pins : List Nat} {w w' : World} (h : Pr s0 r0 base rbase n m L pins w) (hb : Below w.heap.size w w') : Pr s0 r0 base rbase n m L pins w' := ⟨h.pair.below hb, h.sorted, h.len, h.plen, h.pins, h.now⟩
theorem Pr.drew {s0 : Sto} {r0 : Rto} {base rbase n m : Nat} {L : List Ver} {pins : List Nat} {w : World} (h : Pr s0 r0 base rbase n m L pins w) : Pr s0 r0 base rbase n m L pins w.drew := ⟨h.pair.drew, h.sorted, h.len, h.plen, h.pins, h.now⟩

/-! ### the two sides of a step: first the store's, then the reference's -/
/-- The store has gone ahead: it holds what stands first, the reference what stands second. -/
structure Half (s0 : Sto) (r0 : Rto) (base rbase : Nat) (n' : Nat) (L' : List Ver) (pins' : List Nat) (n : Nat) (L : List Ver) (pins : List Nat) (w : World) : Prop where
  s : ∃ D PD, Holds w base (stoP s0 n' L' pins') D PD
  r : RHolds w rbase (rtoP r0 n L pins)
section
variable {s0 : Sto} {r0 : Rto} {base rbase n m : Nat} {L : List Ver} {pins : List Nat} {w : World}

def SCommit (s0 : Sto) (r0 : Rto) (base rbase n : Nat) (L : List Ver) (pins : List Nat) (vb : Value) (ws : List Wr) (w : World) (e : Ending) (w' : World) : Prop :=
  e = .returned (.tuple #[.int .i64 ((n : Int) + 1), .int .i64 0]) ∧ Half s0 r0 base rbase (n + 1) (L ++ vers ws (n + 1)) pins n L pins w' ∧ RWr w' vb ws ∧ Turn (Bs s0) w w'
theorem Pr.scommit (h : Pr s0 r0 base rbase n m L pins w) {va vb : Value} {ws : List Wr} (hw : WrIs w va ws) (hb : RWr w vb ws) (hk : ∀ x ∈ ws, x.key.size ≤ maxLen) (hf : L.length + ws.length ≤ s0.lim) (hm : m ≤ 1000) :
    Calls Try.prog 20 #[.pointer (some ⟨s0.sb, 0, none⟩), va] w (SCommit s0 r0 base rbase n L pins vb ws w) := by
  obtain ⟨⟨⟨D, PD, hs⟩, hr⟩, _, _, _, _, hn⟩ := h
  refine (commit_any hs hw hk hf (by show n ≤ 1000000; omega)).mono ?_
  rintro e w' ⟨he, ⟨D', h'⟩, hT⟩
  exact ⟨he, ⟨⟨D', PD, h'⟩, hr.turn hs hT.sk⟩, hb.turn hs hT.sk, hT.sk⟩
def RCommit (s0 : Sto) (r0 : Rto) (base rbase n m : Nat) (L : List Ver) (pins : List Nat) (w : World) (e : Ending) (w' : World) : Prop :=
  e = .returned (.tuple #[.int .i64 ((n : Int) + 1), .int .i64 0]) ∧ Pr s0 r0 base rbase (n + 1) (m + 1) L pins w' ∧ RT rbase w w'
theorem Half.rcommit {ws : List Wr} (h : Half s0 r0 base rbase (n + 1) (L ++ vers ws (n + 1)) pins n L pins w) {vb : Value} (hb : RWr w vb ws) (hf : L.length + ws.length ≤ r0.lim) (hlim : r0.lim ≤ 10000) (hm : m ≤ 1000) (hn : n ≤ m) (hl : L.length ≤ 3 * m) (hws : ws.length ≤ 3) (hp : pins.length ≤ m) (hpn : ∀ p ∈ pins, p ≤ n) (hS : Sorted L) (hst : ∀ v ∈ L, v.at_ ≤ n) :
    Calls Try.prog 27 #[.pointer (some ⟨r0.rb, 0, none⟩), vb] w (RCommit s0 r0 base rbase n m (L ++ vers ws (n + 1)) pins w) := by
  obtain ⟨⟨D, PD, hs⟩, hr⟩ := h
  refine (rcommit_any hr hb hf hlim (by show n ≤ 1000000; omega)).mono ?_
  rintro e w' ⟨he, h', hT⟩
  have e1 : rup (rtoP r0 n L pins) ws ws.length = rtoP r0 (n + 1) (L ++ vers ws (n + 1)) pins := by simp [rup, rtoP]
  rw [e1] at h'
  exact ⟨he, ⟨⟨⟨D, PD, hs.rturn hT⟩, h'⟩, sorted_snoc hS hst ws, by rw [List.length_append, vers_length]; omega, by omega, fun p h => by have := hpn p h; omega, by omega⟩, hT⟩
theorem Pr.stamps (h : Pr s0 r0 base rbase n m L pins w) : ∀ v ∈ L, v.at_ ≤ n := by
  obtain ⟨D, PD, hs⟩ := h.pair.s
  exact hs.stamps
theorem Pr.room (h : Pr s0 r0 base rbase n m L pins w) : L.length ≤ s0.lim := by
  obtain ⟨D, PD, hs⟩ := h.pair.s
  exact hs.room
def SPin (s0 : Sto) (r0 : Rto) (base rbase n : Nat) (L : List Ver) (pins pins' : List Nat) (e0 : Ending) (w : World) (e : Ending) (w' : World) : Prop :=
  e = e0 ∧ Half s0 r0 base rbase n L pins' n L pins w' ∧ Turn (Bs s0) w w'
theorem Pr.spin (h : Pr s0 r0 base rbase n m L pins w) (hm : m ≤ 1000) :
    Calls Try.prog 25 #[.pointer (some ⟨s0.sb, 0, none⟩)] w (SPin s0 r0 base rbase n L pins (pins ++ [n]) (.returned (.int .i64 n)) w) := by
  obtain ⟨⟨⟨D, PD, hs⟩, hr⟩, _, _, hp, _, hn⟩ := h
  refine (pin_any hs (by show n ≤ 1000000; omega) (by show pins.length ≤ 1000000; omega)).mono ?_
  rintro e w' ⟨he, ⟨PD', h'⟩, hT⟩
  exact ⟨he, ⟨⟨D, PD', h'⟩, hr.turn hs hT.pb⟩, hT.pb⟩
def RPin (s0 : Sto) (r0 : Rto) (base rbase n m : Nat) (L : List Ver) (pins : List Nat) (e0 : Ending) (w : World) (e : Ending) (w' : World) : Prop :=
  e = e0 ∧ Pr s0 r0 base rbase n m L pins w' ∧ RT rbase w w'
theorem Half.rpin (h : Half s0 r0 base rbase n L (pins ++ [n]) n L pins w) (hm : m ≤ 1000) (hn : n ≤ m) (hl : L.length ≤ 3 * m) (hp : pins.length ≤ m) (hpn : ∀ p ∈ pins, p ≤ n) (hS : Sorted L) :
    Calls Try.prog 28 #[.pointer (some ⟨r0.rb, 0, none⟩)] w (RPin s0 r0 base rbase n (m + 1) L (pins ++ [n]) (.returned (.int .i64 n)) w) := by
  obtain ⟨⟨D, PD, hs⟩, hr⟩ := h
  refine (rpin_any hr (by show pins.length ≤ 10000; omega)).mono ?_
  rintro e w' ⟨he, h', hT⟩
  exact ⟨he, ⟨⟨⟨D, PD, hs.rturn hT⟩, h'⟩, hS, by omega, by simp; omega, fun p h => by rcases List.mem_append.1 h with h | h; exact hpn p h; simp at h; omega, by omega⟩, hT⟩
theorem Pr.sunpin (h : Pr s0 r0 base rbase n m L pins w) (t : Int) (ht1 : -9223372036854775808 ≤ t) (ht2 : t ≤ 9223372036854775807) (hm : m ≤ 1000) :
    Calls Try.prog 32 #[.pointer (some ⟨s0.sb, 0, none⟩), .int .i64 t] w (SPin s0 r0 base rbase n L pins (unpin pins t) (.returned (.tuple #[])) w) := by
  obtain ⟨⟨⟨D, PD, hs⟩, hr⟩, _, _, hp, _, hn⟩ := h
  refine (unpin_any hs t ht1 ht2 (by show pins.length ≤ 1000000; omega)).mono ?_
  rintro e w' ⟨he, ⟨PD', h'⟩, hT⟩
  exact ⟨he, ⟨⟨D, PD', h'⟩, hr.turn hs hT.pb⟩, hT.pb⟩
theorem Half.runpin {t : Int} (h : Half s0 r0 base rbase n L (unpin pins t) n L pins w) (hm : m ≤ 1000) (hn : n ≤ m) (hl : L.length ≤ 3 * m) (hp : pins.length ≤ m) (hpn : ∀ p ∈ pins, p ≤ n) (hS : Sorted L) :
    Calls Try.prog 33 #[.pointer (some ⟨r0.rb, 0, none⟩), .int .i64 t] w (RPin s0 r0 base rbase n m L (unpin pins t) (.returned (.tuple #[])) w) := by
  obtain ⟨⟨D, PD, hs⟩, hr⟩ := h
  refine (runpin_any hr t (by show pins.length ≤ 10000; omega)).mono ?_
  rintro e w' ⟨he, h', hT⟩
  exact ⟨he, ⟨⟨⟨D, PD, hs.rturn hT⟩, h'⟩, hS, by omega, by have := unpin_length pins t; omega, fun p h => hpn p (unpin_mem h), hn⟩, hT⟩
def SClean (s0 : Sto) (r0 : Rto) (base rbase n : Nat) (L L' : List Ver) (pins : List Nat) (w : World) (e : Ending) (w' : World) : Prop :=
  e = .returned (.int .i64 ((L.length - L'.length : Nat) : Int)) ∧ Half s0 r0 base rbase n L' pins n L pins w' ∧ Turn (Bs s0) w w'
theorem Pr.sclean (h : Pr s0 r0 base rbase n m L pins w) (hm : m ≤ 1000) :
    Calls Try.prog 24 #[.pointer (some ⟨s0.sb, 0, none⟩)] w (SClean s0 r0 base rbase n L (cleanL (leastOf pins n) L) pins w) := by
  obtain ⟨⟨⟨D, PD, hs⟩, hr⟩, hS, _, hp, hpn, hn⟩ := h
  refine (clean_any hs hS (by show n ≤ 1000000; omega) (fun p h => by have := hpn p h; omega)).mono ?_
  rintro e w' ⟨he, ⟨D', h'⟩, hT⟩
  exact ⟨he, ⟨⟨D', PD, h'⟩, hr.turn hs hT.kb⟩, hT.kb⟩
def RClean (s0 : Sto) (r0 : Rto) (base rbase n m : Nat) (L L' : List Ver) (pins : List Nat) (w : World) (e : Ending) (w' : World) : Prop :=
  e = .returned (.int .i64 ((L.length - L'.length : Nat) : Int)) ∧ Pr s0 r0 base rbase n m L' pins w' ∧ RT rbase w w'
theorem Half.rclean (h : Half s0 r0 base rbase n (cleanL (leastOf pins n) L) pins n L pins w) (hm : m ≤ 1000) (hn : n ≤ m) (hl : L.length ≤ 3 * m) (hp : pins.length ≤ m) (hpn : ∀ p ∈ pins, p ≤ n) (hS : Sorted L) :
    Calls Try.prog 30 #[.pointer (some ⟨r0.rb, 0, none⟩)] w (RClean s0 r0 base rbase n m L (cleanL (leastOf pins n) L) pins w) := by
  obtain ⟨⟨D, PD, hs⟩, hr⟩ := h
  refine (rclean_any hr (by show L.length ≤ 10000; omega) (by show pins.length ≤ 10000; omega) (leastOf pins n) rfl).mono ?_
  rintro e w' ⟨he, h', hT⟩
  exact ⟨he, ⟨⟨⟨D, PD, hs.rturn hT⟩, h'⟩, sorted_clean hS _, by have := clean_length (leastOf pins n) L; omega, hp, hpn, hn⟩, hT⟩
theorem Pr.new {s0 : Sto} {r0 : Rto} {D PD : DataW Value} (hs : Holds w base s0 D PD) (hr : RHolds w rbase r0) (h1 : s0.L = []) (h2 : s0.pins = []) (h3 : s0.now = 0) (h4 : r0.L = []) (h5 : r0.pins = []) (h6 : r0.now = 0) : Pr s0 r0 base rbase 0 0 [] [] w := by
  have e1 : stoP s0 0 [] [] = s0 := by cases s0; simp_all [stoP]
  have e2 : rtoP r0 0 [] [] = r0 := by cases r0; simp_all [rtoP]
  exact ⟨⟨⟨D, PD, by rw [e1]; exact hs⟩, by rw [e2]; exact hr⟩, sorted_nil, by simp, by simp, by simp, by simp⟩
end
end Go.Proofs.Ytghddmlndafefaa
