/-
  The store's functions Changed, Count (with total, length), New, and slices.Clone of versions, each by a contract over the description of a store.
-/
import Derived.Test.YtghddmlndafefaaStA
import Derived.Sort.KeysCollected
namespace Go.Proofs.Ytghddmlndafefaa
open Go.RowKit Go.Maps

/-- What Changed answers. -/
def changedOf (l : List Ver) (since : Int) : Bool :=
  match l.getLast? with
  | none => false
  | some u => decide (since < (u.at_ : Int))

set_option maxRecDepth 100000 in
set_option maxHeartbeats 400000 in
theorem changed_any {base : Nat} {s : Sto} {D PD : DataW Value} {w : World} (h : Holds w base s D PD) (key : ByteArray) (hk : key.size ≤ maxLen) (since : Int) :
    Calls Try.prog 22 #[.pointer (some ⟨s.sb, 0, none⟩), .string key, .int .i64 since] w fun e w' => e = .returned (.bool (changedOf (ofKey s.L key) since)) ∧ w = w' := by
  obtain ⟨_, _, _, c3⟩ := h.cell
  obtain ⟨v, hrun, hrow, _⟩ := h.look key hk
  have hl := ofKey_length_le s.L key
  have h1 := h.room
  have h2 := h.lim
  clear h
  generalize ofKey s.L key = l at *
  rcases hrow with ⟨rfl, e⟩ | ⟨g, cap, rfl, hc⟩
  · subst e
    unfold nilS at hrun
    go_enter Try.func22, Try.ntmps22
    go_wp2
    go_ret
    exact ⟨rfl, rfl⟩
  · rcases (show l = [] ∨ ∃ l' u, l = l' ++ [u] by simpa [List.concat_eq_append] using List.eq_nil_or_concat l) with rfl | ⟨l', u, rfl⟩
    · simp only [List.length_nil] at hrun
      clear hc
      go_enter Try.func22, Try.ntmps22
      go_wp2
      go_ret
      exact ⟨rfl, rfl⟩
    · obtain ⟨_, _, _, c4⟩ := hc l'.length u (by simp)
      have e1 : (l' ++ [u]).length = l'.length + 1 := by simp
      rw [e1] at hrun hl
      clear e1 hc
      have H : Hid (changedOf (l' ++ [u]) since = decide (since < (u.at_ : Int))) := by show _ = _; simp [changedOf]
      by_cases ht : since < (u.at_ : Int)
      · go_enter Try.func22, Try.ntmps22
        go_wp2
        go_ret
        exact ⟨by rw [H.out, decide_eq_true ht]; rfl, rfl⟩
      · go_enter Try.func22, Try.ntmps22
        go_wp2
        go_ret
        exact ⟨by rw [H.out, decide_eq_false (show ¬ since < (u.at_ : Int) by omega)]; rfl, rfl⟩

/-! ### counting -/
/-- How many versions there are at the keys of es of which p holds. -/
def doneSum (f : Lit → Nat) (es : List (Lit × DataW Value)) (left : Lit → Bool) : Nat := (es.map fun p => if left p.1 then 0 else f p.1).sum
theorem doneSum_start (f : Lit → Nat) (es : List (Lit × DataW Value)) (left : Lit → Bool) (h : ∀ p ∈ es, left p.1 = true) : doneSum f es left = 0 := by
  unfold doneSum
  induction es with
  | nil => rfl
  | cons p es ih => simp [h p (by simp), ih (fun q hq => h q (by simp [hq]))]
theorem doneSum_end (f : Lit → Nat) (es : List (Lit × DataW Value)) (left : Lit → Bool) (h : ∀ k, left k = false) : doneSum f es left = (es.map fun p => f p.1).sum := by
  unfold doneSum
  induction es with
  | nil => rfl
  | cons p es ih => simp [h p.1, ih]
theorem doneSum_le (f : Lit → Nat) (es : List (Lit × DataW Value)) (left : Lit → Bool) : doneSum f es left ≤ (es.map fun p => f p.1).sum := by
  unfold doneSum
  induction es with
  | nil => exact Nat.le_refl _
  | cons p es ih =>
    simp only [List.map_cons, List.sum_cons]
    split <;> omega
theorem doneSum_same (f : Lit → Nat) (kl : Lit) (left : Lit → Bool) : ∀ (es : List (Lit × DataW Value)), (∀ p ∈ es, p.1 ≠ kl) → doneSum f es (fun z => left z && !z.sameKey kl) = doneSum f es left
  | [], _ => rfl
  | p :: es, h => by
    have ih := doneSum_same f kl left es (fun q hq => h q (by simp [hq]))
    unfold doneSum at ih ⊢
    simp only [List.map_cons, List.sum_cons, ih, sameKey_ne (h p (by simp)), Bool.not_false, Bool.and_true]
theorem doneSum_step (f : Lit → Nat) (kl : Lit) (left : Lit → Bool) (hk : WideAt.IsKeyLit kl) (hl : left kl = true) : ∀ (es : List (Lit × DataW Value)), es.Pairwise (fun p q => p.1 ≠ q.1) → (∃ p ∈ es, p.1 = kl) →
    doneSum f es (fun z => left z && !z.sameKey kl) = doneSum f es left + f kl
  | [], _, h => by obtain ⟨p, hp, _⟩ := h; simp at hp
  | p :: es, hp, h => by
    obtain ⟨h1, h2⟩ := List.pairwise_cons.1 hp
    by_cases e : p.1 = kl
    · have hs := doneSum_same f kl left es (fun q hq e' => h1 q hq (e.trans e'.symm))
      unfold doneSum at hs ⊢
      simp only [List.map_cons, List.sum_cons, hs, e, WideAt.sameKey_self hk, hl, Bool.not_true, Bool.and_false]
      simp; omega
    · obtain ⟨q, hq, hqe⟩ := h
      have hq' : q ∈ es := by
        rcases List.mem_cons.1 hq with rfl | hq
        · exact absurd hqe e
        · exact hq
      have ih := doneSum_step f kl left hk hl es h2 ⟨q, hq', hqe⟩
      unfold doneSum at ih ⊢
      simp only [List.map_cons, List.sum_cons, ih, sameKey_ne e, Bool.not_false, Bool.and_true]
      omega

theorem sum_ofKey_cons (v : Ver) (L : List Ver) : ∀ ks : List ByteArray, ks.Nodup → v.key ∈ ks → (ks.map fun k => (ofKey (v :: L) k).length).sum = (ks.map fun k => (ofKey L k).length).sum + 1
  | [], _, h => by simp at h
  | k :: ks, hn, h => by
    obtain ⟨h1, h2⟩ := List.nodup_cons.1 hn
    have e1 : ∀ k' : ByteArray, (ofKey (v :: L) k').length = (ofKey L k').length + if v.key = k' then 1 else 0 := fun k' => by
      unfold ofKey; by_cases e : v.key = k' <;> simp [e]
    by_cases e : v.key = k
    · have e2 : (ks.map fun k => (ofKey (v :: L) k).length) = ks.map fun k => (ofKey L k).length := by
        apply List.map_congr_left
        intro k' hk'
        rw [e1, if_neg (fun e' => h1 (by rw [← e, e']; exact hk'))]
        rfl
      simp only [List.map_cons, List.sum_cons, e2, e1 k, if_pos e]; omega
    · have hv : v.key ∈ ks := by
        rcases List.mem_cons.1 h with h | h
        · exact absurd h e
        · exact h
      have ih := sum_ofKey_cons v L ks h2 hv
      simp only [List.map_cons, List.sum_cons, ih, e1 k, if_neg e]; omega

theorem sum_ofKey (ks : List ByteArray) (hn : ks.Nodup) : ∀ L : List Ver, (∀ v ∈ L, v.key ∈ ks) → (ks.map fun k => (ofKey L k).length).sum = L.length
  | [], _ => by
    have : (ks.map fun k => (ofKey [] k).length) = ks.map fun _ => 0 := rfl
    rw [this]; clear this hn
    induction ks with
    | nil => rfl
    | cons k ks ih => simpa using ih
  | v :: L, h => by
    rw [sum_ofKey_cons v L ks hn (h v (by simp)), sum_ofKey ks hn L (fun u hu => h u (by simp [hu]))]; rfl

/-- How many versions of a map's key there are. -/
def nOf (L : List Ver) : Lit → Nat
  | .string l => (ofKey L ⟨l.toArray⟩).length
  | _ => 0

theorem key_of_lit {w : World} {b n : Nat} {D : DataW Value} (h : w.ownsMap Try.prog 9 RV b n D) {es : List (Lit × DataW Value)} (hD : D = .map es) : ∀ p ∈ es, ∃ k : ByteArray, p.1 = kl k ∧ k.size ≤ maxLen := by
  obtain ⟨es0, clock, _, F, _, hE⟩ := h
  rw [hD] at hE
  cases hE
  intro p hp
  obtain ⟨x, hx, rfl⟩ := List.mem_map.1 (mem_sorted.1 hp)
  obtain ⟨y, hy⟩ := F.reads x hx
  have hk := WideElems.rd_key hy
  rw [WideElems.rg_of hy]
  obtain ⟨s, _, e, hs⟩ := Maps.keyOf_str Try.underlying9 hk
  exact ⟨⟨s.toArray⟩, by rw [e]; simp [kl], by simpa [ByteArray.size] using hs⟩

theorem Holds.count {w : World} {base : Nat} {s : Sto} {D PD : DataW Value} (h : Holds w base s D PD) {es : List (Lit × DataW Value)} (hD : D = .map es) : (es.map fun p => nOf s.L p.1).sum = s.L.length := by
  have hk := key_of_lit h.own hD
  obtain ⟨es', hD', hp⟩ := h.own.tidy law9
  rw [hD] at hD'
  cases hD'
  have e1 : (es.map fun p => nOf s.L p.1) = (es.map fun p => (match p.1 with | .string l => (⟨l.toArray⟩ : ByteArray) | _ => ⟨#[]⟩)).map fun k => (ofKey s.L k).length := by
    rw [List.map_map]
    apply List.map_congr_left
    intro p hp
    obtain ⟨k, e, _⟩ := hk p hp
    simp [e, kl, nOf]
  rw [e1]
  apply sum_ofKey
  · rw [List.nodup_iff_pairwise_ne, List.pairwise_map]
    refine List.Pairwise.imp_of_mem ?_ hp
    intro p q hp hq hne
    obtain ⟨k, e, _⟩ := hk p hp
    obtain ⟨k', e', _⟩ := hk q hq
    rw [e, e'] at hne ⊢
    intro e2
    apply hne
    simp [kl] at e2
    simp [kl, e2]
  · intro v hv
    obtain ⟨v', _, _, hh⟩ := h.rows v.key (h.keys v hv)
    have : Maps.has D (kl v.key) = true := hh.2 (by
      intro e
      have : v ∈ ofKey s.L v.key := by simp [ofKey, hv]
      rw [e] at this
      simp at this)
    rw [hD] at this
    obtain ⟨p, hp, hpk⟩ := List.any_eq_true.1 this
    refine List.mem_map.2 ⟨p, hp, ?_⟩
    rw [WideAt.sameKey_eq hpk]
    simp [kl]

theorem nOf_kl (L : List Ver) (k : ByteArray) : nOf L (kl k) = (ofKey L k).length := by simp [nOf, kl]

theorem invK9 (key : Value) (l : Lit) (h : keyOf Try.prog 9 key = some l) : ∃ x : ByteArray, key = .string x := by
  obtain ⟨s, e, _, _⟩ := Maps.keyOf_str Try.underlying9 h
  exact ⟨_, e⟩
theorem invRV (v : Value) (y : DataW Value × List MemPlace) (h : RV v = some y) : ∃ x : Option Addr × Nat × Nat, v = .slice x.1 x.2.1 x.2.2 := (RV_inv h).1
theorem lit9 {x : ByteArray} {l : Lit} (h : keyOf Try.prog 9 (.string x) = some l) : l = kl x ∧ x.size ≤ maxLen := by
  obtain ⟨s, e, rfl, hs⟩ := Maps.keyOf_str Try.underlying9 h
  simp [encStr] at e
  subst e
  exact ⟨by simp [kl], by simpa [ByteArray.size] using hs⟩

/-- The entry that comes up in a range: its slice is as long as its key has versions. -/
theorem Holds.entry {w : World} {base : Nat} {s : Sto} {D PD : DataW Value} (h : Holds w base s D PD) {x : ByteArray} {l : Lit} {a : Option Addr} {n c : Nat} {y : DataW Value × List MemPlace} (hk : keyOf Try.prog 9 (.string x) = some l)
    (hR : RV (.slice a n c) = some y) (hat : ∀ zd, D.atKey l zd = y.1) : l = kl x ∧ x.size ≤ maxLen ∧ n = (ofKey s.L x).length ∧ w.ownsRow base 70 4 (.slice a n c) (ofKey s.L x).length (cellsOf (ofKey s.L x)) := by
  obtain ⟨rfl, hx⟩ := lit9 hk
  obtain ⟨v, hv, hrow, _⟩ := h.rows x hx
  have e := (RV_inv hR).2
  rw [hat, e] at hv
  simp at hv
  subst hv
  refine ⟨rfl, hx, ?_, hrow⟩
  rcases hrow.2 with ⟨e1, e2⟩ | ⟨g, cap, cur, e1, _⟩
  · simp at e1; omega
  · simp at e1; exact e1.2.1

def IntBelow (n : Int) (w : World) (e : Ending) (w' : World) : Prop := e = .returned (.int .i64 n) ∧ Below w.heap.size w w'

theorem length_any (a : Option Addr) (n c : Nat) (w : World) : Calls Try.prog 39 #[.slice a n c] w fun e w' => e = .returned (.int .i64 n) ∧ w = w' := by
  go_enter Try.func39, Try.ntmps39
  go_wp2
  go_ret
  exact ⟨rfl, rfl⟩

set_option maxRecDepth 100000 in
set_option maxHeartbeats 800000 in
theorem total_any {base : Nat} {s : Sto} {D PD : DataW Value} {w : World} (h : Holds w base s D PD) :
    Calls Try.prog 38 #[.pointer (some ⟨s.sb, 0, none⟩), .func (.func 39) #[] #[]] w (IntBelow s.L.length w) := by
  obtain ⟨_, _, _, c3⟩ := h.cell
  have hown := h.own
  have h1 := h.room
  have h2 := h.lim
  obtain ⟨es, hD, hp⟩ := h.own.tidy law9
  have hcount := h.count hD
  have hk := key_of_lit h.own hD
  have hle := doneSum_le (nOf s.L) es
  rw [hcount] at hle
  have HD := Lib.hid hD
  have HC := Lib.hid hcount
  clear hD hcount
  go_enter Try.func38, Try.ntmps38
  go_wp2_with (at_range; refine wpList_range_own _ rfl _ 63 rfl 9 67 law9 Try.underlying63 RV s.kb (Maps.size D) D rfl hown ?_; intro w0 hrg0 hg0 hs0)
  go_frame
  have hnx0 : Below w.heap.size w w0 := (Below.refl _ _).grown hg0 (Nat.le_refl _) (by simp)
  have hes : ∀ p ∈ es, Maps.has D p.1 = true := fun p hp => by
    rw [HD.out]
    obtain ⟨k, e, _⟩ := hk p hp
    exact List.any_eq_true.2 ⟨p, hp, by rw [e]; exact WideAt.sameKey_self trivial⟩
  clear hs0
  go_loopw [5, 7] (fun n _ wr => ∃ left cnt, wr.ranges Try.prog 9 RV s.kb w.heap.size (Maps.size D) D left cnt ∧ n = .int .i64 (doneSum (nOf s.L) es left : Nat) ∧ Below w.heap.size w wr) (fun _ _ wr => wr.rangeLeft s.kb w.heap.size)
  case atStart => exact ⟨_, _, hrg0, by rw [doneSum_start _ _ _ hes]; rfl, hnx0⟩
  case round =>
    obtain ⟨left, cnt, hrg, rfl, hnx⟩ := hrel
    have hdl := hle left
    go_wp2_with (first
      | (at_next; refine wpList_next_ranges _ rfl _ rfl 9 law9 RV Value.string (fun x : Option Addr × Nat × Nat => .slice x.1 x.2.1 x.2.2) invK9 invRV s.kb w.heap.size (Maps.size D) D left cnt rfl hrg ?_ ?_)
      | (go_at_call 39; refine (length_any _ _ _ _).mono ?_; rintro e w' ⟨rfl, rfl⟩))
    · intro _ hl0
      have H : Hid (doneSum (nOf s.L) es left = s.L.length) := by show _ = _; rw [doneSum_end _ _ _ hl0, HC.out]
      go_wp2
      go_ret
      exact ⟨ret_int (by show ((doneSum (nOf s.L) es left : Nat) : Int) = _; rw [H.out]), hnx⟩
    · intro x a n c l yd yp w1 cnt1 hkey hlk hR hat hrg1 hlt hg1 hs1 hen
      obtain ⟨rfl, hx, hn, _⟩ := h.entry hkey hR hat
      have hstep := doneSum_step (nOf s.L) (kl x) left trivial hlk es hp (by
        have := Maps.has_true_of_atKey hat
        rw [HD.out] at this
        obtain ⟨p, hp, hpk⟩ := List.any_eq_true.1 this
        exact ⟨p, hp, WideAt.sameKey_eq hpk⟩)
      rw [nOf_kl, ← hn] at hstep
      have hdl2 := hle (fun z => left z && !z.sameKey (kl x))
      have hsum : doneSum (nOf s.L) es left + n ≤ s.L.length := by omega
      have hl2 : wr.rangeLeft s.kb w.heap.size = cnt := hrg.left_eq
      have hl3 : w1.rangeLeft s.kb w.heap.size = cnt1 := hrg1.left_eq
      have HS := Lib.hid hstep
      have HL := Lib.hid hl2
      have HL3 := Lib.hid hl3
      clear hstep hl2 hl3 hs1 hat hR hkey hn hdl2 hdl
      go_wp2_with (go_at_call 39; refine (length_any _ _ _ _).mono ?_; rintro e w' ⟨rfl, rfl⟩)
      go_roundw
      case rel => exact ⟨_, cnt1, hrg1, by rw [HS.out]; go_num, hnx.grown hg1 hnx.size (by intro j hj; cases hj; exact Nat.le_refl _)⟩
      case measure => rw [HL.out, HL3.out]; exact hlt

theorem count_any {base : Nat} {s : Sto} {D PD : DataW Value} {w : World} (h : Holds w base s D PD) :
    Calls Try.prog 23 #[.pointer (some ⟨s.sb, 0, none⟩)] w (IntBelow s.L.length w) := by
  have ht := total_any h
  go_enter Try.func23, Try.ntmps23
  go_wp2_with (go_at_call 38; refine ht.mono ?_; rintro e w' ⟨rfl, hb⟩)
  go_ret
  exact ⟨rfl, hb⟩
end Go.Proofs.Ytghddmlndafefaa
