/-
  store.Clean: a contract over the description of a store.
-/
import Derived.Test.YtghddmlndafefaaStL
namespace Go.Proofs.Ytghddmlndafefaa
open Go.RowKit Go.Maps
attribute [local go_sem ↓] Go.wp_at_zero Go.wp_at_succ

/-- One key's versions turn, and nothing else. -/
theorem Holds.setRow {w w' : World} {base : Nat} {s : Sto} {D D' PD : DataW Value} (h : Holds w base s D PD) {key : ByteArray} {L' : List Ver} (hsub : ∀ v ∈ L', v ∈ s.L) (hlen : L'.length ≤ s.L.length)
    (hoth : ∀ k', k' ≠ key → ofKey L' k' = ofKey s.L k') (hD : ∀ k' : ByteArray, k' ≠ key → D'.atKey (kl k') (.held nilS) = D.atKey (kl k') (.held nilS) ∧ Maps.has D' (kl k') = Maps.has D (kl k'))
    {v' : Value} (hat : D'.atKey (kl key) (.held nilS) = .held v') (hrow : w'.ownsRow base 70 4 v' (ofKey L' key).length (cellsOf (ofKey L' key))) (hhas : Maps.has D' (kl key) = true ↔ ofKey L' key ≠ [])
    (hmap : ∃ n, w'.ownsMap Try.prog 9 RV s.kb n D') (hold : ∀ k, k < w.heap.size → k ≠ s.kb → w'.heap[k]? = w.heap[k]?) : Holds w' base { s with L := L' } D' PD := by
  obtain ⟨l1, l2, l3⟩ := h.lts
  obtain ⟨n, hmap⟩ := hmap
  obtain ⟨es0, ck0, hkb, _⟩ := h.own
  have hsk : s.sb ≠ s.kb := fun e => by have := h.blk; rw [e, hkb] at this; cases this
  exact {
    blk := (hold _ l1 hsk).trans h.blk
    hsb := h.hsb
    hpb := h.hpb
    hkb := h.hkb
    ne := h.ne
    own := ownsMap_tight hmap
    rows := fun k hk => by
      by_cases e : k = key
      · subst e
        exact ⟨v', hat, hrow, hhas⟩
      · obtain ⟨v, a, b, c⟩ := h.rows k hk
        obtain ⟨d1, d2⟩ := hD k e
        show ∃ v, _ ∧ w'.ownsRow base 70 4 v (ofKey L' k).length (cellsOf (ofKey L' k)) ∧ (_ ↔ ofKey L' k ≠ [])
        rw [hoth k e, d1, d2]
        exact ⟨v, a, ownsRow_of_blocks b (fun i cur hk => hold i (Array.getElem?_eq_some_iff.1 hk).1 (fun e => by rw [e, hkb] at hk; cases hk)), c⟩
    keys := fun v hv => h.keys v (hsub v hv)
    room := Nat.le_trans hlen h.room
    lim := h.lim
    stamps := fun v hv => h.stamps v (hsub v hv)
    pown := ownsMap_of_block h.pown (hold _ l2 h.ne)
    pins := h.pins }

/-- The cut of a row: what lies from its n-th version on. -/
theorem cut_run {g len cap n : Nat} (hn : n ≤ len) (x : World) :
    (Instr.slice 67 (.slice (some ⟨g, 0, none⟩) len cap) (some (.int .i64 (n : Int))) none none).run Try.prog x = .ok (.slice (some (if cap = n then ⟨g, 0, none⟩ else (⟨g, 0, none⟩ : Addr).add (n * 4))) (len - n) (cap - n)) x := by
  have hs : (sizeOf 70).run Try.prog x = .ok 4 x := by kernel_rfl
  unfold Instr.slice
  simp [run_underlying Try.underlying67, Instr.sliceBounds, Instr.sliceBound, asIntOf, hs, Result.andThen, hn]
  split <;> rfl

theorem slice_of_owns {w : World} {base : Nat} {e : TypeId} {size n : Nat} {v : Value} {xs : List Value} (h : w.ownsRow base e size v n xs) : ∃ a c, v = .slice a n c := by
  rcases h.2 with ⟨rfl, rfl⟩ | ⟨g, cap, cur, rfl, _⟩
  · exact ⟨_, _, rfl⟩
  · exact ⟨_, _, rfl⟩

theorem Holds.keyList {w : World} {base : Nat} {s : Sto} {D PD : DataW Value} (h : Holds w base s D PD) : (strKeys D).Nodup ∧ (∀ x ∈ strKeys D, x.length ≤ maxLen ∧ ofKey s.L ⟨x.toArray⟩ ≠ []) ∧ ∀ v ∈ s.L, v.key.data.toList ∈ strKeys D := by
  obtain ⟨es, hD, hp⟩ := h.own.tidy law9
  have hk := key_of_lit h.own hD
  have hhas : ∀ p ∈ es, Maps.has D p.1 = true := fun p hp => by
    rw [hD]
    obtain ⟨k, e, _⟩ := hk p hp
    exact List.any_eq_true.2 ⟨p, hp, by rw [e]; exact WideAt.sameKey_self (show WideAt.IsKeyLit (kl k) from trivial)⟩
  rw [hD]
  refine ⟨?_, ?_, ?_⟩
  · show (es.map fun p => strOf p.1).Nodup
    refine List.pairwise_map.2 (hp.imp_of_mem fun {p q} hp' hq' hne e => hne ?_)
    obtain ⟨a, ha, _⟩ := hk p hp'
    obtain ⟨b, hb, _⟩ := hk q hq'
    rw [ha, hb] at e ⊢
    simp [strOf, kl] at e
    rw [show a = b from ByteArray.ext e]
  · intro x hx
    obtain ⟨p, hp', rfl⟩ := List.mem_map.1 hx
    obtain ⟨k, e, hks⟩ := hk p hp'
    rw [e]
    obtain ⟨_, _, _, hh⟩ := h.rows k hks
    exact ⟨hks, hh.1 (by rw [← e]; exact hhas p hp')⟩
  · intro v hv
    obtain ⟨_, _, _, hh⟩ := h.rows v.key (h.keys v hv)
    have : Maps.has D (kl v.key) = true := hh.2 (by
      intro e
      have : v ∈ ofKey s.L v.key := by simp [ofKey, hv]
      rw [e] at this
      simp at this)
    rw [hD] at this
    obtain ⟨p, hp', hpk⟩ := List.any_eq_true.1 this
    refine List.mem_map.2 ⟨p, hp', ?_⟩
    rw [WideAt.sameKey_eq hpk]
    rfl

/-- Where so many keys have been cleaned. -/
def upToKey (ks : List (List UInt8)) (j low : Nat) (L : List Ver) : List Ver := keepL (fun k => (ks.take j).contains k.data.toList) low L
theorem upToKey_zero (ks : List (List UInt8)) (low : Nat) (L : List Ver) : upToKey ks 0 low L = L := by
  unfold upToKey
  exact (keepL_congr _ (fun _ => false) low L (fun v _ => by simp)).trans (keepL_none low L)
theorem upToKey_end {ks : List (List UInt8)} {low : Nat} {L : List Ver} (h : ∀ v ∈ L, v.key.data.toList ∈ ks) : upToKey ks ks.length low L = cleanL low L := by
  unfold upToKey cleanL
  exact keepL_congr _ _ low L (fun v hv => by rw [List.take_length]; simpa using h v hv)
theorem upToKey_succ {ks : List (List UInt8)} {j low : Nat} {L : List Ver} {x : List UInt8} (h : ks[j]? = some x) : upToKey ks (j + 1) low L = keepL (alsoKey (fun k => (ks.take j).contains k.data.toList) ⟨x.toArray⟩) low L := by
  unfold upToKey
  refine keepL_congr _ _ low L (fun v _ => ?_)
  rw [List.take_add_one, h]
  simp only [alsoKey, Option.toList_some, List.contains_append]
  congr 1
  have hk : (v.key.data.toList = x) ↔ v.key = ⟨x.toArray⟩ := by
    constructor
    · intro e; exact ByteArray.ext (by simp [← e])
    · intro e; rw [e]
  by_cases hx : v.key = ⟨x.toArray⟩
  · simp [hx]
  · have h2 : ¬ v.key.data.toList = x := fun e => hx (hk.1 e)
    simp [hx, h2]
theorem fresh_key {ks : List (List UInt8)} (hn : ks.Nodup) {j : Nat} {x : List UInt8} (h : ks[j]? = some x) : (ks.take j).contains x = false := by
  have hj : j < ks.length := (List.getElem?_eq_some_iff.1 h).1
  have e : ks = ks.take j ++ x :: ks.drop (j + 1) := by
    have := List.take_append_drop j ks
    rw [List.drop_eq_getElem_cons hj] at this
    rw [(List.getElem?_eq_some_iff.1 h).2] at this
    exact this.symm
  rw [e] at hn
  have := List.nodup_append.1 hn
  simp only [List.contains_eq_mem, decide_eq_false_iff_not]
  intro hx
  exact this.2.2 x hx x (by simp) rfl

theorem Holds.keyLen {w : World} {base : Nat} {s : Sto} {D PD : DataW Value} (h : Holds w base s D PD) : (strKeys D).length ≤ Maps.size D := by
  obtain ⟨es, hD, hp⟩ := h.own.tidy law9
  rw [hD]
  show (es.map fun p => strOf p.1).length ≤ es.length
  simp
theorem mem_ofKey_in {L : List Ver} {k : ByteArray} {v : Ver} (h : v ∈ ofKey L k) : v ∈ L := (List.mem_filter.1 h).1
theorem kl_ne {a b : ByteArray} (h : a ≠ b) : kl a ≠ kl b := fun e => h (by simp [kl] at e; exact ByteArray.ext e)

/-- One key's row is laid anew; where it is empty, the key goes. -/
theorem set_key {base : Nat} {s : Sto} {D PD : DataW Value} {w w3 : World} (h : Holds w base s D PD) {key : ByteArray} (hk : key.size ≤ maxLen) {L' : List Ver} (hsub : ∀ v ∈ L', v ∈ s.L) (hlen : L'.length ≤ s.L.length)
    (hoth : ∀ k', k' ≠ key → ofKey L' k' = ofKey s.L k') (hb3 : Below w.heap.size w w3) {a : Option Addr} {c : Nat} (hrow3 : w3.ownsRow w.heap.size 70 4 (.slice a (ofKey L' key).length c) (ofKey L' key).length (cellsOf (ofKey L' key))) :
    ∃ w5, (Instr.mapUpdate 63 (.map (some s.kb)) (.string key) (.slice a (ofKey L' key).length c)).run Try.prog w3 = .ok () w5 ∧ (Instr.lookup 63 (.map (some s.kb)) (.string key) false).run Try.prog w5 = .ok (.slice a (ofKey L' key).length c) w5 ∧
      w5.cell? ⟨s.sb, 3, none⟩ = some (.map (some s.kb)) ∧
      (ofKey L' key ≠ [] → (∃ D', Holds w5 base { s with L := L' } D' PD) ∧ Turn (fun k => k = s.kb) w w5) ∧
      (ofKey L' key = [] → ∃ w6, (Builtin.delete_ #[63, 9] 0 #[.map (some s.kb), .string key]).run Try.prog w5 = .ok (.tuple #[]) w6 ∧ (∃ D', Holds w6 base { s with L := L' } D' PD) ∧ Turn (fun k => k = s.kb) w w6) := by
  have h3 := h.below hb3
  have hsz := h.size_le
  have hrm := h.room
  have hlm := h.lim
  obtain ⟨l1, l2, l3⟩ := h.lts
  have hbase := h.hsb
  obtain ⟨w5, hrun5, hmap5, hg5⟩ := h3.own.update law9 Try.underlying63 (by unfold maxLen; omega) (WideMaps.keyOf_string_mk Try.underlying9 hk) (val := .slice a (ofKey L' key).length c) (d := .held (.slice a (ofKey L' key).length c)) (ps := []) rfl
  have hm := h.own.isMap
  have hat5 := atKey_put_same hm (k := kl key) trivial (.held (.slice a (ofKey L' key).length c)) (.held nilS)
  have hold5 : ∀ k, k < w.heap.size → k ≠ s.kb → w5.heap[k]? = w.heap[k]? := fun k hk hne => (hg5.block k (Nat.lt_of_lt_of_le hk hb3.size) (fun e => hne (Option.some.inj e))).trans (hb3.block k hk)
  obtain ⟨es0, ck0, hkb, _⟩ := h.own
  have hsk : s.sb ≠ s.kb := fun e => by have := h.blk; rw [e, hkb] at this; cases this
  have hT5 : Turn (fun k => k = s.kb) w w5 := ⟨hg5.os.trans hb3.os, hg5.tape.trans hb3.tape, hg5.output.trans hb3.output, Nat.le_trans hb3.size hg5.size, hold5⟩
  have hrow5 : w5.ownsRow base 70 4 (.slice a (ofKey L' key).length c) (ofKey L' key).length (cellsOf (ofKey L' key)) := by
    refine ownsRow_base (hrow3.kept hg5 (.inr ?_)) (Nat.le_trans hbase (Nat.le_of_lt l1))
    intro e
    rcases hrow3.2 with ⟨e1, _⟩ | ⟨g, cap, cur, e1, hge, _⟩
    · rw [e1] at e; simp [Value.ownBlock] at e
    · rw [e1] at e; simp [Value.ownBlock] at e; omega
  refine ⟨w5, hrun5, look_at hmap5 hat5 hk, hT5.cell h.cell.2.2.2 hsk, fun hne => ⟨⟨_, h.setRow hsub hlen hoth (fun k' hk' => ⟨atKey_put_other (kl_ne hk') _ _, has_put_other (kl_ne hk') _⟩) hat5 hrow5 (by simp [has_put_same hm (k := kl key) trivial, hne]) ⟨_, hmap5⟩ hold5⟩, hT5⟩, fun hnil => ?_⟩
  obtain ⟨w6, hrun6, hmap6, hg6⟩ := hmap5.drop law9 Try.underlying63 (WideMaps.keyOf_string_mk Try.underlying9 hk) 0
  have hT6 := turn_grown hg6.grown
  refine ⟨w6, hrun6, ⟨_, h.setRow (v' := nilS) hsub hlen hoth (fun k' hk' => ⟨(atKey_del_other (kl_ne hk') _).trans (atKey_put_other (kl_ne hk') _ _), (has_del_other (kl_ne hk')).trans (has_put_other (kl_ne hk') _)⟩) (atKey_del_same _) ?_ ?_ ⟨_, hmap6⟩ (fun k hk hne => (hT6.block k (Nat.lt_of_lt_of_le hk hT5.size) hne).trans (hold5 k hk hne))⟩, hT5.trans hT6⟩
  · rw [hnil]; exact World.ownsRow_nil _ _ _ _
  · simp [hnil, has_del_same]

theorem NewRow.drew {l : List Ver} {w : World} {e : Ending} {w' : World} (h : NewRow l w.drew e w') : NewRow l w e w' := by
  obtain ⟨v, a, b, c, d⟩ := h
  exact ⟨v, a, b, ⟨c.os, c.tape, c.output, c.size, c.block⟩, d⟩
theorem cellsOf_drop : ∀ (l : List Ver) (n : Nat), cellsOf (l.drop n) = (cellsOf l).drop (n * 4)
  | [], n => by simp [cellsOf]
  | v :: l, 0 => by simp
  | v :: l, n + 1 => by
    have ih := cellsOf_drop l n
    simp only [List.drop_succ_cons, ih]
    rw [show cellsOf (v :: l) = v.cells ++ cellsOf l from rfl, show (n + 1) * 4 = 4 + n * 4 by omega, ← List.drop_drop]
    congr 1

theorem add_add4 (g n j : Nat) : ((⟨g, 0, none⟩ : Addr).add (n * 4)).add j = ⟨g, n * 4 + j, none⟩ := by
  have h : ∀ m, ((⟨g, 0, none⟩ : Addr).add m).add j = ⟨g, m + j, none⟩ := fun m => by
    by_cases h0 : m = 0 <;> by_cases h1 : j = 0 <;> simp [Addr.add, h0, h1]
  exact h _

/-- What a round of Clean needs of its key's row. -/
theorem cut_any {base : Nat} {s : Sto} {D PD : DataW Value} {w : World} (h : Holds w base s D PD) {key : ByteArray} (hk : key.size ≤ maxLen) (hne : ofKey s.L key ≠ []) {n : Nat} (hn : n ≤ (ofKey s.L key).length) :
    ∃ v v', (∀ x, x.heap = w.heap → (Instr.lookup 63 (.map (some s.kb)) (.string key) false).run Try.prog x = .ok v x) ∧ RowIs w v (ofKey s.L key) ∧ (∀ x, (Instr.slice 67 v (some (.int .i64 (n : Int))) none none).run Try.prog x = .ok v' x) ∧
      Calls Try.prog 36 #[v'] w.drew (NewRow ((ofKey s.L key).drop n) w) := by
  have hrm := h.room
  have hlm := h.lim
  have hle := ofKey_length_le s.L key
  obtain ⟨v, hat, hrow, _⟩ := h.rows key hk
  have hri := rowIs_of_owns hrow
  rcases hrow.2 with ⟨rfl, h0⟩ | ⟨g, cap, cur, rfl, _, hbl, hcells⟩
  · exact absurd (List.eq_nil_of_length_eq_zero h0) hne
  refine ⟨_, _, fun x hx => look_at (ownsMap_of_block h.own (by rw [hx])) hat hk, hri, fun x => cut_run hn x, ?_⟩
  have hlen : (ofKey s.L key).length - n = ((ofKey s.L key).drop n).length := by simp
  rw [hlen]
  have hcap2 : (ofKey s.L key).length ≤ cap := hcells.1
  have hcl := fun (a : Addr) (c : Nat) (hc : ∀ j u, (cellsOf ((ofKey s.L key).drop n))[j]? = some u → w.drew.cell? (a.add j) = some u) => (clone_some a c ((ofKey s.L key).drop n) w.drew (by simp; omega) hc).mono (fun _ _ => NewRow.drew)
  have hdrop : cellsOf ((ofKey s.L key).drop n) = (cellsOf (ofKey s.L key)).drop (n * 4) := cellsOf_drop _ _
  have hcell : ∀ j u, (cellsOf (ofKey s.L key))[j]? = some u → w.drew.cell? ⟨g, j, none⟩ = some u := fun j u hj => by
    have hj' : j < (cellsOf (ofKey s.L key)).length := (List.getElem?_eq_some_iff.1 hj).1
    rw [cellsOf_length] at hj'
    exact (hrow.cellAt j hj').trans hj
  split
  · next hcap =>
    refine hcl _ _ (fun j u hj => ?_)
    have : n = (ofKey s.L key).length := by omega
    rw [this] at hj
    simp [cellsOf] at hj
  · refine hcl _ _ (fun j u hj => ?_)
    rw [hdrop, List.getElem?_drop] at hj
    have := hcell _ u hj
    rw [add_add4]
    exact this

def CleanEnd (base : Nat) (s : Sto) (PD : DataW Value) (w : World) (e : Ending) (w' : World) : Prop :=
  e = .returned (.int .i64 ((s.L.length - (cleanL (leastOf s.pins s.now) s.L).length : Nat) : Int)) ∧ (∃ D', Holds w' base { s with L := cleanL (leastOf s.pins s.now) s.L } D' PD) ∧ Turn (fun k => k = s.kb) w w'

set_option maxRecDepth 100000 in
set_option maxHeartbeats 3200000 in
theorem clean_any {base : Nat} {s : Sto} {D PD : DataW Value} {w : World} (h : Holds w base s D PD) (hs : Sorted s.L) (hnow : s.now ≤ 1000000) (hps : ∀ p ∈ s.pins, p ≤ 1000000) :
    Calls Try.prog 24 #[.pointer (some ⟨s.sb, 0, none⟩)] w (CleanEnd base s PD w) := by
  obtain ⟨c0, _, c2, _⟩ := h.cell
  have lt := h.lts
  have hL := least_any h.drew s.now hnow hps
  have hlow := (leastOf_le s.pins s.now).1
  unfold CleanEnd
  generalize leastOf s.pins s.now = low at *
  go_enter Try.func24, Try.ntmps24
  go_wp2_with fail
  go_region_held3 (fun w' => w'.cell? ⟨s.sb, 0, none⟩ = some (.map (some s.pb)) ∧ w'.cell? ⟨s.sb, 2, none⟩ = some (.int .i64 s.now)) (first | go_keep | exact ⟨(hb.cell (p := ⟨s.sb, 0, none⟩) lt.1).trans c0, (hb.cell (p := ⟨s.sb, 2, none⟩) lt.1).trans c2⟩ | fail) (first | (go_at_call 40; refine hL.mono ?_; rintro e w1 ⟨rfl, hb⟩) | fail)
  have b1 : Below w.heap.size w w1 := ⟨hb.os, hb.tape, hb.output, hb.size, hb.block⟩
  have h1 := h.below b1
  have c3 := h1.cell.2.2.2
  have hsz := h1.size_le
  have hrm := h1.room
  have hlm := h1.lim
  clear hL hb
  go_wp2_with fail
  refine (Try.keys_call _ _).mono ?_
  rintro e w1' ⟨rfl, rfl⟩
  go_wp2_with fail
  refine (Try.sorted_call s.kb _ D RV w1 h1.own (by unfold maxLen; omega) (by omega)).mono ?_
  rintro e w2 ⟨vk, ss, rfl, hS, hrowk, hnilk, b2⟩
  have b12 : Below w1.heap.size w1 w2 := ((Below.refl _ _).alloc (Nat.le_refl _) _).trans (b2.mono (by simp))
  have h2 := h1.below b12
  obtain ⟨ak, ck, rfl⟩ := slice_of_owns hrowk
  go_wp2_with fail
  have hkl := h2.keyList
  have hnd : (ss.mergeSort fun x y => decide (x ≤ y)).Nodup := ((List.mergeSort_perm _ _).trans hS).nodup_iff.2 hkl.1
  have hmem : ∀ x ∈ ss.mergeSort fun x y => decide (x ≤ y), x.length ≤ maxLen ∧ ofKey s.L ⟨x.toArray⟩ ≠ [] := fun x hx => hkl.2.1 x (((List.mergeSort_perm _ _).trans hS).mem_iff.1 hx)
  have hcov : ∀ v ∈ s.L, v.key.data.toList ∈ ss.mergeSort fun x y => decide (x ≤ y) := fun v hv => ((List.mergeSort_perm _ _).trans hS).mem_iff.2 (hkl.2.2 v hv)
  have hlk : (ss.mergeSort fun x y => decide (x ≤ y)).length = ss.length := (List.mergeSort_perm _ _).length_eq
  have hlD : (ss.mergeSort fun x y => decide (x ≤ y)).length ≤ s.L.length := by
    rw [((List.mergeSort_perm _ _).trans hS).length_eq]
    exact Nat.le_trans h2.keyLen hsz
  generalize (ss.mergeSort fun x y => decide (x ≤ y)) = ks at *
  rw [← hlk] at hrowk ⊢
  have HT0 : Turn (fun k => k = s.kb) w w2 := (Turn.of_below b1).trans (Turn.of_below b12)
  have hkb1 : s.kb < w1.heap.size := h1.lts.2.2
  clear hS hkl hnilk hlk b12 b1 b2 h1 c3
  go_loopw [4, 24] (fun out i wr => ∃ (j : Nat) (D' : DataW Value), j ≤ ks.length ∧ i = .int .i64 j ∧ out = .int .i64 ((s.L.length - (upToKey ks j low s.L).length : Nat) : Int) ∧ Holds wr base { s with L := upToKey ks j low s.L } D' PD ∧ Turn (fun k => k = s.kb) w2 wr) (fun _ i _ => ks.length - (intOf i).toNat)
  case atStart => exact ⟨0, D, Nat.zero_le _, rfl, by rw [upToKey_zero, Nat.sub_self]; rfl, by rw [upToKey_zero]; exact h2, Turn.refl _ _⟩
  case round =>
    obtain ⟨j, D', hj, rfl, rfl, hH, hT⟩ := hrel
    by_cases hlt : j < ks.length
    · obtain ⟨x, hx⟩ : ∃ x, ks[j]? = some x := ⟨ks[j], List.getElem?_eq_getElem hlt⟩
      obtain ⟨key, rfl⟩ : ∃ key : ByteArray, x = key.data.toList := ⟨⟨x.toArray⟩, by simp⟩
      obtain ⟨hkey, hne0⟩ := hmem _ (List.mem_of_getElem? hx)
      have eta : (⟨key.data.toList.toArray⟩ : ByteArray) = key := ByteArray.ext (by simp)
      rw [eta] at hne0
      have hkey : key.size ≤ maxLen := by simpa using hkey
      have hfr := fresh_key hnd hx
      have hsucc := upToKey_succ (low := low) (L := s.L) hx
      rw [eta] at hsucc
      have hout : ofKey (upToKey ks j low s.L) key = ofKey s.L key := ofKey_keep_out _ low hfr s.L
      have hnew : ofKey (upToKey ks (j + 1) low s.L) key = (ofKey s.L key).drop (goneN (ofKey s.L key) low) := by
        rw [hsucc]; exact ofKey_keep_in _ low (by simp [alsoKey]) s.L hs
      have hoth : ∀ k', k' ≠ key → ofKey (upToKey ks (j + 1) low s.L) k' = ofKey (upToKey ks j low s.L) k' := fun k' hk' => by
        rw [hsucc]; exact ofKey_keep_also _ low key k' hk' s.L
      have hlen : (upToKey ks j low s.L).length = (upToKey ks (j + 1) low s.L).length + goneN (ofKey s.L key) low := by
        rw [hsucc]; exact keep_length _ low hfr s.L hs
      have hsub : ∀ v ∈ upToKey ks (j + 1) low s.L, v ∈ upToKey ks j low s.L := fun v hv => by
        have hv' : v ∈ ofKey (upToKey ks (j + 1) low s.L) v.key := by simp [ofKey, hv]
        by_cases e : v.key = key
        · rw [e, hnew, ← hout] at hv'
          exact mem_ofKey_in (List.mem_of_mem_drop hv')
        · rw [hoth _ e] at hv'
          exact mem_ofKey_in hv'
      have hlenj : (upToKey ks j low s.L).length ≤ s.L.length := (keepL_sub _ low s.L).length_le
      have hgl := goneN_le (ofKey s.L key) low
      have hll := ofKey_length_le s.L key
      have hcut := cut_any hH hkey (by show ofKey (upToKey ks j low s.L) key ≠ []; rw [hout]; exact hne0) (n := goneN (ofKey s.L key) low) (by show _ ≤ (ofKey (upToKey ks j low s.L) key).length; rw [hout]; exact hgl)
      dsimp only at hcut
      rw [hout, ← hnew] at hcut
      obtain ⟨v, v', hrunL, hri, hrunS, hclone⟩ := hcut
      have hrunL0 := hrunL wr rfl
      have hrunL1 := hrunL wr.drew rfl
      have hrunS1 := hrunS
      obtain ⟨g, rfl⟩ : ∃ g, ak = some ⟨g, 0, none⟩ := by
        rcases hrowk.2 with ⟨_, h0⟩ | ⟨g, _, _, e, _⟩
        · omega
        · exact ⟨g, by simp at e; exact e.1⟩
      have hgk : g ≠ s.kb := fun e => by
        have := (hrowk.lt g rfl).1
        simp at this
        omega
      have ck0 : wr.cell? ⟨g, j, none⟩ = some (.string key) := hT.cell ((hrowk.cellAt j (by omega)).trans (by simp [hx, encStr])) hgk
      have c3 : wr.cell? ⟨s.sb, 3, none⟩ = some (.map (some s.kb)) := hH.cell.2.2.2
      have hlt3 := hH.lts
      have hsk : s.sb ≠ s.kb := by
        obtain ⟨es0, ck0, hkb, _⟩ := hH.own
        intro e; have := hH.blk; simp only [] at this; rw [show ({ s with L := upToKey ks j low s.L } : Sto).sb = s.sb from rfl, e, hkb] at this; cases this
      have hgone := gone_any hri low (by omega)
      have HN := Lib.hid hnew
      have hw7 : IntKind.i64.wrap (((s.L.length - (upToKey ks j low s.L).length : Nat) : Int) + ((goneN (ofKey s.L key) low : Nat) : Int)) = ((s.L.length - (upToKey ks (j + 1) low s.L).length : Nat) : Int) := by
        rw [IntWalk.i64_in _ (by omega)]; omega
      have hset : ∀ w3 a c, Below wr.heap.size wr w3 → _ → _ := fun w3 a c hb hr => set_key hH hkey hsub (by show _ ≤ (upToKey ks j low s.L).length; omega) hoth (w3 := w3) hb (a := a) (c := c) hr
      clear hrunS hnew hout hoth hlen hsub hri hrunL hx eta hsucc hfr hlenj hgl hll hmem hcov hnd
      go_wp2_with fail
      refine hgone.mono ?_
      rintro e w' ⟨rfl, rfl⟩
      go_wp2_with fail
      clear hrunL0 hgone hw7
      have HSET := Lib.hid hset
      clear hset
      go_region_held3 (fun x => x.cell? ⟨s.sb, 3, none⟩ = some (.map (some s.kb)))
        (first | go_keep | exact c3 | exact (World.cell?_of_block (hb3.block s.sb hlt3.1)).trans c3 | exact hc5 | fail)
        (first | (go_at_call 36; (with_reducible refine hclone.mono ?_); rintro e w3 ⟨v3, rfl, hrow3, hb3, -⟩; obtain ⟨a3, c3', rfl⟩ := slice_of_owns hrow3; obtain ⟨w5, hrun5, hlook5, hc5, hA, hB⟩ := HSET.out w3 a3 c3' hb3 hrow3) | fail)
      all_goals
        by_cases he : ofKey (upToKey ks (j + 1) low s.L) key = []
        · obtain ⟨w6, hrun6, ⟨D6, hH6⟩, hT6⟩ := hB he
          have hl0 : (ofKey (upToKey ks (j + 1) low s.L) key).length = 0 := by rw [he]; rfl
          clear hB hA
          rw [hl0] at hlook5 ⊢
          go_wp2
          go_roundw
          case rel => exact ⟨j + 1, D6, by omega, by go_num, rfl, hH6, hT.trans hT6⟩
          case measure => simp [intOf]; omega
        · obtain ⟨⟨D6, hH6⟩, hT6⟩ := hA he
          have hl0 : ¬ (ofKey (upToKey ks (j + 1) low s.L) key).length = 0 := fun e => he (List.eq_nil_of_length_eq_zero e)
          have hl1 : ¬ ((ofKey (upToKey ks (j + 1) low s.L) key).length : Int) = 0 := by omega
          clear hB hA
          go_wp2
          go_roundw
          case rel => exact ⟨j + 1, D6, by omega, by go_num, rfl, hH6, hT.trans hT6⟩
          case measure => simp [intOf]; omega
    · obtain rfl : j = ks.length := by omega
      have hend := upToKey_end (low := low) hcov
      go_wp2
      go_ret
      rw [hend] at hH ⊢
      exact ⟨rfl, ⟨D', hH⟩, HT0.trans hT⟩
end Go.Proofs.Ytghddmlndafefaa
