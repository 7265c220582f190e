/-
  The store's functions Pin, Unpin and the pins' least: contracts.
-/
import Derived.Test.YtghddmlndafefaaStI
import Derived.Deep.RegionHeld3
namespace Go.Proofs.Ytghddmlndafefaa
open Go.RowKit Go.Maps
attribute [local go_sem ↓] Go.wp_at_zero Go.wp_at_succ

def cnt (pins : List Nat) (t : Int) : Nat := pins.countP fun (p : Nat) => decide ((p : Int) = t)
theorem cnt_snoc (pins : List Nat) (p : Nat) (t : Int) : cnt (pins ++ [p]) t = cnt pins t + if (p : Int) = t then 1 else 0 := by
  unfold cnt
  by_cases h : (p : Int) = t <;> simp [List.countP_append, h]
theorem cnt_pos {pins : List Nat} {t : Int} : (∃ p ∈ pins, (p : Int) = t) ↔ 0 < cnt pins t := by
  unfold cnt
  rw [List.countP_pos_iff]
  simp
theorem cnt_le (pins : List Nat) (t : Int) : cnt pins t ≤ pins.length := List.countP_le_length

/-- One pin of the stamp less, if there is one. -/
def unpin (pins : List Nat) (t : Int) : List Nat := pins.eraseP fun (p : Nat) => decide ((p : Int) = t)
theorem unpin_mem {pins : List Nat} {t : Int} {p : Nat} (h : p ∈ unpin pins t) : p ∈ pins := List.mem_of_mem_eraseP h
theorem unpin_length (pins : List Nat) (t : Int) : (unpin pins t).length ≤ pins.length := List.length_eraseP_le
theorem cnt_unpin (t : Int) : ∀ (pins : List Nat) (u : Int), cnt (unpin pins t) u = if u = t then cnt pins u - 1 else cnt pins u
  | [], u => by simp [unpin, cnt]
  | p :: pins, u => by
    have ih := cnt_unpin t pins u
    unfold unpin at ih ⊢
    by_cases hp : (p : Int) = t
    · rw [List.eraseP_cons_of_pos (by simpa using hp)]
      by_cases hu : u = t
      · subst hu; simp [cnt, hp]
      · have : ¬ (p : Int) = u := fun e => hu (e.symm.trans hp)
        simp [cnt, hu, this]
    · rw [List.eraseP_cons_of_neg (by simpa using hp)]
      by_cases hu : u = t
      · subst hu
        rw [if_pos rfl] at ih ⊢
        simp only [cnt, List.countP_cons, hp, decide_false, Bool.false_eq_true, if_false, Nat.add_zero] at ih ⊢
        exact ih
      · rw [if_neg hu] at ih ⊢
        simp only [cnt, List.countP_cons] at ih ⊢
        rw [ih]

theorem pinsAre_iff {PD : DataW Value} {pins : List Nat} : PinsAre PD pins ↔ ∀ t : Int, (Lit.int .i64 t).wf = true → PD.atKey (.int .i64 t) (.lit (.int .i64 0)) = .lit (.int .i64 (cnt pins t)) ∧ (Maps.has PD (.int .i64 t) = true ↔ 0 < cnt pins t) := by
  unfold PinsAre
  constructor
  · intro h t ht
    exact ⟨(h t ht).1, (h t ht).2.trans cnt_pos⟩
  · intro h t ht
    exact ⟨(h t ht).1, (h t ht).2.trans cnt_pos.symm⟩

theorem nodup_le {α : Type} [DecidableEq α] : ∀ (l m : List α), l.Nodup → (∀ x ∈ l, x ∈ m) → l.length ≤ m.length
  | [], _, _, _ => Nat.zero_le _
  | x :: l, m, hn, hs => by
    obtain ⟨h1, h2⟩ := List.nodup_cons.1 hn
    have hx := hs x (by simp)
    have := nodup_le l (m.erase x) h2 (fun y hy => (List.mem_erase_of_ne (fun e => h1 (by rw [← e]; exact hy))).2 (hs y (by simp [hy])))
    rw [List.length_erase_of_mem hx] at this
    have := List.length_pos_of_mem hx
    simp; omega

theorem pkey_of_lit {w : World} {b n : Nat} {PD : DataW Value} (h : w.ownsMap Try.prog 3 (plainElem Try.prog 3) b n PD) {es : List (Lit × DataW Value)} (hD : PD = .map es) : ∀ p ∈ es, ∃ t : Int, p.1 = .int .i64 t ∧ (Lit.int .i64 t).wf = true := by
  obtain ⟨es0, clock, _, F, _, hE⟩ := h
  rw [hD] at hE
  cases hE
  intro p hp
  obtain ⟨x, hx, rfl⟩ := List.mem_map.1 (mem_sorted.1 hp)
  obtain ⟨y, hy⟩ := F.reads x hx
  have hk := WideElems.rd_key hy
  rw [WideElems.rg_of hy]
  obtain ⟨t, _, e, hw⟩ := Maps.keyOf_int_inv Try.underlying3 hk
  exact ⟨t, e, hw⟩

theorem Holds.psize {w : World} {base : Nat} {s : Sto} {D PD : DataW Value} (h : Holds w base s D PD) : Maps.size PD ≤ s.pins.length := by
  obtain ⟨es, hD, hp⟩ := h.pown.tidy law3
  have hk := pkey_of_lit h.pown hD
  have hP := h.pins
  rw [hD]
  show es.length ≤ _
  have e : es.length = (es.map fun p => match p.1 with | .int _ t => t | _ => 0).length := by simp
  rw [e]
  have e2 : s.pins.length = (s.pins.map fun (p : Nat) => (p : Int)).length := by simp
  rw [e2]
  apply nodup_le
  · rw [List.nodup_iff_pairwise_ne, List.pairwise_map]
    refine List.Pairwise.imp_of_mem ?_ hp
    intro p q hp hq hne
    obtain ⟨k, e, _⟩ := hk p hp
    obtain ⟨k', e', _⟩ := hk q hq
    rw [e, e'] at hne ⊢
    intro e2
    apply hne
    simp only at e2
    rw [e2]
  · intro t ht
    obtain ⟨p, hp, rfl⟩ := List.mem_map.1 ht
    obtain ⟨t, e, hw⟩ := hk p hp
    rw [e]
    have := (hP t hw).2.1 (by rw [hD]; exact List.any_eq_true.2 ⟨p, hp, by rw [e]; exact WideAt.sameKey_self (show WideAt.IsKeyLit (.int .i64 t) from trivial)⟩)
    obtain ⟨q, hq, e3⟩ := this
    exact List.mem_map.2 ⟨q, hq, e3⟩

theorem plook {x : World} {pb n : Nat} {PD : DataW Value} {t c : Int} (hown : x.ownsMap Try.prog 3 (plainElem Try.prog 3) pb n PD) (hat : PD.atKey (.int .i64 t) (.lit (.int .i64 0)) = .lit (.int .i64 c)) (ht : (Lit.int .i64 t).wf = true) :
    (Instr.lookup 62 (.map (some pb)) (.int .i64 t) false).run Try.prog x = .ok (.int .i64 c) x := by
  obtain ⟨c', hrun, hat', _⟩ := hown.lookup_int law3 Try.underlying62 Try.underlying3 (zero3 _) (keyOf_int_mk Try.underlying3 ht)
  rw [hat] at hat'
  cases hat'
  exact hrun

theorem wf_i64 {a : Int} (h1 : -9223372036854775808 ≤ a) (h2 : a ≤ 9223372036854775807) : (Lit.int .i64 a).wf = true := WalkArith.wf_i64 (by omega)

/-- The pins turn, and nothing else. -/
theorem Holds.repin {w w' : World} {base : Nat} {s : Sto} {D PD PD' : DataW Value} (h : Holds w base s D PD) {pins' : List Nat} (hp : ∃ n, w'.ownsMap Try.prog 3 (plainElem Try.prog 3) s.pb n PD') (hP : PinsAre PD' pins')
    (hold : ∀ k, k < w.heap.size → k ≠ s.pb → w'.heap[k]? = w.heap[k]?) : Holds w' base { s with pins := pins' } D PD' := by
  obtain ⟨l1, l2, l3⟩ := h.lts
  obtain ⟨n, hp⟩ := hp
  obtain ⟨es0, ck0, hpb, _⟩ := h.pown
  have hsp : s.sb ≠ s.pb := fun e => by have := h.blk; rw [e, hpb] at this; cases this
  exact {
    blk := (hold _ l1 hsp).trans h.blk
    hsb := h.hsb
    hpb := h.hpb
    hkb := h.hkb
    ne := h.ne
    own := ownsMap_of_block h.own (hold _ l3 (Ne.symm h.ne))
    rows := fun key hk => by
      obtain ⟨v, a, b, c⟩ := h.rows key hk
      exact ⟨v, a, ownsRow_of_blocks b (fun k cur hk => hold k (Array.getElem?_eq_some_iff.1 hk).1 (fun e => by rw [e, hpb] at hk; cases hk)), c⟩
    keys := h.keys
    room := h.room
    lim := h.lim
    stamps := h.stamps
    pown := ownsMap_tight hp
    pins := hP }

theorem pins_put {PD : DataW Value} {pins pins' : List Nat} (hP : PinsAre PD pins) (hm : IsMap PD) {t : Int} (ht : (Lit.int .i64 t).wf = true) {c : Nat} (hc : 0 < c) (h1 : cnt pins' t = c) (h2 : ∀ u, u ≠ t → cnt pins' u = cnt pins u) : PinsAre (PD.put (.int .i64 t) (.lit (.int .i64 c))) pins' := by
  rw [pinsAre_iff] at hP ⊢
  intro u hu
  by_cases e : u = t
  · subst e
    rw [atKey_put_same hm (k := .int .i64 u) trivial, has_put_same hm (k := .int .i64 u) trivial, h1]
    exact ⟨rfl, by simp [hc]⟩
  · have hne : (Lit.int .i64 u) ≠ .int .i64 t := fun e' => e (by simpa using e')
    rw [atKey_put_other hne, has_put_other hne, h2 u e]
    exact hP u hu

def PinEnd (base : Nat) (s : Sto) (D : DataW Value) (w : World) (e : Ending) (w' : World) : Prop :=
  e = .returned (.int .i64 s.now) ∧ (∃ PD', Holds w' base { s with pins := s.pins ++ [s.now] } D PD') ∧ Turn (fun k => k = s.pb) w w'

set_option maxRecDepth 100000 in
set_option maxHeartbeats 1600000 in
theorem pin_any {base : Nat} {s : Sto} {D PD : DataW Value} {w : World} (h : Holds w base s D PD) (hnow : s.now ≤ 1000000) (hp : s.pins.length ≤ 1000000) :
    Calls Try.prog 25 #[.pointer (some ⟨s.sb, 0, none⟩)] w (PinEnd base s D w) := by
  obtain ⟨c0, _, c2, _⟩ := h.cell
  have hwt : (Lit.int .i64 (s.now : Int)).wf = true := wf_i64 (by omega) (by omega)
  have hcl := cnt_le s.pins s.now
  have hat := (pinsAre_iff.1 h.pins s.now hwt).1
  have hps := h.psize
  have hpn : w.drew.ownsMap Try.prog 3 (plainElem Try.prog 3) s.pb (Maps.size PD) PD := h.pown
  have hrunL := plook hpn hat hwt
  obtain ⟨w5, hrun5, hmap5, hg5⟩ := hpn.update law3 Try.underlying62 (by unfold maxLen; omega) (keyOf_int_mk Try.underlying3 hwt) (plainElem_int (H := Value) (a := (cnt s.pins s.now : Int) + 1) Try.underlying3 (wf_i64 (by omega) (by omega)))
  have hH5 : Holds w5 base { s with pins := s.pins ++ [s.now] } D (PD.put (.int .i64 s.now) (.lit (.int .i64 ((cnt s.pins s.now : Int) + 1)))) :=
    h.repin ⟨_, hmap5⟩ (pins_put (c := cnt s.pins s.now + 1) h.pins h.pown.isMap hwt (by omega) (by rw [cnt_snoc, if_pos rfl]) (fun u hu => by rw [cnt_snoc, if_neg (fun e => hu e.symm)]; rfl)) (fun k hk hne => hg5.block k hk (fun e => hne (Option.some.inj e)))
  have hT5 : Turn (fun k => k = s.pb) w w5 := ⟨hg5.os, hg5.tape, hg5.output, hg5.size, fun k hk hne => hg5.block k hk (fun e => hne (Option.some.inj e))⟩
  have c2' : w5.cell? ⟨s.sb, 2, none⟩ = some (.int .i64 s.now) := hH5.cell.2.2.1
  have c0' : w5.cell? ⟨s.sb, 0, none⟩ = some (.map (some s.pb)) := hH5.cell.1
  have hw1 : IntKind.i64.wrap ((cnt s.pins s.now : Int) + 1) = (cnt s.pins s.now : Int) + 1 := IntWalk.i64_in _ (by omega)
  clear hat
  go_enter Try.func25, Try.ntmps25
  go_wp2_with fail
  go_region_held3 (fun w' => w'.cell? ⟨s.sb, 0, none⟩ = some (.map (some s.pb)) ∧ w'.cell? ⟨s.sb, 2, none⟩ = some (.int .i64 s.now)) (first | go_keep | exact ⟨c0', c2'⟩ | fail) (fail)
  go_wp2
  go_ret
  exact ⟨rfl, ⟨_, hH5⟩, hT5⟩

theorem pins_del {PD : DataW Value} {pins pins' : List Nat} (hP : PinsAre PD pins) {t : Int} (x : DataW Value) (h1 : cnt pins' t = 0) (h2 : ∀ u, u ≠ t → cnt pins' u = cnt pins u) : PinsAre ((PD.put (.int .i64 t) x).del (.int .i64 t)) pins' := by
  rw [pinsAre_iff] at hP ⊢
  intro u hu
  by_cases e : u = t
  · subst e
    rw [atKey_del_same, has_del_same, h1]
    exact ⟨rfl, by simp⟩
  · have hne : (Lit.int .i64 u) ≠ .int .i64 t := fun e' => e (by simpa using e')
    rw [atKey_del_other hne, has_del_other hne, atKey_put_other hne, has_put_other hne, h2 u e]
    exact hP u hu

def UnpinEnd (base : Nat) (s : Sto) (D : DataW Value) (t : Int) (w : World) (e : Ending) (w' : World) : Prop :=
  e = .returned (.tuple #[]) ∧ (∃ PD', Holds w' base { s with pins := unpin s.pins t } D PD') ∧ Turn (fun k => k = s.pb) w w'

theorem turn_grown {w w' : World} {b : Nat} (hg5 : w.grownBy w' (some b)) : Turn (fun k => k = b) w w' := ⟨hg5.os, hg5.tape, hg5.output, hg5.size, fun k hk hne => hg5.block k hk (fun e => hne (Option.some.inj e))⟩

set_option maxRecDepth 100000 in
set_option maxHeartbeats 1600000 in
theorem unpin_any {base : Nat} {s : Sto} {D PD : DataW Value} {w : World} (h : Holds w base s D PD) (t : Int) (ht1 : -9223372036854775808 ≤ t) (ht2 : t ≤ 9223372036854775807) (hp : s.pins.length ≤ 1000000) :
    Calls Try.prog 32 #[.pointer (some ⟨s.sb, 0, none⟩), .int .i64 t] w (UnpinEnd base s D t w) := by
  obtain ⟨c0, _, _, _⟩ := h.cell
  have hwt : (Lit.int .i64 t).wf = true := wf_i64 ht1 ht2
  have hcl := cnt_le s.pins t
  have hat := (pinsAre_iff.1 h.pins t hwt).1
  have hps := h.psize
  have hrunL := plook h.pown hat hwt
  have hwc : (Lit.int .i64 ((cnt s.pins t : Int) - 1)).wf = true := wf_i64 (by omega) (by omega)
  obtain ⟨w1, hrun1, hmap1, hg1⟩ := h.pown.update law3 Try.underlying62 (by unfold maxLen; omega) (keyOf_int_mk Try.underlying3 hwt) (plainElem_int (H := Value) (a := (cnt s.pins t : Int) - 1) Try.underlying3 hwc)
  have hm := h.pown.isMap
  have hT1 := turn_grown hg1
  obtain ⟨l1, l2, l3⟩ := h.lts
  obtain ⟨es0, ck0, hpb, _⟩ := h.pown
  have hsp : s.sb ≠ s.pb := fun e => by have := h.blk; rw [e, hpb] at this; cases this
  have hwtU := keyOf_int_mk Try.underlying3 hwt
  have c01 : w1.cell? ⟨s.sb, 0, none⟩ = some (.map (some s.pb)) := hT1.cell c0 hsp
  have hrunL1 := plook hmap1 (atKey_put_same hm (k := .int .i64 t) trivial _ _) hwt
  obtain ⟨w2, hrun2, hmap2, hg2⟩ := hmap1.drop law3 Try.underlying62 hwtU 0
  have hg2' := hg2.grown
  have hcu := cnt_unpin t s.pins
  by_cases hc : cnt s.pins t ≤ 1
  · have hH : Holds w2 base { s with pins := unpin s.pins t } D _ := h.repin ⟨_, hmap2⟩ (pins_del h.pins _ (by rw [hcu, if_pos rfl]; omega) (fun u hu => by rw [hcu, if_neg hu])) (fun k hk hne => ((turn_grown hg2').block k (Nat.lt_of_lt_of_le hk hg1.size) hne).trans (hT1.block k hk hne))
    have hT := hT1.trans (turn_grown hg2')
    have hc1 : (cnt s.pins t : Int) - 1 ≤ 0 := by omega
    clear hat hmap1 hmap2 hg1 hg2 hg2' hT1 hpb hcu
    go_enter Try.func32, Try.ntmps32
    go_wp2
    go_end0
    exact ⟨rfl, ⟨_, hH⟩, hT⟩
  · have hH : Holds w1 base { s with pins := unpin s.pins t } D _ := h.repin ⟨_, hmap1⟩ (by
        have := pins_put (c := cnt s.pins t - 1) h.pins hm hwt (by omega) (pins' := unpin s.pins t) (by rw [hcu, if_pos rfl]) (fun u hu => by rw [hcu, if_neg hu])
        rw [show ((cnt s.pins t - 1 : Nat) : Int) = (cnt s.pins t : Int) - 1 by omega] at this
        exact this) (fun k hk hne => hT1.block k hk hne)
    have hc1 : ¬ (cnt s.pins t : Int) - 1 ≤ 0 := by omega
    clear hat hmap1 hmap2 hg1 hg2 hg2' hrun2 hpb hcu
    go_enter Try.func32, Try.ntmps32
    go_wp2
    go_end0
    exact ⟨rfl, ⟨_, hH⟩, hT1⟩

/-! ### the least pin -/
def leastOf (pins : List Nat) (now : Nat) : Nat := pins.foldl Nat.min now
theorem leastOf_le : ∀ (pins : List Nat) (now : Nat), leastOf pins now ≤ now ∧ ∀ p ∈ pins, leastOf pins now ≤ p
  | [], now => ⟨Nat.le_refl _, by simp⟩
  | p :: pins, now => by
    obtain ⟨h1, h2⟩ := leastOf_le pins (Nat.min now p)
    refine ⟨Nat.le_trans h1 (Nat.min_le_left _ _), fun q hq => ?_⟩
    rcases List.mem_cons.1 hq with rfl | hq
    · exact Nat.le_trans h1 (Nat.min_le_right _ _)
    · exact h2 q hq
theorem leastOf_mem : ∀ (pins : List Nat) (now : Nat), leastOf pins now = now ∨ leastOf pins now ∈ pins
  | [], now => .inl rfl
  | p :: pins, now => by
    show leastOf pins (Nat.min now p) = now ∨ leastOf pins (Nat.min now p) ∈ p :: pins
    rcases leastOf_mem pins (Nat.min now p) with h | h
    · rw [h]
      rcases Nat.le_total now p with h | h
      · left; exact Nat.min_eq_left h
      · right; rw [show Nat.min now p = p from Nat.min_eq_right h]; simp
    · right; exact List.mem_cons_of_mem _ h
theorem leastOf_unique {pins : List Nat} {now n : Nat} (h1 : n ≤ now) (h2 : ∀ p ∈ pins, n ≤ p) (h3 : n = now ∨ n ∈ pins) : n = leastOf pins now := by
  obtain ⟨a, b⟩ := leastOf_le pins now
  rcases h3 with rfl | h3
  · rcases leastOf_mem pins n with h | h
    · exact h.symm
    · have := h2 _ h; omega
  · have := b _ h3
    rcases leastOf_mem pins now with h | h
    · omega
    · have := h2 _ h; omega

set_option maxRecDepth 100000 in
set_option maxHeartbeats 1600000 in
theorem least_any {base : Nat} {s : Sto} {D PD : DataW Value} {w : World} (h : Holds w base s D PD) (now : Nat) (hnow : now ≤ 1000000) (hps : ∀ p ∈ s.pins, p ≤ 1000000) :
    Calls Try.prog 40 #[.map (some s.pb), .int .i64 now] w (IntBelow (leastOf s.pins now : Nat) w) := by
  have hown := h.pown
  have hP := h.pins
  have hm := h.pown.isMap
  go_enter Try.func40, Try.ntmps40
  go_wp2_with (at_range; refine wpList_range_own _ rfl _ 62 rfl 3 3 law3 Try.underlying62 _ s.pb (Maps.size PD) PD rfl hown ?_; intro w0 hrg0 hg0 hs0)
  go_frame
  have hnx0 : Below w.heap.size w w0 := (Below.refl _ _).grown hg0 (Nat.le_refl _) (by simp)
  clear hs0
  go_loopw [1, 5] (fun n _ wr => ∃ (left : Lit → Bool) (cnt m : Nat), wr.ranges Try.prog 3 (plainElem Try.prog 3) s.pb w.heap.size (Maps.size PD) PD left cnt ∧ n = .int .i64 m ∧ Hid (m ≤ now ∧ (∀ p ∈ s.pins, left (.int .i64 p) = false → m ≤ p) ∧ (m = now ∨ m ∈ s.pins)) ∧ Below w.heap.size w wr) (fun _ _ wr => wr.rangeLeft s.pb w.heap.size)
  case atStart =>
    have H0 : Hid (now ≤ now ∧ (∀ p ∈ s.pins, Maps.has PD (.int .i64 (p : Int)) = false → now ≤ p) ∧ (now = now ∨ now ∈ s.pins)) := by
      refine ⟨Nat.le_refl _, fun p hp hl => ?_, .inl rfl⟩
      have := (hP p (wf_i64 (by omega) (by have := hps p hp; omega))).2.2 ⟨p, hp, rfl⟩
      rw [this] at hl
      cases hl
    exact ⟨_, _, now, hrg0, rfl, H0, hnx0⟩
  case round =>
    obtain ⟨left, cnt, m, hrg, rfl, HM, hnx⟩ := hrel
    have hmb : m ≤ 1000000 := by have := HM.out.1; omega
    go_wp2_with (at_next; refine wpList_next_ranges_ii _ rfl _ rfl 3 3 .i64 .i64 law3 Try.underlying3 Try.underlying3 s.pb w.heap.size (Maps.size PD) PD left cnt rfl hrg ?_ ?_)
    · intro _ hl0
      have H : Hid (m = leastOf s.pins now) := leastOf_unique HM.out.1 (fun p hp => HM.out.2.1 p hp (hl0 _)) HM.out.2.2
      go_wp2
      go_ret
      exact ⟨ret_int (by rw [H.out]), hnx⟩
    · intro x c w1 cnt1 hwx hwc hlx hat hrg1 hlt hg1 hs1 hen
      obtain ⟨q, hq, hqx⟩ := (hP x hwx).2.1 (Maps.has_true_of_atKey hat)
      subst hqx
      have hq1 := hps q hq
      have HL := Lib.hid (hrg.left_eq : wr.rangeLeft s.pb w.heap.size = cnt)
      have HL3 := Lib.hid (hrg1.left_eq : w1.rangeLeft s.pb w.heap.size = cnt1)
      have HN : Hid (Nat.min m q ≤ now ∧ (∀ p ∈ s.pins, (left (.int .i64 p) && !(Lit.int .i64 p).sameKey (.int .i64 q)) = false → Nat.min m q ≤ p) ∧ (Nat.min m q = now ∨ Nat.min m q ∈ s.pins)) := by
        obtain ⟨h1, h2, h3⟩ := HM.out
        refine ⟨Nat.le_trans (Nat.min_le_left _ _) h1, fun p hp hl => ?_, ?_⟩
        · by_cases e : p = q
          · subst e; exact Nat.min_le_right _ _
          · rw [sameKey_ne (fun e' => e (by simp at e'; omega))] at hl
            exact Nat.le_trans (Nat.min_le_left _ _) (h2 p hp (by simpa using hl))
        · rcases Nat.le_total m q with h | h
          · rw [show Nat.min m q = m from Nat.min_eq_left h]; exact h3
          · rw [show Nat.min m q = q from Nat.min_eq_right h]; exact .inr hq
      have hb1 := hnx.grown hg1 hnx.size (by intro j hj; cases hj; exact Nat.le_refl _)
      clear hs1 hat hwx hwc hg1
      have hmn : (if q < m then (q : Int) else (m : Int)) = ((Nat.min m q : Nat) : Int) := by
        show _ = ((if m ≤ q then m else q : Nat) : Int)
        split <;> split <;> omega
      have HMN := Lib.hid hmn
      clear hmn
      go_wp2
      go_roundw
      case rel => exact ⟨_, cnt1, Nat.min m q, hrg1, by rw [HMN.out], HN, hb1⟩
      case measure => rw [HL.out, HL3.out]; exact hlt
end Go.Proofs.Ytghddmlndafefaa
