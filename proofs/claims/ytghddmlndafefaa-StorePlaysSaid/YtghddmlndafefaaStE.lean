/-
  store.Commit: a contract over the description of a store.
-/
import Derived.Test.YtghddmlndafefaaStD
import Derived.Deep.DrawnRows
namespace Go.Proofs.Ytghddmlndafefaa
open Go.RowKit Go.Maps

theorem clone_any {base : Nat} {v : Value} {l : List Ver} {w : World} (hrow : w.ownsRow base 70 4 v l.length (cellsOf l)) (hl : l.length ≤ 10000) :
    Calls Try.prog 36 #[v] w fun e w' => ∃ v', e = .returned v' ∧ w'.ownsRow w.heap.size 70 4 v' l.length (cellsOf l) ∧ Below w.heap.size w w' := by
  rcases hrow.2 with ⟨rfl, h0⟩ | ⟨g, cap, cur, rfl, _⟩
  · obtain rfl : l = [] := List.eq_nil_of_length_eq_zero h0
    refine (clone_nil w).mono ?_
    rintro e w' ⟨rfl, rfl⟩
    exact ⟨_, rfl, World.ownsRow_nil _ _ _ _, Below.refl _ _⟩
  · refine (clone_some _ _ l w hl (World.ownsRow.cells (v := .slice (some ⟨g, 0, none⟩) l.length cap) (by simpa using ‹_›) rfl)).mono ?_
    rintro e w' ⟨v', rfl, h1, h2, _⟩
    exact ⟨v', rfl, h1, h2⟩

/-- 'm[k] = v' AT A STEP OF A REGION THAT DRAWS ITS ORDER. -/
theorem step_mapUpdate_own {H : Type} {P : Program} {w : World} {ops : Array Oper} {o : Oper} {a : Act} {K : Act → World → Prop} {Q : Exit → Act → World → Prop} {E : Prop} (hgd : o.guard = none)
    (m x v : Operand) (t : TypeId) (hop : o.op = Op.mapUpdate t m x v)
    (k e : TypeId) (Kd : Keyed P k) (ht : P.underlying t = some (.map k e)) (R : Value → Option (DataW H × List MemPlace)) (b n : Nat) (D : DataW H)
    (hm : a.eval m = .map (some b)) (hown : w.ownsMap P k R b n D) (hn : n < maxLen) (key val : Value) (kl : Lit) (hx : a.eval x = key) (hv : a.eval v = val) (hkey : keyOf P k key = some kl)
    (d : DataW H) (ps : List MemPlace) (hval : R val = some (d, ps))
    (h : ∀ w', w'.ownsMap P k R b (n + 1) (D.put kl d) → w.grownBy w' (some b) → K (a.put o.dst undef) w') :
    if Region.wanted o (yielded ops a.tmps) = true then Oper.wp P o a w K Q else E := by
  have hw : Region.wanted o (yielded ops a.tmps) = true := by simp [Region.wanted, hgd]
  rw [if_pos hw]
  obtain ⟨w', hrun, r1, r2⟩ := hown.update Kd ht hn hkey hval
  unfold Oper.wp
  simp [execOp, hop, hm, hx, hv, hrun, Result.andThen]
  exact h w' r1 r2

attribute [local go_sem ↓] Go.wp_at_zero Go.wp_at_succ

/-- What is written. -/
structure Wr where
  key : ByteArray
  val : ByteArray
  gone : Bool
def Wr.ver (x : Wr) (t : Nat) : Ver := ⟨x.key, x.val, x.gone, t⟩
def vers (ws : List Wr) (t : Nat) : List Ver := ws.map fun x => x.ver t

/-- A slice of writes that reads as ws, in a block below B. -/
def WrIs (w : World) (v : Value) (ws : List Wr) : Prop :=
  (v = nilS ∧ ws = []) ∨ ∃ g off cap, v = .slice (some ⟨g, off, none⟩) ws.length cap ∧
    ∀ i u, ws[i]? = some u → w.cell? ⟨g, off + i * 3, none⟩ = some (.string u.key) ∧ w.cell? ⟨g, off + i * 3 + 1, none⟩ = some (.string u.val) ∧ w.cell? ⟨g, off + i * 3 + 2, none⟩ = some (.bool u.gone)

theorem ownsMap_of_block {P : Program} {k : TypeId} {R : Value → Option (DataW Value × List MemPlace)} {w w' : World} {b n : Nat} {D : DataW Value} (h : w.ownsMap P k R b n D) (hb : w'.heap[b]? = w.heap[b]?) : w'.ownsMap P k R b n D := by
  obtain ⟨es, clock, h1, h2⟩ := h
  exact ⟨es, clock, hb.trans h1, h2⟩

theorem ownsRow_of_blocks {w w' : World} {base : Nat} {e : TypeId} {size n : Nat} {v : Value} {xs : List Value} (h : w.ownsRow base e size v n xs) (hb : ∀ (k : Nat) (cur : Array Value), w.heap[k]? = some (.cells cur e (0, 0)) → w'.heap[k]? = w.heap[k]?) : w'.ownsRow base e size v n xs := by
  refine ⟨h.1, ?_⟩
  rcases h.2 with h | ⟨g, cap, cur, rfl, h1, h2, h3⟩
  · exact .inl h
  · exact .inr ⟨g, cap, cur, rfl, h1, (hb g cur h2).trans h2, h3⟩

/-- A store is what it was where its blocks are what they were. -/
theorem Holds.keep {w w' : World} {base : Nat} {s : Sto} {D PD : DataW Value} (h : Holds w base s D PD) (h1 : w'.heap[s.sb]? = w.heap[s.sb]?) (h2 : w'.heap[s.pb]? = w.heap[s.pb]?) (h3 : w'.heap[s.kb]? = w.heap[s.kb]?)
    (h4 : ∀ (k : Nat) (cur : Array Value), w.heap[k]? = some (.cells cur 70 (0, 0)) → w'.heap[k]? = w.heap[k]?) : Holds w' base s D PD where
  blk := h1.trans h.blk
  hsb := h.hsb
  hpb := h.hpb
  hkb := h.hkb
  ne := h.ne
  own := ownsMap_of_block h.own h3
  rows := fun key hk => by
    obtain ⟨v, a, b, c⟩ := h.rows key hk
    exact ⟨v, a, ownsRow_of_blocks b h4, c⟩
  keys := h.keys
  room := h.room
  lim := h.lim
  stamps := h.stamps
  pown := ownsMap_of_block h.pown h2
  pins := h.pins

theorem Holds.drew {w : World} {base : Nat} {s : Sto} {D PD : DataW Value} (h : Holds w base s D PD) : Holds w.drew base s D PD := h.keep rfl rfl rfl (fun _ _ _ => rfl)

theorem Holds.lts {w : World} {base : Nat} {s : Sto} {D PD : DataW Value} (h : Holds w base s D PD) : s.sb < w.heap.size ∧ s.pb < w.heap.size ∧ s.kb < w.heap.size :=
  ⟨(Array.getElem?_eq_some_iff.1 h.blk).1, h.pown.lt, h.own.lt⟩

theorem Holds.below {w w' : World} {base : Nat} {s : Sto} {D PD : DataW Value} (h : Holds w base s D PD) (hb : Below w.heap.size w w') : Holds w' base s D PD := by
  obtain ⟨l1, l2, l3⟩ := h.lts
  exact h.keep (hb.block _ l1) (hb.block _ l2) (hb.block _ l3) (fun k cur hk => hb.block _ (Array.getElem?_eq_some_iff.1 hk).1)

def FullEnd (w : World) (e : Ending) (w' : World) : Prop := e = .returned (.tuple #[.int .i64 0, .int .i64 13]) ∧ Below w.heap.size w w'

set_option maxRecDepth 100000 in
set_option maxHeartbeats 800000 in
theorem commit_full {base : Nat} {s : Sto} {D PD : DataW Value} {w : World} (h : Holds w base s D PD) (a : Option Addr) (n c : Nat) (hn : n ≤ 10000) (hf : s.lim < s.L.length + n) :
    Calls Try.prog 20 #[.pointer (some ⟨s.sb, 0, none⟩), .slice a n c] w (FullEnd w) := by
  have hc := count_any h.drew
  have c1 := h.cell.2.1
  have lt := h.lts.1
  have h1 := h.room
  have h2 := h.lim
  have hw : IntKind.i64.wrap ((s.L.length : Int) + n) = (s.L.length : Int) + n := IntWalk.i64_in _ (by omega)
  have hd : ((s.lim : Int) < (s.L.length : Int) + n) := by omega
  clear h
  go_enter Try.func20, Try.ntmps20
  go_wp2_with fail
  go_region_held3 (fun w' => w'.cell? ⟨s.sb, 1, none⟩ = some (.int .i64 s.lim)) (first | go_keep | (exact (hb.cell (p := ⟨s.sb, 1, none⟩) lt).trans c1)) (first | (go_at_call 23; refine hc.mono ?_; rintro e w' ⟨rfl, hb⟩))
  go_wp2
  go_ret2
  exact ⟨rfl, ⟨hb.os, hb.tape, hb.output, hb.size, hb.block⟩⟩

/-- Blocks outside S are what they were. -/
structure Turn (S : Nat → Prop) (w w' : World) : Prop where
  os : w'.os = w.os
  tape : w'.tape = w.tape
  output : w'.output = w.output
  size : w.heap.size ≤ w'.heap.size
  block : ∀ k, k < w.heap.size → ¬ S k → w'.heap[k]? = w.heap[k]?

theorem Turn.refl (S : Nat → Prop) (w : World) : Turn S w w := ⟨rfl, rfl, rfl, Nat.le_refl _, fun _ _ _ => rfl⟩
theorem Turn.trans {S : Nat → Prop} {a b c : World} (h : Turn S a b) (h' : Turn S b c) : Turn S a c :=
  ⟨h'.os.trans h.os, h'.tape.trans h.tape, h'.output.trans h.output, Nat.le_trans h.size h'.size, fun k hk hs => (h'.block k (Nat.lt_of_lt_of_le hk h.size) hs).trans (h.block k hk hs)⟩
theorem Turn.of_below {S : Nat → Prop} {w w' : World} (h : Below w.heap.size w w') : Turn S w w' := ⟨h.os, h.tape, h.output, h.size, fun k hk _ => h.block k hk⟩
theorem Turn.of_grown {S : Nat → Prop} {w w' : World} {row : Option Nat} (h : w.grownBy w' row) (hr : ∀ k, row = some k → S k) : Turn S w w' :=
  ⟨h.os, h.tape, h.output, h.size, fun k hk hs => h.block k hk (fun e => hs (hr k e.symm))⟩
theorem Turn.of_setCell {S : Nat → Prop} {w : World} {p : Addr} (hp : S p.block) (u : Value) : Turn S w (w.setCell p u) :=
  ⟨rfl, rfl, rfl, by simp [World.setCell], fun k _ hs => Below.heap_setCell _ _ _ _ (fun e => hs (by rw [e]; exact hp))⟩
theorem Turn.mono {S S' : Nat → Prop} {w w' : World} (h : Turn S w w') (hs : ∀ k, k < w.heap.size → S k → S' k) : Turn S' w w' :=
  ⟨h.os, h.tape, h.output, h.size, fun k hk hn => h.block k hk (fun h' => hn (hs k hk h'))⟩
theorem Turn.to_below {S : Nat → Prop} {w w' : World} {B : Nat} (h : Turn S w w') (hB : B ≤ w.heap.size) (hs : ∀ k, S k → B ≤ k) : Below B w w' :=
  ⟨h.os, h.tape, h.output, h.size, fun k hk => h.block k (by omega) (fun h' => by have := hs k h'; omega)⟩
theorem Turn.cell {S : Nat → Prop} {w w' : World} (h : Turn S w w') {p : Addr} {v : Value} (hv : w.cell? p = some v) (hp : ¬ S p.block) : w'.cell? p = some v :=
  (World.cell?_of_block (h.block p.block (World.block_lt_of_cell? w p hv) hp)).trans hv

theorem ownsMap_tight {P : Program} {k : TypeId} {R : Value → Option (DataW Value × List MemPlace)} {w : World} {b n : Nat} {D : DataW Value} (h : w.ownsMap P k R b n D) : w.ownsMap P k R b (Maps.size D) D := by
  obtain ⟨es, clock, h1, F, h2, rfl⟩ := h
  exact ⟨es, clock, h1, F, by simp [Maps.size, length_sorted], rfl⟩

theorem ofKey_ver (x : Wr) (t : Nat) (k : ByteArray) : ofKey [x.ver t] k = if x.key = k then [x.ver t] else [] := by
  unfold ofKey
  by_cases e : x.key = k <;> simp [Wr.ver, e]

theorem kl_inj {a b : ByteArray} (h : kl a = kl b) : a = b := by
  simp [kl] at h
  exact ByteArray.ext h

theorem Holds.put {w w' : World} {base : Nat} {s : Sto} {D PD : DataW Value} (h : Holds w base s D PD) (u : Wr) (hu : u.key.size ≤ maxLen) {v' : Value}
    (hmap : w'.ownsMap Try.prog 9 RV s.kb (Maps.size D + 1) (D.put (kl u.key) (.held v')))
    (hrow : w'.ownsRow base 70 4 v' ((ofKey s.L u.key).length + 1) (cellsOf (ofKey s.L u.key) ++ (u.ver s.now).cells))
    (hold : ∀ k, k < w.heap.size → k ≠ s.kb → w'.heap[k]? = w.heap[k]?) (hroom : s.L.length + 1 ≤ s.lim) :
    Holds w' base { s with L := s.L ++ [u.ver s.now] } (D.put (kl u.key) (.held v')) PD := by
  obtain ⟨l1, l2, l3⟩ := h.lts
  have hm := h.own.isMap
  obtain ⟨es0, ck0, hkb, _⟩ := h.own
  have hsk : s.sb ≠ s.kb := fun e => by have := h.blk; rw [e, hkb] at this; cases this
  refine ⟨(hold _ l1 hsk).trans h.blk, h.hsb, h.hpb, h.hkb, h.ne, ownsMap_tight hmap, ?_, ?_, by simpa using hroom, h.lim, ?_, ownsMap_of_block h.pown (hold _ l2 h.ne), h.pins⟩
  · intro key hk
    show ∃ v, _ ∧ w'.ownsRow base 70 4 v (ofKey (s.L ++ [u.ver s.now]) key).length (cellsOf (ofKey (s.L ++ [u.ver s.now]) key)) ∧ (_ ↔ ofKey (s.L ++ [u.ver s.now]) key ≠ [])
    rw [ofKey_append, ofKey_ver]
    by_cases e : u.key = key
    · subst e
      rw [if_pos rfl]
      exact ⟨v', atKey_put_same hm (k := kl u.key) trivial _ _, by simpa [cellsOf_append, cellsOf] using hrow, by simp [has_put_same hm (k := kl u.key) trivial]⟩
    · rw [if_neg e, List.append_nil]
      obtain ⟨v, a, b, c⟩ := h.rows key hk
      have hne : kl key ≠ kl u.key := fun e' => e (kl_inj e').symm
      exact ⟨v, by rw [atKey_put_other hne]; exact a, ownsRow_of_blocks b (fun k cur hk => hold k (Array.getElem?_eq_some_iff.1 hk).1 (fun e' => by rw [e', hkb] at hk; cases hk)), by rw [has_put_other hne]; exact c⟩
  · intro v hv
    rcases List.mem_append.1 hv with hv | hv
    · exact h.keys v hv
    · simp at hv; subst hv; exact hu
  · intro v hv
    rcases List.mem_append.1 hv with hv | hv
    · exact h.stamps v hv
    · simp at hv; subst hv; exact Nat.le_refl _

/-- The stamp goes on by one. -/
theorem Holds.tick {w : World} {base : Nat} {s : Sto} {D PD : DataW Value} (h : Holds w base s D PD) : Holds (w.setCell ⟨s.sb, 2, none⟩ (.int .i64 ((s.now : Int) + 1))) base { s with now := s.now + 1 } D PD := by
  obtain ⟨es0, ck0, hkb, _⟩ := h.own
  obtain ⟨es1, ck1, hpb, _⟩ := h.pown
  have hsk : s.kb ≠ s.sb := fun e => by have := h.blk; rw [← e, hkb] at this; cases this
  have hsp : s.pb ≠ s.sb := fun e => by have := h.blk; rw [← e, hpb] at this; cases this
  refine ⟨?_, h.hsb, h.hpb, h.hkb, h.ne, ownsMap_of_block h.own (Below.heap_setCell _ _ _ _ hsk), ?_, h.keys, h.room, h.lim, fun v hv => Nat.le_succ_of_le (h.stamps v hv), ownsMap_of_block h.pown (Below.heap_setCell _ _ _ _ hsp), h.pins⟩
  · have := h.blk
    simp [World.setCell, Array.getElem?_modify, this]
  · intro key hk
    obtain ⟨v, a, b, c⟩ := h.rows key hk
    refine ⟨v, a, ownsRow_of_blocks b (fun k cur hk => Below.heap_setCell _ _ _ _ (fun e => ?_)), c⟩
    have := h.blk
    simp only at e
    rw [← e, hk] at this
    cases this

theorem cell_new (w : World) (cs : Array Value) (t : TypeId) (j : Nat) : (w.alloc (.cells cs t)).cell? ⟨w.heap.size, j, none⟩ = cs[j]? :=
  cell_of_row _ _ _ _ _ _ (heap_alloc_new w _)

theorem look_at {x : World} {kb n : Nat} {D : DataW Value} {key : ByteArray} {v : Value} (hown : x.ownsMap Try.prog 9 RV kb n D) (hat : D.atKey (kl key) (.held nilS) = .held v) (hk : key.size ≤ maxLen) :
    (Instr.lookup 63 (.map (some kb)) (.string key) false).run Try.prog x = .ok v x := by
  obtain ⟨v', ps, hrun, hR⟩ := hown.lookup law9 Try.underlying63 (zero67 _) RV_nil (WideMaps.keyOf_string_mk Try.underlying9 hk)
  have e := (RV_inv hR).2
  rw [show Lit.string key.data.toList = kl key from rfl, hat] at e
  simp at e
  obtain ⟨rfl, _⟩ := e
  exact hrun

theorem ownsRow_base {w : World} {base base' : Nat} {e : TypeId} {size n : Nat} {v : Value} {xs : List Value} (h : w.ownsRow base e size v n xs) (hb : base' ≤ base) : w.ownsRow base' e size v n xs := by
  refine ⟨h.1, ?_⟩
  rcases h.2 with h | ⟨g, cap, cur, rfl, h1, h2⟩
  · exact .inl h
  · exact .inr ⟨g, cap, cur, rfl, Nat.le_trans hb h1, h2⟩

theorem len_le_sum {α : Type} (f : α → Nat) : ∀ l : List α, (∀ x ∈ l, 1 ≤ f x) → l.length ≤ (l.map f).sum
  | [], _ => Nat.le_refl _
  | x :: l, h => by
    have := len_le_sum f l (fun y hy => h y (by simp [hy]))
    have := h x (by simp)
    simp; omega

theorem Holds.size_le {w : World} {base : Nat} {s : Sto} {D PD : DataW Value} (h : Holds w base s D PD) : Maps.size D ≤ s.L.length := by
  obtain ⟨es, hD, hp⟩ := h.own.tidy law9
  have hc := h.count hD
  have hk := key_of_lit h.own hD
  rw [← hc, hD]
  refine len_le_sum _ _ (fun p hp => ?_)
  obtain ⟨k, e, hks⟩ := hk p hp
  rw [e, nOf_kl]
  obtain ⟨v, _, _, hh⟩ := h.rows k hks
  have : Maps.has D (kl k) = true := by
    rw [hD]
    exact List.any_eq_true.2 ⟨p, hp, by rw [e]; exact WideAt.sameKey_self (show WideAt.IsKeyLit (kl k) from trivial)⟩
  have := hh.1 this
  cases ho : ofKey s.L k with
  | nil => exact absurd ho this
  | cons x r => simp

def Sto.upTo (s : Sto) (ws : List Wr) (j : Nat) : Sto := { s with now := s.now + 1, L := s.L ++ vers (ws.take j) (s.now + 1) }
theorem Sto.upTo_zero (s : Sto) (ws : List Wr) : s.upTo ws 0 = { s with now := s.now + 1 } := by simp [Sto.upTo, vers]
theorem Sto.upTo_succ (s : Sto) (ws : List Wr) (j : Nat) (u : Wr) (h : ws[j]? = some u) : s.upTo ws (j + 1) = { s.upTo ws j with L := (s.upTo ws j).L ++ [u.ver (s.upTo ws j).now] } := by
  simp [Sto.upTo, vers, List.take_add_one, h]

def OkEnd (base : Nat) (s : Sto) (ws : List Wr) (PD : DataW Value) (w : World) (e : Ending) (w' : World) : Prop :=
  e = .returned (.tuple #[.int .i64 ((s.now + 1 : Nat) : Int), .int .i64 0]) ∧ (∃ D', Holds w' base { s with now := s.now + 1, L := s.L ++ vers ws (s.now + 1) } D' PD) ∧ Turn (fun k => k = s.sb ∨ k = s.kb) w w'

theorem WrIs.off {base : Nat} {s : Sto} {D PD : DataW Value} {w : World} (h : Holds w base s D PD) {g o : Nat} {x : ByteArray} (hc : w.cell? ⟨g, o, none⟩ = some (.string x)) : g ≠ s.sb ∧ g ≠ s.kb := by
  constructor
  · intro e
    subst e
    have := h.blk
    simp [World.cell?, this] at hc
    match o, hc with
    | 0, hc => simp at hc
    | 1, hc => simp at hc
    | 2, hc => simp at hc
    | 3, hc => simp at hc
    | n + 4, hc => simp at hc
  · intro e
    obtain ⟨es0, ck0, hkb, _⟩ := h.own
    subst e
    simp [World.cell?, hkb] at hc

set_option maxRecDepth 100000 in
set_option maxHeartbeats 1600000 in
theorem commit_row {base : Nat} {s : Sto} {D PD : DataW Value} {w : World} (h : Holds w base s D PD) (g off cap : Nat) (ws : List Wr) (hk : ∀ x ∈ ws, x.key.size ≤ maxLen) (hf : s.L.length + ws.length ≤ s.lim) (hnow : s.now ≤ 1000000)
    (hcells : ∀ i u, ws[i]? = some u → w.cell? ⟨g, off + i * 3, none⟩ = some (.string u.key) ∧ w.cell? ⟨g, off + i * 3 + 1, none⟩ = some (.string u.val) ∧ w.cell? ⟨g, off + i * 3 + 2, none⟩ = some (.bool u.gone)) :
    Calls Try.prog 20 #[.pointer (some ⟨s.sb, 0, none⟩), .slice (some ⟨g, off, none⟩) ws.length cap] w (OkEnd base s ws PD w) := by
  obtain ⟨i0, hi0, hz0, hz1, hz2⟩ := info_parts info70
  have hc := count_any h.drew
  have c1 := h.cell.2.1
  have lt := h.lts.1
  have h1 := h.room
  have h2 := h.lim
  have hw : IntKind.i64.wrap ((s.L.length : Int) + (ws.length : Nat)) = (s.L.length : Int) + (ws.length : Nat) := IntWalk.i64_in _ (by omega)
  have hd : ¬ ((s.lim : Int) < (s.L.length : Int) + (ws.length : Nat)) := by omega
  have HC := Lib.hid hcells
  clear hcells
  go_enter Try.func20, Try.ntmps20
  go_wp2_with fail
  go_region_held3 (fun w' => w'.cell? ⟨s.sb, 1, none⟩ = some (.int .i64 s.lim)) (first | go_keep | (exact (hb.cell (p := ⟨s.sb, 1, none⟩) lt).trans c1)) (first | (go_at_call 23; refine hc.mono ?_; rintro e w' ⟨rfl, hb⟩))
  have hb' : Below w.heap.size w w' := ⟨hb.os, hb.tape, hb.output, hb.size, hb.block⟩
  have h' := h.below hb'
  have c2 := h'.cell.2.2.1
  have f2 := h'.free 2
  clear hw hc
  go_wp2_with fail
  have hT0 : Turn (fun k => k = s.sb ∨ k = s.kb) w (w'.setCell ⟨s.sb, 2, none⟩ (.int .i64 ((s.now : Int) + 1))) := (Turn.of_below hb').trans (Turn.of_setCell (.inl rfl) _)
  have hH0 := h'.tick
  clear c1 c2 f2 hb hb' h'
  go_loopw [27] (fun i wr => ∃ (j : Nat) (D' : DataW Value), j ≤ ws.length ∧ i = .int .i64 j ∧ Holds wr base (s.upTo ws j) D' PD ∧ Turn (fun k => k = s.sb ∨ k = s.kb) w wr) (fun i _ => ws.length - (intOf i).toNat)
  case atStart => exact ⟨0, D, Nat.zero_le _, rfl, by rw [Sto.upTo_zero]; exact hH0, hT0⟩
  case round =>
    obtain ⟨j, D', hj, rfl, hH, hT⟩ := hrel
    by_cases hlt : j < ws.length
    · obtain ⟨u, hu⟩ : ∃ u, ws[j]? = some u := ⟨ws[j], List.getElem?_eq_getElem hlt⟩
      obtain ⟨e0, e1, e2⟩ := HC.out j u hu
      obtain ⟨ng1, ng2⟩ := WrIs.off h e0
      have x0 := hT.cell e0 (by simp [ng1, ng2])
      have x1 := hT.cell e1 (by simp [ng1, ng2])
      have x2 := hT.cell e2 (by simp [ng1, ng2])
      have hku := hk u (List.mem_of_getElem? hu)
      have HU := Lib.hid hu
      clear hu e0 e1 e2
      go_wp2_with fail
      obtain ⟨W2, hW2⟩ : ∃ W2, W2 = wr.alloc (.cells #[.string u.key, .string u.val, .bool u.gone] 37) := ⟨_, rfl⟩
      have b2 : Below wr.heap.size wr W2 := by rw [hW2]; exact (Below.refl _ _).alloc (Nat.le_refl _) _
      have s2 : wr.heap.size < W2.heap.size := by rw [hW2]; simp
      have y0 : W2.cell? ⟨wr.heap.size, 0, none⟩ = some (.string u.key) := by rw [hW2]; exact cell_new _ _ _ _
      have y1 : W2.cell? ⟨wr.heap.size, 1, none⟩ = some (.string u.val) := by rw [hW2]; exact cell_new _ _ _ _
      have y2 : W2.cell? ⟨wr.heap.size, 2, none⟩ = some (.bool u.gone) := by rw [hW2]; exact cell_new _ _ _ _
      rw [← hW2]
      have h2H := hH.below b2
      have c3 : W2.cell? ⟨s.sb, 3, none⟩ = some (.map (some s.kb)) := h2H.cell.2.2.2
      have c2 : W2.cell? ⟨s.sb, 2, none⟩ = some (.int .i64 ((s.now + 1 : Nat) : Int)) := h2H.cell.2.2.1
      obtain ⟨v, hat, hrow, _⟩ := h2H.rows u.key hku
      have hown : W2.ownsMap Try.prog 9 RV s.kb (Maps.size D') D' := h2H.own
      have lt2 : s.sb < W2.heap.size ∧ s.pb < W2.heap.size ∧ s.kb < W2.heap.size := h2H.lts
      have hln : (ofKey (s.upTo ws j).L u.key).length ≤ 10000 := by have := ofKey_length_le (s.upTo ws j).L u.key; have := h2H.room; have := h2H.lim; omega
      have hcl : ∀ x, Below W2.heap.size W2 x → Calls Try.prog 36 #[v] x fun e w' => ∃ v', e = .returned v' ∧ w'.ownsRow x.heap.size 70 4 v' (ofKey (s.upTo ws j).L u.key).length (cellsOf (ofKey (s.upTo ws j).L u.key)) ∧ Below x.heap.size x w' := fun x hx =>
        clone_any (ownsRow_of_blocks hrow (fun k cur hk => hx.block k (Array.getElem?_eq_some_iff.1 hk).1)) hln
      have FIN : ∀ (w4 w5 : World) (g4 cap4 : Nat), Below W2.heap.size W2 w4 → w4.ownsRow W2.heap.size 70 4 (.slice (some ⟨g4, 0, none⟩) ((ofKey (s.upTo ws j).L u.key).length + 1) cap4) ((ofKey (s.upTo ws j).L u.key).length + 1) (cellsOf (ofKey (s.upTo ws j).L u.key) ++ [.string u.key, .string u.val, .bool u.gone, .int .i64 ((s.now : Int) + 1)]) →
          w5.ownsMap Try.prog 9 RV s.kb (Maps.size D' + 1) (D'.put (kl u.key) (.held (.slice (some ⟨g4, 0, none⟩) ((ofKey (s.upTo ws j).L u.key).length + 1) cap4))) → w4.grownBy w5 (some s.kb) →
          (∃ D'', Holds w5 base (s.upTo ws (j + 1)) D'' PD) ∧ Turn (fun k => k = s.sb ∨ k = s.kb) w w5 := fun w4 w5 g4 cap4 hb4 hr4 hm5 hg5 => by
        constructor
        · refine ⟨D'.put (kl u.key) (.held (.slice (some ⟨g4, 0, none⟩) ((ofKey (s.upTo ws j).L u.key).length + 1) cap4)), ?_⟩
          rw [Sto.upTo_succ s ws j u HU.out]
          refine Holds.put (w := W2) (w' := w5) h2H u hku hm5 ?_ ?_ ?_
          · have := hr4.lt g4 rfl
            have h9 : s.kb < W2.heap.size := lt2.2.2
            exact ownsRow_base (hr4.kept hg5 (.inr (by simp [Value.ownBlock]; omega))) (Nat.le_trans h2H.hsb (Nat.le_of_lt h2H.lts.1))
          · intro k hk hne
            exact (hg5.block k (Nat.lt_of_lt_of_le hk hb4.size) (fun e => hne (Option.some.inj e))).trans (hb4.block k hk)
          · show (s.L ++ vers (ws.take j) (s.now + 1)).length + 1 ≤ s.lim
            simp [vers]; omega
        · refine hT.trans ((Turn.of_below b2).trans ⟨hg5.os.trans hb4.os, hg5.tape.trans hb4.tape, hg5.output.trans hb4.output, Nat.le_trans hb4.size hg5.size, fun k hk hs => ?_⟩)
          exact (hg5.block k (Nat.lt_of_lt_of_le hk hb4.size) (fun e => hs (.inr (Option.some.inj e)))).trans (hb4.block k hk)
      have hrunA : (Instr.lookup 63 (.map (some s.kb)) (.string u.key) false).run Try.prog W2.drew = .ok v W2.drew := look_at hown hat hku
      have hrunC : (Instr.lookup 63 (.map (some s.kb)) (.string u.key) false).run Try.prog (W2.alloc (.cells #[.string u.key, .string u.val, .bool u.gone, .int .i64 ((s.now : Int) + 1)] 70)).drew = .ok v (W2.alloc (.cells #[.string u.key, .string u.val, .bool u.gone, .int .i64 ((s.now : Int) + 1)] 70)).drew :=
        look_at (ownsMap_of_block hown (Below.heap_alloc _ _ _ lt2.2.2)) hat hku
      have nsk : s.sb ≠ s.kb ∧ wr.heap.size ≠ s.kb := ⟨fun e => by obtain ⟨es0, ck0, hkb, _⟩ := hown; rw [← e] at hkb; simp [World.cell?, hkb] at c3, fun e => by have := hH.lts.2.2; rw [e] at this; exact absurd this (Nat.lt_irrefl _)⟩
      have HS : ∀ x : World, (∀ k, k < W2.heap.size → k ≠ s.kb → x.heap[k]? = W2.heap[k]?) → (x.cell? ⟨s.sb, 3, none⟩ = some (.map (some s.kb)) ∧ x.cell? ⟨s.sb, 2, none⟩ = some (.int .i64 ((s.now + 1 : Nat) : Int)) ∧ x.cell? ⟨wr.heap.size, 0, none⟩ = some (.string u.key) ∧ x.cell? ⟨wr.heap.size, 1, none⟩ = some (.string u.val) ∧ x.cell? ⟨wr.heap.size, 2, none⟩ = some (.bool u.gone)) := fun x hx =>
        ⟨(World.cell?_of_block (hx s.sb lt2.1 nsk.1)).trans c3, (World.cell?_of_block (hx s.sb lt2.1 nsk.1)).trans c2, (World.cell?_of_block (hx wr.heap.size s2 nsk.2)).trans y0, (World.cell?_of_block (hx wr.heap.size s2 nsk.2)).trans y1, (World.cell?_of_block (hx wr.heap.size s2 nsk.2)).trans y2⟩
      clear hW2 x0 x1 x2 y0 y1 y2 c2 c3
      have HA : Below W2.heap.size W2 W2.drew := (Below.refl _ _).drew
      have HB : Below W2.heap.size W2 (W2.alloc (.cells #[.string u.key, .string u.val, .bool u.gone, .int .i64 ((s.now : Int) + 1)] 70)).drew := ((Below.refl _ _).alloc (Nat.le_refl _) _).drew
      have hn0 : (Maps.size D') < maxLen := by have := h2H.size_le; have := h2H.room; have := h2H.lim; unfold maxLen; omega
      go_region_held3 (fun w' => w'.cell? ⟨s.sb, 3, none⟩ = some (.map (some s.kb)) ∧ w'.cell? ⟨s.sb, 2, none⟩ = some (.int .i64 ((s.now + 1 : Nat) : Int)) ∧ w'.cell? ⟨wr.heap.size, 0, none⟩ = some (.string u.key) ∧ w'.cell? ⟨wr.heap.size, 1, none⟩ = some (.string u.val) ∧ w'.cell? ⟨wr.heap.size, 2, none⟩ = some (.bool u.gone))
        (first | exact HS _ (fun k hk _ => rfl) | exact HS _ (fun k hk hne => (hgrow5.block k (Nat.lt_of_lt_of_le hk hb4.size) (fun e => hne (Option.some.inj e))).trans (hb4.block k hk)) | exact HS _ (fun k hk _ => hb4.block k hk) | exact HS _ (fun k hk _ => Below.heap_alloc _ _ _ hk) | exact HS _ (fun k hk _ => (Below.heap_alloc _ _ _ (Nat.lt_of_lt_of_le hk hc3.size)).trans (hc3.block k hk)) | exact HS _ (fun k hk _ => hc3.block k hk) | fail)
        (first
          | (go_at_call 36; (with_reducible refine (hcl W2.drew HA).mono ?_); rintro e w3 ⟨v3, rfl, hrow3, hb3⟩; have hc3 : Below W2.heap.size W2 w3 := HA.trans hb3)
          | (go_at_call 36; (with_reducible refine (hcl _ HB).mono ?_); rintro e w3 ⟨v3, rfl, hrow3, hb3⟩; have hc3 : Below W2.heap.size W2 w3 := HB.trans (hb3.mono (by simp)))
          | (refine step_append_lies _ (by rfl) _ _ _ (by rfl) W2.heap.size 70 i0 _ 4 48 Try.underlying67 hi0 hz0 hz1 hz2 rfl (by omega) v3 _ _ (by rfl) (ownsRow_base (hrow3.alloc _) (by simp)) ⟨w3.heap.size, 0, none⟩ 1 1 [.string u.key, .string u.val, .bool u.gone, .int .i64 ((s.now : Int) + 1)] (by rfl) (by rfl) (World.news_of_block (cs := #[.string u.key, .string u.val, .bool u.gone, .int .i64 ((s.now : Int) + 1)]) (t := 70) (fr := (0, 0)) (heap_alloc_new w3 _)) (by simp [Value.oneCell']) (by omega) (by unfold maxLen; omega) (by omega) (by have := hc3.size; simp; omega) _ rfl ?_; intro g4 cap4 w4 hown4 hgrow4 hat4 hlt4; have hb4 : Below W2.heap.size W2 w4 := ((hc3.alloc hc3.size _).grown hgrow4 (by have := hc3.size; simp; omega) (fun k hk => (hrow3.lt k hk).1)); obtain ⟨w5, hrun5, hmap5, hgrow5⟩ := (ownsMap_of_block hown (hb4.block s.kb lt2.2.2)).update law9 Try.underlying63 hn0 (WideMaps.keyOf_string_mk Try.underlying9 hku) (val := .slice (some ⟨g4, 0, none⟩) ((ofKey (s.upTo ws j).L u.key).length + 1) cap4) (d := .held (.slice (some ⟨g4, 0, none⟩) ((ofKey (s.upTo ws j).L u.key).length + 1) cap4)) (ps := []) rfl)
          | (refine step_append_lies _ (by rfl) _ _ _ (by rfl) W2.heap.size 70 i0 _ 4 48 Try.underlying67 hi0 hz0 hz1 hz2 rfl (by omega) v3 _ _ (by rfl) (ownsRow_base hrow3 (by simp)) ⟨W2.heap.size, 0, none⟩ 1 1 [.string u.key, .string u.val, .bool u.gone, .int .i64 ((s.now : Int) + 1)] (by rfl) (by rfl) (World.news_of_block (cs := #[.string u.key, .string u.val, .bool u.gone, .int .i64 ((s.now : Int) + 1)]) (t := 70) (fr := (0, 0)) ((hb3.block W2.heap.size (by simp)).trans (heap_alloc_new W2 _))) (by simp [Value.oneCell']) (by omega) (by unfold maxLen; omega) (by omega) hc3.size _ rfl ?_; intro g4 cap4 w4 hown4 hgrow4 hat4 hlt4; have hb4 : Below W2.heap.size W2 w4 := (hc3.grown hgrow4 hc3.size (fun k hk => by have := (hrow3.lt k hk).1; simp at this; omega)); obtain ⟨w5, hrun5, hmap5, hgrow5⟩ := (ownsMap_of_block hown (hb4.block s.kb lt2.2.2)).update law9 Try.underlying63 hn0 (WideMaps.keyOf_string_mk Try.underlying9 hku) (val := .slice (some ⟨g4, 0, none⟩) ((ofKey (s.upTo ws j).L u.key).length + 1) cap4) (d := .held (.slice (some ⟨g4, 0, none⟩) ((ofKey (s.upTo ws j).L u.key).length + 1) cap4)) (ps := []) rfl)
          | fail)
      all_goals
        obtain ⟨⟨D5, hH5⟩, hT5⟩ := FIN w4 w5 g4 cap4 hb4 hown4 hmap5 hgrow5
        clear hrun5 hmap5 hgrow5 hown4 hgrow4 hat4 hlt4 hb4 hrow3 hb3 hc3 hrunA hrunC
        go_wp2
        go_roundw
        case rel => exact ⟨j + 1, D5, by omega, by go_num, hH5, hT5⟩
        case measure => simp [intOf]; omega
    · obtain rfl : j = ws.length := by omega
      have c2 : wr.cell? ⟨s.sb, 2, none⟩ = some (.int .i64 ((s.now + 1 : Nat) : Int)) := hH.cell.2.2.1
      go_wp2
      go_ret2
      refine ⟨rfl, ⟨D', ?_⟩, hT⟩
      simpa [Sto.upTo] using hH

set_option maxRecDepth 100000 in
set_option maxHeartbeats 1600000 in
theorem commit_nil {base : Nat} {s : Sto} {D PD : DataW Value} {w : World} (h : Holds w base s D PD) (hnow : s.now ≤ 1000000) :
    Calls Try.prog 20 #[.pointer (some ⟨s.sb, 0, none⟩), nilS] w (OkEnd base s [] PD w) := by
  have hc := count_any h.drew
  have c1 := h.cell.2.1
  have lt := h.lts.1
  have h1 := h.room
  have h2 := h.lim
  have hw : IntKind.i64.wrap (s.L.length : Int) = (s.L.length : Int) := IntWalk.i64_in _ (by omega)
  have hd : ¬ ((s.lim : Int) < (s.L.length : Int)) := by omega
  unfold nilS
  go_enter Try.func20, Try.ntmps20
  go_wp2_with fail
  go_region_held3 (fun w' => w'.cell? ⟨s.sb, 1, none⟩ = some (.int .i64 s.lim)) (first | go_keep | (exact (hb.cell (p := ⟨s.sb, 1, none⟩) lt).trans c1) | fail) (first | (go_at_call 23; refine hc.mono ?_; rintro e w' ⟨rfl, hb⟩) | fail)
  have hb' : Below w.heap.size w w' := ⟨hb.os, hb.tape, hb.output, hb.size, hb.block⟩
  have h' := h.below hb'
  have c2 := h'.cell.2.2.1
  have f2 := h'.free 2
  have hH0 := h'.tick
  have hT0 : Turn (fun k => k = s.sb ∨ k = s.kb) w (w'.setCell ⟨s.sb, 2, none⟩ (.int .i64 ((s.now : Int) + 1))) := (Turn.of_below hb').trans (Turn.of_setCell (.inl rfl) _)
  have c3 : (w'.setCell ⟨s.sb, 2, none⟩ (.int .i64 ((s.now : Int) + 1))).cell? ⟨s.sb, 2, none⟩ = some (.int .i64 ((s.now : Int) + 1)) := hH0.cell.2.2.1
  clear hc hb hb' h' c1
  go_wp2_with fail
  refine wp_loop_rounds 1 ?_; rw [rounds_succ]
  go_wp2
  go_ret2
  refine ⟨rfl, ⟨D, ?_⟩, hT0⟩
  simpa [vers] using hH0

theorem commit_any {base : Nat} {s : Sto} {D PD : DataW Value} {w : World} (h : Holds w base s D PD) {v : Value} {ws : List Wr} (hw : WrIs w v ws) (hk : ∀ x ∈ ws, x.key.size ≤ maxLen) (hf : s.L.length + ws.length ≤ s.lim) (hnow : s.now ≤ 1000000) :
    Calls Try.prog 20 #[.pointer (some ⟨s.sb, 0, none⟩), v] w (OkEnd base s ws PD w) := by
  rcases hw with ⟨rfl, rfl⟩ | ⟨g, off, cap, rfl, hc⟩
  · exact commit_nil h hnow
  · exact commit_row h g off cap ws hk hf hnow hc
theorem commit_no {base : Nat} {s : Sto} {D PD : DataW Value} {w : World} (h : Holds w base s D PD) {v : Value} {ws : List Wr} (hw : WrIs w v ws) (hl : ws.length ≤ 10000) (hf : s.lim < s.L.length + ws.length) :
    Calls Try.prog 20 #[.pointer (some ⟨s.sb, 0, none⟩), v] w (FullEnd w) := by
  rcases hw with ⟨rfl, rfl⟩ | ⟨g, off, cap, rfl, hc⟩
  · exact commit_full h none 0 0 (by omega) hf
  · exact commit_full h _ _ _ hl hf
end Go.Proofs.Ytghddmlndafefaa
