/- A part of the proof of the four laws of the top: AeX, AeY, AeZ, AeZa, AeZb, KF, AeTe. -/
import Derived.Test.YtlclnngcnkepjaaGreatDoorE3
import Derived.Test.YtlclnngcnkepjaaGreatDoorIter
import Derived.Lib.Bytealg
import Derived.Sort.Walk0
import Derived.StringKeys
import Derived.WalkKit
import Derived.WalkSpells
import Derived.WalkLawsBesides
import Derived.Maps.OwnSet
import Derived.Maps.RangeWalk
import Derived.Maps.Ext
import Derived.Lib.Hide
namespace Go.Ae
open Go Go.Proofs

noncomputable def ext204 : List AV → Option AV
  | [.f .f64 n] => some (.i .u64 n)
  | _ => none
noncomputable def ext207 : List AV → Option AV
  | [.i .u64 n] => some (.f .f64 n.toNat)
  | _ => none
noncomputable def ext271 : List AV → Option AV
  | [.s a, .i .u8 c] => some (.i .i64 (Lib.countByte a c.toNat.toUInt8 : Nat))
  | _ => none
noncomputable def ext272 : List AV → Option AV
  | [.s a, .i .u8 c] => some (.i .i64 (Lib.indexByte a c.toNat.toUInt8))
  | _ => none
noncomputable def extT (f : Nat) : Option (List AV → Option AV) :=
  bif Nat.beq f 204 then some ext204 else bif Nat.beq f 207 then some ext207 else bif Nat.beq f 271 then some ext271 else bif Nat.beq f 272 then some ext272 else none

theorem beq_cases {α : Type} {f k : Nat} {x y : Option α} {g : α} (h : (bif Nat.beq f k then x else y) = some g) : (f = k ∧ x = some g) ∨ (f ≠ k ∧ y = some g) := by
  cases hb : Nat.beq f k with
  | true => rw [hb] at h; exact .inl ⟨Nat.eq_of_beq_eq_true hb, h⟩
  | false => rw [hb] at h; exact .inr ⟨Nat.ne_of_beq_eq_false hb, h⟩

theorem extT_ok {σ : Nat → Value} {f : Nat} {g : List AV → Option AV} {args : List AV} {v : AV} (hf : extT f = some g) (hg : g args = some v) (ν : Nu) (w : World) (cs : List Value) (ha : vrels σ ν args cs) :
    ∃ c, (callFunc f cs.toArray).run Tryz.prog w = .ok (.value c) w ∧ vrel σ ν v c := by
  unfold extT at hf
  rcases beq_cases hf with ⟨rfl, e⟩ | ⟨_, hf⟩
  · cases e
    unfold ext204 at hg
    split at hg
    · cases hg
      obtain ⟨_, _, h1, rfl, rfl⟩ := ha
      simp only [vrel] at h1
      subst h1
      refine ⟨.int .u64 _, ?_, rfl⟩
      rw [run_callFunc_extern Tryz.func204 (by kernel_rfl) (by kernel_rfl) (by kernel_rfl) (e := Extern.MathFloatBits.float64bits) (by kernel_rfl)]
      rfl
    · cases hg
  rcases beq_cases hf with ⟨rfl, e⟩ | ⟨_, hf⟩
  · cases e
    unfold ext207 at hg
    split at hg
    · cases hg
      obtain ⟨_, _, h1, rfl, rfl⟩ := ha
      simp only [vrel] at h1
      subst h1
      refine ⟨.float .f64 _, ?_, rfl⟩
      rw [run_callFunc_extern Tryz.func207 (by kernel_rfl) (by kernel_rfl) (by kernel_rfl) (e := Extern.MathFloatBits.float64frombits) (by kernel_rfl)]
      rfl
    · cases hg
  rcases beq_cases hf with ⟨rfl, e⟩ | ⟨_, hf⟩
  · cases e
    unfold ext271 at hg
    split at hg
    · cases hg
      obtain ⟨_, _, h1, ⟨_, _, h2, rfl, rfl⟩, rfl⟩ := ha
      simp only [vrel] at h1 h2
      subst h1 h2
      refine ⟨.int .i64 _, ?_, rfl⟩
      rw [run_callFunc_extern Tryz.func271 (by kernel_rfl) (by kernel_rfl) (by kernel_rfl) (e := Extern.BytealgCount.count) (by kernel_rfl), Lib.run_countString]
      rfl
    · cases hg
  rcases beq_cases hf with ⟨rfl, e⟩ | ⟨_, hf⟩
  · cases e
    unfold ext272 at hg
    split at hg
    · cases hg
      obtain ⟨_, _, h1, ⟨_, _, h2, rfl, rfl⟩, rfl⟩ := ha
      simp only [vrel] at h1 h2
      subst h1 h2
      refine ⟨.int .i64 _, ?_, rfl⟩
      rw [run_callFunc_extern Tryz.func272 (by kernel_rfl) (by kernel_rfl) (by kernel_rfl) (e := Extern.BytealgIndexByte.indexByte) (by kernel_rfl), Lib.run_indexByteString]
      rfl
    · cases hg
  · cases hf

/-! ### stringslite.Index -/

noncomputable def specIndex : List AV → AH → Option (AV × AH)
  | [.s a, .s b], h => match h.get 4 with
    | some (.c [.sym 2] _) => bif Nat.blt a.length 4294967281 then some (.i .i64 (Lib.index a b), h) else none
    | _ => none
  | _, _ => none

/-- What the contract of a spec says. -/
def SpecOk (σ : Nat → Value) (f : Nat) (g : List AV → AH → Option (AV × AH)) : Prop := ∀ args h v h', g args h = some (v, h') → ∀ ν w cs, hrel σ Tryz.prog.globals.size ν h w → vrels σ ν args cs →
    Calls Tryz.prog f cs.toArray w fun e w' => ∃ c ν', e = .returned c ∧ Ext ν h w ν' h' w' ∧ hrel σ Tryz.prog.globals.size ν' h' w' ∧ vrel σ ν' v c

theorem glob_cell {σ : Nat → Value} {ν : Nu} {h : AH} {w : World} (x : hrel σ Tryz.prog.globals.size ν h w) {g wd : Nat} {cs : List AV} (hg : g < Tryz.prog.globals.size) (hb : h.get g = some (.c cs wd)) :
    ∃ a k fr l ext, w.heap[g]? = some (.cells a k fr) ∧ a.toList = l ++ ext ∧ vrels σ ν cs l := by
  obtain ⟨e, o, h1, h2, h3⟩ := x.dom g _ hb
  obtain ⟨e', k1, k2⟩ := x.gl g hg
  rw [h1] at k1
  cases k1
  cases o <;> simp only [brel] at h3
  obtain ⟨l, ext, g1, g2, _⟩ := h3
  exact ⟨_, _, _, l, ext, by rw [← k2]; exact h2, g1, g2⟩

theorem index_ok {σ : Nat → Value} {m : Int} (hm : σ 2 = .int .i64 m) : SpecOk σ 222 specIndex := by
  intro args h v h' hg ν w cs hh ha
  unfold specIndex at hg
  split at hg
  · rename_i a b
    split at hg
    · rename_i wd h4
      cases hl : Nat.blt a.length 4294967281 with
      | false => rw [hl] at hg; simp at hg
      | true =>
        rw [hl] at hg
        simp at hg
        obtain ⟨rfl, rfl⟩ := hg
        obtain ⟨_, _, h1, ⟨_, _, h2, rfl, rfl⟩, rfl⟩ := ha
        simp only [vrel] at h1 h2
        subst h1 h2
        obtain ⟨arr, k, fr, l, ext, g1, g2, g3⟩ := glob_cell hh (by decide +kernel) h4
        obtain ⟨c, l', g4, rfl, rfl⟩ := g3
        simp only [vrel] at g4
        have hc : w.cell? ⟨4, 0, none⟩ = some (.int .i64 m) := by
          have : arr[0]? = some (.int .i64 m) := by
            rw [← Array.getElem?_toList, g2, g4.1, hm]; rfl
          simp [World.cell?, g1, this]
        have hsz : (ByteArray.mk a.toArray).size < 4294967281 := by
          have := Nat.le_of_ble_eq_true hl
          show a.toArray.size < _
          simp at this ⊢
          omega
        refine (Any.stringslite_Index Tryz.lays219 ⟨a.toArray⟩ ⟨b.toArray⟩ m w hsz hc).mono ?_
        rintro e w' ⟨rfl, rfl⟩
        exact ⟨_, ν, rfl, Ext.refl _ _ _, hh, by simp [vrel]⟩
    · cases hg
  · cases hg
end Go.Ae
namespace Go.Ae
open Go Go.Proofs Go.WideElems

section
variable {σ : Nat → Value} {gs : Nat} {ν : Nu} {h : AH} {w w' : World}

theorem Keeps.of_below {B : Nat} (h : Go.RowKit.Below B w w') (hB : w.heap.size ≤ B) : Keeps w w' := ⟨h.os, h.output, fun i a t fr hi => ⟨a, by
  rw [h.block i (Nat.lt_of_lt_of_le (Array.getElem?_eq_some_iff.1 hi).1 hB)]; exact hi, rfl⟩⟩

theorem hrel_new (x : hrel σ gs ν h w) (hb : ∀ k, k < w.heap.size → w'.heap[k]? = w.heap[k]?) (hsz : w.heap.size ≤ w'.heap.size) {e : NE} (he : w.heap.size ≤ e.b) {o : Obj} (ho : w'.heap[e.b]? = some o) {b : AB} (hbr : brel σ (ν ++ [e]) e b o) (kp : Keeps w w') :
    hrel σ gs (ν ++ [e]) (h.alloc b) w' ∧ Ext ν h w (ν ++ [e]) (h.alloc b) w' := by
  have hnew : (ν ++ [e])[h.nx]? = some e := by rw [← x.len]; simp
  have hlt : ∀ {n e1}, ν[n]? = some e1 → ∀ {y}, h.get n = some y → e1.b < w.heap.size := fun h1 y h2 => x.lt ⟨_, _, _, h2, h1, rfl⟩
  have hold : ∀ {n e1}, n < h.nx → (ν ++ [e])[n]? = some e1 → ν[n]? = some e1 := fun hn h1 => by
    rw [List.getElem?_append_left (by rw [x.len]; exact hn)] at h1; exact h1
  refine ⟨⟨by simp [x.len, AH.nx_alloc], fun n y hy => ?_, fun n m e1 e2 y1 y2 h1 h2 k1 k2 hE => ?_, fun g hg => ?_⟩, ⟨⟨[e], rfl⟩, hsz, fun k hk hi => ⟨?_, hb k hk⟩, kp⟩⟩
  · rw [AH.get_alloc] at hy
    split at hy
    · rename_i hn
      subst hn
      cases hy
      exact ⟨e, o, hnew, ho, hbr⟩
    · obtain ⟨e1, o1, k1, k2, k3⟩ := x.dom n y hy
      exact ⟨e1, o1, pre_get k1, by rw [hb _ (hlt k1 hy)]; exact k2, brel_mono [e] k3⟩
  · rw [AH.get_alloc] at h1 h2
    split at h1
    · rename_i hn
      subst hn
      rw [hnew] at k1
      cases k1
      split at h2
      · assumption
      · have := hlt (hold (x.live_lt h2) k2) h2
        omega
    · split at h2
      · rename_i hm
        subst hm
        rw [hnew] at k2
        cases k2
        have := hlt (hold (x.live_lt h1) k1) h1
        omega
      · exact x.inj n m e1 e2 y1 y2 h1 h2 (hold (x.live_lt h1) k1) (hold (x.live_lt h2) k2) hE
  · obtain ⟨e1, k1, k2⟩ := x.gl g hg
    exact ⟨e1, pre_get k1, k2⟩
  · rintro ⟨m, y, e1, k1, k2, k3⟩
    rw [AH.get_alloc] at k1
    split at k1
    · rename_i hm
      subst hm
      rw [hnew] at k2
      cases k2
      omega
    · exact hi ⟨m, y, e1, k1, hold (x.live_lt k1) k2, k3⟩

theorem ext_same (x : hrel σ gs ν h w) (hb : ∀ k, k < w.heap.size → w'.heap[k]? = w.heap[k]?) (hsz : w.heap.size ≤ w'.heap.size) (kp : Keeps w w') : hrel σ gs ν h w' ∧ Ext ν h w ν h w' :=
  ⟨⟨x.len, fun n y hy => by
    obtain ⟨e1, o1, k1, k2, k3⟩ := x.dom n y hy
    exact ⟨e1, o1, k1, by rw [hb _ (x.lt ⟨_, _, _, hy, k1, rfl⟩)]; exact k2, k3⟩, x.inj, x.gl⟩, ⟨⟨[], by simp⟩, hsz, fun k hk hi => ⟨hi, hb k hk⟩, kp⟩⟩
end

noncomputable def keysOf : List AE → Option (List (List UInt8))
  | [] => some []
  | e :: r => match e.key with
    | .s l => match keysOf r with
      | some ks => some (l :: ks)
      | none => none
    | _ => none

noncomputable def leL (x y : List UInt8) : Bool := !(Op.bytesLess y x)

noncomputable def insL (x : List UInt8) : List (List UInt8) → List (List UInt8)
  | [] => [x]
  | y :: r => bif Op.bytesLess x y then x :: y :: r else y :: insL x r

noncomputable def sortL : List (List UInt8) → List (List UInt8)
  | [] => []
  | x :: r => insL x (sortL r)

noncomputable def notIn (x : Nat) : List AE → Bool
  | [] => true
  | e :: r => bif Nat.beq e.born x then false else notIn x r

noncomputable def keyNot (x : List UInt8) : List (List UInt8) → Bool
  | [] => true
  | y :: r => bif Op.bytesLess x y || Op.bytesLess y x then keyNot x r else false

noncomputable def bornsOk (cl : Nat) : List AE → Bool
  | [] => true
  | e :: r => Nat.blt e.born cl && (notIn e.born r && bornsOk cl r)

noncomputable def keysOk : List (List UInt8) → Bool
  | [] => true
  | x :: r => Nat.ble x.length 1000 && (keyNot x r && keysOk r)

noncomputable def incr : List (List UInt8) → Bool
  | [] => true
  | x :: r => r.all (leL x) && incr r

noncomputable def sortedR (h : AH) : List (List UInt8) → Option (AV × AH)
  | [] => some (.sn, h)
  | x :: r => some (.so h.nx 0 0 (r.length + 1), h.alloc (.c ((x :: r).map .s) 1))

noncomputable def sortedK (h : AH) (es : List AE) (cl : Nat) : Option (List (List UInt8)) → Option (AV × AH)
  | some ks => bif bornsOk cl es && (keysOk ks && (Nat.ble ks.length 1000 && incr (sortL ks))) then sortedR h (sortL ks) else none
  | none => none

noncomputable def sortedM (h : AH) : Option AB → Option (AV × AH)
  | some (.m es cl) => sortedK h es cl (keysOf es)
  | _ => none

noncomputable def sortedC (h : AH) : Option AB → Option (AV × AH)
  | some (.c [.m k] _) => sortedM h (h.get k)
  | _ => none

noncomputable def specSorted : List AV → AH → Option (AV × AH)
  | [.fn (.func g) [] [.p c o]], h => bif Nat.beq g 254 && Nat.beq o 0 then sortedC h (h.get c) else none
  | _, _ => none

theorem insL_perm (x : List UInt8) : ∀ l, (insL x l).Perm (x :: l)
  | [] => .refl _
  | y :: r => by
    simp only [insL]
    cases Op.bytesLess x y with
    | true => exact .refl _
    | false => exact ((insL_perm x r).cons y).trans (List.Perm.swap x y r)

theorem sortL_perm : ∀ l, (sortL l).Perm l
  | [] => .refl _
  | x :: r => (insL_perm x (sortL r)).trans ((sortL_perm r).cons x)

theorem keysOf_spec : ∀ {es : List AE} {ks : List (List UInt8)}, keysOf es = some ks → es.map (·.key) = ks.map AV.s
  | [], ks, h => by simp [keysOf] at h; subst h; rfl
  | e :: r, ks, h => by
    simp only [keysOf] at h
    split at h
    · rename_i l hl
      split at h
      · rename_i ks' hk
        simp at h
        subst h
        simp [hl, keysOf_spec hk]
      · cases h
    · cases h

theorem erels_keys {σ : Nat → Value} {ν : Nu} : ∀ {es : List AE} {cs : List MapEntry} {ks : List (List UInt8)}, erels σ ν es cs → es.map (·.key) = ks.map AV.s → cs.map (·.key) = ks.map encStr ∧ cs.map (·.born) = es.map (·.born)
  | [], cs, ks, h, e => by
    simp only [erels] at h
    subst h
    cases ks with
    | nil => exact ⟨rfl, rfl⟩
    | cons _ _ => cases e
  | x :: r, cs, ks, ⟨c, cs', h1, h2, e'⟩, e => by
    subst e'
    cases ks with
    | nil => cases e
    | cons k ks =>
      simp only [List.map_cons, List.cons.injEq] at e
      obtain ⟨g1, g2⟩ := erels_keys h2 e.2
      obtain ⟨p1, _, p3⟩ := h1
      rw [e.1] at p1
      simp only [vrel] at p1
      exact ⟨by simp [g1, p1], by simp [g2, p3]⟩

open Go.Sort in
theorem bytesLess_lt : ∀ (x y : List UInt8), Op.bytesLess x y = decide (x < y) := bytesLess_eq

theorem notIn_spec {x : Nat} : ∀ {es : List AE}, notIn x es = true → x ∉ es.map (·.born)
  | [], _ => by simp
  | e :: r, h => by
    simp only [notIn] at h
    cases hb : Nat.beq e.born x with
    | true => rw [hb] at h; cases h
    | false =>
      rw [hb] at h
      have := Nat.ne_of_beq_eq_false hb
      simp only [List.map_cons, List.mem_cons, not_or]
      exact ⟨fun e => this e.symm, notIn_spec h⟩

theorem borns_spec {cl : Nat} : ∀ {es : List AE}, bornsOk cl es = true → (∀ x ∈ es.map (·.born), x < cl) ∧ (es.map (·.born)).Nodup
  | [], _ => by simp
  | e :: r, h => by
    simp only [bornsOk, Bool.and_eq_true] at h
    obtain ⟨h1, h2, h3⟩ := h
    obtain ⟨g1, g2⟩ := borns_spec h3
    have : e.born < cl := Nat.le_of_ble_eq_true h1
    simp only [List.map_cons, List.mem_cons, forall_eq_or_imp, List.nodup_cons]
    exact ⟨⟨this, g1⟩, notIn_spec h2, g2⟩

theorem keyNot_spec {x : List UInt8} : ∀ {ks : List (List UInt8)}, keyNot x ks = true → x ∉ ks
  | [], _ => by simp
  | y :: r, h => by
    simp only [keyNot] at h
    cases hb : (Op.bytesLess x y || Op.bytesLess y x) with
    | false => rw [hb] at h; cases h
    | true =>
      rw [hb] at h
      simp only [List.mem_cons, not_or]
      refine ⟨?_, keyNot_spec h⟩
      rintro rfl
      rw [bytesLess_lt] at hb
      simp [List.lt_irrefl] at hb

theorem keys_spec : ∀ {ks : List (List UInt8)}, keysOk ks = true → (∀ k ∈ ks, k.length ≤ 1000) ∧ ks.Nodup
  | [], _ => by simp
  | x :: r, h => by
    simp only [keysOk, Bool.and_eq_true] at h
    obtain ⟨h1, h2, h3⟩ := h
    obtain ⟨g1, g2⟩ := keys_spec h3
    simp only [List.mem_cons, forall_eq_or_imp, List.nodup_cons]
    exact ⟨⟨Nat.le_of_ble_eq_true h1, g1⟩, keyNot_spec h2, g2⟩

theorem incr_spec : ∀ {l : List (List UInt8)}, incr l = true → l.Pairwise (fun a b => (decide (a ≤ b)) = true)
  | [], _ => .nil
  | x :: r, h => by
    simp only [incr, Bool.and_eq_true, List.all_eq_true] at h
    refine .cons (fun y hy => ?_) (incr_spec h.2)
    have := h.1 y hy
    simp only [leL, bytesLess_lt, Bool.not_eq_true', decide_eq_false_iff_not] at this
    simpa using this

theorem vrels_strs {σ : Nat → Value} {ν : Nu} : ∀ (l : List (List UInt8)), vrels σ ν (l.map AV.s) (l.map encStr)
  | [] => rfl
  | _ :: r => ⟨_, _, rfl, vrels_strs r, rfl⟩

/-- slices.Sort's two contracts at this program. -/
theorem sorts211 (m : Nat) : AnyZ.SortsIn Tryz.prog Tryz.sorted211_ren Fence.wide m :=
  ⟨fun blk off cap ss W hH hblk hsz => callsIn_wide.2 (AnyM.slices_Sort_string Tryz.sort253 blk off cap ss W hH hblk hsz),
   fun p cap W => callsIn_wide.2 (AnyM.slices_Sort_string_none Tryz.sort253 p cap W)⟩

/-- Any element reads as nothing: only the keys are asked. -/
def noElem : Value → Option (DataW Unit × List MemPlace) := fun _ => some (.nil, [])

theorem fit_of {es : Array MapEntry} {cl : Nat} {ks : List (List UInt8)} (hk : es.toList.map (·.key) = ks.map encStr) (hb : (∀ x ∈ es.toList.map (·.born), x < cl) ∧ (es.toList.map (·.born)).Nodup) (hks : (∀ k ∈ ks, k.length ≤ 1000) ∧ ks.Nodup) (hl : ks.length ≤ 1000) :
    Fit Tryz.prog 9 noElem es cl := by
  have hlen : es.size = ks.length := by have := congrArg List.length hk; simpa using this
  refine ⟨by rw [hlen]; exact Nat.le_trans hl (by decide), ⟨fun x hx => hb.1 _ (List.mem_map_of_mem hx), hb.2, ?_⟩, fun x hx => ?_⟩
  · rw [hk]
    exact List.pairwise_map.2 (hks.2.imp fun {a b} hne e => hne (encStr_inj e))
  · have : x.key ∈ ks.map encStr := by rw [← hk]; exact List.mem_map_of_mem hx
    obtain ⟨k, hk1, hk2⟩ := List.mem_map.1 this
    have h2 : keyOf Tryz.prog 9 x.key = some (.string k) := by
      rw [← hk2]
      exact Go.WideMaps.keyOf_string_mk Tryz.underlying9 (s := ⟨k.toArray⟩) (by
        have := hks.1 k hk1
        show k.toArray.size ≤ maxLen
        simp
        exact Nat.le_trans this (by decide))
    exact ⟨_, rd_mk (born := x.born) h2 rfl⟩

theorem keys_data {es : Array MapEntry} {cl : Nat} {ks : List (List UInt8)} (hk : es.toList.map (·.key) = ks.map encStr) (F : Fit Tryz.prog 9 noElem es cl) :
    (strKeys (.map ((es.toList.map (rg Tryz.prog 9 noElem)).foldr DataW.insert []))).Perm ks := by
  have h1 : (es.toList.map (rg Tryz.prog 9 noElem)).map (fun p => strOf p.1) = ks := by
    have : ∀ (l : List MapEntry) (ks : List (List UInt8)), (∀ x ∈ l, ∃ y, rd Tryz.prog 9 noElem x = some y) → l.map (·.key) = ks.map encStr → (l.map (rg Tryz.prog 9 noElem)).map (fun p => strOf p.1) = ks := by
      intro l
      induction l with
      | nil => intro ks _ e; cases ks with
        | nil => rfl
        | cons _ _ => cases e
      | cons x r ih =>
        intro ks hr e
        cases ks with
        | nil => cases e
        | cons k ks =>
          simp only [List.map_cons, List.cons.injEq] at e ⊢
          refine ⟨?_, ih ks (fun y hy => hr y (List.mem_cons_of_mem _ hy)) e.2⟩
          obtain ⟨y, hy⟩ := hr x (by simp)
          rw [rg_of hy]
          have := rd_key hy
          obtain ⟨s, hs1, hs2, _⟩ := Maps.keyOf_str Tryz.underlying9 this
          rw [hs2]
          rw [hs1] at e
          exact encStr_inj e.1
    exact this _ _ F.reads hk
  have := ((Go.WideShapes.sorted_perm (es.toList.map (rg Tryz.prog 9 noElem))).map (fun p => strOf p.1))
  rw [h1] at this
  exact this

theorem sorted_ok {σ : Nat → Value} : SpecOk σ 211 specSorted := by
  intro args h v h' hg ν w cs hh ha
  unfold specSorted at hg
  split at hg
  rotate_left
  · cases hg
  rename_i g c o
  cases hbb : (Nat.beq g 254 && Nat.beq o 0) with
  | false => rw [hbb] at hg; cases hg
  | true =>
    rw [hbb] at hg
    simp only [cond_true] at hg
    simp only [Bool.and_eq_true] at hbb
    have hg254 := Nat.eq_of_beq_eq_true hbb.1
    have ho0 := Nat.eq_of_beq_eq_true hbb.2
    subst hg254 ho0
    unfold sortedC at hg
    split at hg
    rotate_left
    · cases hg
    rename_i k wd hc
    unfold sortedM at hg
    split at hg
    rotate_left
    · cases hg
    rename_i es cl hk
    cases hks : keysOf es with
    | none => rw [hks] at hg; cases hg
    | some ks =>
      rw [hks] at hg
      simp only [sortedK] at hg
      cases hok : (bornsOk cl es && (keysOk ks && (Nat.ble ks.length 1000 && incr (sortL ks)))) with
      | false => rw [hok] at hg; cases hg
      | true =>
        rw [hok] at hg
        simp only [cond_true] at hg
        simp only [Bool.and_eq_true] at hok
        obtain ⟨k1, k2, k3, k4⟩ := hok
        obtain ⟨_, _, ⟨_, _, rfl, h2, rfl⟩, rfl, rfl⟩ := ha
        obtain ⟨_, _, ⟨ec, hec, rfl⟩, rfl, rfl⟩ := h2
        obtain ⟨ec', oc, c1, c2, c3⟩ := hh.dom c _ hc
        rw [hec] at c1
        cases c1
        cases oc <;> simp only [brel] at c3
        rename_i arr kty fr
        obtain ⟨l, ext, g1, ⟨mv, l', ⟨em, hem, rfl⟩, rfl, rfl⟩, _⟩ := c3
        obtain ⟨em', om, m1, m2, m3⟩ := hh.dom k _ hk
        rw [hem] at m1
        cases m1
        cases om <;> simp only [brel] at m3
        rename_i ces ccl
        obtain ⟨rfl, m3⟩ := m3
        obtain ⟨e1, e2⟩ := erels_keys m3 (keysOf_spec hks)
        have F := fit_of e1 (by rw [e2]; exact borns_spec k1) (keys_spec k2) (Nat.le_of_ble_eq_true k3)
        have hlen : ces.size = ks.length := by have := congrArg List.length e1; simpa using this
        have hcell : w.cell? ⟨ec.b, 0, none⟩ = some (.map (some em.b)) := by
          have : arr[0]? = some (.map (some em.b)) := by rw [← Array.getElem?_toList, g1]; rfl
          simp [World.cell?, c2, this]
        have hlt : ec.b < w.heap.size := (Array.getElem?_eq_some_iff.1 c2).1
        have hsize : Maps.size (DataW.map ((ces.toList.map (rg Tryz.prog 9 noElem)).foldr DataW.insert [])) ≤ 1000 := by
          rw [Maps.size_eq, (Go.WideShapes.sorted_perm _).length_eq]
          simp [hlen]
          exact Nat.le_of_ble_eq_true k3
        have hseq : SeqGives Fence.wide 2 Tryz.prog 254 #[.pointer (some ⟨ec.b, 0, none⟩)] encStr (fun ss => ss.Perm (strKeys (DataW.map ((ces.toList.map (rg Tryz.prog 9 noElem)).foldr DataW.insert [])))) _ w :=
          AnyZ.keys_gives (ρ := Tryz.keys212_ren) { Tryz.keys212 with } Fence.wide _ trivial rfl (by omega) ec.b em.b ces.size _ w hlt hcell ⟨ces, _, m2, F, Nat.le_refl _, rfl⟩
        have hcall := AnyZ.sorted_in Tryz.sorted211 Fence.wide 5 trivial trivial trivial trivial rfl (by omega) (sorts211 _) (enters_of Tryz.func253 (by kernel_rfl) rfl) 254 #[.pointer (some ⟨ec.b, 0, none⟩)] trivial (enters_of Tryz.func254 (by kernel_rfl) rfl) _ _
          (Nat.le_trans hsize (by decide)) (Nat.le_trans (Nat.mul_le_mul_right 16 hsize) (by decide)) w hseq
        refine (callsIn_wide.1 hcall).mono ?_
        rintro e w' ⟨v', ss, rfl, hp, hrow, hnil, hB⟩
        have hsort : ss.mergeSort (fun x y => decide (x ≤ y)) = sortL ks := by
          rw [mergeSort_of_perm ((hp.trans (keys_data e1 F)).trans (sortL_perm ks).symm)]
          exact List.mergeSort_of_pairwise (incr_spec k4)
        have hsl : ss.length = (sortL ks).length := by rw [← hsort, List.length_mergeSort]
        rw [hsort] at hrow
        cases hsk : sortL ks with
        | nil =>
          rw [hsk] at hg hsl
          simp only [sortedR, Option.some.injEq, Prod.mk.injEq] at hg
          obtain ⟨rfl, rfl⟩ := hg
          have : v' = .slice none 0 0 := hnil.2 (List.eq_nil_of_length_eq_zero hsl)
          subst this
          obtain ⟨x1, x2⟩ := ext_same hh hB.block hB.size (Keeps.of_below hB (Nat.le_refl _))
          exact ⟨_, ν, rfl, x2, x1, rfl⟩
        | cons x r =>
          rw [hsk] at hg hsl hrow
          simp only [sortedR, Option.some.injEq, Prod.mk.injEq] at hg
          obtain ⟨rfl, rfl⟩ := hg
          rcases hrow.2 with ⟨_, hz⟩ | ⟨gb, cap, cur, rfl, hbase, hgb, r1, r2, r3, r4⟩
          · rw [hsl] at hz; cases hz
          · obtain ⟨x1, x2⟩ := hrel_new (e := ⟨gb, cap, 0⟩) hh hB.block hB.size hbase hgb (b := .c ((x :: r).map .s) 1) (by
              refine ⟨(x :: r).map encStr, cur.toList.drop ss.length, ?_, vrels_strs _, (fun h => by cases h), (fun _ => by simpa using r3), (fun o ho h => ?_)⟩
              · rw [← r4, Nat.mul_one, List.take_append_drop]
              · simp at h) (Keeps.of_below hB (Nat.le_refl _))
            refine ⟨_, _, rfl, x2, x1, ⟨gb, cap, 0⟩, by rw [← hh.len]; simp, ?_, by rw [hsl]; simp⟩
            rw [hsl] at r1
            simpa using r1
end Go.Ae
namespace Go.Ae.Tot
open Go Go.Proofs Go.RowKit Go.Maps

theorem ret_int {k : IntKind} {a b : Int} (h : a = b) : Ending.returned (.int k a) = .returned (.int k b) := by rw [h]
theorem law9 : Keyed Tryz.prog 9 := string_keyed Tryz.underlying9
def RV : Value → Option (DataW Value × List MemPlace)
  | .slice a n c => some (.held (.slice a n c), [])
  | _ => none
def kl (k : ByteArray) : Lit := .string k.data.toList
theorem RV_inv {v : Value} {y : DataW Value × List MemPlace} (h : RV v = some y) : (∃ x : Option Addr × Nat × Nat, v = .slice x.1 x.2.1 x.2.2) ∧ y = (.held v, []) := by
  cases v <;> simp [RV] at h
  exact ⟨⟨(_, _, _), rfl⟩, h.symm⟩
def doneSum (f : Lit → Nat) (es : List (Lit × DataW Value)) (left : Lit → Bool) : Nat := (es.map fun p => if left p.1 then 0 else f p.1).sum
theorem doneSum_start (f : Lit → Nat) (es : List (Lit × DataW Value)) (left : Lit → Bool) (h : ∀ p ∈ es, left p.1 = true) : doneSum f es left = 0 := by
  unfold doneSum
  induction es with
  | nil => rfl
  | cons p es ih => simp [h p (by simp), ih (fun q hq => h q (by simp [hq]))]
theorem doneSum_end (f : Lit → Nat) (es : List (Lit × DataW Value)) (left : Lit → Bool) (h : ∀ k, left k = false) : doneSum f es left = (es.map fun p => f p.1).sum := by
  unfold doneSum
  induction es with
  | nil => rfl
  | cons p es ih => simp [h p.1, ih]
theorem doneSum_le (f : Lit → Nat) (es : List (Lit × DataW Value)) (left : Lit → Bool) : doneSum f es left ≤ (es.map fun p => f p.1).sum := by
  unfold doneSum
  induction es with
  | nil => exact Nat.le_refl _
  | cons p es ih =>
    simp only [List.map_cons, List.sum_cons]
    split <;> omega
theorem doneSum_same (f : Lit → Nat) (kl : Lit) (left : Lit → Bool) : ∀ (es : List (Lit × DataW Value)), (∀ p ∈ es, p.1 ≠ kl) → doneSum f es (fun z => left z && !z.sameKey kl) = doneSum f es left
  | [], _ => rfl
  | p :: es, h => by
    have ih := doneSum_same f kl left es (fun q hq => h q (by simp [hq]))
    unfold doneSum at ih ⊢
    simp only [List.map_cons, List.sum_cons, ih, sameKey_ne (h p (by simp)), Bool.not_false, Bool.and_true]
theorem doneSum_step (f : Lit → Nat) (kl : Lit) (left : Lit → Bool) (hk : WideAt.IsKeyLit kl) (hl : left kl = true) : ∀ (es : List (Lit × DataW Value)), es.Pairwise (fun p q => p.1 ≠ q.1) → (∃ p ∈ es, p.1 = kl) →
    doneSum f es (fun z => left z && !z.sameKey kl) = doneSum f es left + f kl
  | [], _, h => by obtain ⟨p, hp, _⟩ := h; simp at hp
  | p :: es, hp, h => by
    obtain ⟨h1, h2⟩ := List.pairwise_cons.1 hp
    by_cases e : p.1 = kl
    · have hs := doneSum_same f kl left es (fun q hq e' => h1 q hq (e.trans e'.symm))
      unfold doneSum at hs ⊢
      simp only [List.map_cons, List.sum_cons, hs, e, WideAt.sameKey_self hk, hl, Bool.not_true, Bool.and_false]
      simp; omega
    · obtain ⟨q, hq, hqe⟩ := h
      have hq' : q ∈ es := by
        rcases List.mem_cons.1 hq with rfl | hq
        · exact absurd hqe e
        · exact hq
      have ih := doneSum_step f kl left hk hl es h2 ⟨q, hq', hqe⟩
      unfold doneSum at ih ⊢
      simp only [List.map_cons, List.sum_cons, ih, sameKey_ne e, Bool.not_false, Bool.and_true]
      omega

theorem key_of_lit {w : World} {b n : Nat} {D : DataW Value} (h : w.ownsMap Tryz.prog 9 RV b n D) {es : List (Lit × DataW Value)} (hD : D = .map es) : ∀ p ∈ es, ∃ k : ByteArray, p.1 = kl k ∧ k.size ≤ maxLen := by
  obtain ⟨es0, clock, _, F, _, hE⟩ := h
  rw [hD] at hE
  cases hE
  intro p hp
  obtain ⟨x, hx, rfl⟩ := List.mem_map.1 (mem_sorted.1 hp)
  obtain ⟨y, hy⟩ := F.reads x hx
  have hk := WideElems.rd_key hy
  rw [WideElems.rg_of hy]
  obtain ⟨s, _, e, hs⟩ := Maps.keyOf_str Tryz.underlying9 hk
  exact ⟨⟨s.toArray⟩, by rw [e]; simp [kl], by simpa [ByteArray.size] using hs⟩


theorem invK9 (key : Value) (l : Lit) (h : keyOf Tryz.prog 9 key = some l) : ∃ x : ByteArray, key = .string x := by
  obtain ⟨s, e, _, _⟩ := Maps.keyOf_str Tryz.underlying9 h
  exact ⟨_, e⟩
theorem invRV (v : Value) (y : DataW Value × List MemPlace) (h : RV v = some y) : ∃ x : Option Addr × Nat × Nat, v = .slice x.1 x.2.1 x.2.2 := (RV_inv h).1
theorem lit9 {x : ByteArray} {l : Lit} (h : keyOf Tryz.prog 9 (.string x) = some l) : l = kl x ∧ x.size ≤ maxLen := by
  obtain ⟨s, e, rfl, hs⟩ := Maps.keyOf_str Tryz.underlying9 h
  simp [encStr] at e
  subst e
  exact ⟨by simp [kl], by simpa [ByteArray.size] using hs⟩

/-- How long the row at a key is. -/
def nD (D : DataW Value) (l : Lit) : Nat := match D.atKey l .nil with
  | .held (.slice _ n _) => n
  | _ => 0

def IntBelow (n : Int) (w : World) (e : Ending) (w' : World) : Prop := e = .returned (.int .i64 n) ∧ Below w.heap.size w w'

theorem length_any (a : Option Addr) (n c : Nat) (w : World) : Calls Tryz.prog 221 #[.slice a n c] w fun e w' => e = .returned (.int .i64 n) ∧ w = w' := by
  go_enter Tryz.func221, Tryz.ntmps221
  go_wp2
  go_ret
  exact ⟨rfl, rfl⟩

set_option maxRecDepth 100000 in
set_option maxHeartbeats 800000 in
theorem total_any {nb kb T : Nat} {D : DataW Value} {w : World} (c3 : w.cell? ⟨nb, 3, none⟩ = some (.map (some kb))) (hown : w.ownsMap Tryz.prog 9 RV kb (Maps.size D) D) {es : List (Lit × DataW Value)} (hD : D = .map es)
    (hp : es.Pairwise (fun p q => p.1 ≠ q.1)) (hcount : (es.map fun p => nD D p.1).sum = T) (hT : T ≤ 1000000) :
    Calls Tryz.prog 220 #[.pointer (some ⟨nb, 0, none⟩), .func (.func 221) #[] #[]] w (IntBelow T w) := by
  have hk := key_of_lit hown hD
  have hle := doneSum_le (nD D) es
  rw [hcount] at hle
  have HD := Lib.hid hD
  have HC := Lib.hid hcount
  clear hD hcount
  go_enter Tryz.func220, Tryz.ntmps220
  go_wp2_with (at_range; refine wpList_range_own _ rfl _ 140 rfl 9 281 law9 Tryz.underlying140 RV kb (Maps.size D) D rfl hown ?_; intro w0 hrg0 hg0 hs0)
  go_frame
  have hnx0 : Below w.heap.size w w0 := (Below.refl _ _).grown hg0 (Nat.le_refl _) (by simp)
  have hes : ∀ p ∈ es, Maps.has D p.1 = true := fun p hp => by
    rw [HD.out]
    obtain ⟨k, e, _⟩ := hk p hp
    exact List.any_eq_true.2 ⟨p, hp, by rw [e]; exact WideAt.sameKey_self trivial⟩
  clear hs0
  go_loopw [5, 7] (fun n _ wr => ∃ left cnt, wr.ranges Tryz.prog 9 RV kb w.heap.size (Maps.size D) D left cnt ∧ n = .int .i64 (doneSum (nD D) es left : Nat) ∧ Below w.heap.size w wr) (fun _ _ wr => wr.rangeLeft kb w.heap.size)
  case atStart => exact ⟨_, _, hrg0, by rw [doneSum_start _ _ _ hes]; rfl, hnx0⟩
  case round =>
    obtain ⟨left, cnt, hrg, rfl, hnx⟩ := hrel
    have hdl := hle left
    go_wp2_with (first
      | (at_next; refine wpList_next_ranges _ rfl _ rfl 9 law9 RV Value.string (fun x : Option Addr × Nat × Nat => .slice x.1 x.2.1 x.2.2) invK9 invRV kb w.heap.size (Maps.size D) D left cnt rfl hrg ?_ ?_)
      | (go_at_call 221; refine (length_any _ _ _ _).mono ?_; rintro e w' ⟨rfl, rfl⟩))
    · intro _ hl0
      have H : Hid (doneSum (nD D) es left = T) := by show _ = _; rw [doneSum_end _ _ _ hl0, HC.out]
      go_wp2
      go_ret
      exact ⟨ret_int (by show ((doneSum (nD D) es left : Nat) : Int) = _; rw [H.out]), hnx⟩
    · intro x a n c l yd yp w1 cnt1 hkey hlk hR hat hrg1 hlt hg1 hs1 hen
      obtain ⟨rfl, hx⟩ := lit9 hkey
      have hn : n = nD D (kl x) := by
        have e := (RV_inv hR).2
        unfold nD
        have e2 : yd = .held (.slice a n c) := congrArg Prod.fst e
        rw [hat .nil]
        simp only [e2]
      have hstep := doneSum_step (nD D) (kl x) left trivial hlk es hp (by
        have := Maps.has_true_of_atKey hat
        rw [HD.out] at this
        obtain ⟨p, hp, hpk⟩ := List.any_eq_true.1 this
        exact ⟨p, hp, WideAt.sameKey_eq hpk⟩)
      rw [← hn] at hstep
      have hdl2 := hle (fun z => left z && !z.sameKey (kl x))
      have hsum : doneSum (nD D) es left + n ≤ T := by omega
      have hl2 : wr.rangeLeft kb w.heap.size = cnt := hrg.left_eq
      have hl3 : w1.rangeLeft kb w.heap.size = cnt1 := hrg1.left_eq
      have HS := Lib.hid hstep
      have HL := Lib.hid hl2
      have HL3 := Lib.hid hl3
      clear hstep hl2 hl3 hs1 hat hR hkey hn hdl2 hdl
      go_wp2_with (go_at_call 221; refine (length_any _ _ _ _).mono ?_; rintro e w' ⟨rfl, rfl⟩)
      go_roundw
      case rel => exact ⟨_, cnt1, hrg1, by rw [HS.out]; go_num, hnx.grown hg1 hnx.size (by intro j hj; cases hj; exact Nat.le_refl _)⟩
      case measure => rw [HL.out, HL3.out]; exact hlt
end Go.Ae.Tot
namespace Go.Ae
open Go Go.Proofs Go.WideElems Go.Ae.Tot

noncomputable def lenS : AV → Option Nat
  | .sn => some 0
  | .sl _ _ n _ => some n
  | .so _ _ _ n => some n
  | .se _ _ => some 0
  | _ => none

noncomputable def sumL : List AE → Option Nat
  | [] => some 0
  | e :: r => match lenS e.val with
    | some n => match sumL r with
      | some m => some (Nat.add n m)
      | none => none
    | none => none

noncomputable def totalK (h : AH) (es : List AE) (cl : Nat) : Option (List (List UInt8)) → Option Nat → Option (AV × AH)
  | some ks, some t => bif bornsOk cl es && (keysOk ks && (Nat.ble ks.length 1000 && Nat.ble t 1000000)) then some (.i .i64 (t : Nat), h) else none
  | _, _ => none

noncomputable def totalM (h : AH) : Option AB → Option (AV × AH)
  | some (.m es cl) => totalK h es cl (keysOf es) (sumL es)
  | _ => none

noncomputable def totalC (h : AH) : Option AB → Option (AV × AH)
  | some (.c (_ :: _ :: _ :: .m k :: _) _) => totalM h (h.get k)
  | _ => none

noncomputable def specTotal : List AV → AH → Option (AV × AH)
  | [.p n o, .fn (.func g) [] []], h => bif Nat.beq g 221 && Nat.beq o 0 then totalC h (h.get n) else none
  | _, _ => none

theorem lenS_rel {σ : Nat → Value} {ν : Nu} {v : AV} {c : Value} {n : Nat} (h : lenS v = some n) (r : vrel σ ν v c) : ∃ a m, c = .slice a n m := by
  cases v <;> simp only [lenS] at h <;> first | (cases h; done) | (simp only [vrel] at r)
  · cases h; subst r; exact ⟨_, _, rfl⟩
  · cases h; obtain ⟨e, _, rfl⟩ := r; exact ⟨_, _, rfl⟩
  · cases h; obtain ⟨e, _, _, rfl⟩ := r; exact ⟨_, _, rfl⟩
  · cases h; obtain ⟨e, _, rfl⟩ := r; exact ⟨_, _, rfl⟩

/-- How long a slice is. -/
def lenV : Value → Nat
  | .slice _ n _ => n
  | _ => 0

theorem sumL_spec {σ : Nat → Value} {ν : Nu} : ∀ {es : List AE} {cs : List MapEntry} {t : Nat}, sumL es = some t → erels σ ν es cs → (∀ x ∈ cs, ∃ a n m, x.val = .slice a n m) ∧ (cs.map fun x => lenV x.val).sum = t
  | [], cs, t, h, r => by
    simp only [erels] at r
    subst r
    simp [sumL] at h
    subst h
    simp
  | e :: es, cs, t, h, ⟨c, cs', h1, h2, e'⟩ => by
    subst e'
    simp only [sumL] at h
    split at h
    · rename_i n hn
      split at h
      · rename_i m hm
        simp at h
        obtain ⟨g1, g2⟩ := sumL_spec hm h2
        obtain ⟨a, q, hq⟩ := lenS_rel hn h1.2.1
        refine ⟨fun x hx => ?_, ?_⟩
        · rcases List.mem_cons.1 hx with rfl | hx
          · exact ⟨_, _, _, hq⟩
          · exact g1 x hx
        · rw [List.map_cons, List.sum_cons, g2, hq]
          exact h
      · cases h
    · cases h

theorem fit_rv {es : Array MapEntry} {cl : Nat} {ks : List (List UInt8)} (_hk : es.toList.map (·.key) = ks.map encStr) (F : Fit Tryz.prog 9 noElem es cl) (hv : ∀ x ∈ es.toList, ∃ a n m, x.val = .slice a n m) : Fit Tryz.prog 9 RV es cl :=
  ⟨F.size, F.stamped, fun x hx => by
    obtain ⟨y, hy⟩ := F.reads x hx
    obtain ⟨a, n, m, e⟩ := hv x hx
    exact ⟨_, rd_mk (born := x.born) (rd_key hy) (by rw [e]; rfl)⟩⟩

theorem total_ok {σ : Nat → Value} : SpecOk σ 220 specTotal := by
  intro args h v h' hg ν w cs hh ha
  unfold specTotal at hg
  split at hg
  rotate_left
  · cases hg
  rename_i nb o g
  cases hbb : (Nat.beq g 221 && Nat.beq o 0) with
  | false => rw [hbb] at hg; cases hg
  | true =>
    rw [hbb] at hg
    simp only [cond_true] at hg
    simp only [Bool.and_eq_true] at hbb
    have hg221 := Nat.eq_of_beq_eq_true hbb.1
    have ho0 := Nat.eq_of_beq_eq_true hbb.2
    subst hg221 ho0
    unfold totalC at hg
    split at hg
    rotate_left
    · cases hg
    rename_i q1 q2 q3 k qr wd hc
    unfold totalM at hg
    split at hg
    rotate_left
    · cases hg
    rename_i es cl hk
    unfold totalK at hg
    split at hg
    rotate_left
    · cases hg
    rename_i ks t hks ht
    cases hok : (bornsOk cl es && (keysOk ks && (Nat.ble ks.length 1000 && Nat.ble t 1000000))) with
    | false => rw [hok] at hg; cases hg
    | true =>
      rw [hok] at hg
      simp only [cond_true, Option.some.injEq, Prod.mk.injEq] at hg
      obtain ⟨rfl, rfl⟩ := hg
      simp only [Bool.and_eq_true] at hok
      obtain ⟨k1, k2, k3, k4⟩ := hok
      obtain ⟨_, _, ⟨ec, hec, rfl⟩, ⟨_, _, ⟨_, _, rfl, rfl, rfl⟩, rfl, rfl⟩, rfl⟩ := ha
      obtain ⟨ec', oc, c1, c2, c3⟩ := hh.dom nb _ hc
      rw [hec] at c1
      cases c1
      cases oc <;> simp only [brel] at c3
      rename_i arr kty fr
      obtain ⟨l, ext, g1, ⟨v1, _, _, ⟨v2, _, _, ⟨v3, _, _, ⟨mv, l', ⟨em, hem, rfl⟩, _, rfl⟩, rfl⟩, rfl⟩, rfl⟩, _⟩ := c3
      obtain ⟨em', om, m1, m2, m3⟩ := hh.dom k _ hk
      rw [hem] at m1
      cases m1
      cases om <;> simp only [brel] at m3
      rename_i ces ccl
      obtain ⟨rfl, m3⟩ := m3
      obtain ⟨e1, e2⟩ := erels_keys m3 (keysOf_spec hks)
      obtain ⟨s1, s2⟩ := sumL_spec ht m3
      have F := fit_rv e1 (fit_of e1 (by rw [e2]; exact borns_spec k1) (keys_spec k2) (Nat.le_of_ble_eq_true k3)) s1
      have hcell : w.cell? ⟨ec.b, 3, none⟩ = some (.map (some em.b)) := by
        have : arr[3]? = some (.map (some em.b)) := by rw [← Array.getElem?_toList, g1]; rfl
        simp [World.cell?, c2, this]
      have hown : w.ownsMap Tryz.prog 9 RV em.b (Maps.size (DataW.map ((ces.toList.map (rg Tryz.prog 9 RV)).foldr DataW.insert []))) (DataW.map ((ces.toList.map (rg Tryz.prog 9 RV)).foldr DataW.insert [])) :=
        ⟨ces, _, m2, F, by rw [Maps.size_eq, (Go.WideShapes.sorted_perm _).length_eq]; simp, rfl⟩
      have hap : ((ces.toList.map (rg Tryz.prog 9 RV)).foldr DataW.insert []).Pairwise (fun p q => p.1 ≠ q.1) := by
        obtain ⟨_, hE, hp⟩ := hown.tidy law9
        cases hE
        exact hp
      have hsum : (((ces.toList.map (rg Tryz.prog 9 RV)).foldr DataW.insert []).map fun p => nD (DataW.map ((ces.toList.map (rg Tryz.prog 9 RV)).foldr DataW.insert [])) p.1).sum = t := by
        have a1 : ∀ p ∈ (ces.toList.map (rg Tryz.prog 9 RV)).foldr DataW.insert [], nD (DataW.map ((ces.toList.map (rg Tryz.prog 9 RV)).foldr DataW.insert [])) p.1 = (match p.2 with | .held v => lenV v | _ => 0) := by
          intro p hp
          obtain ⟨key, hkey, _⟩ := key_of_lit hown rfl p hp
          unfold nD
          rw [WideAt.atKey_mem (k := p.1) (d := p.2) .nil (by rw [hkey]; trivial) hap hp]
          obtain ⟨x, hx, rfl⟩ := List.mem_map.1 ((Go.WideShapes.sorted_perm _).mem_iff.1 hp)
          obtain ⟨y, hy⟩ := F.reads x hx
          obtain ⟨a, n, m, e⟩ := s1 x hx
          rw [rg_of hy]
          obtain ⟨z, hz, e3⟩ := rd_val hy
          rw [e] at hz
          cases hz
          rw [e3]
          rfl
        rw [List.map_congr_left a1, ((Go.WideShapes.sorted_perm _).map _).sum_nat, ← s2, List.map_map]
        refine congrArg List.sum (List.map_congr_left fun x hx => ?_)
        obtain ⟨y, hy⟩ := F.reads x hx
        obtain ⟨a, n, m, e⟩ := s1 x hx
        simp only [Function.comp]
        rw [rg_of hy]
        obtain ⟨z, hz, e3⟩ := rd_val hy
        rw [e] at hz
        cases hz
        rw [e3, e]
      refine (total_any hcell hown rfl hap hsum (Nat.le_of_ble_eq_true k4)).mono ?_
      rintro e w' ⟨rfl, hB⟩
      obtain ⟨x1, x2⟩ := ext_same hh hB.block hB.size (Keeps.of_below hB (Nat.le_refl _))
      exact ⟨_, ν, rfl, x2, x1, rfl⟩
end Go.Ae
namespace Go.Ae.Tot
open Go Go.Proofs Go.RowKit Go.Maps
theorem tmod_neg' {a n : Int} (hn : 0 < n) (h : a < 0) : a.tmod n ≤ 0 ∧ -n < a.tmod n ∧ (a.tmod n = a % n ∨ (a.tmod n < 0 ∧ a.tmod n + n = a % n)) := by
  obtain ⟨b, rfl⟩ : ∃ b : Int, a = -b := ⟨-a, by omega⟩
  have e1 : (-b).tmod n = -(b.tmod n) := Int.neg_tmod b n
  have e2 : b.tmod n = b % n := Int.tmod_eq_emod_of_nonneg (by omega)
  have h3 := Int.emod_nonneg b (show n ≠ 0 by omega)
  have h4 := Int.emod_lt_of_pos b hn
  have h5 := Int.emod_nonneg (-b) (show n ≠ 0 by omega)
  have h6 := Int.emod_lt_of_pos (-b) hn
  have h7 := Int.mul_ediv_add_emod b n
  have h8 := Int.mul_ediv_add_emod (-b) n
  rw [e1, e2]
  refine ⟨by omega, by omega, ?_⟩
  have h9 : n * ((-b) / n + b / n) = -(b % n) - (-b) % n := by rw [Int.mul_add]; omega
  generalize (-b) / n + b / n = q at h9
  have q1 : q ≤ 0 := by
    apply Int.not_lt.1
    intro hq
    have := Int.mul_le_mul_of_nonneg_left (show 1 ≤ q by omega) (show 0 ≤ n by omega)
    omega
  have q2 : -2 < q := by
    apply Int.not_le.1
    intro hq
    have := Int.mul_le_mul_of_nonneg_left hq (show 0 ≤ n by omega)
    omega
  rcases (show q = 0 ∨ q = -1 by omega) with h | h <;> rw [h] at h9 <;> omega

set_option maxHeartbeats 400000 in
theorem within_any (a n : Int) (w : World) (hn : 0 < n) (hb : n ≤ 9223372036854775807) (ha : -9223372036854775808 ≤ a) (ha' : a ≤ 9223372036854775807) :
    Calls Tryz.prog 10 #[.int .i64 a, .int .i64 n] w fun e w' => e = .returned (.int .i64 (a % n)) ∧ w = w' := by
  by_cases h : 0 ≤ a
  · have h3 : 0 ≤ a % n := Int.emod_nonneg _ (by omega)
    go_enter Tryz.func10, Tryz.ntmps10
    go_wp2
    go_ret
    exact ⟨rfl, rfl⟩
  · obtain ⟨h4, h6, hx⟩ := tmod_neg' hn (show a < 0 by omega)
    have h7 := Int.emod_nonneg a (show n ≠ 0 by omega)
    have HX := Lib.hid hx
    clear hx
    go_enter Tryz.func10, Tryz.ntmps10
    go_wp2
    · go_ret
      exact ⟨ret_int (by rcases HX.out with h | h <;> omega), rfl⟩
    · go_ret
      exact ⟨ret_int (by rcases HX.out with h | h <;> omega), rfl⟩

end Go.Ae.Tot
namespace Go.Ae
open Go Go.Proofs

noncomputable def specWithin (p q : Int) : List AV → AH → Option (AV × AH)
  | [.sym k, .i .i64 n], h => bif Nat.beq k 0 && (n == 6) then some (.i .i64 p, h) else bif Nat.beq k 1 && (n == 3) then some (.i .i64 q, h) else none
  | _, _ => none

theorem within_ok {σ : Nat → Value} {a b : Int} (ha : σ 0 = .int .i64 a) (hb : σ 1 = .int .i64 b) (a1 : -9223372036854775808 ≤ a) (a2 : a ≤ 9223372036854775807) (b1 : -9223372036854775808 ≤ b) (b2 : b ≤ 9223372036854775807) : SpecOk σ 10 (specWithin (a % 6) (b % 3)) := by
  intro args h v h' hg ν w cs hh hr
  unfold specWithin at hg
  split at hg
  rotate_left
  · cases hg
  rename_i k n
  obtain ⟨_, _, ⟨h1, _⟩, ⟨_, _, rfl, rfl, rfl⟩, rfl⟩ := hr
  subst h1
  cases hc : (Nat.beq k 0 && (n == 6)) with
  | true =>
    rw [hc] at hg
    simp only [cond_true, Option.some.injEq, Prod.mk.injEq] at hg
    obtain ⟨rfl, rfl⟩ := hg
    simp only [Bool.and_eq_true, beq_iff_eq] at hc
    obtain ⟨k0, rfl⟩ := hc
    have := Nat.eq_of_beq_eq_true k0
    subst this
    rw [ha]
    refine (Tot.within_any a 6 w (by omega) (by omega) a1 a2).mono ?_
    rintro e w' ⟨rfl, rfl⟩
    exact ⟨_, ν, rfl, Ext.refl _ _ _, hh, rfl⟩
  | false =>
    rw [hc] at hg
    simp only [cond_false] at hg
    cases hc2 : (Nat.beq k 1 && (n == 3)) with
    | false => rw [hc2] at hg; cases hg
    | true =>
      rw [hc2] at hg
      simp only [cond_true, Option.some.injEq, Prod.mk.injEq] at hg
      obtain ⟨rfl, rfl⟩ := hg
      simp only [Bool.and_eq_true, beq_iff_eq] at hc2
      obtain ⟨k0, rfl⟩ := hc2
      have := Nat.eq_of_beq_eq_true k0
      subst this
      rw [hb]
      refine (Tot.within_any b 3 w (by omega) (by omega) b1 b2).mono ?_
      rintro e w' ⟨rfl, rfl⟩
      exact ⟨_, ν, rfl, Ext.refl _ _ _, hh, rfl⟩

noncomputable def specT (f : Nat) : Option (List AV → AH → Option (AV × AH)) :=
  bif Nat.beq f 220 then some specTotal else bif Nat.beq f 211 then some specSorted else bif Nat.beq f 222 then some specIndex else none

noncomputable def asc : List AV := [.i .u8 0,.i .u8 0,.i .u8 0,.i .u8 0,.i .u8 0,.i .u8 0,.i .u8 0,.i .u8 0,.i .u8 0,.i .u8 1,.i .u8 1,.i .u8 1,.i .u8 1,.i .u8 1,.i .u8 0,.i .u8 0,.i .u8 0,.i .u8 0,.i .u8 0,.i .u8 0,.i .u8 0,.i .u8 0,.i .u8 0,.i .u8 0,.i .u8 0,.i .u8 0,.i .u8 0,.i .u8 0,.i .u8 0,.i .u8 0,.i .u8 0,.i .u8 0,.i .u8 1,.i .u8 0,.i .u8 0,.i .u8 0,.i .u8 0,.i .u8 0,.i .u8 0,.i .u8 0,.i .u8 0,.i .u8 0,.i .u8 0,.i .u8 0,.i .u8 0,.i .u8 0,.i .u8 0,.i .u8 0,.i .u8 0,.i .u8 0,.i .u8 0,.i .u8 0,.i .u8 0,.i .u8 0,.i .u8 0,.i .u8 0,.i .u8 0,.i .u8 0,.i .u8 0,.i .u8 0,.i .u8 0,.i .u8 0,.i .u8 0,.i .u8 0,.i .u8 0,.i .u8 0,.i .u8 0,.i .u8 0,.i .u8 0,.i .u8 0,.i .u8 0,.i .u8 0,.i .u8 0,.i .u8 0,.i .u8 0,.i .u8 0,.i .u8 0,.i .u8 0,.i .u8 0,.i .u8 0,.i .u8 0,.i .u8 0,.i .u8 0,.i .u8 0,.i .u8 0,.i .u8 0,.i .u8 0,.i .u8 0,.i .u8 0,.i .u8 0,.i .u8 0,.i .u8 0,.i .u8 0,.i .u8 0,.i .u8 0,.i .u8 0,.i .u8 0,.i .u8 0,.i .u8 0,.i .u8 0,.i .u8 0,.i .u8 0,.i .u8 0,.i .u8 0,.i .u8 0,.i .u8 0,.i .u8 0,.i .u8 0,.i .u8 0,.i .u8 0,.i .u8 0,.i .u8 0,.i .u8 0,.i .u8 0,.i .u8 0,.i .u8 0,.i .u8 0,.i .u8 0,.i .u8 0,.i .u8 0,.i .u8 0,.i .u8 0,.i .u8 0,.i .u8 0,.i .u8 0,.i .u8 0,.i .u8 0,.i .u8 0,.i .u8 0,.i .u8 0,.i .u8 0,.i .u8 0,.i .u8 0,.i .u8 0,.i .u8 0,.i .u8 0,.i .u8 0,.i .u8 0,.i .u8 0,.i .u8 0,.i .u8 0,.i .u8 0,.i .u8 0,.i .u8 0,.i .u8 0,.i .u8 0,.i .u8 0,.i .u8 0,.i .u8 0,.i .u8 0,.i .u8 0,.i .u8 0,.i .u8 0,.i .u8 0,.i .u8 0,.i .u8 0,.i .u8 0,.i .u8 0,.i .u8 0,.i .u8 0,.i .u8 0,.i .u8 0,.i .u8 0,.i .u8 0,.i .u8 0,.i .u8 0,.i .u8 0,.i .u8 0,.i .u8 0,.i .u8 0,.i .u8 0,.i .u8 0,.i .u8 0,.i .u8 0,.i .u8 0,.i .u8 0,.i .u8 0,.i .u8 0,.i .u8 0,.i .u8 0,.i .u8 0,.i .u8 0,.i .u8 0,.i .u8 0,.i .u8 0,.i .u8 0,.i .u8 0,.i .u8 0,.i .u8 0,.i .u8 0,.i .u8 0,.i .u8 0,.i .u8 0,.i .u8 0,.i .u8 0,.i .u8 0,.i .u8 0,.i .u8 0,.i .u8 0,.i .u8 0,.i .u8 0,.i .u8 0,.i .u8 0,.i .u8 0,.i .u8 0,.i .u8 0,.i .u8 0,.i .u8 0,.i .u8 0,.i .u8 0,.i .u8 0,.i .u8 0,.i .u8 0,.i .u8 0,.i .u8 0,.i .u8 0,.i .u8 0,.i .u8 0,.i .u8 0,.i .u8 0,.i .u8 0,.i .u8 0,.i .u8 0,.i .u8 0,.i .u8 0,.i .u8 0,.i .u8 0,.i .u8 0,.i .u8 0,.i .u8 0,.i .u8 0,.i .u8 0,.i .u8 0,.i .u8 0,.i .u8 0,.i .u8 0,.i .u8 0,.i .u8 0,.i .u8 0,.i .u8 0,.i .u8 0,.i .u8 0,.i .u8 0,.i .u8 0,.i .u8 0,.i .u8 0,.i .u8 0,.i .u8 0,.i .u8 0,.i .u8 0,.i .u8 0,.i .u8 0,.i .u8 0,.i .u8 0,.i .u8 0,.i .u8 0]
noncomputable def p10 : List AV := [.i .u64 1,.i .u64 10,.i .u64 100,.i .u64 1000,.i .u64 10000,.i .u64 100000,.i .u64 1000000,.i .u64 10000000,.i .u64 100000000,.i .u64 1000000000,.i .u64 10000000000,.i .u64 100000000000,.i .u64 1000000000000,.i .u64 10000000000000,.i .u64 100000000000000,.i .u64 1000000000000000,.i .u64 10000000000000000,.i .u64 100000000000000000,.i .u64 1000000000000000000,.i .u64 10000000000000000000]

noncomputable def sameC (cs : List AV) : Option AB → Bool
  | some (.c ds wd) => Nat.beq wd 0 && AV.beqs ds cs
  | _ => false

noncomputable def hasH (h : AH) : Bool := Nat.ble 12 h.nx && (sameC asc (h.get 0) && (sameC p10 (h.get 3) && sameC [.sym 2] (h.get 4)))

noncomputable def specKnown : List AV → AH → Option (AV × AH)
  | [], h => bif hasH h then some (.b true, h) else none
  | _, _ => none

noncomputable def specK (f : Nat) : Option (List AV → AH → Option (AV × AH)) := bif Nat.beq f 7 then some specKnown else specT f
noncomputable def specW (p q : Int) (f : Nat) : Option (List AV → AH → Option (AV × AH)) := bif Nat.beq f 10 then some (specWithin p q) else specK f

noncomputable def C0 : Cfg := ⟨Tryz.prog, Tryz.prog.globals.size, specT, extT⟩
noncomputable def C1 : Cfg := ⟨Tryz.prog, Tryz.prog.globals.size, specK, extT⟩
noncomputable def CW (p q : Int) : Cfg := ⟨Tryz.prog, Tryz.prog.globals.size, specW p q, extT⟩
noncomputable def H1 : AH := ⟨12, (((Tr.e).set 0 (some (.c asc 0))).set 3 (some (.c p10 0))).set 4 (some (.c [.sym 2] 0))⟩

theorem plain_all : Tryz.prog.funcs.toList.all (fun fn => !(fn.name == "runtime.NumGoroutine")) = true := by kernel_rfl
theorem plain_of {f : Nat} {fn : Func} (h : Tryz.prog.funcs[f]? = some fn) : fn.name ≠ "runtime.NumGoroutine" := by
  have := List.all_eq_true.1 plain_all fn (by rw [← Array.getElem?_toList] at h; exact List.mem_of_getElem? h)
  simpa using this

/-- A spec, with the function's body. -/
def SpecB (σ : Nat → Value) (f : Nat) (g : List AV → AH → Option (AV × AH)) : Prop := (∃ fn c, Tryz.prog.funcs[f]? = some fn ∧ fn.body = some c) ∧ SpecOk σ f g

theorem good_of {σ : Nat → Value} {sp : Nat → Option (List AV → AH → Option (AV × AH))} (h : ∀ f g, sp f = some g → SpecB σ f g) : Good ⟨Tryz.prog, Tryz.prog.globals.size, sp, extT⟩ σ where
  follows := Tryz.keys212.mixed
  plain := fun _ _ => plain_of
  spec := fun f g args a v b hs hg => ⟨(h f g hs).1, fun ν w cs hh ha => (h f g hs).2 args a v b hg ν w cs hh ha⟩
  ext := fun _ _ _ _ hf hg ν w cs ha => extT_ok hf hg ν w cs ha

theorem specT_ok {σ : Nat → Value} {m : Int} (hm : σ 2 = .int .i64 m) (f : Nat) (g : List AV → AH → Option (AV × AH)) (h : specT f = some g) : SpecB σ f g := by
  unfold specT at h
  rcases beq_cases h with ⟨rfl, e⟩ | ⟨_, h⟩
  · cases e; exact ⟨⟨Tryz.f220, _, Tryz.func220, rfl⟩, total_ok⟩
  rcases beq_cases h with ⟨rfl, e⟩ | ⟨_, h⟩
  · cases e; exact ⟨⟨Tryz.f211, _, Tryz.func211, rfl⟩, sorted_ok⟩
  rcases beq_cases h with ⟨rfl, e⟩ | ⟨_, h⟩
  · cases e; exact ⟨⟨Tryz.f222, _, Tryz.func222, rfl⟩, index_ok hm⟩
  · cases h

theorem good0 {σ : Nat → Value} {m : Int} (hm : σ 2 = .int .i64 m) : Good C0 σ := good_of (specT_ok hm)

theorem specK_ok {σ : Nat → Value} {m : Int} (hm : σ 2 = .int .i64 m) (hk : SpecOk σ 7 specKnown) (f : Nat) (g : List AV → AH → Option (AV × AH)) (h : specK f = some g) : SpecB σ f g := by
  unfold specK at h
  rcases beq_cases h with ⟨rfl, e⟩ | ⟨_, h⟩
  · cases e; exact ⟨⟨Tryz.f7, _, Tryz.func7, rfl⟩, hk⟩
  · exact specT_ok hm f g h

theorem good1 {σ : Nat → Value} {m : Int} (hm : σ 2 = .int .i64 m) (hk : SpecOk σ 7 specKnown) : Good C1 σ := good_of (specK_ok hm hk)

theorem goodW {σ : Nat → Value} {m : Int} (hm : σ 2 = .int .i64 m) (hk : SpecOk σ 7 specKnown) {p q : Int} (hw : SpecOk σ 10 (specWithin p q)) : Good (CW p q) σ := good_of fun f g h => by
  unfold specW at h
  rcases beq_cases h with ⟨rfl, e⟩ | ⟨_, h⟩
  · cases e; exact ⟨⟨Tryz.f10, _, Tryz.func10, rfl⟩, hw⟩
  · exact specK_ok hm hk f g h
end Go.Ae
namespace Go.Ae
open Go Go.Proofs
noncomputable def bodyOf (f : Nat) : Code := match Tryz.prog.funcs[f]? with
  | some fn => match fn.body with
    | some c => c
    | none => .skip
  | none => .skip
noncomputable def loopOf : Code → List Code
  | .block _ (.loop b) => flatC b
  | _ => []
noncomputable def at1 : List Code → Nat → Code
  | x :: _, 0 => x
  | _ :: r, n + 1 => at1 r n
  | [], _ => .skip
noncomputable def I3 : List Code := flatC (bodyOf 3)
noncomputable def L3 : List Code := loopOf (at1 I3 10)
noncomputable def I7 : List Code := flatC (bodyOf 7)
end Go.Ae
namespace Go.Ae
open Go Go.Proofs

theorem goes_cfg {σ : Nat → Value} {n P gs sp ex sp' ex'} {c : Code} {s : St} {y : Ex × St} (h : Goes ⟨P, gs, sp, ex⟩ σ n c s y) : Goes ⟨P, gs, sp', ex'⟩ σ n c s y := h

theorem chain_cfg {σ : Nat → Value} {C C' : Cfg} {n : Nat} (hP : C.P = C'.P) (hg : C.gs = C'.gs) : ∀ {l : List Code} {s : St} {y : Ex × St}, Chain C σ n l s y → Chain C' σ n l s y := by
  obtain ⟨P, gs, sp, ex⟩ := C
  obtain ⟨P', gs', sp', ex'⟩ := C'
  simp only at hP hg
  subst hP hg
  intro l s y h
  induction h with
  | nil u => exact .nil u
  | cons g _ ih => exact .cons (goes_cfg g) ih
  | stop hx g => exact .stop hx (goes_cfg g)

noncomputable def Bl : Code := match at1 I3 10 with
  | .block _ (.loop b) => b
  | _ => .skip

theorem item10 : at1 I3 10 = .block 0 (.loop Bl) := by kernel_rfl
theorem items3 : flatC (bodyOf 3) = I3.take 10 ++ ([at1 I3 10] ++ ((I3.drop 11).take 1 ++ I3.drop 12)) := by kernel_rfl
theorem itemsL : flatC Bl = L3.take 2 ++ L3.drop 2 := by kernel_rfl

theorem te_glue {σ : Nat → Value} {s0 p e : St} {q : Nat} {h : Nat → St} (Hh0 : Chain C0 σ 79 (I3.take 10) s0 (.nrm, h 0)) (Ht : ∀ j, j ≤ q → Chain C0 σ 79 (L3.take 2) (h j) (.nrm, h j))
    (Hx : Chain C0 σ 79 (L3.take 2) (h (q + 1)) (.ex 0, h (q + 1))) (Hb : ∀ j, j ≤ q → Chain C0 σ 79 (L3.drop 2) (h j) (.nrm, h (j + 1))) (Hp : Chain C0 σ 79 ((I3.drop 11).take 1) (h (q + 1)) (.nrm, p))
    (He : Chain C0 σ 79 (I3.drop 12) p (.ret, e)) : Goes C0 σ 79 (bodyOf 3) s0 (.ret, e) := by
  have rounds : ∀ d j, j + d = q + 1 → GoesL C0 σ 79 Bl (h j) (.ex 0, h (q + 1)) ∧ Goes C0 σ 79 (.loop Bl) (h j) (.ex 0, h (q + 1)) := by
    intro d
    induction d with
    | zero =>
      intro j hj
      have : j = q + 1 := by omega
      subst this
      refine goes_last (by simp) (goes_chain ?_)
      rw [itemsL]
      exact chain_stop (by simp) Hx rfl
    | succ d ih =>
      intro j hj
      refine goes_round (s1 := h (j + 1)) (goes_chain ?_) (ih (j + 1) (by omega)).1
      rw [itemsL]
      exact chain_append (Ht j (by omega)) rfl (Hb j (by omega))
  have hl := goes_block (rounds (q + 1) 0 (by omega)).2
  refine goes_chain ?_
  rw [items3]
  refine chain_append Hh0 rfl (chain_append (.cons (by rw [item10]; exact hl) (.nil (Sub.refl _))) rfl (chain_append Hp rfl He))
end Go.Ae
