/- A part of the proof of the law of TopAcross: AeX, AeY, AeZ, AeZa, AeZb0, AeCf, AeMa. -/
import Derived.Test.YtlclnngcnkepjaaGreatDoorQ3
import Derived.Test.YtlclnngcnkepjaaGreatDoorQ4
import Derived.Test.YtlclnngcnkepjaaGreatDoorQIter
import Derived.Lib.Bytealg
import Derived.Sort.Walk0
import Derived.StringKeys
import Derived.WalkKit
import Derived.WalkSpells
import Derived.WalkLawsBesides
import Derived.Maps.OwnSet
import Derived.Maps.RangeWalk
import Derived.Maps.Ext
import Derived.Lib.Hide
namespace Go.Ae
open Go Go.Proofs

noncomputable def bitsV : Value → Option Value
  | .float .f64 n => some (.int .u64 n)
  | _ => none
noncomputable def floatV : Value → Option Value
  | .int .u64 n => some (.float .f64 n.toNat)
  | _ => none
noncomputable def ext204 : List AV → Option AV
  | [.f .f64 n] => some (.i .u64 n)
  | [.ve l] => mkVe (lanes1 bitsV l)
  | _ => none
noncomputable def ext207 : List AV → Option AV
  | [.i .u64 n] => some (.f .f64 n.toNat)
  | [.ve l] => mkVe (lanes1 floatV l)
  | _ => none

/-- A byte among items: how often, where first. -/
noncomputable def cntI (c : UInt8) : List AV → Option Nat
  | [] => some 0
  | v :: r => match ceL v (.i .u8 c.toNat) with
    | some d => match cntI c r with
      | some n => some (bif d then Nat.succ n else n)
      | none => none
    | none => none
noncomputable def incI : Int → Int
  | .ofNat n => .ofNat (Nat.succ n)
  | .negSucc n => .negSucc n
noncomputable def idxI (c : UInt8) : List AV → Option Int
  | [] => some (-1)
  | v :: r => match ceL v (.i .u8 c.toNat) with
    | some true => some 0
    | some false => match idxI c r with
      | some n => some (incI n)
      | none => none
    | none => none
noncomputable def cntO : Option Nat → Option AV
  | some n => some (.i .i64 n)
  | none => none
noncomputable def idxO : Option Int → Option AV
  | some n => some (.i .i64 n)
  | none => none
noncomputable def ext271 : List AV → Option AV
  | [.s a, .i .u8 c] => some (.i .i64 (Lib.countByte a c.toNat.toUInt8 : Nat))
  | [.st l, .i .u8 c] => bif l.all cellI then cntO (cntI c.toNat.toUInt8 l) else none
  | _ => none
noncomputable def ext272 : List AV → Option AV
  | [.s a, .i .u8 c] => some (.i .i64 (Lib.indexByte a c.toNat.toUInt8))
  | [.st l, .i .u8 c] => bif l.all cellI then idxO (idxI c.toNat.toUInt8 l) else none
  | _ => none
noncomputable def extT (f : Nat) : Option (List AV → Option AV) :=
  bif Nat.beq f 204 then some ext204 else bif Nat.beq f 207 then some ext207 else bif Nat.beq f 271 then some ext271 else bif Nat.beq f 272 then some ext272 else none

theorem beq_cases {α : Type} {f k : Nat} {x y : Option α} {g : α} (h : (bif Nat.beq f k then x else y) = some g) : (f = k ∧ x = some g) ∨ (f ≠ k ∧ y = some g) := by
  cases hb : Nat.beq f k with
  | true => rw [hb] at h; exact .inl ⟨Nat.eq_of_beq_eq_true hb, h⟩
  | false => rw [hb] at h; exact .inr ⟨Nat.ne_of_beq_eq_false hb, h⟩

theorem byte_eq {σ : Sg} {v : AV} {b c : UInt8} {d : Bool} (h : ceL v (.i .u8 c.toNat) = some d) (hv : cc σ v = [byteV b]) : (b == c) = d := by
  have := ceL_rel h hv (show cc σ (.i .u8 c.toNat) = [byteV c] from rfl)
  have h2 : byteV b = byteV c ↔ b = c := ⟨fun e => by have := byteV_inj (a := [b]) (b := [c]) (by simp [e]); simpa using this, fun e => by rw [e]⟩
  rw [h2] at this
  cases d with
  | true => simpa using this.2 rfl
  | false =>
    have h3 : b ≠ c := fun e => by have := this.1 e; cases this
    simpa using h3

theorem cells_split {σ : Sg} {v : AV} {l : List AV} {bs : List UInt8} (h : ccs σ (v :: l) = bs.map byteV) (hi : ioks σ (v :: l)) (hc : cellI v = true) : ∃ b bs', bs = b :: bs' ∧ cc σ v = [byteV b] ∧ ccs σ l = bs'.map byteV := by
  obtain ⟨c, h1, _⟩ := (ioks_cons hi).1 hc
  rw [ccs_cons, h1] at h
  cases bs with
  | nil => simp at h
  | cons b bs' =>
    simp only [List.cons_append, List.nil_append, List.map_cons, List.cons.injEq] at h
    exact ⟨b, bs', rfl, by rw [h1, h.1], h.2⟩

theorem cntI_rel {σ : Sg} {c : UInt8} : ∀ {l : List AV} {bs : List UInt8} {n : Nat}, cntI c l = some n → l.all cellI = true → ccs σ l = bs.map byteV → ioks σ l → Lib.countByte bs c = n
  | [], bs, n, h, _, hb, _ => by
    simp [cntI] at h
    cases bs with
    | nil => simp [Lib.countByte, h]
    | cons _ _ => simp [ccs] at hb
  | v :: l, bs, n, h, hc, hb, hi => by
    simp only [List.all_cons, Bool.and_eq_true] at hc
    obtain ⟨b, bs', rfl, h1, h2⟩ := cells_split hb hi hc.1
    simp only [cntI] at h
    split at h
    · rename_i d hd
      split at h
      · rename_i m hm
        simp at h
        have ih := cntI_rel hm hc.2 h2 (ioks_cons hi).2
        have he := byte_eq hd h1
        unfold Lib.countByte at ih ⊢
        rw [List.count_cons, ih, he]
        cases d <;> simp at h ⊢ <;> omega
      · cases h
    · cases h

theorem idxI_rel {σ : Sg} {c : UInt8} : ∀ {l : List AV} {bs : List UInt8} {n : Int}, idxI c l = some n → l.all cellI = true → ccs σ l = bs.map byteV → ioks σ l → Lib.indexByte bs c = n
  | [], bs, n, h, _, hb, _ => by
    simp [idxI] at h
    cases bs with
    | nil => simp [Lib.indexByte, h]
    | cons _ _ => simp [ccs] at hb
  | v :: l, bs, n, h, hc, hb, hi => by
    simp only [List.all_cons, Bool.and_eq_true] at hc
    obtain ⟨b, bs', rfl, h1, h2⟩ := cells_split hb hi hc.1
    simp only [idxI] at h
    split at h
    · rename_i hd
      simp at h
      have he := byte_eq hd h1
      simp [Lib.indexByte, he, h]
    · rename_i hd
      have he := byte_eq hd h1
      split at h
      · rename_i m hm
        simp at h
        have ih := idxI_rel hm hc.2 h2 (ioks_cons hi).2
        have hge := Lib.indexByte_ge bs' c
        rw [ih] at hge
        simp only [Lib.indexByte, he, ih]
        subst h
        cases m with
        | ofNat m => simp [incI]
        | negSucc m =>
          cases m with
          | zero => simp [incI]
          | succ m => omega
      · cases h
    · cases h

theorem extT_ok {σ : Sg} {f : Nat} {g : List AV → Option AV} {args : List AV} {v : AV} (hf : extT f = some g) (hg : g args = some v) (ν : Nu) (w : World) (cs : List Value) (ha : vrels σ ν args cs) :
    ∃ c, (callFunc f cs.toArray).run Tryz.prog w = .ok (.value c) w ∧ vrel σ ν v c := by
  unfold extT at hf
  rcases beq_cases hf with ⟨rfl, e⟩ | ⟨_, hf⟩
  · cases e
    unfold ext204 at hg
    split at hg
    · cases hg
      obtain ⟨_, _, h1, rfl, rfl⟩ := ha
      simp only [vrel] at h1
      subst h1
      refine ⟨.int .u64 _, ?_, rfl⟩
      rw [run_callFunc_extern Tryz.func204 (by kernel_rfl) (by kernel_rfl) (by kernel_rfl) (e := Extern.MathFloatBits.float64bits) (by kernel_rfl)]
      rfl
    · rename_i l
      obtain ⟨c1, _, h1, rfl, rfl⟩ := ha
      obtain ⟨r, hr⟩ := mkVe_some hg
      rw [hr] at hg
      obtain ⟨c, k1, k2⟩ := lanes1_get hr h1.1
      refine ⟨c, ?_, mkVe_rel hg k1⟩
      unfold bitsV at k2
      split at k2
      · cases k2
        rw [run_callFunc_extern Tryz.func204 (by kernel_rfl) (by kernel_rfl) (by kernel_rfl) (e := Extern.MathFloatBits.float64bits) (by kernel_rfl)]
        rfl
      · cases k2
    · cases hg
  rcases beq_cases hf with ⟨rfl, e⟩ | ⟨_, hf⟩
  · cases e
    unfold ext207 at hg
    split at hg
    · cases hg
      obtain ⟨_, _, h1, rfl, rfl⟩ := ha
      simp only [vrel] at h1
      subst h1
      refine ⟨.float .f64 _, ?_, rfl⟩
      rw [run_callFunc_extern Tryz.func207 (by kernel_rfl) (by kernel_rfl) (by kernel_rfl) (e := Extern.MathFloatBits.float64frombits) (by kernel_rfl)]
      rfl
    · rename_i l
      obtain ⟨c1, _, h1, rfl, rfl⟩ := ha
      obtain ⟨r, hr⟩ := mkVe_some hg
      rw [hr] at hg
      obtain ⟨c, k1, k2⟩ := lanes1_get hr h1.1
      refine ⟨c, ?_, mkVe_rel hg k1⟩
      unfold floatV at k2
      split at k2
      · cases k2
        rw [run_callFunc_extern Tryz.func207 (by kernel_rfl) (by kernel_rfl) (by kernel_rfl) (e := Extern.MathFloatBits.float64frombits) (by kernel_rfl)]
        rfl
      · cases k2
    · cases hg
  rcases beq_cases hf with ⟨rfl, e⟩ | ⟨_, hf⟩
  · cases e
    unfold ext271 at hg
    split at hg
    · cases hg
      obtain ⟨_, _, h1, ⟨_, _, h2, rfl, rfl⟩, rfl⟩ := ha
      simp only [vrel] at h1 h2
      subst h1 h2
      refine ⟨.int .i64 _, ?_, rfl⟩
      rw [run_callFunc_extern Tryz.func271 (by kernel_rfl) (by kernel_rfl) (by kernel_rfl) (e := Extern.BytealgCount.count) (by kernel_rfl), Lib.run_countString]
      rfl
    · rename_i l c
      cases hc : l.all cellI with
      | false => rw [hc] at hg; simp at hg
      | true =>
        rw [hc] at hg
        simp only [cond_true] at hg
        obtain ⟨_, _, h1, ⟨_, _, h2, rfl, rfl⟩, rfl⟩ := ha
        simp only [vrel] at h2
        subst h2
        obtain ⟨bs, rfl, k1, k2⟩ := h1
        cases hn : cntI c.toNat.toUInt8 l with
        | none => rw [hn] at hg; simp [cntO] at hg
        | some n =>
          rw [hn] at hg
          simp [cntO] at hg
          subst hg
          refine ⟨.int .i64 _, ?_, rfl⟩
          rw [run_callFunc_extern Tryz.func271 (by kernel_rfl) (by kernel_rfl) (by kernel_rfl) (e := Extern.BytealgCount.count) (by kernel_rfl), Lib.run_countString]
          have := cntI_rel hn hc k1 k2
          simp [this]
    · cases hg
  rcases beq_cases hf with ⟨rfl, e⟩ | ⟨_, hf⟩
  · cases e
    unfold ext272 at hg
    split at hg
    · cases hg
      obtain ⟨_, _, h1, ⟨_, _, h2, rfl, rfl⟩, rfl⟩ := ha
      simp only [vrel] at h1 h2
      subst h1 h2
      refine ⟨.int .i64 _, ?_, rfl⟩
      rw [run_callFunc_extern Tryz.func272 (by kernel_rfl) (by kernel_rfl) (by kernel_rfl) (e := Extern.BytealgIndexByte.indexByte) (by kernel_rfl), Lib.run_indexByteString]
      rfl
    · rename_i l c
      cases hc : l.all cellI with
      | false => rw [hc] at hg; simp at hg
      | true =>
        rw [hc] at hg
        simp only [cond_true] at hg
        obtain ⟨_, _, h1, ⟨_, _, h2, rfl, rfl⟩, rfl⟩ := ha
        simp only [vrel] at h2
        subst h2
        obtain ⟨bs, rfl, k1, k2⟩ := h1
        cases hn : idxI c.toNat.toUInt8 l with
        | none => rw [hn] at hg; simp [idxO] at hg
        | some n =>
          rw [hn] at hg
          simp [idxO] at hg
          subst hg
          refine ⟨.int .i64 _, ?_, rfl⟩
          rw [run_callFunc_extern Tryz.func272 (by kernel_rfl) (by kernel_rfl) (by kernel_rfl) (e := Extern.BytealgIndexByte.indexByte) (by kernel_rfl), Lib.run_indexByteString]
          have := idxI_rel hn hc k1 k2
          simp [this]
    · cases hg
  · cases hf

/-! ### stringslite.Index -/

noncomputable def specIndex : List AV → AH → Option (AV × AH)
  | [.s a, .s b], h => match h.get 4 with
    | some (.c [.sym 2] _) => bif Nat.blt a.length 4294967281 then some (.i .i64 (Lib.index a b), h) else none
    | _ => none
  | _, _ => none

/-- What the contract of a spec says. -/
def SpecOk (σ : Sg) (f : Nat) (g : List AV → AH → Option (AV × AH)) : Prop := ∀ args h v h', g args h = some (v, h') → ∀ ν w cs, hrel σ Tryz.prog.globals.size ν h w → vrels σ ν args cs →
    Calls Tryz.prog f cs.toArray w fun e w' => ∃ c ν', e = .returned c ∧ Ext ν h w ν' h' w' ∧ hrel σ Tryz.prog.globals.size ν' h' w' ∧ vrel σ ν' v c

theorem glob_cell {σ : Sg} {ν : Nu} {h : AH} {w : World} (x : hrel σ Tryz.prog.globals.size ν h w) {g wd : Nat} {cs : List AV} (hg : g < Tryz.prog.globals.size) (hb : h.get g = some (.c cs wd)) :
    ∃ a k fr l ext, w.heap[g]? = some (.cells a k fr) ∧ a.toList = l ++ ext ∧ vrels σ ν cs l := by
  obtain ⟨e, o, h1, h2, h3⟩ := x.dom g _ hb
  obtain ⟨e', k1, k2⟩ := x.gl g hg
  rw [h1] at k1
  cases k1
  cases o <;> simp only [brel] at h3
  obtain ⟨l, ext, g1, g2, _⟩ := h3
  exact ⟨_, _, _, l, ext, by rw [← k2]; exact h2, g1, g2⟩

theorem index_ok {σ : Sg} {m : Int} (hm : σ.v 2 = .int .i64 m) : SpecOk σ 222 specIndex := by
  intro args h v h' hg ν w cs hh ha
  unfold specIndex at hg
  split at hg
  · rename_i a b
    split at hg
    · rename_i wd h4
      cases hl : Nat.blt a.length 4294967281 with
      | false => rw [hl] at hg; simp at hg
      | true =>
        rw [hl] at hg
        simp at hg
        obtain ⟨rfl, rfl⟩ := hg
        obtain ⟨_, _, h1, ⟨_, _, h2, rfl, rfl⟩, rfl⟩ := ha
        simp only [vrel] at h1 h2
        subst h1 h2
        obtain ⟨arr, k, fr, l, ext, g1, g2, g3⟩ := glob_cell hh (by decide +kernel) h4
        obtain ⟨c, l', g4, rfl, rfl⟩ := g3
        simp only [vrel] at g4
        have hc : w.cell? ⟨4, 0, none⟩ = some (.int .i64 m) := by
          have : arr[0]? = some (.int .i64 m) := by
            rw [← Array.getElem?_toList, g2, g4.1, hm]; rfl
          simp [World.cell?, g1, this]
        have hsz : (ByteArray.mk a.toArray).size < 4294967281 := by
          have := Nat.le_of_ble_eq_true hl
          show a.toArray.size < _
          simp at this ⊢
          omega
        refine (Any.stringslite_Index Tryz.lays219 ⟨a.toArray⟩ ⟨b.toArray⟩ m w hsz hc).mono ?_
        rintro e w' ⟨rfl, rfl⟩
        exact ⟨_, ν, rfl, Ext.refl _ _ _, hh, by simp [vrel]⟩
    · cases hg
  · cases hg
end Go.Ae
namespace Go.Ae
open Go Go.Proofs Go.WideElems

section
variable {σ : Sg} {gs : Nat} {ν : Nu} {h : AH} {w w' : World}

theorem Keeps.of_below {B : Nat} (h : Go.RowKit.Below B w w') (hB : w.heap.size ≤ B) : Keeps w w' := ⟨h.os, h.output, fun i a t fr hi => ⟨a, by
  rw [h.block i (Nat.lt_of_lt_of_le (Array.getElem?_eq_some_iff.1 hi).1 hB)]; exact hi, rfl⟩⟩

theorem hrel_new (x : hrel σ gs ν h w) (hb : ∀ k, k < w.heap.size → w'.heap[k]? = w.heap[k]?) (hsz : w.heap.size ≤ w'.heap.size) {e : NE} (he : w.heap.size ≤ e.b) {o : Obj} (ho : w'.heap[e.b]? = some o) {b : AB} (hbr : brel σ (ν ++ [e]) e b o) (kp : Keeps w w') :
    hrel σ gs (ν ++ [e]) (h.alloc b) w' ∧ Ext ν h w (ν ++ [e]) (h.alloc b) w' := by
  have hnew : (ν ++ [e])[h.nx]? = some e := by rw [← x.len]; simp
  have hlt : ∀ {n e1}, ν[n]? = some e1 → ∀ {y}, h.get n = some y → e1.b < w.heap.size := fun h1 y h2 => x.lt ⟨_, _, _, h2, h1, rfl⟩
  have hold : ∀ {n e1}, n < h.nx → (ν ++ [e])[n]? = some e1 → ν[n]? = some e1 := fun hn h1 => by
    rw [List.getElem?_append_left (by rw [x.len]; exact hn)] at h1; exact h1
  refine ⟨⟨by simp [x.len, AH.nx_alloc], fun n y hy => ?_, fun n m e1 e2 y1 y2 h1 h2 k1 k2 hE => ?_, fun g hg => ?_⟩, ⟨⟨[e], rfl⟩, hsz, fun k hk hi => ⟨?_, hb k hk⟩, kp⟩⟩
  · rw [AH.get_alloc] at hy
    split at hy
    · rename_i hn
      subst hn
      cases hy
      exact ⟨e, o, hnew, ho, hbr⟩
    · obtain ⟨e1, o1, k1, k2, k3⟩ := x.dom n y hy
      exact ⟨e1, o1, pre_get k1, by rw [hb _ (hlt k1 hy)]; exact k2, brel_mono [e] k3⟩
  · rw [AH.get_alloc] at h1 h2
    split at h1
    · rename_i hn
      subst hn
      rw [hnew] at k1
      cases k1
      split at h2
      · assumption
      · have := hlt (hold (x.live_lt h2) k2) h2
        omega
    · split at h2
      · rename_i hm
        subst hm
        rw [hnew] at k2
        cases k2
        have := hlt (hold (x.live_lt h1) k1) h1
        omega
      · exact x.inj n m e1 e2 y1 y2 h1 h2 (hold (x.live_lt h1) k1) (hold (x.live_lt h2) k2) hE
  · obtain ⟨e1, k1, k2⟩ := x.gl g hg
    exact ⟨e1, pre_get k1, k2⟩
  · rintro ⟨m, y, e1, k1, k2, k3⟩
    rw [AH.get_alloc] at k1
    split at k1
    · rename_i hm
      subst hm
      rw [hnew] at k2
      cases k2
      omega
    · exact hi ⟨m, y, e1, k1, hold (x.live_lt k1) k2, k3⟩

theorem ext_same (x : hrel σ gs ν h w) (hb : ∀ k, k < w.heap.size → w'.heap[k]? = w.heap[k]?) (hsz : w.heap.size ≤ w'.heap.size) (kp : Keeps w w') : hrel σ gs ν h w' ∧ Ext ν h w ν h w' :=
  ⟨⟨x.len, fun n y hy => by
    obtain ⟨e1, o1, k1, k2, k3⟩ := x.dom n y hy
    exact ⟨e1, o1, k1, by rw [hb _ (x.lt ⟨_, _, _, hy, k1, rfl⟩)]; exact k2, k3⟩, x.inj, x.gl⟩, ⟨⟨[], by simp⟩, hsz, fun k hk hi => ⟨hi, hb k hk⟩, kp⟩⟩
end

noncomputable def keysOf : List AE → Option (List (List UInt8))
  | [] => some []
  | e :: r => match e.key with
    | .s l => match keysOf r with
      | some ks => some (l :: ks)
      | none => none
    | _ => none

noncomputable def leL (x y : List UInt8) : Bool := !(Op.bytesLess y x)

noncomputable def insL (x : List UInt8) : List (List UInt8) → List (List UInt8)
  | [] => [x]
  | y :: r => bif Op.bytesLess x y then x :: y :: r else y :: insL x r

noncomputable def sortL : List (List UInt8) → List (List UInt8)
  | [] => []
  | x :: r => insL x (sortL r)

noncomputable def notIn (x : Nat) : List AE → Bool
  | [] => true
  | e :: r => bif Nat.beq e.born x then false else notIn x r

noncomputable def keyNot (x : List UInt8) : List (List UInt8) → Bool
  | [] => true
  | y :: r => bif Op.bytesLess x y || Op.bytesLess y x then keyNot x r else false

noncomputable def bornsOk (cl : Nat) : List AE → Bool
  | [] => true
  | e :: r => Nat.blt e.born cl && (notIn e.born r && bornsOk cl r)

noncomputable def keysOk : List (List UInt8) → Bool
  | [] => true
  | x :: r => Nat.ble x.length 1000 && (keyNot x r && keysOk r)

noncomputable def incr : List (List UInt8) → Bool
  | [] => true
  | x :: r => r.all (leL x) && incr r

noncomputable def sortedR (h : AH) : List (List UInt8) → Option (AV × AH)
  | [] => some (.sn, h)
  | x :: r => some (.so h.nx 0 0 (r.length + 1), h.alloc (.c ((x :: r).map .s) 1))

noncomputable def sortedK (h : AH) (es : List AE) (cl : Nat) : Option (List (List UInt8)) → Option (AV × AH)
  | some ks => bif bornsOk cl es && (keysOk ks && (Nat.ble ks.length 1000 && incr (sortL ks))) then sortedR h (sortL ks) else none
  | none => none

noncomputable def sortedM (h : AH) : Option AB → Option (AV × AH)
  | some (.m es cl) => sortedK h es cl (keysOf es)
  | _ => none

noncomputable def sortedC (h : AH) : Option AB → Option (AV × AH)
  | some (.c [.m k] _) => sortedM h (h.get k)
  | _ => none

noncomputable def specSorted : List AV → AH → Option (AV × AH)
  | [.fn (.func g) [] [.p c o]], h => bif Nat.beq g 254 && Nat.beq o 0 then sortedC h (h.get c) else none
  | _, _ => none

theorem insL_perm (x : List UInt8) : ∀ l, (insL x l).Perm (x :: l)
  | [] => .refl _
  | y :: r => by
    simp only [insL]
    cases Op.bytesLess x y with
    | true => exact .refl _
    | false => exact ((insL_perm x r).cons y).trans (List.Perm.swap x y r)

theorem sortL_perm : ∀ l, (sortL l).Perm l
  | [] => .refl _
  | x :: r => (insL_perm x (sortL r)).trans ((sortL_perm r).cons x)

theorem keysOf_spec : ∀ {es : List AE} {ks : List (List UInt8)}, keysOf es = some ks → es.map (·.key) = ks.map AV.s
  | [], ks, h => by simp [keysOf] at h; subst h; rfl
  | e :: r, ks, h => by
    simp only [keysOf] at h
    split at h
    · rename_i l hl
      split at h
      · rename_i ks' hk
        simp at h
        subst h
        simp [hl, keysOf_spec hk]
      · cases h
    · cases h

theorem erels_keys {σ : Sg} {ν : Nu} : ∀ {es : List AE} {cs : List MapEntry} {ks : List (List UInt8)}, erels σ ν es cs → es.map (·.key) = ks.map AV.s → cs.map (·.key) = ks.map encStr ∧ cs.map (·.born) = es.map (·.born)
  | [], cs, ks, h, e => by
    simp only [erels] at h
    subst h
    cases ks with
    | nil => exact ⟨rfl, rfl⟩
    | cons _ _ => cases e
  | x :: r, cs, ks, ⟨c, cs', h1, h2, e'⟩, e => by
    subst e'
    cases ks with
    | nil => cases e
    | cons k ks =>
      simp only [List.map_cons, List.cons.injEq] at e
      obtain ⟨g1, g2⟩ := erels_keys h2 e.2
      obtain ⟨p1, _, p3⟩ := h1
      rw [e.1] at p1
      simp only [vrel] at p1
      exact ⟨by simp [g1, p1], by simp [g2, p3]⟩

open Go.Sort in
theorem bytesLess_lt : ∀ (x y : List UInt8), Op.bytesLess x y = decide (x < y) := bytesLess_eq

theorem notIn_spec {x : Nat} : ∀ {es : List AE}, notIn x es = true → x ∉ es.map (·.born)
  | [], _ => by simp
  | e :: r, h => by
    simp only [notIn] at h
    cases hb : Nat.beq e.born x with
    | true => rw [hb] at h; cases h
    | false =>
      rw [hb] at h
      have := Nat.ne_of_beq_eq_false hb
      simp only [List.map_cons, List.mem_cons, not_or]
      exact ⟨fun e => this e.symm, notIn_spec h⟩

theorem borns_spec {cl : Nat} : ∀ {es : List AE}, bornsOk cl es = true → (∀ x ∈ es.map (·.born), x < cl) ∧ (es.map (·.born)).Nodup
  | [], _ => by simp
  | e :: r, h => by
    simp only [bornsOk, Bool.and_eq_true] at h
    obtain ⟨h1, h2, h3⟩ := h
    obtain ⟨g1, g2⟩ := borns_spec h3
    have : e.born < cl := Nat.le_of_ble_eq_true h1
    simp only [List.map_cons, List.mem_cons, forall_eq_or_imp, List.nodup_cons]
    exact ⟨⟨this, g1⟩, notIn_spec h2, g2⟩

theorem keyNot_spec {x : List UInt8} : ∀ {ks : List (List UInt8)}, keyNot x ks = true → x ∉ ks
  | [], _ => by simp
  | y :: r, h => by
    simp only [keyNot] at h
    cases hb : (Op.bytesLess x y || Op.bytesLess y x) with
    | false => rw [hb] at h; cases h
    | true =>
      rw [hb] at h
      simp only [List.mem_cons, not_or]
      refine ⟨?_, keyNot_spec h⟩
      rintro rfl
      rw [bytesLess_lt] at hb
      simp [List.lt_irrefl] at hb

theorem keys_spec : ∀ {ks : List (List UInt8)}, keysOk ks = true → (∀ k ∈ ks, k.length ≤ 1000) ∧ ks.Nodup
  | [], _ => by simp
  | x :: r, h => by
    simp only [keysOk, Bool.and_eq_true] at h
    obtain ⟨h1, h2, h3⟩ := h
    obtain ⟨g1, g2⟩ := keys_spec h3
    simp only [List.mem_cons, forall_eq_or_imp, List.nodup_cons]
    exact ⟨⟨Nat.le_of_ble_eq_true h1, g1⟩, keyNot_spec h2, g2⟩

theorem incr_spec : ∀ {l : List (List UInt8)}, incr l = true → l.Pairwise (fun a b => (decide (a ≤ b)) = true)
  | [], _ => .nil
  | x :: r, h => by
    simp only [incr, Bool.and_eq_true, List.all_eq_true] at h
    refine .cons (fun y hy => ?_) (incr_spec h.2)
    have := h.1 y hy
    simp only [leL, bytesLess_lt, Bool.not_eq_true', decide_eq_false_iff_not] at this
    simpa using this

theorem vrels_strs {σ : Sg} {ν : Nu} : ∀ (l : List (List UInt8)), vrels σ ν (l.map AV.s) (l.map encStr)
  | [] => rfl
  | _ :: r => ⟨_, _, rfl, vrels_strs r, rfl⟩

/-- slices.Sort's two contracts at this program. -/
theorem sorts211 (m : Nat) : AnyZ.SortsIn Tryz.prog Tryz.sorted211_ren Fence.wide m :=
  ⟨fun blk off cap ss W hH hblk hsz => callsIn_wide.2 (AnyM.slices_Sort_string Tryz.sort253 blk off cap ss W hH hblk hsz),
   fun p cap W => callsIn_wide.2 (AnyM.slices_Sort_string_none Tryz.sort253 p cap W)⟩

/-- Any element reads as nothing: only the keys are asked. -/
def noElem : Value → Option (DataW Unit × List MemPlace) := fun _ => some (.nil, [])

theorem fit_of {es : Array MapEntry} {cl : Nat} {ks : List (List UInt8)} (hk : es.toList.map (·.key) = ks.map encStr) (hb : (∀ x ∈ es.toList.map (·.born), x < cl) ∧ (es.toList.map (·.born)).Nodup) (hks : (∀ k ∈ ks, k.length ≤ 1000) ∧ ks.Nodup) (hl : ks.length ≤ 1000) :
    Fit Tryz.prog 9 noElem es cl := by
  have hlen : es.size = ks.length := by have := congrArg List.length hk; simpa using this
  refine ⟨by rw [hlen]; exact Nat.le_trans hl (by decide), ⟨fun x hx => hb.1 _ (List.mem_map_of_mem hx), hb.2, ?_⟩, fun x hx => ?_⟩
  · rw [hk]
    exact List.pairwise_map.2 (hks.2.imp fun {a b} hne e => hne (encStr_inj e))
  · have : x.key ∈ ks.map encStr := by rw [← hk]; exact List.mem_map_of_mem hx
    obtain ⟨k, hk1, hk2⟩ := List.mem_map.1 this
    have h2 : keyOf Tryz.prog 9 x.key = some (.string k) := by
      rw [← hk2]
      exact Go.WideMaps.keyOf_string_mk Tryz.underlying9 (s := ⟨k.toArray⟩) (by
        have := hks.1 k hk1
        show k.toArray.size ≤ maxLen
        simp
        exact Nat.le_trans this (by decide))
    exact ⟨_, rd_mk (born := x.born) h2 rfl⟩

theorem keys_data {es : Array MapEntry} {cl : Nat} {ks : List (List UInt8)} (hk : es.toList.map (·.key) = ks.map encStr) (F : Fit Tryz.prog 9 noElem es cl) :
    (strKeys (.map ((es.toList.map (rg Tryz.prog 9 noElem)).foldr DataW.insert []))).Perm ks := by
  have h1 : (es.toList.map (rg Tryz.prog 9 noElem)).map (fun p => strOf p.1) = ks := by
    have : ∀ (l : List MapEntry) (ks : List (List UInt8)), (∀ x ∈ l, ∃ y, rd Tryz.prog 9 noElem x = some y) → l.map (·.key) = ks.map encStr → (l.map (rg Tryz.prog 9 noElem)).map (fun p => strOf p.1) = ks := by
      intro l
      induction l with
      | nil => intro ks _ e; cases ks with
        | nil => rfl
        | cons _ _ => cases e
      | cons x r ih =>
        intro ks hr e
        cases ks with
        | nil => cases e
        | cons k ks =>
          simp only [List.map_cons, List.cons.injEq] at e ⊢
          refine ⟨?_, ih ks (fun y hy => hr y (List.mem_cons_of_mem _ hy)) e.2⟩
          obtain ⟨y, hy⟩ := hr x (by simp)
          rw [rg_of hy]
          have := rd_key hy
          obtain ⟨s, hs1, hs2, _⟩ := Maps.keyOf_str Tryz.underlying9 this
          rw [hs2]
          rw [hs1] at e
          exact encStr_inj e.1
    exact this _ _ F.reads hk
  have := ((Go.WideShapes.sorted_perm (es.toList.map (rg Tryz.prog 9 noElem))).map (fun p => strOf p.1))
  rw [h1] at this
  exact this

theorem sorted_ok {σ : Sg} : SpecOk σ 211 specSorted := by
  intro args h v h' hg ν w cs hh ha
  unfold specSorted at hg
  split at hg
  rotate_left
  · cases hg
  rename_i g c o
  cases hbb : (Nat.beq g 254 && Nat.beq o 0) with
  | false => rw [hbb] at hg; cases hg
  | true =>
    rw [hbb] at hg
    simp only [cond_true] at hg
    simp only [Bool.and_eq_true] at hbb
    have hg254 := Nat.eq_of_beq_eq_true hbb.1
    have ho0 := Nat.eq_of_beq_eq_true hbb.2
    subst hg254 ho0
    unfold sortedC at hg
    split at hg
    rotate_left
    · cases hg
    rename_i k wd hc
    unfold sortedM at hg
    split at hg
    rotate_left
    · cases hg
    rename_i es cl hk
    cases hks : keysOf es with
    | none => rw [hks] at hg; cases hg
    | some ks =>
      rw [hks] at hg
      simp only [sortedK] at hg
      cases hok : (bornsOk cl es && (keysOk ks && (Nat.ble ks.length 1000 && incr (sortL ks)))) with
      | false => rw [hok] at hg; cases hg
      | true =>
        rw [hok] at hg
        simp only [cond_true] at hg
        simp only [Bool.and_eq_true] at hok
        obtain ⟨k1, k2, k3, k4⟩ := hok
        obtain ⟨_, _, ⟨_, _, rfl, h2, rfl⟩, rfl, rfl⟩ := ha
        obtain ⟨_, _, ⟨ec, hec, rfl⟩, rfl, rfl⟩ := h2
        obtain ⟨ec', oc, c1, c2, c3⟩ := hh.dom c _ hc
        rw [hec] at c1
        cases c1
        cases oc <;> simp only [brel] at c3
        rename_i arr kty fr
        obtain ⟨l, ext, g1, ⟨mv, l', ⟨em, hem, rfl⟩, rfl, rfl⟩, _⟩ := c3
        obtain ⟨em', om, m1, m2, m3⟩ := hh.dom k _ hk
        rw [hem] at m1
        cases m1
        cases om <;> simp only [brel] at m3
        rename_i ces ccl
        obtain ⟨rfl, m3⟩ := m3
        obtain ⟨e1, e2⟩ := erels_keys m3 (keysOf_spec hks)
        have F := fit_of e1 (by rw [e2]; exact borns_spec k1) (keys_spec k2) (Nat.le_of_ble_eq_true k3)
        have hlen : ces.size = ks.length := by have := congrArg List.length e1; simpa using this
        have hcell : w.cell? ⟨ec.b, 0, none⟩ = some (.map (some em.b)) := by
          have : arr[0]? = some (.map (some em.b)) := by rw [← Array.getElem?_toList, g1]; rfl
          simp [World.cell?, c2, this]
        have hlt : ec.b < w.heap.size := (Array.getElem?_eq_some_iff.1 c2).1
        have hsize : Maps.size (DataW.map ((ces.toList.map (rg Tryz.prog 9 noElem)).foldr DataW.insert [])) ≤ 1000 := by
          rw [Maps.size_eq, (Go.WideShapes.sorted_perm _).length_eq]
          simp [hlen]
          exact Nat.le_of_ble_eq_true k3
        have hseq : SeqGives Fence.wide 2 Tryz.prog 254 #[.pointer (some ⟨ec.b, 0, none⟩)] encStr (fun ss => ss.Perm (strKeys (DataW.map ((ces.toList.map (rg Tryz.prog 9 noElem)).foldr DataW.insert [])))) _ w :=
          AnyZ.keys_gives (ρ := Tryz.keys212_ren) { Tryz.keys212 with } Fence.wide _ trivial rfl (by omega) ec.b em.b ces.size _ w hlt hcell ⟨ces, _, m2, F, Nat.le_refl _, rfl⟩
        have hcall := AnyZ.sorted_in Tryz.sorted211 Fence.wide 5 trivial trivial trivial trivial rfl (by omega) (sorts211 _) (enters_of Tryz.func253 (by kernel_rfl) rfl) 254 #[.pointer (some ⟨ec.b, 0, none⟩)] trivial (enters_of Tryz.func254 (by kernel_rfl) rfl) _ _
          (Nat.le_trans hsize (by decide)) (Nat.le_trans (Nat.mul_le_mul_right 16 hsize) (by decide)) w hseq
        refine (callsIn_wide.1 hcall).mono ?_
        rintro e w' ⟨v', ss, rfl, hp, hrow, hnil, hB⟩
        have hsort : ss.mergeSort (fun x y => decide (x ≤ y)) = sortL ks := by
          rw [mergeSort_of_perm ((hp.trans (keys_data e1 F)).trans (sortL_perm ks).symm)]
          exact List.mergeSort_of_pairwise (incr_spec k4)
        have hsl : ss.length = (sortL ks).length := by rw [← hsort, List.length_mergeSort]
        rw [hsort] at hrow
        cases hsk : sortL ks with
        | nil =>
          rw [hsk] at hg hsl
          simp only [sortedR, Option.some.injEq, Prod.mk.injEq] at hg
          obtain ⟨rfl, rfl⟩ := hg
          have : v' = .slice none 0 0 := hnil.2 (List.eq_nil_of_length_eq_zero hsl)
          subst this
          obtain ⟨x1, x2⟩ := ext_same hh hB.block hB.size (Keeps.of_below hB (Nat.le_refl _))
          exact ⟨_, ν, rfl, x2, x1, rfl⟩
        | cons x r =>
          rw [hsk] at hg hsl hrow
          simp only [sortedR, Option.some.injEq, Prod.mk.injEq] at hg
          obtain ⟨rfl, rfl⟩ := hg
          rcases hrow.2 with ⟨_, hz⟩ | ⟨gb, cap, cur, rfl, hbase, hgb, r1, r2, r3, r4⟩
          · rw [hsl] at hz; cases hz
          · obtain ⟨x1, x2⟩ := hrel_new (e := ⟨gb, cap, 0, []⟩) hh hB.block hB.size hbase hgb (b := .c ((x :: r).map .s) 1) (by
              refine ⟨(x :: r).map encStr, cur.toList.drop ss.length, ?_, vrels_strs _, (fun h => by cases h), (fun _ => by simpa using r3), (fun o ho h => ?_)⟩
              · rw [← r4, Nat.mul_one, List.take_append_drop]
              · simp at h) (Keeps.of_below hB (Nat.le_refl _))
            refine ⟨_, _, rfl, x2, x1, ⟨gb, cap, 0, []⟩, by rw [← hh.len]; simp, ?_, by rw [hsl]; simp⟩
            rw [hsl] at r1
            simpa using r1
end Go.Ae
namespace Go.Ae.Tot
open Go Go.Proofs Go.RowKit Go.Maps

theorem ret_int {k : IntKind} {a b : Int} (h : a = b) : Ending.returned (.int k a) = .returned (.int k b) := by rw [h]
theorem law9 : Keyed Tryz.prog 9 := string_keyed Tryz.underlying9
def RV : Value → Option (DataW Value × List MemPlace)
  | .slice a n c => some (.held (.slice a n c), [])
  | _ => none
def kl (k : ByteArray) : Lit := .string k.data.toList
theorem RV_inv {v : Value} {y : DataW Value × List MemPlace} (h : RV v = some y) : (∃ x : Option Addr × Nat × Nat, v = .slice x.1 x.2.1 x.2.2) ∧ y = (.held v, []) := by
  cases v <;> simp [RV] at h
  exact ⟨⟨(_, _, _), rfl⟩, h.symm⟩
def doneSum (f : Lit → Nat) (es : List (Lit × DataW Value)) (left : Lit → Bool) : Nat := (es.map fun p => if left p.1 then 0 else f p.1).sum
theorem doneSum_start (f : Lit → Nat) (es : List (Lit × DataW Value)) (left : Lit → Bool) (h : ∀ p ∈ es, left p.1 = true) : doneSum f es left = 0 := by
  unfold doneSum
  induction es with
  | nil => rfl
  | cons p es ih => simp [h p (by simp), ih (fun q hq => h q (by simp [hq]))]
theorem doneSum_end (f : Lit → Nat) (es : List (Lit × DataW Value)) (left : Lit → Bool) (h : ∀ k, left k = false) : doneSum f es left = (es.map fun p => f p.1).sum := by
  unfold doneSum
  induction es with
  | nil => rfl
  | cons p es ih => simp [h p.1, ih]
theorem doneSum_le (f : Lit → Nat) (es : List (Lit × DataW Value)) (left : Lit → Bool) : doneSum f es left ≤ (es.map fun p => f p.1).sum := by
  unfold doneSum
  induction es with
  | nil => exact Nat.le_refl _
  | cons p es ih =>
    simp only [List.map_cons, List.sum_cons]
    split <;> omega
theorem doneSum_same (f : Lit → Nat) (kl : Lit) (left : Lit → Bool) : ∀ (es : List (Lit × DataW Value)), (∀ p ∈ es, p.1 ≠ kl) → doneSum f es (fun z => left z && !z.sameKey kl) = doneSum f es left
  | [], _ => rfl
  | p :: es, h => by
    have ih := doneSum_same f kl left es (fun q hq => h q (by simp [hq]))
    unfold doneSum at ih ⊢
    simp only [List.map_cons, List.sum_cons, ih, sameKey_ne (h p (by simp)), Bool.not_false, Bool.and_true]
theorem doneSum_step (f : Lit → Nat) (kl : Lit) (left : Lit → Bool) (hk : WideAt.IsKeyLit kl) (hl : left kl = true) : ∀ (es : List (Lit × DataW Value)), es.Pairwise (fun p q => p.1 ≠ q.1) → (∃ p ∈ es, p.1 = kl) →
    doneSum f es (fun z => left z && !z.sameKey kl) = doneSum f es left + f kl
  | [], _, h => by obtain ⟨p, hp, _⟩ := h; simp at hp
  | p :: es, hp, h => by
    obtain ⟨h1, h2⟩ := List.pairwise_cons.1 hp
    by_cases e : p.1 = kl
    · have hs := doneSum_same f kl left es (fun q hq e' => h1 q hq (e.trans e'.symm))
      unfold doneSum at hs ⊢
      simp only [List.map_cons, List.sum_cons, hs, e, WideAt.sameKey_self hk, hl, Bool.not_true, Bool.and_false]
      simp; omega
    · obtain ⟨q, hq, hqe⟩ := h
      have hq' : q ∈ es := by
        rcases List.mem_cons.1 hq with rfl | hq
        · exact absurd hqe e
        · exact hq
      have ih := doneSum_step f kl left hk hl es h2 ⟨q, hq', hqe⟩
      unfold doneSum at ih ⊢
      simp only [List.map_cons, List.sum_cons, ih, sameKey_ne e, Bool.not_false, Bool.and_true]
      omega

theorem key_of_lit {w : World} {b n : Nat} {D : DataW Value} (h : w.ownsMap Tryz.prog 9 RV b n D) {es : List (Lit × DataW Value)} (hD : D = .map es) : ∀ p ∈ es, ∃ k : ByteArray, p.1 = kl k ∧ k.size ≤ maxLen := by
  obtain ⟨es0, clock, _, F, _, hE⟩ := h
  rw [hD] at hE
  cases hE
  intro p hp
  obtain ⟨x, hx, rfl⟩ := List.mem_map.1 (mem_sorted.1 hp)
  obtain ⟨y, hy⟩ := F.reads x hx
  have hk := WideElems.rd_key hy
  rw [WideElems.rg_of hy]
  obtain ⟨s, _, e, hs⟩ := Maps.keyOf_str Tryz.underlying9 hk
  exact ⟨⟨s.toArray⟩, by rw [e]; simp [kl], by simpa [ByteArray.size] using hs⟩


theorem invK9 (key : Value) (l : Lit) (h : keyOf Tryz.prog 9 key = some l) : ∃ x : ByteArray, key = .string x := by
  obtain ⟨s, e, _, _⟩ := Maps.keyOf_str Tryz.underlying9 h
  exact ⟨_, e⟩
theorem invRV (v : Value) (y : DataW Value × List MemPlace) (h : RV v = some y) : ∃ x : Option Addr × Nat × Nat, v = .slice x.1 x.2.1 x.2.2 := (RV_inv h).1
theorem lit9 {x : ByteArray} {l : Lit} (h : keyOf Tryz.prog 9 (.string x) = some l) : l = kl x ∧ x.size ≤ maxLen := by
  obtain ⟨s, e, rfl, hs⟩ := Maps.keyOf_str Tryz.underlying9 h
  simp [encStr] at e
  subst e
  exact ⟨by simp [kl], by simpa [ByteArray.size] using hs⟩

/-- How long the row at a key is. -/
def nD (D : DataW Value) (l : Lit) : Nat := match D.atKey l .nil with
  | .held (.slice _ n _) => n
  | _ => 0

def IntBelow (n : Int) (w : World) (e : Ending) (w' : World) : Prop := e = .returned (.int .i64 n) ∧ Below w.heap.size w w'

theorem length_any (a : Option Addr) (n c : Nat) (w : World) : Calls Tryz.prog 221 #[.slice a n c] w fun e w' => e = .returned (.int .i64 n) ∧ w = w' := by
  go_enter Tryz.func221, Tryz.ntmps221
  go_wp2
  go_ret
  exact ⟨rfl, rfl⟩

set_option maxRecDepth 100000 in
set_option maxHeartbeats 800000 in
theorem total_any {nb kb T : Nat} {D : DataW Value} {w : World} (c3 : w.cell? ⟨nb, 3, none⟩ = some (.map (some kb))) (hown : w.ownsMap Tryz.prog 9 RV kb (Maps.size D) D) {es : List (Lit × DataW Value)} (hD : D = .map es)
    (hp : es.Pairwise (fun p q => p.1 ≠ q.1)) (hcount : (es.map fun p => nD D p.1).sum = T) (hT : T ≤ 1000000) :
    Calls Tryz.prog 220 #[.pointer (some ⟨nb, 0, none⟩), .func (.func 221) #[] #[]] w (IntBelow T w) := by
  have hk := key_of_lit hown hD
  have hle := doneSum_le (nD D) es
  rw [hcount] at hle
  have HD := Lib.hid hD
  have HC := Lib.hid hcount
  clear hD hcount
  go_enter Tryz.func220, Tryz.ntmps220
  go_wp2_with (at_range; refine wpList_range_own _ rfl _ 140 rfl 9 281 law9 Tryz.underlying140 RV kb (Maps.size D) D rfl hown ?_; intro w0 hrg0 hg0 hs0)
  go_frame
  have hnx0 : Below w.heap.size w w0 := (Below.refl _ _).grown hg0 (Nat.le_refl _) (by simp)
  have hes : ∀ p ∈ es, Maps.has D p.1 = true := fun p hp => by
    rw [HD.out]
    obtain ⟨k, e, _⟩ := hk p hp
    exact List.any_eq_true.2 ⟨p, hp, by rw [e]; exact WideAt.sameKey_self trivial⟩
  clear hs0
  go_loopw [5, 7] (fun n _ wr => ∃ left cnt, wr.ranges Tryz.prog 9 RV kb w.heap.size (Maps.size D) D left cnt ∧ n = .int .i64 (doneSum (nD D) es left : Nat) ∧ Below w.heap.size w wr) (fun _ _ wr => wr.rangeLeft kb w.heap.size)
  case atStart => exact ⟨_, _, hrg0, by rw [doneSum_start _ _ _ hes]; rfl, hnx0⟩
  case round =>
    obtain ⟨left, cnt, hrg, rfl, hnx⟩ := hrel
    have hdl := hle left
    go_wp2_with (first
      | (at_next; refine wpList_next_ranges _ rfl _ rfl 9 law9 RV Value.string (fun x : Option Addr × Nat × Nat => .slice x.1 x.2.1 x.2.2) invK9 invRV kb w.heap.size (Maps.size D) D left cnt rfl hrg ?_ ?_)
      | (go_at_call 221; refine (length_any _ _ _ _).mono ?_; rintro e w' ⟨rfl, rfl⟩))
    · intro _ hl0
      have H : Hid (doneSum (nD D) es left = T) := by show _ = _; rw [doneSum_end _ _ _ hl0, HC.out]
      go_wp2
      go_ret
      exact ⟨ret_int (by show ((doneSum (nD D) es left : Nat) : Int) = _; rw [H.out]), hnx⟩
    · intro x a n c l yd yp w1 cnt1 hkey hlk hR hat hrg1 hlt hg1 hs1 hen
      obtain ⟨rfl, hx⟩ := lit9 hkey
      have hn : n = nD D (kl x) := by
        have e := (RV_inv hR).2
        unfold nD
        have e2 : yd = .held (.slice a n c) := congrArg Prod.fst e
        rw [hat .nil]
        simp only [e2]
      have hstep := doneSum_step (nD D) (kl x) left trivial hlk es hp (by
        have := Maps.has_true_of_atKey hat
        rw [HD.out] at this
        obtain ⟨p, hp, hpk⟩ := List.any_eq_true.1 this
        exact ⟨p, hp, WideAt.sameKey_eq hpk⟩)
      rw [← hn] at hstep
      have hdl2 := hle (fun z => left z && !z.sameKey (kl x))
      have hsum : doneSum (nD D) es left + n ≤ T := by omega
      have hl2 : wr.rangeLeft kb w.heap.size = cnt := hrg.left_eq
      have hl3 : w1.rangeLeft kb w.heap.size = cnt1 := hrg1.left_eq
      have HS := Lib.hid hstep
      have HL := Lib.hid hl2
      have HL3 := Lib.hid hl3
      clear hstep hl2 hl3 hs1 hat hR hkey hn hdl2 hdl
      go_wp2_with (go_at_call 221; refine (length_any _ _ _ _).mono ?_; rintro e w' ⟨rfl, rfl⟩)
      go_roundw
      case rel => exact ⟨_, cnt1, hrg1, by rw [HS.out]; go_num, hnx.grown hg1 hnx.size (by intro j hj; cases hj; exact Nat.le_refl _)⟩
      case measure => rw [HL.out, HL3.out]; exact hlt
end Go.Ae.Tot
namespace Go.Ae
open Go Go.Proofs Go.WideElems Go.Ae.Tot

noncomputable def lenS : AV → Option Nat
  | .sn => some 0
  | .sl _ _ n _ => some n
  | .so _ _ _ n => some n
  | .se _ _ => some 0
  | _ => none

noncomputable def sumL : List AE → Option Nat
  | [] => some 0
  | e :: r => match lenS e.val with
    | some n => match sumL r with
      | some m => some (Nat.add n m)
      | none => none
    | none => none

noncomputable def totalK (h : AH) (es : List AE) (cl : Nat) : Option (List (List UInt8)) → Option Nat → Option (AV × AH)
  | some ks, some t => bif bornsOk cl es && (keysOk ks && (Nat.ble ks.length 1000 && Nat.ble t 1000000)) then some (.i .i64 (t : Nat), h) else none
  | _, _ => none

noncomputable def totalM (h : AH) : Option AB → Option (AV × AH)
  | some (.m es cl) => totalK h es cl (keysOf es) (sumL es)
  | _ => none

noncomputable def totalC (h : AH) : Option AB → Option (AV × AH)
  | some (.c (_ :: _ :: _ :: .m k :: _) _) => totalM h (h.get k)
  | _ => none

noncomputable def specTotal : List AV → AH → Option (AV × AH)
  | [.p n o, .fn (.func g) [] []], h => bif Nat.beq g 221 && Nat.beq o 0 then totalC h (h.get n) else none
  | _, _ => none

theorem lenS_rel {σ : Sg} {ν : Nu} {v : AV} {c : Value} {n : Nat} (h : lenS v = some n) (r : vrel σ ν v c) : ∃ a m, c = .slice a n m := by
  cases v <;> simp only [lenS] at h <;> first | (cases h; done) | (simp only [vrel] at r)
  · cases h; subst r; exact ⟨_, _, rfl⟩
  · cases h; obtain ⟨e, _, rfl⟩ := r; exact ⟨_, _, rfl⟩
  · cases h; obtain ⟨e, _, _, rfl⟩ := r; exact ⟨_, _, rfl⟩
  · cases h; obtain ⟨e, _, rfl⟩ := r; exact ⟨_, _, rfl⟩

/-- How long a slice is. -/
def lenV : Value → Nat
  | .slice _ n _ => n
  | _ => 0

theorem sumL_spec {σ : Sg} {ν : Nu} : ∀ {es : List AE} {cs : List MapEntry} {t : Nat}, sumL es = some t → erels σ ν es cs → (∀ x ∈ cs, ∃ a n m, x.val = .slice a n m) ∧ (cs.map fun x => lenV x.val).sum = t
  | [], cs, t, h, r => by
    simp only [erels] at r
    subst r
    simp [sumL] at h
    subst h
    simp
  | e :: es, cs, t, h, ⟨c, cs', h1, h2, e'⟩ => by
    subst e'
    simp only [sumL] at h
    split at h
    · rename_i n hn
      split at h
      · rename_i m hm
        simp at h
        obtain ⟨g1, g2⟩ := sumL_spec hm h2
        obtain ⟨a, q, hq⟩ := lenS_rel hn h1.2.1
        refine ⟨fun x hx => ?_, ?_⟩
        · rcases List.mem_cons.1 hx with rfl | hx
          · exact ⟨_, _, _, hq⟩
          · exact g1 x hx
        · rw [List.map_cons, List.sum_cons, g2, hq]
          exact h
      · cases h
    · cases h

theorem fit_rv {es : Array MapEntry} {cl : Nat} {ks : List (List UInt8)} (_hk : es.toList.map (·.key) = ks.map encStr) (F : Fit Tryz.prog 9 noElem es cl) (hv : ∀ x ∈ es.toList, ∃ a n m, x.val = .slice a n m) : Fit Tryz.prog 9 RV es cl :=
  ⟨F.size, F.stamped, fun x hx => by
    obtain ⟨y, hy⟩ := F.reads x hx
    obtain ⟨a, n, m, e⟩ := hv x hx
    exact ⟨_, rd_mk (born := x.born) (rd_key hy) (by rw [e]; rfl)⟩⟩

theorem total_ok {σ : Sg} : SpecOk σ 220 specTotal := by
  intro args h v h' hg ν w cs hh ha
  unfold specTotal at hg
  split at hg
  rotate_left
  · cases hg
  rename_i nb o g
  cases hbb : (Nat.beq g 221 && Nat.beq o 0) with
  | false => rw [hbb] at hg; cases hg
  | true =>
    rw [hbb] at hg
    simp only [cond_true] at hg
    simp only [Bool.and_eq_true] at hbb
    have hg221 := Nat.eq_of_beq_eq_true hbb.1
    have ho0 := Nat.eq_of_beq_eq_true hbb.2
    subst hg221 ho0
    unfold totalC at hg
    split at hg
    rotate_left
    · cases hg
    rename_i q1 q2 q3 k qr wd hc
    unfold totalM at hg
    split at hg
    rotate_left
    · cases hg
    rename_i es cl hk
    unfold totalK at hg
    split at hg
    rotate_left
    · cases hg
    rename_i ks t hks ht
    cases hok : (bornsOk cl es && (keysOk ks && (Nat.ble ks.length 1000 && Nat.ble t 1000000))) with
    | false => rw [hok] at hg; cases hg
    | true =>
      rw [hok] at hg
      simp only [cond_true, Option.some.injEq, Prod.mk.injEq] at hg
      obtain ⟨rfl, rfl⟩ := hg
      simp only [Bool.and_eq_true] at hok
      obtain ⟨k1, k2, k3, k4⟩ := hok
      obtain ⟨_, _, ⟨ec, hec, rfl⟩, ⟨_, _, ⟨_, _, rfl, rfl, rfl⟩, rfl, rfl⟩, rfl⟩ := ha
      obtain ⟨ec', oc, c1, c2, c3⟩ := hh.dom nb _ hc
      rw [hec] at c1
      cases c1
      cases oc <;> simp only [brel] at c3
      rename_i arr kty fr
      obtain ⟨l, ext, g1, ⟨v1, _, _, ⟨v2, _, _, ⟨v3, _, _, ⟨mv, l', ⟨em, hem, rfl⟩, _, rfl⟩, rfl⟩, rfl⟩, rfl⟩, _⟩ := c3
      obtain ⟨em', om, m1, m2, m3⟩ := hh.dom k _ hk
      rw [hem] at m1
      cases m1
      cases om <;> simp only [brel] at m3
      rename_i ces ccl
      obtain ⟨rfl, m3⟩ := m3
      obtain ⟨e1, e2⟩ := erels_keys m3 (keysOf_spec hks)
      obtain ⟨s1, s2⟩ := sumL_spec ht m3
      have F := fit_rv e1 (fit_of e1 (by rw [e2]; exact borns_spec k1) (keys_spec k2) (Nat.le_of_ble_eq_true k3)) s1
      have hcell : w.cell? ⟨ec.b, 3, none⟩ = some (.map (some em.b)) := by
        have : arr[3]? = some (.map (some em.b)) := by rw [← Array.getElem?_toList, g1]; rfl
        simp [World.cell?, c2, this]
      have hown : w.ownsMap Tryz.prog 9 RV em.b (Maps.size (DataW.map ((ces.toList.map (rg Tryz.prog 9 RV)).foldr DataW.insert []))) (DataW.map ((ces.toList.map (rg Tryz.prog 9 RV)).foldr DataW.insert [])) :=
        ⟨ces, _, m2, F, by rw [Maps.size_eq, (Go.WideShapes.sorted_perm _).length_eq]; simp, rfl⟩
      have hap : ((ces.toList.map (rg Tryz.prog 9 RV)).foldr DataW.insert []).Pairwise (fun p q => p.1 ≠ q.1) := by
        obtain ⟨_, hE, hp⟩ := hown.tidy law9
        cases hE
        exact hp
      have hsum : (((ces.toList.map (rg Tryz.prog 9 RV)).foldr DataW.insert []).map fun p => nD (DataW.map ((ces.toList.map (rg Tryz.prog 9 RV)).foldr DataW.insert [])) p.1).sum = t := by
        have a1 : ∀ p ∈ (ces.toList.map (rg Tryz.prog 9 RV)).foldr DataW.insert [], nD (DataW.map ((ces.toList.map (rg Tryz.prog 9 RV)).foldr DataW.insert [])) p.1 = (match p.2 with | .held v => lenV v | _ => 0) := by
          intro p hp
          obtain ⟨key, hkey, _⟩ := key_of_lit hown rfl p hp
          unfold nD
          rw [WideAt.atKey_mem (k := p.1) (d := p.2) .nil (by rw [hkey]; trivial) hap hp]
          obtain ⟨x, hx, rfl⟩ := List.mem_map.1 ((Go.WideShapes.sorted_perm _).mem_iff.1 hp)
          obtain ⟨y, hy⟩ := F.reads x hx
          obtain ⟨a, n, m, e⟩ := s1 x hx
          rw [rg_of hy]
          obtain ⟨z, hz, e3⟩ := rd_val hy
          rw [e] at hz
          cases hz
          rw [e3]
          rfl
        rw [List.map_congr_left a1, ((Go.WideShapes.sorted_perm _).map _).sum_nat, ← s2, List.map_map]
        refine congrArg List.sum (List.map_congr_left fun x hx => ?_)
        obtain ⟨y, hy⟩ := F.reads x hx
        obtain ⟨a, n, m, e⟩ := s1 x hx
        simp only [Function.comp]
        rw [rg_of hy]
        obtain ⟨z, hz, e3⟩ := rd_val hy
        rw [e] at hz
        cases hz
        rw [e3, e]
      refine (total_any hcell hown rfl hap hsum (Nat.le_of_ble_eq_true k4)).mono ?_
      rintro e w' ⟨rfl, hB⟩
      obtain ⟨x1, x2⟩ := ext_same hh hB.block hB.size (Keeps.of_below hB (Nat.le_refl _))
      exact ⟨_, ν, rfl, x2, x1, rfl⟩
end Go.Ae
namespace Go.Ae.Tot
open Go Go.Proofs Go.RowKit Go.Maps
theorem tmod_neg' {a n : Int} (hn : 0 < n) (h : a < 0) : a.tmod n ≤ 0 ∧ -n < a.tmod n ∧ (a.tmod n = a % n ∨ (a.tmod n < 0 ∧ a.tmod n + n = a % n)) := by
  obtain ⟨b, rfl⟩ : ∃ b : Int, a = -b := ⟨-a, by omega⟩
  have e1 : (-b).tmod n = -(b.tmod n) := Int.neg_tmod b n
  have e2 : b.tmod n = b % n := Int.tmod_eq_emod_of_nonneg (by omega)
  have h3 := Int.emod_nonneg b (show n ≠ 0 by omega)
  have h4 := Int.emod_lt_of_pos b hn
  have h5 := Int.emod_nonneg (-b) (show n ≠ 0 by omega)
  have h6 := Int.emod_lt_of_pos (-b) hn
  have h7 := Int.mul_ediv_add_emod b n
  have h8 := Int.mul_ediv_add_emod (-b) n
  rw [e1, e2]
  refine ⟨by omega, by omega, ?_⟩
  have h9 : n * ((-b) / n + b / n) = -(b % n) - (-b) % n := by rw [Int.mul_add]; omega
  generalize (-b) / n + b / n = q at h9
  have q1 : q ≤ 0 := by
    apply Int.not_lt.1
    intro hq
    have := Int.mul_le_mul_of_nonneg_left (show 1 ≤ q by omega) (show 0 ≤ n by omega)
    omega
  have q2 : -2 < q := by
    apply Int.not_le.1
    intro hq
    have := Int.mul_le_mul_of_nonneg_left hq (show 0 ≤ n by omega)
    omega
  rcases (show q = 0 ∨ q = -1 by omega) with h | h <;> rw [h] at h9 <;> omega

set_option maxHeartbeats 400000 in
theorem within_any (a n : Int) (w : World) (hn : 0 < n) (hb : n ≤ 9223372036854775807) (ha : -9223372036854775808 ≤ a) (ha' : a ≤ 9223372036854775807) :
    Calls Tryz.prog 10 #[.int .i64 a, .int .i64 n] w fun e w' => e = .returned (.int .i64 (a % n)) ∧ w = w' := by
  by_cases h : 0 ≤ a
  · have h3 : 0 ≤ a % n := Int.emod_nonneg _ (by omega)
    go_enter Tryz.func10, Tryz.ntmps10
    go_wp2
    go_ret
    exact ⟨rfl, rfl⟩
  · obtain ⟨h4, h6, hx⟩ := tmod_neg' hn (show a < 0 by omega)
    have h7 := Int.emod_nonneg a (show n ≠ 0 by omega)
    have HX := Lib.hid hx
    clear hx
    go_enter Tryz.func10, Tryz.ntmps10
    go_wp2
    · go_ret
      exact ⟨ret_int (by rcases HX.out with h | h <;> omega), rfl⟩
    · go_ret
      exact ⟨ret_int (by rcases HX.out with h | h <;> omega), rfl⟩

end Go.Ae.Tot
namespace Go.Ae
open Go Go.Proofs

noncomputable def specWithin (p q : Int) : List AV → AH → Option (AV × AH)
  | [.sym k, .i .i64 n], h => bif Nat.beq k 0 && (n == 6) then some (.i .i64 p, h) else bif Nat.beq k 1 && (n == 3) then some (.i .i64 q, h) else none
  | _, _ => none

theorem within_ok {σ : Sg} {a b : Int} (ha : σ.v 0 = .int .i64 a) (hb : σ.v 1 = .int .i64 b) (a1 : -9223372036854775808 ≤ a) (a2 : a ≤ 9223372036854775807) (b1 : -9223372036854775808 ≤ b) (b2 : b ≤ 9223372036854775807) : SpecOk σ 10 (specWithin (a % 6) (b % 3)) := by
  intro args h v h' hg ν w cs hh hr
  unfold specWithin at hg
  split at hg
  rotate_left
  · cases hg
  rename_i k n
  obtain ⟨_, _, ⟨h1, _⟩, ⟨_, _, rfl, rfl, rfl⟩, rfl⟩ := hr
  subst h1
  cases hc : (Nat.beq k 0 && (n == 6)) with
  | true =>
    rw [hc] at hg
    simp only [cond_true, Option.some.injEq, Prod.mk.injEq] at hg
    obtain ⟨rfl, rfl⟩ := hg
    simp only [Bool.and_eq_true, beq_iff_eq] at hc
    obtain ⟨k0, rfl⟩ := hc
    have := Nat.eq_of_beq_eq_true k0
    subst this
    rw [ha]
    refine (Tot.within_any a 6 w (by omega) (by omega) a1 a2).mono ?_
    rintro e w' ⟨rfl, rfl⟩
    exact ⟨_, ν, rfl, Ext.refl _ _ _, hh, rfl⟩
  | false =>
    rw [hc] at hg
    simp only [cond_false] at hg
    cases hc2 : (Nat.beq k 1 && (n == 3)) with
    | false => rw [hc2] at hg; cases hg
    | true =>
      rw [hc2] at hg
      simp only [cond_true, Option.some.injEq, Prod.mk.injEq] at hg
      obtain ⟨rfl, rfl⟩ := hg
      simp only [Bool.and_eq_true, beq_iff_eq] at hc2
      obtain ⟨k0, rfl⟩ := hc2
      have := Nat.eq_of_beq_eq_true k0
      subst this
      rw [hb]
      refine (Tot.within_any b 3 w (by omega) (by omega) b1 b2).mono ?_
      rintro e w' ⟨rfl, rfl⟩
      exact ⟨_, ν, rfl, Ext.refl _ _ _, hh, rfl⟩

noncomputable def specT (f : Nat) : Option (List AV → AH → Option (AV × AH)) :=
  bif Nat.beq f 220 then some specTotal else bif Nat.beq f 211 then some specSorted else bif Nat.beq f 222 then some specIndex else none

noncomputable def asc : List AV := [.i .u8 0,.i .u8 0,.i .u8 0,.i .u8 0,.i .u8 0,.i .u8 0,.i .u8 0,.i .u8 0,.i .u8 0,.i .u8 1,.i .u8 1,.i .u8 1,.i .u8 1,.i .u8 1,.i .u8 0,.i .u8 0,.i .u8 0,.i .u8 0,.i .u8 0,.i .u8 0,.i .u8 0,.i .u8 0,.i .u8 0,.i .u8 0,.i .u8 0,.i .u8 0,.i .u8 0,.i .u8 0,.i .u8 0,.i .u8 0,.i .u8 0,.i .u8 0,.i .u8 1,.i .u8 0,.i .u8 0,.i .u8 0,.i .u8 0,.i .u8 0,.i .u8 0,.i .u8 0,.i .u8 0,.i .u8 0,.i .u8 0,.i .u8 0,.i .u8 0,.i .u8 0,.i .u8 0,.i .u8 0,.i .u8 0,.i .u8 0,.i .u8 0,.i .u8 0,.i .u8 0,.i .u8 0,.i .u8 0,.i .u8 0,.i .u8 0,.i .u8 0,.i .u8 0,.i .u8 0,.i .u8 0,.i .u8 0,.i .u8 0,.i .u8 0,.i .u8 0,.i .u8 0,.i .u8 0,.i .u8 0,.i .u8 0,.i .u8 0,.i .u8 0,.i .u8 0,.i .u8 0,.i .u8 0,.i .u8 0,.i .u8 0,.i .u8 0,.i .u8 0,.i .u8 0,.i .u8 0,.i .u8 0,.i .u8 0,.i .u8 0,.i .u8 0,.i .u8 0,.i .u8 0,.i .u8 0,.i .u8 0,.i .u8 0,.i .u8 0,.i .u8 0,.i .u8 0,.i .u8 0,.i .u8 0,.i .u8 0,.i .u8 0,.i .u8 0,.i .u8 0,.i .u8 0,.i .u8 0,.i .u8 0,.i .u8 0,.i .u8 0,.i .u8 0,.i .u8 0,.i .u8 0,.i .u8 0,.i .u8 0,.i .u8 0,.i .u8 0,.i .u8 0,.i .u8 0,.i .u8 0,.i .u8 0,.i .u8 0,.i .u8 0,.i .u8 0,.i .u8 0,.i .u8 0,.i .u8 0,.i .u8 0,.i .u8 0,.i .u8 0,.i .u8 0,.i .u8 0,.i .u8 0,.i .u8 0,.i .u8 0,.i .u8 0,.i .u8 0,.i .u8 0,.i .u8 0,.i .u8 0,.i .u8 0,.i .u8 0,.i .u8 0,.i .u8 0,.i .u8 0,.i .u8 0,.i .u8 0,.i .u8 0,.i .u8 0,.i .u8 0,.i .u8 0,.i .u8 0,.i .u8 0,.i .u8 0,.i .u8 0,.i .u8 0,.i .u8 0,.i .u8 0,.i .u8 0,.i .u8 0,.i .u8 0,.i .u8 0,.i .u8 0,.i .u8 0,.i .u8 0,.i .u8 0,.i .u8 0,.i .u8 0,.i .u8 0,.i .u8 0,.i .u8 0,.i .u8 0,.i .u8 0,.i .u8 0,.i .u8 0,.i .u8 0,.i .u8 0,.i .u8 0,.i .u8 0,.i .u8 0,.i .u8 0,.i .u8 0,.i .u8 0,.i .u8 0,.i .u8 0,.i .u8 0,.i .u8 0,.i .u8 0,.i .u8 0,.i .u8 0,.i .u8 0,.i .u8 0,.i .u8 0,.i .u8 0,.i .u8 0,.i .u8 0,.i .u8 0,.i .u8 0,.i .u8 0,.i .u8 0,.i .u8 0,.i .u8 0,.i .u8 0,.i .u8 0,.i .u8 0,.i .u8 0,.i .u8 0,.i .u8 0,.i .u8 0,.i .u8 0,.i .u8 0,.i .u8 0,.i .u8 0,.i .u8 0,.i .u8 0,.i .u8 0,.i .u8 0,.i .u8 0,.i .u8 0,.i .u8 0,.i .u8 0,.i .u8 0,.i .u8 0,.i .u8 0,.i .u8 0,.i .u8 0,.i .u8 0,.i .u8 0,.i .u8 0,.i .u8 0,.i .u8 0,.i .u8 0,.i .u8 0,.i .u8 0,.i .u8 0,.i .u8 0,.i .u8 0,.i .u8 0,.i .u8 0,.i .u8 0,.i .u8 0,.i .u8 0,.i .u8 0,.i .u8 0,.i .u8 0,.i .u8 0,.i .u8 0,.i .u8 0,.i .u8 0,.i .u8 0,.i .u8 0,.i .u8 0,.i .u8 0,.i .u8 0,.i .u8 0,.i .u8 0,.i .u8 0,.i .u8 0,.i .u8 0,.i .u8 0,.i .u8 0,.i .u8 0,.i .u8 0]
noncomputable def p10 : List AV := [.i .u64 1,.i .u64 10,.i .u64 100,.i .u64 1000,.i .u64 10000,.i .u64 100000,.i .u64 1000000,.i .u64 10000000,.i .u64 100000000,.i .u64 1000000000,.i .u64 10000000000,.i .u64 100000000000,.i .u64 1000000000000,.i .u64 10000000000000,.i .u64 100000000000000,.i .u64 1000000000000000,.i .u64 10000000000000000,.i .u64 100000000000000000,.i .u64 1000000000000000000,.i .u64 10000000000000000000]

noncomputable def sameC (cs : List AV) : Option AB → Bool
  | some (.c ds wd) => Nat.beq wd 0 && AV.beqs ds cs
  | _ => false

noncomputable def hasH (h : AH) : Bool := Nat.ble 12 h.nx && (sameC asc (h.get 0) && (sameC p10 (h.get 3) && sameC [.sym 2] (h.get 4)))

noncomputable def specKnown : List AV → AH → Option (AV × AH)
  | [], h => bif hasH h then some (.b true, h) else none
  | _, _ => none

noncomputable def specK (f : Nat) : Option (List AV → AH → Option (AV × AH)) := bif Nat.beq f 7 then some specKnown else specT f
noncomputable def specW (p q : Int) (f : Nat) : Option (List AV → AH → Option (AV × AH)) := bif Nat.beq f 10 then some (specWithin p q) else specK f

noncomputable def H1 : AH := ⟨12, (((Tr.e).set 0 (some (.c asc 0))).set 3 (some (.c p10 0))).set 4 (some (.c [.sym 2] 0))⟩

theorem plain_all : Tryz.prog.funcs.toList.all (fun fn => !(fn.name == "runtime.NumGoroutine")) = true := by kernel_rfl
theorem plain_of {f : Nat} {fn : Func} (h : Tryz.prog.funcs[f]? = some fn) : fn.name ≠ "runtime.NumGoroutine" := by
  have := List.all_eq_true.1 plain_all fn (by rw [← Array.getElem?_toList] at h; exact List.mem_of_getElem? h)
  simpa using this

/-- A spec, with the function's body. -/
def SpecB (σ : Sg) (f : Nat) (g : List AV → AH → Option (AV × AH)) : Prop := (∃ fn c, Tryz.prog.funcs[f]? = some fn ∧ fn.body = some c) ∧ SpecOk σ f g

theorem specT_ok {σ : Sg} {m : Int} (hm : σ.v 2 = .int .i64 m) (f : Nat) (g : List AV → AH → Option (AV × AH)) (h : specT f = some g) : SpecB σ f g := by
  unfold specT at h
  rcases beq_cases h with ⟨rfl, e⟩ | ⟨_, h⟩
  · cases e; exact ⟨⟨Tryz.f220, _, Tryz.func220, rfl⟩, total_ok⟩
  rcases beq_cases h with ⟨rfl, e⟩ | ⟨_, h⟩
  · cases e; exact ⟨⟨Tryz.f211, _, Tryz.func211, rfl⟩, sorted_ok⟩
  rcases beq_cases h with ⟨rfl, e⟩ | ⟨_, h⟩
  · cases e; exact ⟨⟨Tryz.f222, _, Tryz.func222, rfl⟩, index_ok hm⟩
  · cases h

end Go.Ae
namespace Go.Ae
open Go Go.Proofs

/-- The table of instructions. -/
def rowsL : List (List UInt8 × Nat × List UInt8) := [
  ([115, 101, 95, 105, 108, 108, 101, 103, 97, 108], 0, []),
  ([115, 101, 95, 105, 115, 121, 110, 99], 1, []),
  ([115, 101, 95, 115, 99], 2, []),
  ([115, 101, 95, 98, 108, 114], 4, []),
  ([115, 101, 95, 98, 99, 116, 114], 6, []),
  ([115, 101, 95, 110, 111, 116], 32, [88]),
  ([115, 101, 95, 110, 101, 103], 48, [88]),
  ([115, 101, 95, 109, 102, 108, 114], 128, [88]),
  ([115, 101, 95, 109, 116, 108, 114], 144, [88]),
  ([115, 101, 95, 109, 102, 99, 116, 114], 160, [88]),
  ([115, 101, 95, 109, 116, 99, 116, 114], 176, [88]),
  ([115, 101, 95, 101, 120, 116, 122, 98], 192, [88]),
  ([115, 101, 95, 101, 120, 116, 115, 98], 208, [88]),
  ([115, 101, 95, 101, 120, 116, 122, 104], 224, [88]),
  ([115, 101, 95, 101, 120, 116, 115, 104], 240, [88]),
  ([115, 101, 95, 109, 114], 256, [88, 32, 89]),
  ([115, 101, 95, 97, 100, 100], 1024, [88, 32, 89]),
  ([115, 101, 95, 109, 117, 108, 108, 119], 1280, [88, 32, 89]),
  ([115, 101, 95, 115, 117, 98], 1536, [88, 32, 89]),
  ([115, 101, 95, 99, 109, 112], 3072, [88, 32, 89]),
  ([115, 101, 95, 99, 109, 112, 108], 3328, [88, 32, 89]),
  ([115, 101, 95, 97, 100, 100, 105], 8192, [88, 32, 79, 53]),
  ([115, 101, 95, 99, 109, 112, 108, 105], 8704, [88, 32, 79, 53]),
  ([115, 101, 95, 115, 117, 98, 105], 9216, [88, 32, 79, 53]),
  ([115, 101, 95, 99, 109, 112, 105], 10752, [88, 32, 85, 53]),
  ([115, 101, 95, 111, 114], 17408, [88, 32, 89]),
  ([115, 101, 95, 97, 110, 100, 99], 17664, [88, 32, 89]),
  ([115, 101, 95, 97, 110, 100], 17920, [88, 32, 89]),
  ([115, 101, 95, 108, 105], 18432, [88, 32, 85, 55]),
  ([115, 101, 95, 98, 99, 108, 114, 105], 24576, [88, 32, 85, 53]),
  ([115, 101, 95, 98, 115, 101, 116, 105], 25600, [88, 32, 85, 53]),
  ([115, 101, 95, 98, 116, 115, 116, 105], 26112, [88, 32, 85, 53]),
  ([115, 101, 95, 115, 114, 119, 105], 26624, [88, 32, 85, 53]),
  ([115, 101, 95, 115, 108, 119, 105], 27648, [88, 32, 85, 53]),
  ([115, 101, 95, 108, 98, 122], 32768, [89, 32, 77, 49, 32, 88]),
  ([115, 101, 95, 115, 116, 98], 36864, [89, 32, 77, 49, 32, 88]),
  ([115, 101, 95, 108, 104, 122], 40960, [89, 32, 77, 50, 32, 88]),
  ([115, 101, 95, 115, 116, 104], 45056, [89, 32, 77, 50, 32, 88]),
  ([115, 101, 95, 108, 119, 122], 49152, [89, 32, 77, 52, 32, 88]),
  ([115, 101, 95, 115, 116, 119], 53248, [89, 32, 77, 52, 32, 88]),
  ([115, 101, 95, 98, 99], 57344, [79, 49, 32, 73, 50, 32, 84, 56]),
  ([115, 101, 95, 98], 59392, [84, 56]),
  ([115, 101, 95, 98, 108], 59648, [84, 56]),
  ([101, 95, 97, 100, 100, 49, 54, 105], 469762048, [68, 32, 65, 32, 83, 49, 54]),
  ([101, 95, 97, 100, 100, 105], 402685952, [68, 32, 65, 32, 67, 56]),
  ([101, 95, 97, 110, 100, 105], 402702336, [65, 32, 68, 32, 67, 56]),
  ([101, 95, 111, 114, 105], 402706432, [65, 32, 68, 32, 67, 56]),
  ([101, 95, 120, 111, 114, 105], 402710528, [65, 32, 68, 32, 67, 56]),
  ([101, 95, 108, 105], 1879048192, [68, 32, 76, 50, 48]),
  ([101, 95, 108, 98, 122], 805306368, [68, 32, 83, 49, 54, 32, 65]),
  ([101, 95, 115, 116, 98], 872415232, [68, 32, 83, 49, 54, 32, 65]),
  ([101, 95, 108, 104, 97], 939524096, [68, 32, 83, 49, 54, 32, 65]),
  ([101, 95, 108, 119, 122], 1342177280, [68, 32, 83, 49, 54, 32, 65]),
  ([101, 95, 115, 116, 119], 1409286144, [68, 32, 83, 49, 54, 32, 65]),
  ([101, 95, 108, 104, 122], 1476395008, [68, 32, 83, 49, 54, 32, 65]),
  ([101, 95, 115, 116, 104], 1543503872, [68, 32, 83, 49, 54, 32, 65]),
  ([101, 95, 98], 2013265920, [84, 50, 52]),
  ([101, 95, 98, 108], 2013265921, [84, 50, 52]),
  ([101, 95, 98, 99], 2046820352, [79, 50, 32, 73, 52, 32, 84, 49, 53]),
  ([101, 95, 98, 99, 108], 2046820353, [79, 50, 32, 73, 52, 32, 84, 49, 53]),
  ([97, 100, 100], 2080375316, [68, 32, 65, 32, 66]),
  ([115, 117, 98, 102], 2080374864, [68, 32, 65, 32, 66]),
  ([109, 117, 108, 108, 119], 2080375254, [68, 32, 65, 32, 66]),
  ([97, 110, 100], 2080374840, [65, 32, 68, 32, 66]),
  ([111, 114], 2080375672, [65, 32, 68, 32, 66]),
  ([120, 111, 114], 2080375416, [65, 32, 68, 32, 66])]

noncomputable def bodyOf (f : Nat) : Code := match Tryz.prog.funcs[f]? with
  | some fn => match fn.body with
    | some c => c
    | none => .skip
  | none => .skip

noncomputable def at1 : List Code → Nat → Code
  | x :: _, 0 => x
  | _ :: r, n + 1 => at1 r n
  | [], _ => .skip

noncomputable def cfg (ω : Or) (sp : Nat → Option (List AV → AH → Option (AV × AH))) : Cfg := ⟨Tryz.prog, ω, Tryz.prog.globals.size, sp, extT⟩

theorem good_of {σ : Sg} {ω : Or} (hω : OrOk Tryz.prog σ ω) {sp : Nat → Option (List AV → AH → Option (AV × AH))} (h : ∀ f g, sp f = some g → SpecB σ f g) : Good (cfg ω sp) σ where
  or := hω
  follows := Tryz.keys212.mixed
  plain := fun _ _ => plain_of
  spec := fun f g args a v b hs hg => ⟨(h f g hs).1, fun ν w cs hh ha => (h f g hs).2 args a v b hg ν w cs hh ha⟩
  ext := fun _ _ _ _ hf hg ν w cs ha => extT_ok hf hg ν w cs ha

/-- The configuration in which functions are run once for all. -/
noncomputable def CM : Cfg := cfg (lanes Tryz.prog) specT

theorem goodM {σ : Sg} {m : Int} (hm : σ.v 2 = .int .i64 m) : Good CM σ := good_of (lanes_ok _ σ) (specT_ok hm)

/-! ### What was run once serves everywhere -/

theorem h1_get (k : Nat) (b : AB) (h : H1.get k = some b) : (k = 0 ∧ b = .c asc 0) ∨ (k = 3 ∧ b = .c p10 0) ∨ (k = 4 ∧ b = .c [.sym 2] 0) := by
  simp only [H1, AH.get, Tr.get_set_eq, Tr.get_e] at h
  split at h
  · rename_i e; cases h; exact .inr (.inr ⟨e.symm, rfl⟩)
  · split at h
    · rename_i e; cases h; exact .inr (.inl ⟨e.symm, rfl⟩)
    · split at h
      · rename_i e; cases h; exact .inl ⟨e.symm, rfl⟩
      · cases h

theorem gs12 : Tryz.prog.globals.size = 12 := by kernel_rfl
theorem asc_flat : asc.all flat = true := by kernel_rfl
theorem p10_flat : p10.all flat = true := by kernel_rfl

theorem base1 : Base Tryz.prog.globals.size H1 where
  gs := by rw [gs12]; exact Nat.le_refl _
  flat := fun k b h => by
    rcases h1_get k b h with ⟨rfl, rfl⟩ | ⟨rfl, rfl⟩ | ⟨rfl, rfl⟩
    · exact ⟨asc_flat, by show 0 < 12; omega⟩
    · exact ⟨p10_flat, by show 3 < 12; omega⟩
    · exact ⟨rfl, by show 4 < 12; omega⟩

theorem sameC_spec {cs : List AV} {b : Option AB} (h : sameC cs b = true) : b = some (.c cs 0) := by
  unfold sameC at h
  split at h
  · rename_i ds wd
    simp only [Bool.and_eq_true] at h
    rw [beqs_eq h.2, Nat.eq_of_beq_eq_true h.1]
  · cases h

theorem has_keeps {h : AH} (hh : hasH h = true) : 12 ≤ h.nx ∧ ∀ k b, H1.get k = some b → h.get k = some b := by
  simp only [hasH, Bool.and_eq_true] at hh
  obtain ⟨h1, h2, h3, h4⟩ := hh
  refine ⟨Nat.le_of_ble_eq_true h1, fun k b hk => ?_⟩
  rcases h1_get k b hk with ⟨rfl, rfl⟩ | ⟨rfl, rfl⟩ | ⟨rfl, rfl⟩
  · exact sameC_spec h2
  · exact sameC_spec h3
  · exact sameC_spec h4

theorem has_of {h : AH} (hh : hasH h = true) : Has H1 h := ⟨(has_keeps hh).1, (has_keeps hh).2⟩

noncomputable def isFlat (v : AV) : Option (AV × AH) → Bool
  | some (u, h) => AV.beq u v && hasH h
  | none => false

/-- A call that was run, with a value that names nothing. -/
noncomputable def okFlat (f : Nat) (args : List AV) (v : AV) : Bool := isFlat v (call CM (run CM 100000) f args H1)

theorem okFlat_spec {σ : Sg} {m : Int} (hm : σ.v 2 = .int .i64 m) {f : Nat} {args : List AV} {v : AV} (hk : okFlat f args v = true) (fa : args.all flat = true) (fv : flatR v = true) {h : AH} (hh : hasH h = true) {ν : Nu} {w : World} {cs : List Value}
    (x : hrel σ Tryz.prog.globals.size ν h w) (ha : vrels σ ν args cs) : Calls Tryz.prog f cs.toArray w fun e w' => ∃ c ν', e = .returned c ∧ Ext ν h w ν' h w' ∧ hrel σ Tryz.prog.globals.size ν' h w' ∧ vrel σ ν' v c := by
  unfold okFlat at hk
  cases hc : call CM (run CM 100000) f args H1 with
  | none => rw [hc] at hk; cases hk
  | some y =>
    obtain ⟨u, h'⟩ := y
    rw [hc] at hk
    simp only [isFlat, Bool.and_eq_true] at hk
    obtain ⟨k1, k2⟩ := hk
    have := beq_eq k1
    subst this
    exact known_ok (C := CM) base1 (has_of hh) (has_keeps k2).2 fa fv (fun ν w cs hh ha => calls_ok (goodM hm) hc hh ha) x ha

/-- A new row out of a call that was run over little. -/
theorem known_new {σ : Sg} {C : Cfg} {g n k cap wd : Nat} {args : List AV} {h0 h' h : AH} {cells : List AV} (B : Base C.gs h0) (H : Has h0 h) (K : ∀ k b, h0.get k = some b → h'.get k = some b) (fa : args.all flat = true)
    (hn : h'.get n = some (.c cells wd)) (hfl : cells.all flat = true) (hlt : h0.nx ≤ n)
    (hc : ∀ ν w cs, hrel σ C.gs ν h0 w → vrels σ ν args cs → Calls C.P g cs.toArray w fun e w' => ∃ c ν', e = .returned c ∧ Ext ν h0 w ν' h' w' ∧ hrel σ C.gs ν' h' w' ∧ vrel σ ν' (.sl n 0 k cap) c)
    {ν : Nu} {w : World} {cs : List Value} (hh : hrel σ C.gs ν h w) (ha : vrels σ ν args cs) :
    Calls C.P g cs.toArray w fun e w' => ∃ c ν', e = .returned c ∧ Ext ν h w ν' (h.alloc (.c cells wd)) w' ∧ hrel σ C.gs ν' (h.alloc (.c cells wd)) w' ∧ vrel σ ν' (.sl h.nx 0 k cap) c := by
  refine (hc _ w cs (B.rel H hh) (flats_rel fa ha)).mono ?_
  rintro e w' ⟨c, ν', rfl, hE, hh', hv⟩
  obtain ⟨μ, rfl⟩ := hE.pre
  have nim : ∀ b, ¬ im ν h b → ¬ im (ν.take h0.nx) h0 b := fun b hi ⟨m, y, e, h1, h2, h3⟩ => hi ⟨m, y, e, H.get _ _ h1, by
    rw [List.getElem?_take] at h2
    simpa [(B.flat m y h1).2] using h2, h3⟩
  obtain ⟨e1, g1, rfl⟩ := hv
  obtain ⟨e2, o, d1, d2, d3⟩ := hh'.dom n _ hn
  rw [g1] at d1
  cases d1
  have fresh : w.heap.size ≤ e1.b := by
    apply Nat.le_of_not_lt
    intro hl
    by_cases hi : im (ν.take h0.nx) h0 e1.b
    · obtain ⟨m, y, e2, h1, h2, h3⟩ := hi
      have := hh'.inj m n e2 e1 y _ (K m y h1) hn (pre_get h2) g1 h3
      have := (B.flat m y h1).2
      omega
    · exact (hE.fr e1.b hl hi).1 ⟨n, _, e1, hn, g1, rfl⟩
  have hnew : (ν ++ [e1])[h.nx]? = some e1 := by rw [← hh.len]; simp
  have old : ∀ i y ei, h.get i = some y → (ν ++ [e1])[i]? = some ei → ν[i]? = some ei ∧ ei.b < w.heap.size := by
    intro i y ei hi he
    obtain ⟨e', o', k1, k2, _⟩ := hh.dom i y hi
    have := pre_get (μ := [e1]) k1
    rw [this] at he
    cases he
    exact ⟨k1, (Array.getElem?_eq_some_iff.1 k2).1⟩
  have cases_ : ∀ i y, (h.alloc (.c cells wd)).get i = some y → (i = h.nx ∧ y = .c cells wd) ∨ h.get i = some y := by
    intro i y hi
    rw [AH.get_alloc] at hi
    split at hi
    · rename_i e; cases hi; exact .inl ⟨e.symm, rfl⟩
    · exact .inr hi
  refine ⟨_, ν ++ [e1], rfl, ⟨⟨[e1], rfl⟩, hE.sz, fun b hb hi => ⟨?_, (hE.fr b hb (nim b hi)).2⟩, hE.kp⟩, ⟨by simp [hh.len, AH.nx_alloc], fun i y hy => ?_, fun i j ei ej y z hi hj hei hej hb => ?_, fun q hq => ?_⟩, ⟨e1, hnew, rfl⟩⟩
  · rintro ⟨i, y, ei, h1, h2, h3⟩
    rcases cases_ i y h1 with ⟨rfl, rfl⟩ | h1
    · rw [hnew] at h2; cases h2; omega
    · exact hi ⟨i, y, ei, h1, (old i y ei h1 h2).1, h3⟩
  · rcases cases_ i y hy with ⟨rfl, rfl⟩ | hy
    · exact ⟨e1, o, hnew, d2, flatB_rel hfl d3⟩
    · obtain ⟨e, o, h1, h2, h3⟩ := hh.dom i y hy
      cases hk : h0.get i with
      | some b0 =>
        have := H.get i b0 hk
        rw [hy] at this
        cases this
        obtain ⟨f1, f2⟩ := B.flat i y hk
        obtain ⟨e', o', q1, q2, q3⟩ := hh'.dom i y (K i y hk)
        have : e' = e := by
          have hl : i < (ν.take h0.nx).length := by rw [List.length_take, hh.len]; have := H.nx; omega
          rw [List.getElem?_append_left hl, List.getElem?_take] at q1
          simp only [f2, if_true] at q1
          rw [h1] at q1
          cases q1
          rfl
        subst this
        exact ⟨e', o', pre_get h1, q2, flatB_rel f1 q3⟩
      | none =>
        refine ⟨e, o, pre_get h1, ?_, brel_mono _ h3⟩
        rw [(hE.fr e.b (Array.getElem?_eq_some_iff.1 h2).1 ?_).2]
        · exact h2
        · rintro ⟨m, z, e2, k1, k2, k3⟩
          have f2 := (B.flat m z k1).2
          rw [List.getElem?_take] at k2
          simp only [f2, if_true] at k2
          have := hh.inj m i e2 e z y (H.get _ _ k1) hy k2 h1 k3
          subst this
          rw [hk] at k1
          cases k1
  · rcases cases_ i y hi with ⟨rfl, rfl⟩ | hi' <;> rcases cases_ j z hj with ⟨rfl, rfl⟩ | hj'
    · rfl
    · rw [hnew] at hei; cases hei; have := (old j z ej hj' hej).2; omega
    · rw [hnew] at hej; cases hej; have := (old i y ei hi' hei).2; omega
    · exact hh.inj i j ei ej y z hi' hj' (old i y ei hi' hei).1 (old j z ej hj' hej).1 hb
  · obtain ⟨e', q1, q2⟩ := hh.gl q hq
    exact ⟨e', pre_get q1, q2⟩

noncomputable def isRowOf (cells : List AV) (h : AH) (n : Nat) : Option AB → Bool
  | some (.c ds wd) => Nat.beq wd 0 && AV.beqs ds cells && hasH h && Nat.ble 12 n
  | _ => false

noncomputable def isFresh (cells : List AV) : Option (AV × AH) → Bool
  | some (.sl n o k cap, h) => Nat.beq o 0 && Nat.beq k cells.length && Nat.beq cap cells.length && isRowOf cells h n (h.get n)
  | _ => false

/-- A call that was run, with a new row. -/
noncomputable def okFresh (f : Nat) (args : List AV) (cells : List AV) : Bool := isFresh cells (call CM (run CM 100000) f args H1)

theorem okFresh_spec {σ : Sg} {m : Int} (hm : σ.v 2 = .int .i64 m) {f : Nat} {args cells : List AV} (hk : okFresh f args cells = true) (fa : args.all flat = true) (fv : cells.all flat = true) {h : AH} (hh : hasH h = true) {ν : Nu} {w : World} {cs : List Value}
    (x : hrel σ Tryz.prog.globals.size ν h w) (ha : vrels σ ν args cs) :
    Calls Tryz.prog f cs.toArray w fun e w' => ∃ c ν', e = .returned c ∧ Ext ν h w ν' (h.alloc (.c cells 0)) w' ∧ hrel σ Tryz.prog.globals.size ν' (h.alloc (.c cells 0)) w' ∧ vrel σ ν' (.sl h.nx 0 cells.length cells.length) c := by
  unfold okFresh at hk
  cases hc : call CM (run CM 100000) f args H1 with
  | none => rw [hc] at hk; cases hk
  | some y =>
    obtain ⟨u, h'⟩ := y
    rw [hc] at hk
    unfold isFresh at hk
    split at hk
    · rename_i n o k cap h2 he
      cases he
      simp only [Bool.and_eq_true, Nat.beq_eq] at hk
      obtain ⟨⟨⟨rfl, rfl⟩, rfl⟩, hk⟩ := hk
      unfold isRowOf at hk
      split at hk
      · rename_i ds wd hg
        simp only [Bool.and_eq_true, Nat.beq_eq, Nat.ble_eq] at hk
        obtain ⟨⟨⟨rfl, k2⟩, k3⟩, k4⟩ := hk
        have := beqs_eq k2
        subst this
        exact known_new (C := CM) base1 (has_of hh) (has_keeps k3).2 fa hg fv k4 (fun ν w cs hh ha => calls_ok (goodM hm) hc hh ha) x ha
      · cases hk
    · cases hk
end Go.Ae
namespace Go.Ae
open Go Go.Proofs

noncomputable def getL {α : Type} : List α → Nat → Option α
  | [], _ => none
  | x :: _, 0 => some x
  | _ :: r, n + 1 => getL r n

noncomputable def natA : AV → Option Nat
  | .i .i64 (.ofNat n) => some n
  | _ => none

noncomputable def rowF {α : Type} (f : List UInt8 × Nat × List UInt8 → α) (n : Nat) : Option α := match getL rowsL n with
  | some x => some (f x)
  | none => none

noncomputable def flatS (h : AH) : Option AV → Option (AV × AH)
  | some v => bif hasH h then some (v, h) else none
  | none => none

noncomputable def bindN (f : Nat → Option AV) : Option Nat → Option AV
  | some n => f n
  | none => none

noncomputable def nameA : Nat → Option AV := rowF fun x => .s x.1
noncomputable def kindsA : Nat → Option AV := rowF fun x => .s x.2.2
noncomputable def bitsA : Nat → Option AV := rowF fun x => .i .u32 x.2.1
noncomputable def sizeA (n : Nat) : Option AV := bif Nat.blt n 66 then some (.i .i64 (bif Nat.blt n 43 then 2 else 4)) else none

noncomputable def specName : List AV → AH → Option (AV × AH)
  | [x], h => flatS h (bindN nameA (natA x))
  | _, _ => none
noncomputable def specKinds : List AV → AH → Option (AV × AH)
  | [x], h => flatS h (bindN kindsA (natA x))
  | _, _ => none
noncomputable def specSize : List AV → AH → Option (AV × AH)
  | [x], h => flatS h (bindN sizeA (natA x))
  | _, _ => none
noncomputable def specBits : List AV → AH → Option (AV × AH)
  | [x, .fn (.func f) [] []], h => bif Nat.beq f 73 then flatS h (bindN bitsA (natA x)) else none
  | _, _ => none

/-- Words between blanks. -/
noncomputable def wordsL : List UInt8 → List UInt8 → List (List UInt8)
  | [], [] => []
  | [], w => [w]
  | c :: r, w => bif Nat.beq c.toNat 32 then w :: wordsL r [] else wordsL r (w ++ [c])

noncomputable def kindsL (n : Nat) : Option (List AV) := rowF (fun x => (wordsL x.2.2 []).map .s) n

noncomputable def freshS (h : AH) : Option (List AV) → Option (AV × AH)
  | some l => bif hasH h then some (.sl h.nx 0 l.length l.length, h.alloc (.c l 0)) else none
  | none => none

noncomputable def bindL (f : Nat → Option (List AV)) : Option Nat → Option (List AV)
  | some n => f n
  | none => none

noncomputable def specOf : List AV → AH → Option (AV × AH)
  | [x, .fn (.func f) [] []], h => bif Nat.beq f 31 then freshS h (bindL kindsL (natA x)) else none
  | _, _ => none

/-- The kinds' texts, each once. -/
def kindsAll : List (List UInt8) := (rowsL.map fun x => x.2.2).eraseDups

noncomputable def memL (s : List UInt8) : List (List UInt8) → Bool
  | [] => false
  | x :: r => bif x == s then true else memL s r

noncomputable def fieldsA (s : List UInt8) : Option (List AV) := bif memL s kindsAll then some ((wordsL s []).map .s) else none

noncomputable def specFields : List AV → AH → Option (AV × AH)
  | [.s x], h => freshS h (fieldsA x)
  | _, _ => none

/-- Names that are sought. -/
def foundL : List (List UInt8 × Nat × Bool) := [([98], 0, false), ([115, 101, 95, 98], 41, true), ([101, 95, 98], 56, true), ([46, 115, 112, 97, 99, 101], 0, false), ([115, 101, 95, 98, 108, 114], 3, true)]

noncomputable def findL (s : List UInt8) : List (List UInt8 × Nat × Bool) → Option AV
  | [] => none
  | x :: r => bif x.1 == s then some (.tu [.i .i64 x.2.1, .b x.2.2]) else findL s r

noncomputable def specFind : List AV → AH → Option (AV × AH)
  | [.s x], h => flatS h (findL x foundL)
  | _, _ => none

noncomputable def forN (p : Nat → Bool) : Nat → Nat → Bool
  | _, 0 => true
  | k, n + 1 => p k && forN p (k + 1) n

noncomputable def okO (f : Nat) (args : List AV) : Option AV → Bool
  | some v => okFlat f args v
  | none => false

noncomputable def okR (f : Nat) (args : List AV) : Option (List AV) → Bool
  | some v => okFresh f args v
  | none => false

theorem forN_spec {p : Nat → Bool} : ∀ {n k j : Nat}, forN p k n = true → k ≤ j → j < k + n → p j = true
  | 0, _, _, _, h1, h2 => by omega
  | n + 1, k, j, h, h1, h2 => by
    simp only [forN, Bool.and_eq_true] at h
    by_cases e : j = k
    · subst e; exact h.1
    · exact forN_spec h.2 (by omega) (by omega)

theorem getL_lt {α : Type} : ∀ {l : List α} {n : Nat} {x : α}, getL l n = some x → n < l.length
  | [], _, _, h => by simp [getL] at h
  | _ :: _, 0, _, _ => by simp
  | _ :: l, n + 1, x, h => by have := getL_lt (l := l) (by simpa [getL] using h); simp; omega

theorem rows_len : rowsL.length = 66 := by rfl

theorem rowF_lt {α : Type} {f : List UInt8 × Nat × List UInt8 → α} {n : Nat} {v : α} (h : rowF f n = some v) : n < 66 := by
  unfold rowF at h
  split at h
  · rename_i x hx; have := getL_lt hx; rw [rows_len] at this; exact this
  · cases h
end Go.Ae
