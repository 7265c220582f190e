/- A part of the proof of the law of TopAcross: AeLn, AeQk. -/
import Derived.Test.YtlclnngcnkepjaaGreatDoorQ3
namespace Go.Ae
open Go

noncomputable def lanes1 (f : Value → Option Value) : List Value → Option (List Value)
  | [] => some []
  | x :: r => match f x with
    | some v => match lanes1 f r with
      | some l => some (v :: l)
      | none => none
    | none => none

noncomputable def lanes2 (f : Value → Value → Option Value) : List Value → List Value → Option (List Value)
  | [], [] => some []
  | x :: r, y :: s => match f x y with
    | some v => match lanes2 f r s with
      | some l => some (v :: l)
      | none => none
    | none => none
  | _, _ => none

/-- Lanes that are all alike are one value. -/
noncomputable def mkVe : Option (List Value) → Option AV
  | some (x :: r) => bif r.all (vbeq x) then ofCell x else bif numV x && r.all numV then some (.ve (x :: r)) else none
  | _ => none

noncomputable def obL2 (f : Value → Value → Option Value) (x : AV) (b : List Value) : Option Value → Option AV
  | some v => mkVe (lanes1 (f v) b)
  | none => match x with
    | .ve a => mkVe (lanes2 f a b)
    | _ => none

noncomputable def obL1 (f : Value → Value → Option Value) (a : List Value) : Option Value → Option AV
  | some v => mkVe (lanes1 (fun u => f u v) a)
  | none => none

noncomputable def obL (P : Program) (bo : BinOp) (t : TypeId) (x y : AV) : Option AV := match y with
  | .ve b => obL2 (fun u v => runPure P (Go.binOp bo t u v)) x b (numC x)
  | y => match x with
    | .ve a => obL1 (fun u v => runPure P (Go.binOp bo t u v)) a (numC y)
    | _ => none

noncomputable def ouL (P : Program) (u : UnOp) : AV → Option AV
  | .ve a => mkVe (lanes1 (fun x => runPure P (Op.unary u x)) a)
  | _ => none

noncomputable def ocL (P : Program) (s d : TypeId) : AV → Option AV
  | .ve a => mkVe (lanes1 (fun x => runPure P (Go.convert s d x)) a)
  | _ => none

noncomputable def addL : List Nat → List Nat → Option (List Nat)
  | [], [] => some []
  | x :: r, y :: s => match addL r s with
    | some l => some (Nat.add x y :: l)
    | none => none
  | _, _ => none

/-- Widths: of cells; of what has lanes. -/
noncomputable def wL : List AV → Nat → Option (List Nat) → Option (Nat × Option (List Nat))
  | [], n, z => some (n, z)
  | .g _ :: _, _, _ => none
  | .z l :: r, n, none => wL r n (some l)
  | .z l :: r, n, some m => match addL m l with
    | some k => wL r n (some k)
    | none => none
  | _ :: r, n, z => wL r (Nat.succ n) z

noncomputable def rlL1 : Option (Nat × Option (List Nat)) → Option AV
  | some (n, none) => some (.i .i64 n)
  | some (n, some l) => mkVe (some (l.map fun k => .int .i64 (Nat.add n k : Nat)))
  | none => none

noncomputable def rlL (l : List AV) : Option AV := rlL1 (wL l 0 none)

noncomputable def rnL (l : List AV) : Bool := l.any fun v => match v with
  | .z m => m.all fun k => Nat.blt 0 k
  | .g _ => false
  | _ => true

noncomputable def rzL1 : Option (Nat × Option (List Nat)) → Bool
  | some (n, none) => Nat.ble n room
  | some (n, some l) => l.all fun k => Nat.ble (Nat.add n k) room
  | none => false

noncomputable def rzL (l : List AV) : Bool := rzL1 (wL l 0 none)

noncomputable def eqAll (x : Value) (l : List Value) : Option Bool :=
  bif l.all (vbeq x) then some true else bif numV x && l.all numV && l.all (fun y => !vbeq x y) then some false else none

noncomputable def eqAll2 : List Value → List Value → Bool → Bool
  | [], [], _ => true
  | x :: r, y :: s, d => numV x && numV y && vbeq x y == d && eqAll2 r s d
  | _, _, _ => false

noncomputable def ceL2 (y : List Value) (x : AV) : Option Value → Option Bool
  | some v => eqAll v y
  | none => match x with
    | .ve a => bif eqAll2 a y true then some true else bif eqAll2 a y false then some false else none
    | _ => none

noncomputable def ceL1 (x : AV) (b : Option Value) (a : Option Value) : Option Bool := match x with
  | .ve l => match b with
    | some v => eqAll v l
    | none => none
  | _ => match a, b with
    | some u, some v => some (vbeq u v)
    | _, _ => none

noncomputable def ceL (x y : AV) : Option Bool := match y with
  | .ve b => ceL2 b x (numC x)
  | y => ceL1 x (numC y) (numC x)

noncomputable def runeV : Value → Option Value
  | .int .u8 (.ofNat n) => bif Nat.blt n 128 then some (.int .i32 (.ofNat n)) else none
  | _ => none

noncomputable def asL : AV → Option AV
  | .i .u8 (.ofNat n) => bif Nat.blt n 128 then some (.i .i32 (.ofNat n)) else none
  | .ve l => mkVe (lanes1 runeV l)
  | _ => none

noncomputable def natV : Value → Option Nat
  | .int _ (.ofNat n) => bif Nat.ble n 1000000 then some n else none
  | _ => none

noncomputable def natsV : List Value → Option (List Nat)
  | [] => some []
  | x :: r => match natV x with
    | some n => match natsV r with
      | some l => some (n :: l)
      | none => none
    | none => none

noncomputable def zlL : AV → Option (List Nat)
  | .ve l => natsV l
  | _ => none

noncomputable def lanes (P : Program) : Or := ⟨obL P, ouL P, ocL P, rlL, rnL, rzL, ceL, asL, zlL⟩

section
variable {P : Program} {σ : Sg} {ν : Nu}

theorem lanes1_get {f : Value → Option Value} : ∀ {a r : List Value} {i : Nat} {x : Value}, lanes1 f a = some r → a[i]? = some x → ∃ v, r[i]? = some v ∧ f x = some v
  | [], _, _, _, _, h => by simp at h
  | y :: a, r, i, x, h, hi => by
    simp only [lanes1] at h
    split at h
    · rename_i v hv
      split at h
      · rename_i l hl
        simp at h
        subst h
        cases i with
        | zero => simp at hi; subst hi; exact ⟨v, rfl, hv⟩
        | succ i =>
          obtain ⟨v', h1, h2⟩ := lanes1_get hl (by simpa using hi)
          exact ⟨v', by simpa using h1, h2⟩
      · cases h
    · cases h

theorem lanes2_get {f : Value → Value → Option Value} : ∀ {a b r : List Value} {i : Nat} {x y : Value}, lanes2 f a b = some r → a[i]? = some x → b[i]? = some y → ∃ v, r[i]? = some v ∧ f x y = some v
  | [], _, _, _, _, _, _, h, _ => by simp at h
  | u :: a, [], _, _, _, _, h, _, _ => by simp [lanes2] at h
  | u :: a, w :: b, r, i, x, y, h, hi, hj => by
    simp only [lanes2] at h
    split at h
    · rename_i v hv
      split at h
      · rename_i l hl
        simp at h
        subst h
        cases i with
        | zero => simp at hi hj; subst hi hj; exact ⟨v, rfl, hv⟩
        | succ i =>
          obtain ⟨v', h1, h2⟩ := lanes2_get hl (by simpa using hi) (by simpa using hj)
          exact ⟨v', by simpa using h1, h2⟩
      · cases h
    · cases h

theorem mkVe_rel {l : List Value} {v : AV} {c : Value} (h : mkVe (some l) = some v) (hi : l[σ.i]? = some c) : vrel σ ν v c := by
  cases l with
  | nil => simp at hi
  | cons x r =>
    simp only [mkVe] at h
    cases hb : r.all (vbeq x) with
    | true =>
      rw [hb] at h
      have hc : c = x := by
        cases hj : σ.i with
        | zero => rw [hj] at hi; simp at hi; exact hi.symm
        | succ j =>
          rw [hj] at hi
          have := List.all_eq_true.1 hb c (List.mem_of_getElem? (by simpa using hi))
          exact (vbeq_eq this).symm
      rw [hc]
      exact ofCell_rel h
    | false =>
      rw [hb] at h
      simp only [cond_false] at h
      cases hn : (numV x && r.all numV) with
      | false => rw [hn] at h; simp at h
      | true =>
        rw [hn] at h
        simp at h
        subst h
        refine ⟨hi, ?_⟩
        simp only [Bool.and_eq_true] at hn
        rcases List.mem_cons.1 (List.mem_of_getElem? hi) with rfl | hm
        · exact hn.1
        · exact List.all_eq_true.1 hn.2 c hm

theorem mkVe_some {o : Option (List Value)} {v : AV} (h : mkVe o = some v) : ∃ l, o = some l := by
  cases o with
  | none => simp [mkVe] at h
  | some l => exact ⟨l, rfl⟩

theorem numC_rel {x : AV} {v c : Value} (h : numC x = some v) (hx : vrel σ ν x c) : c = v ∧ cc σ x = [v] := by
  unfold numC at h
  split at h
  · simp at h; subst h; exact ⟨hx, rfl⟩
  · simp at h; subst h; exact ⟨hx, rfl⟩
  · cases h

theorem numC_num {x : AV} {v : Value} (h : numC x = some v) : numV v = true := by
  unfold numC at h
  split at h
  · simp at h; subst h; rfl
  · simp at h; subst h; rfl
  · cases h

theorem pure_num {bo : BinOp} {t : TypeId} {u v r : Value} (h : runPure P (Go.binOp bo t u v) = some r) : ∀ w, (Go.binOp bo t u v).run P w = .ok r w := fun w => runPure_run h w

theorem addL_get : ∀ {a b r : List Nat} {i : Nat} {x y : Nat}, addL a b = some r → a[i]? = some x → b[i]? = some y → r[i]? = some (x + y)
  | [], _, _, _, _, _, _, h, _ => by simp at h
  | u :: a, [], _, _, _, _, h, _, _ => by simp [addL] at h
  | u :: a, w :: b, r, i, x, y, h, hi, hj => by
    simp only [addL] at h
    split at h
    · rename_i l hl
      simp at h
      subst h
      cases i with
      | zero => simp at hi hj; subst hi hj; rfl
      | succ i =>
        have := addL_get hl (by simpa using hi) (by simpa using hj)
        simpa using this
    · cases h

theorem numV_not {c : Value} (hn : numV c = true) : c ≠ .nilIface ∧ ∀ m, c ≠ .agg m := by
  cases c <;> simp [numV] at hn <;> simp

theorem num_guard {a b : Value} (h : numV a = true ∨ numV b = true) : (a ≠ .nilIface ∨ b ≠ .nilIface) ∧ ((∀ l, a ≠ .agg l) ∨ ∀ l, b ≠ .agg l) := by
  rcases h with h | h
  · exact ⟨.inl (numV_not h).1, .inl (numV_not h).2⟩
  · exact ⟨.inr (numV_not h).1, .inr (numV_not h).2⟩

theorem obL_rel {bo : BinOp} {t : TypeId} {x y v : AV} {a b : Value} (h : obL P bo t x y = some v) (hx : vrel σ ν x a) (hy : vrel σ ν y b) :
    (numV a = true ∨ numV b = true) ∧ ∃ c, vrel σ ν v c ∧ ∀ w, (Go.binOp bo t a b).run P w = .ok c w := by
  unfold obL at h
  split at h
  · rename_i lb
    unfold obL2 at h
    split at h
    · rename_i va hn
      obtain ⟨rfl, _⟩ := numC_rel hn hx
      obtain ⟨r, hr⟩ := mkVe_some h
      rw [hr] at h
      obtain ⟨c, h1, h2⟩ := lanes1_get hr hy.1
      exact ⟨.inr hy.2, c, mkVe_rel h h1, fun w => runPure_run h2 w⟩
    · split at h
      · rename_i la _
        obtain ⟨r, hr⟩ := mkVe_some h
        rw [hr] at h
        obtain ⟨c, h1, h2⟩ := lanes2_get hr hx.1 hy.1
        exact ⟨.inr hy.2, c, mkVe_rel h h1, fun w => runPure_run h2 w⟩
      · cases h
  · split at h
    · rename_i la _
      unfold obL1 at h
      split at h
      · rename_i vb hn
        obtain ⟨rfl, _⟩ := numC_rel hn hy
        obtain ⟨r, hr⟩ := mkVe_some h
        rw [hr] at h
        obtain ⟨c, h1, h2⟩ := lanes1_get hr hx.1
        exact ⟨.inl hx.2, c, mkVe_rel h h1, fun w => runPure_run h2 w⟩
      · cases h
    · cases h

def zrel (σ : Sg) : Option (List Nat) → Nat → Prop
  | none, q => q = 0
  | some l, q => l[σ.i]? = some q

theorem wL_rel : ∀ {l : List AV} {n : Nat} {z : Option (List Nat)} {m : Nat} {k : Option (List Nat)}, wL l n z = some (m, k) → ioks σ l → ∀ q, zrel σ z q →
    ∃ q', zrel σ k q' ∧ (ccs σ l).length + n + q = m + q'
  | [], n, z, m, k, h, _, q, hq => by
    simp [wL] at h
    obtain ⟨rfl, rfl⟩ := h
    exact ⟨q, hq, by simp [ccs]⟩
  | v :: l, n, z, m, k, h, hi, q, hq => by
    have hi' := hi
    obtain ⟨i1, i2⟩ := ioks_cons hi
    have cell : cellI v = true → wL l (Nat.succ n) z = some (m, k) → ∃ q', zrel σ k q' ∧ (ccs σ (v :: l)).length + n + q = m + q' := by
      intro hc hw
      obtain ⟨c, g1, _⟩ := i1 hc
      obtain ⟨q', k1, k2⟩ := wL_rel hw i2 q hq
      exact ⟨q', k1, by rw [ccs_cons, g1]; simp; omega⟩
    cases v
    case g j => simp [wL] at h
    case z lz =>
      have hlt := (hi' _ (by simp)).2 lz rfl
      have hg : lz[σ.i]? = some (lz.getD σ.i 0) := by
        simp [List.getD, hlt]
      have hl : (cc σ (.z lz)).length = lz.getD σ.i 0 := by simp only [cc, List.length_replicate]
      cases z with
      | none =>
        simp only [wL] at h
        obtain ⟨q', k1, k2⟩ := wL_rel h i2 (lz.getD σ.i 0) hg
        refine ⟨q', k1, ?_⟩
        rw [ccs_cons, List.length_append, hl]
        have : q = 0 := hq
        omega
      | some mz =>
        simp only [wL] at h
        split at h
        · rename_i kz hk
          obtain ⟨q', k1, k2⟩ := wL_rel h i2 (q + lz.getD σ.i 0) (addL_get hk hq hg)
          refine ⟨q', k1, ?_⟩
          rw [ccs_cons, List.length_append, hl]
          omega
        · cases h
    all_goals exact cell rfl (by simpa [wL] using h)

theorem rlL_rel {l : List AV} {v : AV} (h : rlL l = some v) (hi : ioks σ l) : vrel σ ν v (.int .i64 ((ccs σ l).length : Nat)) := by
  unfold rlL at h
  cases hw : wL l 0 none with
  | none => rw [hw] at h; simp [rlL1] at h
  | some p =>
    obtain ⟨m, k⟩ := p
    rw [hw] at h
    obtain ⟨q', k1, k2⟩ := wL_rel hw hi 0 rfl
    cases k with
    | none =>
      simp [rlL1] at h
      subst h
      have : q' = 0 := k1
      show Value.int .i64 _ = _
      congr 2
      omega
    | some lk =>
      simp only [rlL1] at h
      refine mkVe_rel h ?_
      have k1' : lk[σ.i]? = some q' := k1
      have k3 : Nat.add m q' = (ccs σ l).length := by show m + q' = _; omega
      rw [List.getElem?_map, k1', Option.map_some, k3]

theorem rnL_rel {l : List AV} (h : rnL l = true) (hi : ioks σ l) : ccs σ l ≠ [] := by
  intro e
  obtain ⟨v, hv, h1⟩ := List.any_eq_true.1 h
  have : cc σ v = [] := by
    cases hc : cc σ v with
    | nil => rfl
    | cons c cs =>
      have : c ∈ ccs σ l := List.mem_flatMap.2 ⟨v, hv, by rw [hc]; simp⟩
      rw [e] at this
      cases this
  cases v
  case g => simp at h1
  case z lz =>
    have hlt := (hi _ hv).2 lz rfl
    simp only at h1
    have h2 := List.all_eq_true.1 h1 _ (List.getElem_mem hlt)
    simp only [cc] at this
    have h3 : lz.getD σ.i 0 = 0 := by
      have := congrArg List.length this
      simpa using this
    have h4 : lz[σ.i] = 0 := by simpa [List.getD, hlt] using h3
    rw [h4] at h2
    simp at h2
  all_goals
    obtain ⟨c, g1, _⟩ := (hi _ hv).1 rfl
    rw [g1] at this
    cases this

theorem rzL_rel {l : List AV} (h : rzL l = true) (hi : ioks σ l) : (ccs σ l).length ≤ room := by
  unfold rzL at h
  cases hw : wL l 0 none with
  | none => rw [hw] at h; simp [rzL1] at h
  | some p =>
    obtain ⟨m, k⟩ := p
    rw [hw] at h
    obtain ⟨q', k1, k2⟩ := wL_rel hw hi 0 rfl
    cases k with
    | none =>
      simp [rzL1] at h
      have : q' = 0 := k1
      omega
    | some lk =>
      simp only [rzL1] at h
      have := List.all_eq_true.1 h q' (List.mem_of_getElem? k1)
      have h2 := Nat.le_of_ble_eq_true this
      have h3 : Nat.add m q' = m + q' := rfl
      omega

theorem vbeq_self {x : Value} (h : numV x = true) : vbeq x x = true := by cases x <;> simp [numV] at h <;> simp [vbeq]

theorem eqAll_rel {x : Value} {l : List Value} {d : Bool} (h : eqAll x l = some d) {c : Value} (hi : l[σ.i]? = some c) : x = c ↔ d = true := by
  unfold eqAll at h
  have hm := List.mem_of_getElem? hi
  cases hb : l.all (vbeq x) with
  | true =>
    rw [hb] at h
    simp at h
    subst h
    simp [vbeq_eq (List.all_eq_true.1 hb c hm)]
  | false =>
    rw [hb] at h
    simp only [cond_false] at h
    cases hn : (numV x && l.all numV && l.all fun y => !vbeq x y) with
    | false => rw [hn] at h; simp at h
    | true =>
      rw [hn] at h
      simp at h
      subst h
      simp only [Bool.and_eq_true] at hn
      have := List.all_eq_true.1 hn.2 c hm
      simp only [Bool.not_eq_true'] at this
      simp only [Bool.false_eq_true, iff_false]
      rintro rfl
      rw [vbeq_self hn.1.1] at this
      cases this

theorem eqAll2_rel : ∀ {a b : List Value} {d : Bool}, eqAll2 a b d = true → ∀ {i : Nat} {x y : Value}, a[i]? = some x → b[i]? = some y → (x = y ↔ d = true)
  | [], _, _, _, _, _, _, h, _ => by simp at h
  | _ :: _, [], _, _, _, _, _, _, h => by simp at h
  | u :: a, w :: b, d, h, i, x, y, hi, hj => by
    simp only [eqAll2, Bool.and_eq_true, beq_iff_eq] at h
    obtain ⟨⟨⟨h1, h2⟩, h3⟩, h4⟩ := h
    cases i with
    | zero =>
      simp at hi hj
      subst hi hj
      rw [← h3]
      exact ⟨fun e => by rw [e]; exact vbeq_self h2, vbeq_eq⟩
    | succ i => exact eqAll2_rel h4 (by simpa using hi) (by simpa using hj)

theorem ve_cc {l : List Value} {c : Value} (h : cc σ (.ve l) = [c]) : l[σ.i]? = some c := by
  simp only [cc] at h
  split at h
  · rename_i v hv
    cases hn : numV v with
    | false => rw [hn] at h; simp at h
    | true => rw [hn] at h; simp at h; subst h; exact hv
  · simp at h

theorem numC_cc {x : AV} {v c : Value} (h : numC x = some v) (hc : cc σ x = [c]) : c = v := by
  unfold numC at h
  split at h
  · simp at h; subst h; simp [cc] at hc; exact hc.symm
  · simp at h; subst h; simp [cc] at hc; exact hc.symm
  · cases h

theorem ceL_rel {x y : AV} {d : Bool} {a b : Value} (h : ceL x y = some d) (hx : cc σ x = [a]) (hy : cc σ y = [b]) : a = b ↔ d = true := by
  unfold ceL at h
  split at h
  · rename_i lb
    have hb := ve_cc hy
    unfold ceL2 at h
    split at h
    · rename_i v hn
      rw [numC_cc hn hx]
      exact eqAll_rel h hb
    · split at h
      · rename_i la _
        have ha := ve_cc hx
        cases h1 : eqAll2 la lb true with
        | true => rw [h1] at h; simp at h; subst h; exact eqAll2_rel h1 ha hb
        | false =>
          rw [h1] at h
          simp only [cond_false] at h
          cases h2 : eqAll2 la lb false with
          | true => rw [h2] at h; simp at h; subst h; exact eqAll2_rel h2 ha hb
          | false => rw [h2] at h; simp at h
      · cases h
  · unfold ceL1 at h
    split at h
    · rename_i la _
      have ha := ve_cc hx
      split at h
      · rename_i v hn
        rw [numC_cc hn hy]
        have := eqAll_rel h ha
        rw [← this]
        exact ⟨fun e => e.symm, fun e => e.symm⟩
      · cases h
    · split at h
      · rename_i u v hu hv
        simp at h
        subst h
        rw [numC_cc hu hx, numC_cc hv hy]
        exact ⟨fun e => by rw [e]; exact vbeq_self (numC_num hv), vbeq_eq⟩
      · cases h

theorem rune_of {n : Nat} {b : UInt8} (h : Value.int .u8 (n : Int) = byteV b) : n = b.toNat := by
  simp only [byteV, Value.int.injEq, true_and] at h
  omega

theorem asL_rel {x v : AV} {b : UInt8} (h : asL x = some v) (hx : cc σ x = [byteV b]) : b.toNat < 128 ∧ vrel σ ν v (.int .i32 b.toNat) := by
  unfold asL at h
  split at h
  · rename_i n
    cases hb : Nat.blt n 128 with
    | false => rw [hb] at h; simp at h
    | true =>
      rw [hb] at h
      simp at h
      subst h
      simp only [cc, List.cons.injEq, and_true] at hx
      have := rune_of hx
      subst this
      exact ⟨by simp [Nat.blt] at hb; omega, rfl⟩
  · rename_i l
    have hl := ve_cc hx
    obtain ⟨r, hr⟩ := mkVe_some h
    rw [hr] at h
    obtain ⟨c, h1, h2⟩ := lanes1_get hr hl
    unfold runeV at h2
    split at h2
    · rename_i n hn
      cases hb : Nat.blt n 128 with
      | false => rw [hb] at h2; simp at h2
      | true =>
        rw [hb] at h2
        simp at h2
        subst h2
        have := rune_of hn.symm
        subst this
        exact ⟨by simp [Nat.blt] at hb; omega, mkVe_rel h h1⟩
    · cases h2
  · cases h

theorem natsV_get : ∀ {l : List Value} {r : List Nat} {i : Nat} {c : Value}, natsV l = some r → l[i]? = some c → ∃ n, r[i]? = some n ∧ natV c = some n
  | [], _, _, _, _, h => by simp at h
  | x :: l, r, i, c, h, hi => by
    simp only [natsV] at h
    split at h
    · rename_i n hn
      split at h
      · rename_i l' hl
        simp at h
        subst h
        cases i with
        | zero => simp at hi; subst hi; exact ⟨n, rfl, hn⟩
        | succ i =>
          obtain ⟨n', h1, h2⟩ := natsV_get hl (by simpa using hi)
          exact ⟨n', by simpa using h1, h2⟩
      · cases h
    · cases h

theorem lanes_ok (P : Program) (σ : Sg) : OrOk P σ (lanes P) where
  ob h _ _ _ hx hy := by
    obtain ⟨h1, h2⟩ := obL_rel h hx hy
    exact ⟨(num_guard h1).1, (num_guard h1).2, h2⟩
  ou {u x v} h ν a hx := by
    change ouL P u x = some v at h
    unfold ouL at h
    split at h
    · obtain ⟨r, hr⟩ := mkVe_some h
      rw [hr] at h
      obtain ⟨c, h1, h2⟩ := lanes1_get hr hx.1
      exact ⟨c, mkVe_rel h h1, fun w => runPure_run h2 w⟩
    · cases h
  oc {s d x v} h ν a hx := by
    change ocL P s d x = some v at h
    unfold ocL at h
    split at h
    · obtain ⟨r, hr⟩ := mkVe_some h
      rw [hr] at h
      obtain ⟨c, h1, h2⟩ := lanes1_get hr hx.1
      exact ⟨c, mkVe_rel h h1, fun w => runPure_run h2 w⟩
    · cases h
  rl h hi _ := rlL_rel h hi
  rn h hi := rnL_rel h hi
  rz h hi := rzL_rel h hi
  ce h _ _ hx hy := ceL_rel h hx hy
  ru h b hx := ⟨(asL_rel (ν := []) h hx).1, fun _ => (asL_rel h hx).2⟩
  zl {x l} h ν a hx := by
    change zlL x = some l at h
    unfold zlL at h
    split at h
    · obtain ⟨n, h1, h2⟩ := natsV_get h hx.1
      unfold natV at h2
      split at h2
      · rename_i k m
        cases hb : Nat.ble m 1000000 with
        | false => rw [hb] at h2; simp at h2
        | true => rw [hb] at h2; simp at h2; subst h2; exact ⟨m, k, h1, rfl, Nat.le_of_ble_eq_true hb⟩
      · cases h2
    · cases h

end
end Go.Ae
namespace Go.Ae
open Go

abbrev Dl := List (Nat × List AV)
abbrev Ans := Option (Ex × St)
abbrev Kt := Tr AV → AH → Dl → Ans
abbrev Kx := Ex → Kt
abbrev RecQ := Option Code → Nat → Code → Tr AV → AH → Dl → Kx → Ans

inductive Ev where
  | mk (f : Tr AV → Option AV)
noncomputable def Ev.ap (x : Ev) : Tr AV → Option AV := Ev.rec (fun f => f) x
inductive Vq where
  | mk (f : Tr AV → AH → Option R)
noncomputable def Vq.ap (x : Vq) : Tr AV → AH → Option R := Vq.rec (fun f => f) x
inductive Dq where
  | mk (f : AV → Tr AV → AH → Dl → Kt → Ans)
noncomputable def Dq.ap (x : Dq) : AV → Tr AV → AH → Dl → Kt → Ans := Dq.rec (fun f => f) x
inductive Oq where
  | mk (f : RecQ → Tr AV → AH → Dl → Kt → Ans)
noncomputable def Oq.ap (x : Oq) : RecQ → Tr AV → AH → Dl → Kt → Ans := Oq.rec (fun f => f) x
inductive Cq where
  | mk (f : RecQ → Tr AV → AH → Dl → Kx → Ans)
noncomputable def Cq.ap (x : Cq) : RecQ → Tr AV → AH → Dl → Kx → Ans := Cq.rec (fun f => f) x
inductive Fq where
  | mk (f : IntKind → Int → Int → Option AV)
  | no
noncomputable def Fq.ap (x : Fq) (e : Option AV) : IntKind → Int → Int → Option AV := Fq.rec (fun f => f) (fun _ _ _ => e) x

noncomputable def evC (gs : Nat) : Operand → Ev
  | .tmp x => .mk (Tr.getP (path x))
  | .const v => .mk (fun _ => ofVal v)
  | .global g => .mk (fun _ => bif Nat.blt g gs then some (.p g 0) else none)
  | .func f => .mk (fun _ => some (.fn (.func f) [] []))

noncomputable def rhoQ (gs : Nat) (t : Tr AV) (x : Operand) : Option AV := Ev.ap (evC gs x) t

noncomputable def bnd {β : Type} (k : AV → Option β) (x : Option AV) : Option β := Option.rec none k x

noncomputable def bindK (K : Kt) : Option St → Ans
  | some ⟨t, h, d⟩ => K t h d
  | none => none

noncomputable def bindX (K : Kx) : Ans → Ans
  | some (e, ⟨t, h, d⟩) => K e t h d
  | none => none

noncomputable def toRec (r : RecQ) : Rec := fun sc n c s => match s with
  | ⟨t, h, d⟩ => r sc n c t h d (fun e t h d => some (e, ⟨t, h, d⟩))

noncomputable def putC (n : Nat) : Option Tmp → Dq
  | none => .mk (fun _ t h d K => K t h d)
  | some x => bif Nat.blt x n then .mk (fun v t h d K => K (Tr.setP (some v) (path x) t) h d) else .mk (fun _ _ _ _ _ => none)

/-! Numbers. -/

noncomputable def ltI : Int → Int → Bool
  | .ofNat a, .ofNat b => Nat.blt a b
  | .ofNat _, .negSucc _ => false
  | .negSucc _, .ofNat _ => true
  | .negSucc a, .negSucc b => Nat.blt b a
noncomputable def eqI : Int → Int → Bool
  | .ofNat a, .ofNat b => Nat.beq a b
  | .negSucc a, .negSucc b => Nat.beq a b
  | _, _ => false
noncomputable def leI (a b : Int) : Bool := !(ltI b a)

/-- In the range of a kind: as it is. -/
noncomputable def wrapQ (k : IntKind) (x : Int) : Int := match k with
  | .i64 => (match x with
    | .ofNat n => bif Nat.blt n 9223372036854775808 then .ofNat n else k.wrap (.ofNat n)
    | .negSucc n => bif Nat.blt n 9223372036854775808 then .negSucc n else k.wrap (.negSucc n))
  | k => k.wrap x

noncomputable def addI (k : IntKind) (x y : Int) : AV := .i k (wrapQ k (x + y))
noncomputable def subI (k : IntKind) (x y : Int) : AV := .i k (wrapQ k (x - y))

noncomputable def fastI : BinOp → Fq
  | .add => .mk (fun k x y => some (addI k x y))
  | .sub => .mk (fun k x y => some (subI k x y))
  | .eql => .mk (fun _ x y => some (.b (eqI x y)))
  | .neq => .mk (fun _ x y => some (.b !(eqI x y)))
  | .lss => .mk (fun _ x y => some (.b (ltI x y)))
  | .leq => .mk (fun _ x y => some (.b (leI x y)))
  | .gtr => .mk (fun _ x y => some (.b (ltI y x)))
  | .geq => .mk (fun _ x y => some (.b (leI y x)))
  | _ => .no

noncomputable def binQ (P : Program) (bo : BinOp) (ty : TypeId) (a c : AV) : Option AV := match a, c with
  | .i k x, .i k' y => bif k == k' then Fq.ap (fastI bo) (binA P bo ty (.i k x) (.i k' y)) k x y else binA P bo ty (.i k x) (.i k' y)
  | a, c => binA P bo ty a c

noncomputable def oBinQ (P : Program) (h : AH) (bo : BinOp) (ty : TypeId) : Option AV → Option AV → Option R
  | some a, some c => o1 h (binQ P bo ty a c)
  | _, _ => none

/-! Operations. -/

noncomputable def opV (P : Program) (gs : Nat) (o : Op) : Vq := match o with
  | .move x => .mk (fun t h => o1 h (rhoQ gs t x))
  | .assign x => .mk (fun t h => o1 h (rhoQ gs t x))
  | .pick c a d => .mk (fun t h => oPick (rhoQ gs t) h c a d)
  | .alloc e => .mk (fun _ h => oAlloc h (zeroOf P e))
  | .box _ x => .mk (fun t h => oBox h (rhoQ gs t x))
  | .build ty ps => .mk (fun t h => oBuild P (rhoQ gs t) h ty ps)
  | .buildSlice ty len ps => .mk (fun t h => oRow P (rhoQ gs t) h ty len ps)
  | .load ty a => .mk (fun t h => oLoad P h ty (asP (rhoQ gs t a)))
  | .store ty a x => .mk (fun t h => oStore P h ty (asP (rhoQ gs t a)) (rhoQ gs t x))
  | .nilCheck x => .mk (fun t h => oNil h (asP (rhoQ gs t x)))
  | .binOp bo ty x y _ => .mk (fun t h => oBinQ P h bo ty (rhoQ gs t x) (rhoQ gs t y))
  | .unOp u _ x => .mk (fun t h => oUn P h u (rhoQ gs t x))
  | .convert s d x => .mk (fun t h => oConv P h s d (rhoQ gs t x))
  | .makeFunc f first cap => .mk (fun t h => oFn h f (evs (rhoQ gs t) first.toList) (evs (rhoQ gs t) cap.toList))
  | .makeMap _ r => .mk (fun _ h => oMkMap h r)
  | .makeSlice ty l c => .mk (fun t h => oMkSl P h ty (rhoQ gs t l) (rhoQ gs t c))
  | .slice ty x lo hi mx => .mk (fun t h => oSlice P h ty (rhoQ gs t x) (natOpt (rhoQ gs t) lo) (natOpt (rhoQ gs t) hi) (natOpt (rhoQ gs t) mx))
  | .fieldAddr ty x k => .mk (fun t h => oFa h (asP (rhoQ gs t x)) (fieldOf P ty k))
  | .field ty x k => .mk (fun t h => oFld P h (asAg (rhoQ gs t x)) (fieldOf P ty k))
  | .indexAddr ty x y => .mk (fun t h => oIa P h ty (rhoQ gs t x) (rhoQ gs t y))
  | .index ty x y => .mk (fun t h => oIdx P h ty (rhoQ gs t x) (rhoQ gs t y))
  | .lookup ty x k ok => .mk (fun t h => oLook P h ty ok (rhoQ gs t x) (rhoQ gs t k))
  | .mapUpdate ty m k x => .mk (fun t h => oMapUp P h ty (rhoQ gs t m) (rhoQ gs t k) (rhoQ gs t x))
  | .mapEntry ty m k => .mk (fun t h => oMapEn P h ty (rhoQ gs t m) (rhoQ gs t k))
  | .entryStore _ m st x => .mk (fun t h => oEntSt h (rhoQ gs t m) (rhoQ gs t st) (rhoQ gs t x))
  | .range ty x => .mk (fun t h => oRange P h ty (rhoQ gs t x))
  | .next it str => .mk (fun t h => oNext h str (rhoQ gs t it))
  | .entry it => .mk (fun t h => oEnt h (rhoQ gs t it))
  | .extract x k => .mk (fun t h => oEx h k (asTu (rhoQ gs t x)))
  | .call c => .mk (fun t h => oCall P (rhoQ gs t) h c)
  | .defer c => .mk (fun t _ => oDefer (rhoQ gs t) c)
  | _ => .mk (fun _ _ => none)

section
variable (C : Cfg)

noncomputable def bindA (K : AV → AH → Ans) : Option (AV × AH) → Ans
  | some (v, h) => K v h
  | none => none

noncomputable def retQ (r : RecQ) (fn : Func) (K : AV → AH → Ans) (t : Tr AV) (h : AH) (d : Dl) : Ans := match d with
  | [] => bnd (fun v => K v h) (results C fn t h)
  | x :: l => bindA K (leave C fn t (defers C (toRec r) (x :: l) h))

noncomputable def endQ (r : RecQ) (fn : Func) (K : AV → AH → Ans) (e : Ex) (t : Tr AV) (h : AH) (d : Dl) : Ans := match e with
  | .nrm => retQ C r fn K t h d
  | .ret => retQ C r fn K t h d
  | _ => none

noncomputable def codeQ (r : RecQ) (fn : Func) (args : List AV) (h : AH) (K : AV → AH → Ans) : Option Code → Ans
  | some c => bif Nat.ble args.length fn.ntmps then r none fn.ntmps c (mkT 0 args .e) h [] (endQ C r fn K) else r none (Nat.max args.length fn.ntmps) c (mkT 0 args .e) h [] (endQ C r fn K)
  | none => none

noncomputable def fnQ (r : RecQ) (args : List AV) (h : AH) (K : AV → AH → Ans) : Option Func → Ans
  | some fn => codeQ C r fn args h K fn.body
  | none => none

noncomputable def callK (r : RecQ) (f : Nat) (args : List AV) (h : AH) (K : AV → AH → Ans) : Option (List AV → AH → Option (AV × AH)) → Ans
  | some g => bindA K (g args h)
  | none => fnQ C r args h K C.P.funcs[f]?

noncomputable def extQ (r : RecQ) (f : Nat) (args : List AV) (h : AH) (K : AV → AH → Ans) : Option (List AV → Option AV) → Ans
  | some g => bnd (fun v => K v h) (g args)
  | none => callK C r f args h K (C.spec f)

noncomputable def resQ (r : RecQ) (D : Dq) (t : Tr AV) (h : AH) (d : Dl) (K : Kt) : Option R → Ans
  | some (.v x h') => Dq.ap D x t h' d K
  | some (.sk h') => Dq.ap D (.tu []) t h' d K
  | some (.df f args) => Dq.ap D (.tu []) t h ((f, args) :: d) K
  | some (.call f args) => extQ C r f args h (fun v h' => Dq.ap D v t h' d K) (C.ext f)
  | none => none

variable (n : Nat)

noncomputable def goQ (o : Op) (V : Vq) (D : Dq) : Oq := .mk (fun r t h d K => resQ C r D t h d K (orS C.ω C.P (rhoQ C.gs t) h o (Vq.ap V t h)))

noncomputable def mvQ (y : Operand) (D : Dq) : Oq := .mk (fun _ t h d K => bnd (fun v => Dq.ap D v t h d K) (rhoQ C.gs t y))

noncomputable def slowQ (ops : Array Oper) (o : Oper) : Oq := .mk (fun r t h d K => bindK K (opW C (toRec r) n ops o ⟨t, h, d⟩))

noncomputable def opQ1 (D : Dq) (o : Op) : Oq := match o with
  | .move x => mvQ C x D
  | .assign x => mvQ C x D
  | o => goQ C o (opV C.P C.gs o) D

noncomputable def opQ (ops : Array Oper) (o : Oper) : Oq := match o.guard with
  | none => opQ1 C (putC n o.dst) o.op
  | some _ => slowQ C n ops o

noncomputable def aopsQ (ops : Array Oper) : List Oper → Oq :=
  List.rec (.mk (fun _ t h d K => K t h d)) (fun o _ ih => .mk (fun r t h d K => Oq.ap (opQ C n ops o) r t h d (fun t h d => Oq.ap ih r t h d K)))

noncomputable def thenQ (go : Kx → Kt) (K : Kx) (e : Ex) (t : Tr AV) (h : AH) (d : Dl) : Ans := match e with
  | .nrm => go K t h d
  | e => K e t h d

noncomputable def blkQ (id : Nat) (K : Kx) (e : Ex) (t : Tr AV) (h : AH) (d : Dl) : Ans := match e with
  | .ex id' => bif Nat.beq id' id then K .nrm t h d else K (.ex id') t h d
  | e => K e t h d

noncomputable def condQ (a b : Ans) : Option AV → Ans
  | some (.b x) => bif x then a else b
  | _ => none

noncomputable def cmp (c : Code) : Cq := match c with
  | .skip => .mk (fun _ t h d K => K .nrm t h d)
  | .label _ => .mk (fun _ t h d K => K .nrm t h d)
  | .seq a b => .mk (fun r t h d K => r none n a t h d (thenQ (fun K t h d => r none n b t h d K) K))
  | .cond x a b => .mk (fun r t h d K => condQ (r none n a t h d K) (r none n b t h d K) (rhoQ C.gs t x))
  | .block id b => .mk (fun r t h d K => r none n b t h d (blkQ id K))
  | .loop b => .mk (fun r t h d K => r none n b t h d (thenQ (fun K t h d => r none n (.loop b) t h d K) K))
  | .scope b => .mk (fun r t h d K => r (some b) n b t h d K)
  | .exit id => .mk (fun _ t h d K => K (.ex id) t h d)
  | .goto l => .mk (fun _ t h d K => K (.gt l) t h d)
  | .ret => .mk (fun _ t h d K => K .ret t h d)
  | .region _ ops dr => bif dr then .mk (fun r t h d K => bindX K (drawn C (toRec r) n ops ⟨t, h, d⟩ (plan C.P ops))) else .mk (fun r t h d K => Oq.ap (aopsQ C n ops ops.toList) r t h d (fun t h d => K .nrm t h d))
  | _ => .mk (fun _ _ _ _ _ => none)

noncomputable def labQ (ih : RecQ) (bd : Code) (l : Nat) (t : Tr AV) (h : AH) (d : Dl) (K : Kx) : Option Code → Ans
  | some rest => ih (some bd) n rest t h d K
  | none => K (.gt l) t h d

noncomputable def gotoQ (ih : RecQ) (bd : Code) (K : Kx) (e : Ex) (t : Tr AV) (h : AH) (d : Dl) : Ans := match e with
  | .gt l => labQ n ih bd l t h d K (findLabel bd l)
  | e => K e t h d

noncomputable def stepQ (ih : RecQ) : RecQ := fun sc n c t h d K => match sc with
  | none => Cq.ap (cmp C n c) ih t h d K
  | some bd => ih none n c t h d (gotoQ n ih bd K)

noncomputable def rq : Nat → RecQ := Nat.rec (fun _ _ _ _ _ _ _ => none) (fun _ ih => stepQ C ih)
end

/-! ### It is the same -/

section
variable {C : Cfg} {r : RecQ} {rec : Rec} {n : Nat}

def REq (r : RecQ) (rec : Rec) : Prop := ∀ sc n c t h d K, r sc n c t h d K = bindX K (rec sc n c ⟨t, h, d⟩)

theorem toRec_eq (H : REq r rec) : toRec r = rec := by
  funext sc n c s
  obtain ⟨t, h, d⟩ := s
  refine (H sc n c t h d _).trans ?_
  cases rec sc n c ⟨t, h, d⟩ with
  | none => rfl
  | some y => obtain ⟨e, ⟨t', h', d'⟩⟩ := y; rfl

theorem rhoQ_eq (gs : Nat) (t : Tr AV) : rhoQ gs t = ev gs t := by
  funext x
  cases x <;> rfl

theorem putC_eq (dst : Option Tmp) (v : AV) (t : Tr AV) (h : AH) (d : Dl) (K : Kt) : Dq.ap (putC n dst) v t h d K = bindK K (putT n t h d dst v) := by
  cases dst with
  | none => rfl
  | some x =>
    simp only [putC, putT]
    cases Nat.blt x n <;> rfl

theorem blt_dec (a b : Nat) : Nat.blt a b = decide (a < b) := by
  rw [Bool.eq_iff_iff]
  simp [Nat.blt, Nat.lt_iff_add_one_le]

theorem ltI_eq (a b : Int) : ltI a b = decide (a < b) := by
  cases a with
  | ofNat a =>
    cases b with
    | ofNat b => simp only [ltI, blt_dec]; simp
    | negSucc b => simp only [ltI]; symm; simp; omega
  | negSucc a =>
    cases b with
    | ofNat b => simp only [ltI]; symm; simp; omega
    | negSucc b =>
      simp only [ltI, blt_dec]
      rw [Bool.eq_iff_iff]
      simp
      omega

theorem eqI_eq (a b : Int) : eqI a b = (a == b) := by
  cases a with
  | ofNat a =>
    cases b with
    | ofNat b =>
      simp only [eqI]
      by_cases h : a = b
      · subst h; simp
      · have : ¬ (Int.ofNat a = Int.ofNat b) := by simp; omega
        rw [beq_eq_false_iff_ne.2 this]
        cases hb : Nat.beq a b with
        | true => exact absurd (Nat.eq_of_beq_eq_true hb) h
        | false => rfl
    | negSucc b => simp only [eqI]; symm; simp
  | negSucc a =>
    cases b with
    | ofNat b => simp only [eqI]; symm; simp
    | negSucc b =>
      simp only [eqI]
      by_cases h : a = b
      · subst h; simp
      · have : ¬ (Int.negSucc a = Int.negSucc b) := by simp; omega
        rw [beq_eq_false_iff_ne.2 this]
        cases hb : Nat.beq a b with
        | true => exact absurd (Nat.eq_of_beq_eq_true hb) h
        | false => rfl

theorem leI_eq (a b : Int) : leI a b = decide (a ≤ b) := by
  simp only [leI, ltI_eq]
  rw [Bool.eq_iff_iff]
  simp

theorem wrap_neg {n : Nat} (hn : n < 9223372036854775808) : IntKind.i64.wrap (-(n : Int) - 1) = -(n : Int) - 1 := by
  simp [IntKind.wrap, IntKind.bits, IntKind.signed]
  split <;> omega

theorem wrapQ_eq (k : IntKind) (x : Int) : wrapQ k x = k.wrap x := by
  cases k <;> try rfl
  simp only [wrapQ]
  cases x with
  | ofNat m =>
    simp only [blt_dec]
    by_cases hb : m < 9223372036854775808
    · rw [decide_eq_true hb]
      show Int.ofNat m = IntKind.i64.wrap (Int.ofNat m)
      exact (wrap_nat hb).symm
    · rw [decide_eq_false hb, cond_false]
  | negSucc m =>
    simp only [blt_dec]
    by_cases hb : m < 9223372036854775808
    · rw [decide_eq_true hb]
      have := wrap_neg hb
      have e : Int.negSucc m = -(m : Int) - 1 := by omega
      show Int.negSucc m = IntKind.i64.wrap (Int.negSucc m)
      rw [e]
      exact this.symm
    · rw [decide_eq_false hb, cond_false]

theorem binA_int (P : Program) (bo : BinOp) (ty : TypeId) (k : IntKind) (x y : Int) : binA P bo ty (.i k x) (.i k y) = pureV P (Go.binOp bo ty (.int k x) (.int k y)) := rfl

theorem fastI_eq (P : Program) (bo : BinOp) (ty : TypeId) (k : IntKind) (x y : Int) : Fq.ap (fastI bo) (binA P bo ty (.i k x) (.i k y)) k x y = binA P bo ty (.i k x) (.i k y) := by
  cases bo <;> simp only [fastI] <;> (try rfl)
  all_goals
    rw [binA_int]
    simp only [Fq.ap, addI, subI, wrapQ_eq, ltI_eq, eqI_eq, leI_eq]
    simp [Go.binOp, Op.intArith, Op.intCmp, pureV, runPure, ofVal, ofCell, pure]
  all_goals first | rfl | (simp [bne]; done) | skip

theorem binQ_eq (P : Program) (bo : BinOp) (ty : TypeId) (a c : AV) : binQ P bo ty a c = binA P bo ty a c := by
  unfold binQ
  split
  · rename_i k x k' y
    cases hk : k == k' with
    | false => rfl
    | true =>
      have : k = k' := by simpa using hk
      subst this
      exact fastI_eq P bo ty k x y
  · rfl

theorem oBinQ_eq (P : Program) (h : AH) (bo : BinOp) (ty : TypeId) (a c : Option AV) : oBinQ P h bo ty a c = oBin P h bo ty a c := by
  cases a <;> cases c <;> simp only [oBinQ, oBin, binQ_eq]

theorem opV_eq (P : Program) (gs : Nat) (o : Op) (t : Tr AV) (h : AH) : Vq.ap (opV P gs o) t h = opD P (ev gs t) h o := by
  rw [← rhoQ_eq]
  cases o <;> first | rfl | exact oBinQ_eq _ _ _ _ _ _

theorem bnd_some {β : Type} (k : AV → Option β) (v : AV) : bnd k (some v) = k v := rfl
theorem bnd_none {β : Type} (k : AV → Option β) : bnd k none = none := rfl

theorem endQ_eq (H : REq r rec) (fn : Func) (K : AV → AH → Ans) (x : Option (Ex × St)) :
    bindX (endQ C r fn K) x = bindA K (leave1 C rec (ended fn x)) := by
  have ret : ∀ t h d, retQ C r fn K t h d = bindA K (leave C fn t (defers C rec d h)) := by
    intro t h d
    cases d with
    | nil =>
      simp only [retQ, defers, leave]
      cases results C fn t h <;> rfl
    | cons y l => simp only [retQ, toRec_eq H]
  cases x with
  | none => rfl
  | some y =>
    obtain ⟨e, ⟨t, h, d⟩⟩ := y
    cases e with
    | nrm => exact ret t h d
    | ret => exact ret t h d
    | ex _ => rfl
    | gt _ => rfl

theorem fnQ_eq (H : REq r rec) (args : List AV) (h : AH) (K : AV → AH → Ans) (f : Option Func) : fnQ C r args h K f = bindA K (leave1 C rec (body1 rec args h f)) := by
  cases f with
  | none => rfl
  | some fn =>
    simp only [fnQ, body1]
    cases fn.body with
    | none => rfl
    | some c =>
      simp only [codeQ, bodyF]
      cases hb : Nat.ble args.length fn.ntmps with
      | true =>
        have : Nat.max args.length fn.ntmps = fn.ntmps := Nat.max_eq_right (Nat.le_of_ble_eq_true hb)
        rw [this]
        simp only [cond_true]
        rw [H]
        exact endQ_eq H fn K _
      | false =>
        simp only [cond_false]
        rw [H]
        exact endQ_eq H fn K _

theorem callK_eq (H : REq r rec) (f : Nat) (args : List AV) (h : AH) (K : AV → AH → Ans) : callK C r f args h K (C.spec f) = bindA K (call C rec f args h) := by
  unfold call
  cases C.spec f with
  | some g => rfl
  | none => exact fnQ_eq H args h K _

theorem extQ_eq (H : REq r rec) (t : Tr AV) (h : AH) (d : Dl) (dst : Option Tmp) (f : Nat) (args : List AV) (K : Kt) :
    extQ C r f args h (fun v h' => Dq.ap (putC n dst) v t h' d K) (C.ext f) = bindK K (callE C rec n t h d dst f args (C.ext f)) := by
  cases C.ext f with
  | some g =>
    simp only [extQ, callE]
    cases g args with
    | none => rfl
    | some v => simp only [bnd_some, withH, putR]; exact putC_eq dst v t h d K
  | none =>
    simp only [extQ, callE, callK_eq H]
    cases call C rec f args h with
    | none => rfl
    | some y => obtain ⟨v, h'⟩ := y; simp only [bindA, putR]; exact putC_eq dst v t h' d K

theorem resQ_eq (H : REq r rec) (t : Tr AV) (h : AH) (d : Dl) (dst : Option Tmp) (K : Kt) (x : Option R) : resQ C r (putC n dst) t h d K x = bindK K (opR C rec n t h d dst x) := by
  cases x with
  | none => rfl
  | some R' =>
    cases R' with
    | v x h' => exact putC_eq dst x t h' d K
    | sk h' => exact putC_eq dst _ t h' d K
    | df f args => exact putC_eq dst _ t h _ K
    | call f args => exact extQ_eq H t h d dst f args K

theorem opQ_eq (H : REq r rec) (ops : Array Oper) (o : Oper) (t : Tr AV) (h : AH) (d : Dl) (K : Kt) : Oq.ap (opQ C n ops o) r t h d K = bindK K (opW C rec n ops o ⟨t, h, d⟩) := by
  obtain ⟨dst, op, type, pos, after, guard⟩ := o
  cases guard with
  | some g => simp only [opQ, slowQ, Oq.ap, toRec_eq H]
  | none =>
    have go : Oq.ap (goQ C op (opV C.P C.gs op) (putC n dst)) r t h d K = bindK K (opW C rec n ops ⟨dst, op, type, pos, after, none⟩ ⟨t, h, d⟩) := by
      simp only [goQ, Oq.ap, resQ_eq H, opV_eq, rhoQ_eq]
      rfl
    have mv : ∀ y, (op = .move y ∨ op = .assign y) → Oq.ap (mvQ C y (putC n dst)) r t h d K = bindK K (opW C rec n ops ⟨dst, op, type, pos, after, none⟩ ⟨t, h, d⟩) := by
      intro y hy
      rw [← go]
      simp only [goQ, mvQ, Oq.ap]
      have e : Vq.ap (opV C.P C.gs op) t h = o1 h (rhoQ C.gs t y) := by rcases hy with rfl | rfl <;> rfl
      rw [e]
      cases rhoQ C.gs t y with
      | none => rcases hy with rfl | rfl <;> rfl
      | some v => rfl
    cases op with
    | move y => exact mv y (.inl rfl)
    | assign y => exact mv y (.inr rfl)
    | _ => exact go

theorem aopsQ_eq (H : REq r rec) (ops : Array Oper) : ∀ (l : List Oper) (t : Tr AV) (h : AH) (d : Dl) (K : Kt), Oq.ap (aopsQ C n ops l) r t h d K = bindK K (aops C rec n ops l ⟨t, h, d⟩)
  | [], _, _, _, _ => rfl
  | o :: l, t, h, d, K => by
    show Oq.ap (opQ C n ops o) r t h d (fun t h d => Oq.ap (aopsQ C n ops l) r t h d K) = _
    rw [opQ_eq H]
    simp only [aops]
    cases opW C rec n ops o ⟨t, h, d⟩ with
    | none => rfl
    | some s => obtain ⟨t', h', d'⟩ := s; exact aopsQ_eq H ops l t' h' d' K

theorem cmp_eq (H : REq r rec) (c : Code) (t : Tr AV) (h : AH) (d : Dl) (K : Kx) : Cq.ap (cmp C n c) r t h d K = bindX K (stepD C rec n c ⟨t, h, d⟩) := by
  have thq : ∀ b x, bindX (thenQ (fun K t h d => r none n b t h d K) K) x = bindX K (thn rec n b x) := by
    intro b x
    cases x with
    | none => rfl
    | some y =>
      obtain ⟨e, ⟨t', h', d'⟩⟩ := y
      cases e with
      | nrm => exact H _ _ _ _ _ _ _
      | _ => rfl
  cases c with
  | seq a b => show r none n a t h d _ = _; rw [H]; exact thq b _
  | cond x a b =>
    show condQ (r none n a t h d K) (r none n b t h d K) (rhoQ C.gs t x) = bindX K (brn rec n a b ⟨t, h, d⟩ (asB (ev C.gs t x)))
    rw [rhoQ_eq, H, H]
    cases ev C.gs t x with
    | none => rfl
    | some v =>
      cases v <;> try rfl
      rename_i y
      cases y <;> rfl
  | block id b =>
    show r none n b t h d _ = bindX K (blk id (rec none n b ⟨t, h, d⟩))
    rw [H]
    cases rec none n b ⟨t, h, d⟩ with
    | none => rfl
    | some y =>
      obtain ⟨e, ⟨t', h', d'⟩⟩ := y
      cases e with
      | ex id' =>
        simp only [bindX, blkQ, blk]
        cases Nat.beq id' id <;> rfl
      | _ => rfl
  | loop b => show r none n b t h d _ = _; rw [H]; exact thq (.loop b) _
  | scope b => exact H _ _ _ _ _ _ _
  | region id ops dr =>
    cases dr with
    | true =>
      show bindX K (drawn C (toRec r) n ops ⟨t, h, d⟩ (plan C.P ops)) = _
      rw [toRec_eq H]
      rfl
    | false =>
      show Oq.ap (aopsQ C n ops ops.toList) r t h d (fun t h d => K .nrm t h d) = bindX K (nrm (aops C rec n ops ops.toList ⟨t, h, d⟩))
      rw [aopsQ_eq H]
      cases aops C rec n ops ops.toList ⟨t, h, d⟩ with
      | none => rfl
      | some s => obtain ⟨t', h', d'⟩ := s; rfl
  | _ => rfl

theorem stepQ_eq (H : REq r rec) : REq (stepQ C r) (stepC C rec) := by
  intro sc n c t h d K
  cases sc with
  | none => exact cmp_eq H c t h d K
  | some bd =>
    show r none n c t h d (gotoQ n r bd K) = bindX K (scp rec n bd (rec none n c ⟨t, h, d⟩))
    rw [H]
    cases rec none n c ⟨t, h, d⟩ with
    | none => rfl
    | some y =>
      obtain ⟨e, ⟨t', h', d'⟩⟩ := y
      cases e with
      | gt l =>
        simp only [bindX, gotoQ, scp]
        cases findLabel bd l with
        | none => rfl
        | some rest => exact H _ _ _ _ _ _ _
      | _ => rfl

theorem rq_eq (C : Cfg) : ∀ f, REq (rq C f) (run C f)
  | 0 => fun _ _ _ _ _ _ _ => rfl
  | f + 1 => stepQ_eq (rq_eq C f)

/-- The quick executor's answer is the executor's. -/
noncomputable def runQ (C : Cfg) (f n : Nat) (c : Code) : St → Option (Ex × St)
  | ⟨t, h, d⟩ => rq C f none n c t h d (fun e t h d => some (e, ⟨t, h, d⟩))

theorem runQ_eq (C : Cfg) (f n : Nat) (c : Code) (s : St) : runQ C f n c s = run C f none n c s := by
  obtain ⟨t, h, d⟩ := s
  simp only [runQ, rq_eq C f none n c t h d]
  cases run C f none n c ⟨t, h, d⟩ with
  | none => rfl
  | some y => obtain ⟨e, ⟨t', h', d'⟩⟩ := y; rfl

noncomputable def runsQ (C : Cfg) (f n : Nat) : List Code → St → Option (Ex × St)
  | [], s => some (.nrm, s)
  | c :: r, s => thenR (runsQ C f n r) (runQ C f n c s)

theorem runsQ_eq (C : Cfg) (f n : Nat) : ∀ (l : List Code) (s : St), runsQ C f n l s = runs C f n l s
  | [], _ => rfl
  | c :: l, s => by
    have : runsQ C f n l = runs C f n l := funext fun s => runsQ_eq C f n l s
    simp only [runsQ, runs, runQ_eq, this]

/-- A run along some pieces, up to a checkpoint. -/
theorem chain_cutQ {σ : Sg} (G : Good C σ) {f : Nat} {l : List Code} {s s2 : St} {x : Ex} (ts hs : List Nat) (h : forgetO ts hs (runsQ C f n l s) = some (x, s2)) : Chain C σ n l s (x, s2) :=
  chain_cut G ts hs (by rw [← runsQ_eq]; exact h)
end
theorem goes_cfg {σ : Sg} {n P om om' gs sp ex sp' ex'} {c : Code} {s : St} {y : Ex × St} (h : Goes ⟨P, om, gs, sp, ex⟩ σ n c s y) : Goes ⟨P, om', gs, sp', ex'⟩ σ n c s y := h

theorem chain_cfg {σ : Sg} {C C' : Cfg} {n : Nat} (hP : C.P = C'.P) (hg : C.gs = C'.gs) : ∀ {l : List Code} {s : St} {y : Ex × St}, Chain C σ n l s y → Chain C' σ n l s y := by
  obtain ⟨P, om, gs, sp, ex⟩ := C
  obtain ⟨P', om', gs', sp', ex'⟩ := C'
  simp only at hP hg
  subst hP hg
  intro l s y h
  induction h with
  | nil u => exact .nil u
  | cons g _ ih => exact .cons (goes_cfg g) ih
  | stop hx g => exact .stop hx (goes_cfg g)

end Go.Ae
