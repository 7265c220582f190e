/- A part of the proof of the law of TopShown: AeCh, AeLi, XT. -/
import Derived.Test.YtlclnngcnkepjaaGreatDoorQ6
import Derived.Deep.QuietTactic
import Derived.BigQuiet
import Derived.Test.YtlclnngcnkepjaaGreatDoorQ4
import Derived.Test.YtlclnngcnkepjaaGreatDoorQK
namespace Go.Ae.Tot
open Go Go.Proofs Go.RowKit Go.Maps

def RA : Value → Option (DataW Value × List MemPlace) := fun v => some (.held v, [])
theorem RA_inv (v : Value) (y : DataW Value × List MemPlace) (_h : RA v = some y) : ∃ x : Value, v = id x := ⟨v, rfl⟩

theorem chg_nil (sb kb : Nat) (key : ByteArray) (at_ : Int) (w : World) (c3 : w.cell? ⟨sb, 3, none⟩ = some (.map (some kb))) (hrun : (Instr.lookup 140 (.map (some kb)) (.string key) false).run Tryz.prog w = .ok (.slice none 0 0) w) :
    Calls Tryz.prog 176 #[.pointer (some ⟨sb, 0, none⟩), .string key, .int .i64 at_] w fun e w' => e = .returned (.bool false) ∧ w = w' := by
  go_enter Tryz.func176, Tryz.ntmps176
  go_wp2
  go_ret
  exact ⟨rfl, rfl⟩

set_option maxRecDepth 100000 in
set_option maxHeartbeats 400000 in
theorem chg_row (sb kb g o n cap : Nat) (key : ByteArray) (at_ st : Int) (w : World) (c3 : w.cell? ⟨sb, 3, none⟩ = some (.map (some kb))) (hn : n ≤ 1000000)
    (hrun : (Instr.lookup 140 (.map (some kb)) (.string key) false).run Tryz.prog w = .ok (.slice (some ⟨g, o, none⟩) (n + 1) cap) w) (c4 : w.cell? ⟨g, o + n * 4 + 3, none⟩ = some (.int .i64 st)) (hst : st ≤ at_) :
    Calls Tryz.prog 176 #[.pointer (some ⟨sb, 0, none⟩), .string key, .int .i64 at_] w fun e w' => e = .returned (.bool false) ∧ w = w' := by
  go_enter Tryz.func176, Tryz.ntmps176
  go_wp2

  go_ret
  exact ⟨by show Ending.returned (.bool (decide (at_ < st))) = _; rw [decide_eq_false (by omega)], rfl⟩

theorem ranges_drewN {P : Program} {k : TypeId} {R : Value → Option (DataW Value × List MemPlace)} {w : World} {b r n : Nat} {D : DataW Value} {left : Lit → Bool} {cnt : Nat} (h : w.ranges P k R b r n D left cnt) (q : Nat) : (w.drewN q).ranges P k R b r n D left cnt := by
  unfold World.ranges at h ⊢
  exact h
theorem rangeLeft_drewN (w : World) (b r q : Nat) : (w.drewN q).rangeLeft b r = w.rangeLeft b r := rfl

theorem below_cell {w w' : World} (h : Below w.heap.size w w') {p : Addr} {v : Value} (hv : w.cell? p = some v) : w'.cell? p = some v := by
  unfold World.cell? at hv ⊢
  cases hb : w.heap[p.block]? with
  | none => rw [hb] at hv; cases hv
  | some o => rw [h.block _ (Array.getElem?_eq_some_iff.1 hb).1]; exact hv

set_option maxRecDepth 100000 in
set_option maxHeartbeats 800000 in
theorem changed_any {tb sb mb : Nat} {at_ : Int} {D : DataW Value} {w : World} (c0 : w.cell? ⟨tb, 0, none⟩ = some (.pointer (some ⟨sb, 0, none⟩))) (c9 : w.cell? ⟨tb, 9, none⟩ = some (.int .i64 at_)) (c11 : w.cell? ⟨tb, 11, none⟩ = some (.map (some mb)))
    (hown : w.ownsMap Tryz.prog 9 RA mb (Maps.size D) D)
    (hc : ∀ (x : ByteArray), Maps.has D (kl x) = true → ∀ w', Below w.heap.size w w' → Calls Tryz.prog 176 #[.pointer (some ⟨sb, 0, none⟩), .string x, .int .i64 at_] w' fun e w'' => e = .returned (.bool false) ∧ w' = w'') :
    Calls Tryz.prog 142 #[.pointer (some ⟨tb, 0, none⟩)] w fun e w' => e = .returned (.bool false) ∧ Below w.heap.size w w' := by
  go_enter Tryz.func142, Tryz.ntmps142
  go_wp2_with (at_range; refine wpList_range_own _ rfl _ 195 rfl 9 238 law9 (by kernel_rfl) RA mb (Maps.size D) D rfl hown ?_; intro w0 hrg0 hg0 hs0)
  go_frame
  have hnx0 : Below w.heap.size w w0 := (Below.refl _ _).grown hg0 (Nat.le_refl _) (by simp)
  clear hs0
  go_loopw [3] (fun _ wr => ∃ left cnt, wr.ranges Tryz.prog 9 RA mb w.heap.size (Maps.size D) D left cnt ∧ Below w.heap.size w wr) (fun _ wr => wr.rangeLeft mb w.heap.size)
  case atStart => exact ⟨_, _, hrg0, hnx0⟩
  case round =>
    obtain ⟨left, cnt, hrg, hnx⟩ := hrel
    go_wp2_with (first
      | (at_next; refine wpList_next_ranges _ rfl _ rfl 9 law9 RA Value.string (id : Value → Value) invK9 RA_inv mb w.heap.size (Maps.size D) D left cnt rfl hrg ?_ ?_))
    · intro _ hl0
      go_wp2
      go_ret
      exact ⟨rfl, hnx⟩
    · intro x c l yd yp w1 cnt1 hkey hlk hR hat hrg1 hlt hg1 hs1 hen
      obtain ⟨rfl, hx⟩ := lit9 hkey
      have hnx1 : Below w.heap.size w w1 := hnx.grown hg1 hnx.size (by intro j hj; cases hj; exact Nat.le_refl _)
      have d0 := below_cell hnx1 c0
      have d9 := below_cell hnx1 c9
      have hnx2 : ∀ n, Below w.heap.size w (w1.drewN n) := fun n => ⟨hnx1.os, hnx1.tape, hnx1.output, hnx1.size, hnx1.block⟩
      have hcall : ∀ n, Calls Tryz.prog 176 #[.pointer (some ⟨sb, 0, none⟩), .string x, .int .i64 at_] (w1.drewN n) fun e w'' => e = .returned (.bool false) ∧ w'' = w1.drewN n := fun n => (hc x (Maps.has_true_of_atKey hat) _ (hnx2 n)).mono fun _ _ h => ⟨h.1, h.2.symm⟩
      have hl2 : wr.rangeLeft mb w.heap.size = cnt := hrg.left_eq
      have hl3 : w1.rangeLeft mb w.heap.size = cnt1 := hrg1.left_eq
      have HL := Lib.hid hl2
      have HL3 := Lib.hid hl3
      clear hl2 hl3 hs1 hat hR hkey hc c0 c9 c11
      go_wp2
      go_quiet ((go_at_call 176; exact Calls.quiet_of_same (hcall _)))
      go_wp2
      go_roundw
      case rel => exact ⟨_, cnt1, ranges_drewN hrg1 _, hnx2 _⟩
      case measure => rw [HL.out, rangeLeft_drewN, HL3.out]; exact hlt
end Go.Ae.Tot
namespace Go.Ae
open Go Go.Proofs Go.WideElems Go.RowKit Go.Maps

/-- Whether a key's newest row is no newer than a stamp. -/
noncomputable def chg1 (h : AH) (at_ : Int) : Option AV → Bool
  | some .sn => true
  | some (.so n o _ (len + 1)) => match loadC h n (o + len * 4 + 3) 1 with
    | some [.i .i64 st] => Nat.ble len 1000000 && !(ltI at_ st)
    | _ => false
  | _ => false

noncomputable def chgKeys (h : AH) (kk : Nat) (at_ : Int) : List (List UInt8) → Bool
  | [] => true
  | k :: r => chg1 h at_ (look Tryz.prog 140 h (.m kk) (.s k) false) && chgKeys h kk at_ r

noncomputable def chgM (h : AH) (kk : Nat) (at_ : Int) (es : List AE) (cl : Nat) : Option (List (List UInt8)) → Bool
  | some ks => bornsOk cl es && (keysOk ks && (Nat.ble ks.length 1000 && chgKeys h kk at_ ks))
  | none => false

noncomputable def chgS (h : AH) (at_ : Int) (es : List AE) (cl : Nat) : Option (List AV) → Bool
  | some [.m kk] => chgM h kk at_ es cl (keysOf es)
  | _ => false

noncomputable def chgT (h : AH) (sb : Nat) (at_ : Int) : Option AB → Bool
  | some (.m es cl) => chgS h at_ es cl (loadC h sb 3 1)
  | _ => false

noncomputable def chgA (h : AH) : Option (List AV) → Bool
  | some [.p sb so, _, _, _, _, _, _, _, _, .i .i64 at_, _, .m k] => Nat.beq so 0 && chgT h sb at_ (h.get k)
  | _ => false

noncomputable def specChanged : List AV → AH → Option (AV × AH)
  | [.p n o], h => bif Nat.beq o 0 && chgA h (loadC h n 0 12) then some (.b false, h) else none
  | _, _ => none

theorem chgKeys_spec {h : AH} {kk : Nat} {at_ : Int} {ks : List (List UInt8)} (hc : chgKeys h kk at_ ks = true) : ∀ k ∈ ks, chg1 h at_ (look Tryz.prog 140 h (.m kk) (.s k) false) = true := by
  induction ks with
  | nil => intro k hk; cases hk
  | cons x r ih =>
    unfold chgKeys at hc
    rw [Bool.and_eq_true] at hc
    intro k hk
    rcases List.mem_cons.1 hk with e | hk
    · rw [e]; exact hc.1
    · exact ih hc.2 k hk

theorem fit_ra {es : Array MapEntry} {cl : Nat} (F : Fit Tryz.prog 9 noElem es cl) : Fit Tryz.prog 9 Tot.RA es cl :=
  ⟨F.size, F.stamped, fun x hx => by
    obtain ⟨y, hy⟩ := F.reads x hx
    exact ⟨_, rd_mk (born := x.born) (rd_key hy) rfl⟩⟩

theorem has_key {es : Array MapEntry} {cl : Nat} {ks : List (List UInt8)} (hk : es.toList.map (·.key) = ks.map encStr) (F : Fit Tryz.prog 9 Tot.RA es cl) {x : ByteArray}
    (hh : Maps.has (DataW.map ((es.toList.map (rg Tryz.prog 9 Tot.RA)).foldr DataW.insert [])) (Tot.kl x) = true) : x.data.toList ∈ ks := by
  obtain ⟨p, hp, hs⟩ := List.any_eq_true.1 hh
  have hpe := WideAt.sameKey_eq hs
  obtain ⟨y, hy, rfl⟩ := List.mem_map.1 (mem_sorted.1 hp)
  obtain ⟨z, hz⟩ := F.reads y hy
  have hkey := rd_key hz
  rw [rg_of hz] at hpe
  rw [hpe] at hkey
  obtain ⟨s, e1, e2, _⟩ := Maps.keyOf_str Tryz.underlying9 hkey
  have hm : y.key ∈ ks.map encStr := by rw [← hk]; exact List.mem_map_of_mem hy
  obtain ⟨k, hk1, hk2⟩ := List.mem_map.1 hm
  rw [e1] at hk2
  have := encStr_inj hk2
  subst this
  have e3 : Lit.string x.data.toList = .string k := e2
  cases e3
  exact hk1

theorem changed_ok {σ : Sg} : SpecOk σ 142 specChanged := by
  intro args h v h' hg ν w cs hh ha
  unfold specChanged at hg
  split at hg
  rotate_left
  · cases hg
  rename_i n o
  cases hc : (Nat.beq o 0 && chgA h (loadC h n 0 12)) with
  | false => rw [hc] at hg; cases hg
  | true =>
    rw [hc] at hg
    simp only [cond_true, Option.some.injEq, Prod.mk.injEq] at hg
    obtain ⟨rfl, rfl⟩ := hg
    simp only [Bool.and_eq_true] at hc
    obtain ⟨o0, hc⟩ := hc
    have := Nat.eq_of_beq_eq_true o0
    subst this
    unfold chgA at hc
    split at hc
    rotate_left
    · cases hc
    rename_i sb so x1 x2 x3 x4 x5 x6 x7 x8 at_ x10 k hl
    simp only [Bool.and_eq_true] at hc
    obtain ⟨s0, hc⟩ := hc
    have := Nat.eq_of_beq_eq_true s0
    subst this
    unfold chgT at hc
    split at hc
    rotate_left
    · cases hc
    rename_i es cl hk
    unfold chgS at hc
    split at hc
    rotate_left
    · cases hc
    rename_i kk hkk
    cases hks : keysOf es with
    | none => rw [hks] at hc; cases hc
    | some ks =>
      rw [hks] at hc
      simp only [chgM, Bool.and_eq_true] at hc
      obtain ⟨k1, k2, k3, k4⟩ := hc
      obtain ⟨_, _, ⟨et, het, rfl⟩, rfl, rfl⟩ := ha
      obtain ⟨tcs, t1, t2, t3⟩ := loadC_rel hh hl het
      obtain ⟨_, _, ⟨es_, hes_, rfl⟩, ⟨_, _, _, ⟨_, _, _, ⟨_, _, _, ⟨_, _, _, ⟨_, _, _, ⟨_, _, _, ⟨_, _, _, ⟨_, _, _, ⟨_, _, rfl, ⟨_, _, _, ⟨_, _, ⟨em, hem, rfl⟩, rfl, rfl⟩, rfl⟩, rfl⟩, rfl⟩, rfl⟩, rfl⟩, rfl⟩, rfl⟩, rfl⟩, rfl⟩, rfl⟩, rfl⟩ := t1
      have c0 := t3 0 _ rfl
      have c9 := t3 9 _ rfl
      have c11 := t3 11 _ rfl
      obtain ⟨em', om, m1, m2, m3⟩ := hh.dom k _ hk
      rw [hem] at m1
      cases m1
      cases om <;> simp only [brel] at m3
      rename_i ces ccl
      obtain ⟨rfl, m3⟩ := m3
      obtain ⟨e1, e2⟩ := erels_keys m3 (keysOf_spec hks)
      have F := fit_ra (fit_of e1 (by rw [e2]; exact borns_spec k1) (keys_spec k2) (Nat.le_of_ble_eq_true k3))
      have hown : w.ownsMap Tryz.prog 9 Tot.RA em.b (Maps.size (DataW.map ((ces.toList.map (rg Tryz.prog 9 Tot.RA)).foldr DataW.insert []))) (DataW.map ((ces.toList.map (rg Tryz.prog 9 Tot.RA)).foldr DataW.insert [])) :=
        ⟨ces, _, m2, F, by rw [Maps.size_eq, (Go.WideShapes.sorted_perm _).length_eq]; simp, rfl⟩
      refine (Tot.changed_any (tb := et.b) (sb := es_.b) (at_ := at_) c0 c9 c11 hown ?_).mono ?_
      · intro x hx w' hB
        obtain ⟨x1, _⟩ := ext_same hh hB.block hB.size (Keeps.of_below hB (Nat.le_refl _))
        have hin := has_key e1 F hx
        have hch := chgKeys_spec k4 _ hin
        obtain ⟨scs, u1, u2, u3⟩ := loadC_rel x1 hkk hes_
        obtain ⟨_, _, ⟨ek, hek, rfl⟩, rfl, rfl⟩ := u1
        have d3 := u3 0 _ rfl
        have ex : (ByteArray.mk x.data.toList.toArray) = x := by cases x; simp
        cases hlk : look Tryz.prog 140 h (.m kk) (.s x.data.toList) false with
        | none => rw [hlk] at hch; simp [chg1] at hch
        | some u =>
          rw [hlk] at hch
          have hm : vrel σ ν (.m kk) (.map (some ek.b)) := ⟨ek, hek, rfl⟩
          have hkv : vrel σ ν (.s x.data.toList) (.string x) := by show Value.string x = _; rw [ex]
          obtain ⟨c, g1, g2⟩ := look_rel x1 hm hkv hlk
          unfold chg1 at hch
          split at hch
          · rename_i hu
            cases hu
            have : c = _ := g1
            subst this
            exact Tot.chg_nil es_.b ek.b x at_ w' d3 g2
          · rename_i nn oo ee len hu
            cases hu
            split at hch
            rotate_left
            · cases hch
            rename_i st hst
            simp only [Bool.and_eq_true, ltI_eq, Bool.not_eq_true', decide_eq_false_iff_not] at hch
            obtain ⟨er, her, _, rfl⟩ := g1
            obtain ⟨rcs, r1, _, r3⟩ := loadC_rel x1 hst her
            obtain ⟨_, _, rfl, rfl, rfl⟩ := r1
            exact Tot.chg_row es_.b ek.b er.b oo len _ x at_ st w' d3 (Nat.le_of_ble_eq_true hch.1) g2 (r3 0 _ rfl) (by omega)
          · cases hch
      · rintro e w' ⟨rfl, hB⟩
        obtain ⟨x1, x2⟩ := ext_same hh hB.block hB.size (Keeps.of_below hB (Nat.le_refl _))
        exact ⟨_, ν, rfl, x2, x1, rfl⟩
end Go.Ae
namespace Go.Ae
open Go

/-- How many rows of bytes there are; how long they are together, at least and at most. -/
structure Bd where
  m : Nat
  lo : Nat
  hi : Nat

noncomputable def insN (k : Nat) : List Nat → List Nat
  | [] => [k]
  | x :: r => bif Nat.ble k x then k :: x :: r else x :: insN k r

noncomputable def mergeN : List Nat → List Nat → List Nat
  | [], l => l
  | x :: r, l => mergeN r (insN x l)

noncomputable def memN (x : Nat) : List Nat → Bool
  | [] => false
  | y :: l => bif Nat.beq x y then true else memN x l

noncomputable def delN (x : Nat) : List Nat → List Nat
  | [] => []
  | y :: l => bif Nat.beq x y then l else y :: delN x l

/-- What stands on both sides goes. -/
noncomputable def cancelN : List Nat → List Nat → List Nat × List Nat
  | [], m => ([], m)
  | x :: l, m => bif memN x m then cancelN l (delN x m) else (x :: (cancelN l m).1, (cancelN l m).2)

noncomputable def subL : List Nat → List Nat → Bool
  | [], _ => true
  | _ :: _, [] => false
  | x :: l, y :: r => bif Nat.beq x y then subL l r else subL (x :: l) r

/-- Each row at most once. -/
noncomputable def okN (B : Bd) (l : List Nat) : Bool := subL l (List.range B.m)

noncomputable def upN (B : Bd) : List Nat → Nat
  | [] => 0
  | _ => B.hi

noncomputable def dnN (B : Bd) (l : List Nat) : Nat := bif Nat.beq l.length B.m then B.lo else l.length

noncomputable def mkLn (a : Int) (l : List Nat) : AV := match l with
  | [] => .i .i64 a
  | _ => .ln a l 0 0

/-- How many cells; which rows. -/
noncomputable def wG : List AV → Nat → List Nat → Option (Nat × List Nat)
  | [], n, l => some (n, l)
  | .g k :: r, n, l => wG r n (insN k l)
  | .z _ :: _, _, _ => none
  | _ :: r, n, l => wG r (Nat.succ n) l

noncomputable def lnO : AV → Option (Int × List Nat)
  | .ln a l 0 0 => some (a, l)
  | .i .i64 a => some (a, [])
  | _ => none

noncomputable def near (B : Bd) (a : Int) (l : List Nat) : Bool := okN B l && ltI (-1000000) a && ltI a 1000000 && Nat.ble B.hi 1000000000000000

noncomputable def cmpI (bo : BinOp) (lo hi : Int) : Option AV := match bo with
  | .lss => bif ltI hi 0 then some (.b true) else bif ltI lo 0 then none else some (.b false)
  | .geq => bif ltI hi 0 then some (.b false) else bif ltI lo 0 then none else some (.b true)
  | .gtr => bif ltI 0 lo then some (.b true) else bif ltI 0 hi then none else some (.b false)
  | .leq => bif ltI 0 lo then some (.b false) else bif ltI 0 hi then none else some (.b true)
  | .eql => bif ltI 0 lo || ltI hi 0 then some (.b false) else bif eqI lo 0 && eqI hi 0 then some (.b true) else none
  | .neq => bif ltI 0 lo || ltI hi 0 then some (.b true) else bif eqI lo 0 && eqI hi 0 then some (.b false) else none
  | _ => none

noncomputable def cmpN (B : Bd) (bo : BinOp) (d : Int) (l m : List Nat) : Option AV :=
  bif okN B l && okN B m then cmpI bo (d + dnN B l - upN B m) (d + upN B l - dnN B m) else none

noncomputable def subN (B : Bd) (d : Int) (l m : List Nat) : Option AV := match m with
  | [] => bif near B d l then some (mkLn d l) else none
  | _ => none

/-- A number is not below 0, and below a bound. -/
noncomputable def below (B : Bd) (a : Int) (l : List Nat) (b : Int) : Bool := okN B l && ltI (-1) (a + dnN B l) && ltI (a + upN B l) b

noncomputable def obN (B : Bd) (bo : BinOp) (a : Int) (l : List Nat) (b : Int) (m : List Nat) : Option AV := match bo with
  | .add => bif near B (a + b) (mergeN l m) then some (mkLn (a + b) (mergeN l m)) else none
  | .sub => subN B (a - b) (cancelN l m).1 (cancelN l m).2
  | bo => cmpN B bo (a - b) (cancelN l m).1 (cancelN l m).2

noncomputable def shrN (B : Bd) (a : Int) (l : List Nat) : Int → Option AV
  | .ofNat 0 => bif below B a l 1000000 then some (.ln a l 0 0) else none
  | .ofNat 8 => bif below B a l 256 then some (.i .i64 0) else bif below B a l 1000000 then some (.ln a l 0 1) else none
  | .ofNat 16 => bif below B a l 65536 then some (.i .i64 0) else none
  | _ => none

noncomputable def obG (B : Bd) (bo : BinOp) (x y : AV) : Option AV := match bo with
  | .shr => match x, y with
    | .ln a l 0 0, .i _ n => shrN B a l n
    | _, _ => none
  | .shl => match x, y with
    | .ln a l 2 1, .i _ (.ofNat 8) => bif below B a l 65536 then some (.ln a l 3 1) else none
    | _, _ => none
  | .or => match x, y with
    | .i .i64 (.ofNat 0), .ln a l 2 k => some (.ln a l 2 k)
    | .ln a l 3 1, .ln b m 2 0 => bif eqI a b && l == m && below B a l 1000000 then some (.ln a l 0 0) else none
    | _, _ => none
  | bo => match lnO x, lnO y with
    | some p, some q => obN B bo p.1 p.2 q.1 q.2
    | _, _ => none

noncomputable def ocG (P : Program) (s d : TypeId) (x : AV) : Option AV := match P.underlying s, P.underlying d, x with
  | some _, some (.int .u8), .ln a l 0 k => some (.ln a l 1 k)
  | some _, some (.int .i64), .ln a l 1 k => some (.ln a l 2 k)
  | _, _, _ => none

noncomputable def rlG1 (B : Bd) : Option (Nat × List Nat) → Option AV
  | some (n, l) => bif near B n l then some (mkLn n l) else none
  | none => none

noncomputable def rlG (B : Bd) (l : List AV) : Option AV := rlG1 B (wG l 0 [])

noncomputable def rnG (B : Bd) (l : List AV) : Bool := l.any fun v => match v with
  | .z _ => false
  | .g k => Nat.blt k B.m
  | _ => true

noncomputable def rzG1 (B : Bd) : Option (Nat × List Nat) → Bool
  | some (n, l) => okN B l && Nat.ble (n + B.hi) room
  | none => false

noncomputable def rzG (B : Bd) (l : List AV) : Bool := rzG1 B (wG l 0 [])

/-- The oracle of lengths. -/
noncomputable def lengths (P : Program) (B : Bd) : Or := ⟨fun bo _ x y => obG B bo x y, fun _ _ => none, ocG P, rlG B, rnG B, rzG B, fun _ _ => none, fun _ => none, fun _ => none⟩
-- DEFS END

/-- The bounds hold. -/
structure BdOk (σ : Sg) (B : Bd) : Prop where
  pos : ∀ k, k < B.m → 1 ≤ (σ.g k).length
  lo : B.lo ≤ sumG σ (List.range B.m)
  hi : sumG σ (List.range B.m) ≤ B.hi

section
variable {σ : Sg} {ν : Nu} {B : Bd}

theorem sumG_insN (k : Nat) : ∀ l, sumG σ (insN k l) = (σ.g k).length + sumG σ l
  | [] => rfl
  | x :: r => by
    unfold insN
    cases Nat.ble k x with
    | true => rfl
    | false => simp only [cond_false, sumG, sumG_insN k r]; omega

theorem sumG_mergeN : ∀ l m, sumG σ (mergeN l m) = sumG σ l + sumG σ m
  | [], m => by simp [mergeN, sumG]
  | x :: r, m => by simp only [mergeN, sumG_mergeN r, sumG_insN, sumG]; omega

theorem sumG_delN {x : Nat} : ∀ {l : List Nat}, memN x l = true → sumG σ l = (σ.g x).length + sumG σ (delN x l)
  | [], h => by simp [memN] at h
  | y :: l, h => by
    unfold memN at h
    unfold delN
    cases hc : Nat.beq x y with
    | true => rw [Nat.eq_of_beq_eq_true hc]; rfl
    | false =>
      rw [hc] at h
      simp only [cond_false] at h ⊢
      simp only [sumG, sumG_delN h]
      omega

theorem sumG_cancel : ∀ l m, sumG σ l + sumG σ (cancelN l m).2 = sumG σ m + sumG σ (cancelN l m).1
  | [], m => by simp [cancelN, sumG]
  | x :: l, m => by
    unfold cancelN
    cases hc : memN x m with
    | true =>
      have h1 := sumG_cancel l (delN x m)
      have h2 := sumG_delN (σ := σ) hc
      simp only [cond_true, sumG]
      omega
    | false =>
      have h1 := sumG_cancel l m
      simp only [cond_false, sumG]
      omega

theorem subL_sub : ∀ {l r : List Nat}, subL l r = true → l.Sublist r
  | [], r, _ => List.nil_sublist r
  | _ :: _, [], h => by simp [subL] at h
  | x :: l, y :: r, h => by
    unfold subL at h
    cases hc : Nat.beq x y with
    | true =>
      rw [hc] at h
      rw [Nat.eq_of_beq_eq_true hc]
      exact (subL_sub h).cons_cons _
    | false =>
      rw [hc] at h
      exact (subL_sub h).cons _

theorem sumG_sub {l r : List Nat} (h : l.Sublist r) : sumG σ l ≤ sumG σ r := by
  induction h with
  | slnil => exact Nat.le_refl _
  | cons a _ ih => simp only [sumG]; omega
  | cons_cons a _ ih => simp only [sumG]; omega

theorem sumG_len (b : BdOk σ B) : ∀ {l : List Nat}, (∀ k ∈ l, k < B.m) → l.length ≤ sumG σ l
  | [], _ => Nat.zero_le _
  | x :: l, h => by
    have h1 := b.pos x (h x (by simp))
    have h2 := sumG_len b (l := l) fun k hk => h k (by simp [hk])
    simp only [sumG, List.length_cons]
    omega

theorem ok_up (b : BdOk σ B) {l : List Nat} (h : okN B l = true) : sumG σ l ≤ upN B l := by
  cases l with
  | nil => exact Nat.le_refl _
  | cons x l => exact Nat.le_trans (sumG_sub (subL_sub h)) b.hi

theorem ok_dn (b : BdOk σ B) {l : List Nat} (h : okN B l = true) : dnN B l ≤ sumG σ l := by
  have hs := subL_sub h
  unfold dnN
  cases hc : Nat.beq l.length B.m with
  | true =>
    have := Nat.eq_of_beq_eq_true hc
    have e := hs.eq_of_length (by rw [List.length_range]; exact this)
    rw [e]
    exact b.lo
  | false => exact sumG_len b fun k hk => List.mem_range.1 (hs.mem hk)

theorem up_le (l : List Nat) : upN B l ≤ B.hi := by
  cases l with
  | nil => exact Nat.zero_le _
  | cons => exact Nat.le_refl _

theorem mkLn_rel (a : Int) (l : List Nat) : vrel σ ν (mkLn a l) (.int .i64 (a + sumG σ l)) := by
  cases l with
  | nil => show _ = _; simp [sumG]
  | cons x r => show _ = _; simp [lnV]

theorem lnO_rel {x : AV} {a : Int} {l : List Nat} {c : Value} (h : lnO x = some (a, l)) (hx : vrel σ ν x c) : c = .int .i64 (a + sumG σ l) := by
  unfold lnO at h
  split at h
  · cases h
    have : c = _ := hx
    rw [this]
    simp [lnV]
  · cases h
    have : c = _ := hx
    rw [this]
    simp [sumG]
  · cases h

theorem near_spec (b : BdOk σ B) {a : Int} {l : List Nat} (h : near B a l = true) : -1000000 < a + sumG σ l ∧ a + sumG σ l < 1000000000001000000 := by
  simp only [near, Bool.and_eq_true, ltI_eq, decide_eq_true_eq] at h
  obtain ⟨⟨⟨h1, h2⟩, h3⟩, h4⟩ := h
  have h5 := Nat.le_of_ble_eq_true h4
  have h6 := ok_up b h1
  have h7 := up_le (B := B) l
  omega

theorem below_spec (b : BdOk σ B) {a : Int} {l : List Nat} {z : Int} (h : below B a l z = true) : 0 ≤ a + sumG σ l ∧ a + sumG σ l < z := by
  simp only [below, Bool.and_eq_true, ltI_eq, decide_eq_true_eq] at h
  obtain ⟨⟨h1, h2⟩, h3⟩ := h
  have h6 := ok_up b h1
  have h7 := ok_dn b h1
  omega

theorem wrap64 {n : Int} (h1 : -9223372036854775808 ≤ n) (h2 : n ≤ 9223372036854775807) : IntKind.i64.wrap n = n := by
  simp [IntKind.wrap, IntKind.signed, IntKind.bits]
  omega

theorem cmpI_spec {bo : BinOp} {lo hi x y : Int} {v : AV} (h : cmpI bo lo hi = some v) (h1 : lo ≤ x - y) (h2 : x - y ≤ hi) : ∃ b, v = .b b ∧ Op.intCmp bo x y = pure (.bool b) := by
  cases bo <;> simp only [cmpI] at h <;> try (cases h; done)
  all_goals
    simp only [ltI_eq, eqI_eq, Bool.cond_eq_ite, Bool.or_eq_true, Bool.and_eq_true, decide_eq_true_eq, beq_iff_eq] at h
    repeat' split at h
    all_goals first | (cases h; done) | skip
    all_goals
      cases h
      refine ⟨_, rfl, ?_⟩
      simp only [Op.intCmp]
      congr 2
      first | (rw [decide_eq_true_eq]; omega) | (rw [decide_eq_false_iff_not]; omega) | (rw [beq_iff_eq]; omega) | (rw [beq_eq_false_iff_ne]; omega) | (rw [bne_iff_ne]; omega) | (rw [bne_eq_false_iff_eq]; omega)

theorem or_join (y : Nat) (hy : y < 2 ^ 56) : Op.intBits .or .i64 ((y / 256 : Nat) * 256 : Int) ((y % 256 : Nat) : Int) = pure (.int .i64 (y : Nat)) := by
  have e : (y / 256 * 256) ||| (y % 256) = y := by
    have := Nat.two_pow_add_eq_or_of_lt (b := y % 256) (i := 8) (Nat.mod_lt _ (by decide)) (y / 256)
    rw [Nat.mul_comm]
    rw [show (256 : Nat) = 2 ^ 8 from rfl] at this ⊢
    omega
  have e1 : ((y / 256 : Nat) * 256 : Int) = ((y / 256 * 256 : Nat) : Int) := by omega
  rw [e1]
  simp only [Op.intBits]
  have e2 : (BitVec.ofInt IntKind.i64.bits ((y / 256 * 256 : Nat) : Int) ||| BitVec.ofInt IntKind.i64.bits ((y % 256 : Nat) : Int)).toNat = y := by
    rw [BitVec.ofInt_natCast, BitVec.ofInt_natCast, BitVec.toNat_or, BitVec.toNat_ofNat, BitVec.toNat_ofNat, Nat.mod_eq_of_lt, Nat.mod_eq_of_lt, e]
    · show _ < 2 ^ 64; omega
    · show _ < 2 ^ 64; omega
  rw [e2, wrap64 (by omega) (by omega)]

theorem or_zero (y : Nat) (hy : y < 2 ^ 56) : Op.intBits .or .i64 0 (y : Int) = pure (.int .i64 (y : Nat)) := by
  simp only [Op.intBits]
  have e2 : (BitVec.ofInt IntKind.i64.bits 0 ||| BitVec.ofInt IntKind.i64.bits (y : Int)).toNat = y := by
    rw [show (0 : Int) = ((0 : Nat) : Int) from rfl, BitVec.ofInt_natCast, BitVec.ofInt_natCast, BitVec.toNat_or, BitVec.toNat_ofNat, BitVec.toNat_ofNat, Nat.mod_eq_of_lt (a := y)]
    · simp
    · show _ < 2 ^ 64; omega
  rw [e2, wrap64 (by omega) (by omega)]

theorem obN_rel (b : BdOk σ B) {bo : BinOp} {a c : Int} {l m : List Nat} {v : AV} (ns : bo ≠ .shl ∧ bo ≠ .shr ∧ bo ≠ .or) (h : obN B bo a l c m = some v) (t : TypeId) {P : Program} :
    ∃ r, vrel σ ν v r ∧ ∀ w, (Go.binOp bo t (.int .i64 (a + sumG σ l)) (.int .i64 (c + sumG σ m))).run P w = .ok r w := by
  have cmp : ∀ (bo : BinOp) {v : AV}, cmpN B bo (a - c) (cancelN l m).1 (cancelN l m).2 = some v → ∃ z, v = .b z ∧ Op.intCmp bo (a + sumG σ l) (c + sumG σ m) = pure (.bool z) := by
    intro bo v h
    unfold cmpN at h
    cases hc : (okN B (cancelN l m).1 && okN B (cancelN l m).2) with
    | false => rw [hc] at h; cases h
    | true =>
      rw [hc] at h
      simp only [cond_true] at h
      simp only [Bool.and_eq_true] at hc
      have s := sumG_cancel (σ := σ) l m
      have u1 := ok_up b hc.1
      have u2 := ok_up b hc.2
      have d1 := ok_dn b hc.1
      have d2 := ok_dn b hc.2
      exact cmpI_spec h (by omega) (by omega)
  cases bo <;> first | (exact absurd rfl ns.1; done) | (exact absurd rfl ns.2.1; done) | (exact absurd rfl ns.2.2; done) | skip
  case add =>
    simp only [obN] at h
    cases hc : near B (a + c) (mergeN l m) with
    | false => rw [hc] at h; cases h
    | true =>
      rw [hc] at h
      simp only [cond_true, Option.some.injEq] at h
      subst h
      have n := near_spec b hc
      rw [sumG_mergeN] at n
      refine ⟨_, mkLn_rel _ _, fun w => ?_⟩
      rw [sumG_mergeN]
      show (Op.intArith .add .i64 _ _).run P w = _
      simp only [Op.intArith]
      rw [wrap64 (by omega) (by omega), show a + (sumG σ l : Int) + (c + sumG σ m) = a + c + ((sumG σ l + sumG σ m : Nat) : Int) by omega]
      rfl
  case sub =>
    simp only [obN] at h
    unfold subN at h
    split at h
    rotate_left
    · cases h
    rename_i hm
    cases hc : near B (a - c) (cancelN l m).1 with
    | false => rw [hc] at h; cases h
    | true =>
      rw [hc] at h
      simp only [cond_true, Option.some.injEq] at h
      subst h
      have n := near_spec b hc
      have s := sumG_cancel (σ := σ) l m
      rw [hm] at s
      simp only [sumG] at s
      refine ⟨_, mkLn_rel _ _, fun w => ?_⟩
      show (Op.intArith .sub .i64 _ _).run P w = _
      simp only [Op.intArith]
      rw [wrap64 (by omega) (by omega), show a + (sumG σ l : Int) - (c + sumG σ m) = a - c + (sumG σ (cancelN l m).1 : Int) by omega]
      rfl
  all_goals
    obtain ⟨z, rfl, h2⟩ := cmp _ h
    refine ⟨_, rfl, fun w => ?_⟩
    first
      | (simp only [Go.binOp, h2]; rfl)
      | (exfalso; simp [obN, cmpN, cmpI] at h)

theorem ln0 (a : Int) (l : List Nat) : lnV σ a l 0 0 = .int .i64 (a + sumG σ l) := by simp [lnV]

theorem int_num {k : IntKind} {n : Int} : numV (.int k n) = true := rfl

theorem obG_rel (b : BdOk σ B) {bo : BinOp} {t : TypeId} {x y v : AV} {c d : Value} (h : obG B bo x y = some v) (hx : vrel σ ν x c) (hy : vrel σ ν y d) {P : Program} :
    numV c = true ∧ ∃ r, vrel σ ν v r ∧ ∀ w, (Go.binOp bo t c d).run P w = .ok r w := by
  have gen : bo ≠ .shl ∧ bo ≠ .shr ∧ bo ≠ .or → (match lnO x, lnO y with
    | some p, some q => obN B bo p.1 p.2 q.1 q.2
    | _, _ => none) = some v → numV c = true ∧ ∃ r, vrel σ ν v r ∧ ∀ w, (Go.binOp bo t c d).run P w = .ok r w := by
    intro ns h
    split at h
    · rename_i p q h1 h2
      rw [lnO_rel h1 hx, lnO_rel h2 hy]
      exact ⟨rfl, obN_rel b ns h t⟩
    · cases h
  cases bo
  case shr =>
    simp only [obG] at h
    split at h
    rotate_left
    · cases h
    rename_i a l k n
    have e1 : c = _ := hx
    have e2 : d = _ := hy
    subst e1 e2
    rw [ln0]
    refine ⟨rfl, ?_⟩
    unfold shrN at h
    split at h
    · cases hc : below B a l 1000000 with
      | false => rw [hc] at h; cases h
      | true =>
        rw [hc] at h
        cases h
        refine ⟨_, rfl, fun w => ?_⟩
        rw [ln0]
        show (Op.shift .shr .i64 _ k _).run P w = _
        simp [Op.shift, IntKind.bits]
    · cases hc : below B a l 256 with
      | true =>
        rw [hc] at h
        cases h
        have n := below_spec b hc
        refine ⟨_, rfl, fun w => ?_⟩
        show (Op.shift .shr .i64 _ k _).run P w = _
        have e : (a + (sumG σ l : Int)).fdiv 256 = 0 := by rw [Int.fdiv_eq_ediv_of_nonneg _ (by omega)]; omega
        simp [Op.shift, IntKind.bits, e]
      | false =>
        rw [hc] at h
        simp only [cond_false] at h
        cases hc : below B a l 1000000 with
        | false => rw [hc] at h; cases h
        | true =>
          rw [hc] at h
          cases h
          refine ⟨_, rfl, fun w => ?_⟩
          show (Op.shift .shr .i64 _ k _).run P w = _
          have e : (a + (sumG σ l : Int)).fdiv 256 = (a + (sumG σ l : Int)) / 256 := Int.fdiv_eq_ediv_of_nonneg _ (by omega)
          simp [Op.shift, IntKind.bits, e, lnV]
    · cases hc : below B a l 65536 with
      | false => rw [hc] at h; cases h
      | true =>
        rw [hc] at h
        cases h
        have n := below_spec b hc
        refine ⟨_, rfl, fun w => ?_⟩
        show (Op.shift .shr .i64 _ k _).run P w = _
        have e : (a + (sumG σ l : Int)).fdiv 65536 = 0 := by rw [Int.fdiv_eq_ediv_of_nonneg _ (by omega)]; omega
        simp [Op.shift, IntKind.bits, e]
    · cases h
  case shl =>
    simp only [obG] at h
    split at h
    rotate_left
    · cases h
    rename_i a l k
    have e1 : c = _ := hx
    have e2 : d = _ := hy
    subst e1 e2
    cases hc : below B a l 65536 with
    | false => rw [hc] at h; cases h
    | true =>
      rw [hc] at h
      cases h
      have n := below_spec b hc
      refine ⟨rfl, _, rfl, fun w => ?_⟩
      have e : (a + (sumG σ l : Int)) / 256 % 256 = (a + (sumG σ l : Int)) / 256 := by omega
      show (Op.shift .shl .i64 _ k _).run P w = _
      simp only [lnV, Int.pow_one, e]
      simp only [Op.shift, IntKind.bits]
      rw [if_neg (by decide)]
      have e3 : IntKind.i64.wrap ((a + (sumG σ l : Int)) / 256 * 2 ^ (min (Int.ofNat 8).toNat 64)) = (a + (sumG σ l : Int)) / 256 * 256 := by
        rw [show (2 : Int) ^ (min (Int.ofNat 8).toNat 64) = 256 from rfl]
        exact wrap64 (by omega) (by omega)
      rw [e3]
      rfl
  case or =>
    simp only [obG] at h
    split at h
    · rename_i a l k
      cases h
      have e1 : c = _ := hx
      have e2 : d = _ := hy
      subst e1 e2
      refine ⟨rfl, _, rfl, fun w => ?_⟩
      show (Op.intBits .or .i64 0 _).run P w = _
      obtain ⟨y, hy⟩ := Int.eq_ofNat_of_zero_le (Int.emod_nonneg ((a + (sumG σ l : Int)) / 256 ^ k) (show (256 : Int) ≠ 0 by decide))
      have hlt := Int.emod_lt_of_pos ((a + (sumG σ l : Int)) / 256 ^ k) (show (0 : Int) < 256 by decide)
      simp only [lnV, hy]
      rw [or_zero y (by omega)]
      rfl
    · rename_i a l b' m
      cases hc : (eqI a b' && l == m && below B a l 1000000) with
      | false => rw [hc] at h; cases h
      | true =>
        rw [hc] at h
        cases h
        simp only [Bool.and_eq_true, eqI_eq, beq_iff_eq] at hc
        obtain ⟨⟨rfl, rfl⟩, hb⟩ := hc
        have n := below_spec b hb
        have e1 : c = _ := hx
        have e2 : d = _ := hy
        subst e1 e2
        refine ⟨rfl, _, rfl, fun w => ?_⟩
        show (Op.intBits .or .i64 _ _).run P w = _
        obtain ⟨y, hy⟩ := Int.eq_ofNat_of_zero_le n.1
        simp only [lnV, Int.pow_one, Int.pow_zero, Int.ediv_one, hy]
        have := or_join y (by omega)
        rw [show ((y : Nat) : Int) / 256 * 256 = ((y / 256 : Nat) * 256 : Int) by omega, show ((y : Nat) : Int) % 256 = ((y % 256 : Nat) : Int) by omega, this]
        rfl
    · cases h
  all_goals exact gen (by simp) h

theorem wrap8 (n : Int) : IntKind.u8.wrap n = n % 256 := by simp [IntKind.wrap, IntKind.signed, IntKind.bits]

theorem ocG_rel {P : Program} {s d : TypeId} {x v : AV} {c : Value} (h : ocG P s d x = some v) (hx : vrel σ ν x c) : ∃ r, vrel σ ν v r ∧ ∀ w, (Go.convert s d c).run P w = .ok r w := by
  unfold ocG at h
  split at h
  · rename_i q a l k h1 h2
    cases h
    have e1 : c = _ := hx
    subst e1
    refine ⟨_, rfl, fun w => ?_⟩
    simp [Go.convert, run_underlying h1, run_underlying h2, lnV, Conv.intToInt, wrap8]
  · rename_i q a l k h1 h2
    cases h
    have e1 : c = _ := hx
    subst e1
    refine ⟨_, rfl, fun w => ?_⟩
    have p1 := Int.emod_nonneg ((a + (sumG σ l : Int)) / 256 ^ k) (show (256 : Int) ≠ 0 by decide)
    have p2 := Int.emod_lt_of_pos ((a + (sumG σ l : Int)) / 256 ^ k) (show (0 : Int) < 256 by decide)
    have e := wrap64 (n := (a + (sumG σ l : Int)) / 256 ^ k % 256) (by omega) (by omega)
    simp [Go.convert, run_underlying h1, run_underlying h2, lnV, Conv.intToInt, e]
  · cases h

theorem wG_rel : ∀ {l : List AV} {n : Nat} {z : List Nat} {m : Nat} {k : List Nat}, wG l n z = some (m, k) → ioks σ l → (ccs σ l).length + n + sumG σ z = m + sumG σ k
  | [], n, z, m, k, h, _ => by
    simp only [wG, Option.some.injEq, Prod.mk.injEq] at h
    obtain ⟨rfl, rfl⟩ := h
    simp [ccs]
  | v :: l, n, z, m, k, h, hi => by
    have cell : cellI v = true → wG l (Nat.succ n) z = some (m, k) → (ccs σ (v :: l)).length + n + sumG σ z = m + sumG σ k := by
      intro hc hw
      obtain ⟨c, g1, _⟩ := (ioks_cons hi).1 hc
      have := wG_rel hw (ioks_cons hi).2
      rw [ccs_cons, g1]
      simp only [List.length_append, List.length_cons, List.length_nil]
      omega
    cases v
    case g j =>
      simp only [wG] at h
      have := wG_rel h (ioks_cons hi).2
      rw [sumG_insN] at this
      rw [ccs_cons, List.length_append]
      have e : (cc σ (.g j)).length = (σ.g j).length := by simp [cc]
      omega
    case z => simp [wG] at h
    all_goals exact cell rfl (by simpa only [wG] using h)

theorem rlG_rel {l : List AV} {v : AV} (h : rlG B l = some v) (hi : ioks σ l) : vrel σ ν v (.int .i64 ((ccs σ l).length : Nat)) := by
  unfold rlG rlG1 at h
  split at h
  · rename_i n k hw
    cases hc : near B n k with
    | false => rw [hc] at h; cases h
    | true =>
      rw [hc] at h
      cases h
      have := wG_rel (σ := σ) hw hi
      simp only [sumG] at this
      have e : (((ccs σ l).length : Nat) : Int) = (n : Int) + sumG σ k := by omega
      rw [e]
      exact mkLn_rel _ _
  · cases h

theorem rnG_rel (b : BdOk σ B) {l : List AV} (h : rnG B l = true) (hi : ioks σ l) : ccs σ l ≠ [] := by
  intro e
  obtain ⟨v, hv, h1⟩ := List.any_eq_true.1 h
  have : cc σ v = [] := by
    cases hc : cc σ v with
    | nil => rfl
    | cons c cs =>
      have : c ∈ ccs σ l := List.mem_flatMap.2 ⟨v, hv, by rw [hc]; simp⟩
      rw [e] at this
      cases this
  cases v
  case z => simp at h1
  case g k =>
    simp only [Nat.blt_eq] at h1
    have h2 := b.pos k h1
    simp only [cc, List.map_eq_nil_iff] at this
    rw [this] at h2
    simp at h2
  all_goals
    obtain ⟨c, g1, _⟩ := (hi _ hv).1 rfl
    rw [g1] at this
    cases this

theorem rzG_rel (b : BdOk σ B) {l : List AV} (h : rzG B l = true) (hi : ioks σ l) : (ccs σ l).length ≤ room := by
  unfold rzG rzG1 at h
  split at h
  · rename_i n k hw
    simp only [Bool.and_eq_true] at h
    have h1 := wG_rel (σ := σ) hw hi
    have h2 := ok_up b h.1
    have h3 := up_le (B := B) k
    have h4 := Nat.le_of_ble_eq_true h.2
    simp only [sumG] at h1
    omega
  · cases h

theorem lengths_ok (P : Program) (b : BdOk σ B) : OrOk P σ (lengths P B) where
  ob := fun h _ _ _ hx hy => by
    obtain ⟨h1, h2⟩ := obG_rel b h hx hy
    obtain ⟨g1, g2⟩ := num_guard (b := _) (.inl h1)
    exact ⟨g1, g2, h2⟩
  ou := fun h => by cases h
  oc := fun h _ _ hx => ocG_rel h hx
  rl := fun h hi ν => rlG_rel h hi
  rn := fun h hi => rnG_rel b h hi
  rz := fun h hi => rzG_rel b h hi
  ce := fun h => by cases h
  ru := fun h => by cases h
  zl := fun h => by cases h
end
end Go.Ae
namespace Go.Ae
open Go Go.Proofs

noncomputable def specWC (x cut : AV) : List AV → AH → Option (AV × AH)
  | [.sym k, y], h => bif Nat.beq k 0 && AV.beq y x then some (cut, h) else none
  | _, _ => none

noncomputable def specS (x cut : AV) (f : Nat) : Option (List AV → AH → Option (AV × AH)) := bif Nat.beq f 10 then some (specWC x cut) else bif Nat.beq f 7 then some specKnown else bif Nat.beq f 142 then some specChanged else specN f

noncomputable def CS (B : Bd) (x cut : AV) : Cfg := cfg (lengths Tryz.prog B) (specS x cut)

noncomputable def I5 : List Code := flatC (bodyOf 5)

/-- So many rows, from a number on. -/
noncomputable def upFrom (a : Nat) : Nat → List Nat
  | 0 => []
  | n + 1 => a :: upFrom (Nat.succ a) n

noncomputable def txt : List Nat → AV
  | [] => .s []
  | l => .st (l.map .g)

noncomputable def startS (t m : Nat) : St := ⟨mkT 0 [txt (upFrom 0 t), txt (upFrom t m), .sym 0] .e, H1, []⟩

noncomputable def isTrue : Option AV → Bool
  | some (.b b) => b
  | _ => false

noncomputable def noDefer : List (Nat × List AV) → Bool
  | [] => true
  | _ => false

noncomputable def finS (C : Cfg) (fn : Func) : Option (Ex × St) → Bool
  | some (.ret, s) => noDefer s.d && (isTrue (results C fn s.t s.h) && hasH s.h)
  | _ => false

noncomputable def runS (C : Cfg) (t m : Nat) : Bool := finS C Tryz.f5 (runsQ C 100000 105 I5 (startS t m))

/-- A class: rows of the text, of what is put behind it; the cut. -/
noncomputable def shown (t m : Nat) (c : Int) (l : List Nat) : Bool := runS (CS ⟨Nat.add t m, Nat.add t m, 600⟩ (mkLn 20 (upFrom 0 (Nat.add t m))) (mkLn c l)) t m
end Go.Ae
