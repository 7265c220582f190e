/- A part of the proof of the law of TopAcross: AeMf, AeSc, AeSd, AeSe, XB, XA, X7S, XS000 and others. -/
import Derived.Test.YtlclnngcnkepjaaGreatDoorQMb
import Derived.Test.YtlclnngcnkepjaaGreatDoorQMc
import Derived.Test.YtlclnngcnkepjaaGreatDoorQMd
import Derived.Test.YtlclnngcnkepjaaGreatDoorQMe
namespace Go.Ae
open Go Go.Proofs

theorem flatS_some {h h' : AH} {o : Option AV} {v : AV} (hg : flatS h o = some (v, h')) : o = some v ∧ h' = h ∧ hasH h = true := by
  cases o with
  | none => simp [flatS] at hg
  | some u =>
    simp only [flatS] at hg
    cases hb : hasH h with
    | false => rw [hb] at hg; simp at hg
    | true => rw [hb] at hg; simp at hg; exact ⟨by rw [hg.1], hg.2.symm, rfl⟩

theorem freshS_some {h h' : AH} {o : Option (List AV)} {v : AV} (hg : freshS h o = some (v, h')) : ∃ l, o = some l ∧ v = .sl h.nx 0 l.length l.length ∧ h' = h.alloc (.c l 0) ∧ hasH h = true := by
  cases o with
  | none => simp [freshS] at hg
  | some l =>
    simp only [freshS] at hg
    cases hb : hasH h with
    | false => rw [hb] at hg; simp at hg
    | true => rw [hb] at hg; simp at hg; exact ⟨l, rfl, hg.1.symm, hg.2.symm, rfl⟩

theorem natA_some {x : AV} {n : Nat} (h : natA x = some n) : x = .i .i64 n := by
  unfold natA at h
  split at h
  · simp at h; subst h; rfl
  · cases h

theorem bindN_some {f : Nat → Option AV} {x : AV} {v : AV} (h : bindN f (natA x) = some v) : ∃ n : Nat, x = .i .i64 n ∧ f n = some v := by
  cases hn : natA x with
  | none => rw [hn] at h; cases h
  | some n => rw [hn] at h; exact ⟨n, natA_some hn, h⟩

theorem bindL_some {f : Nat → Option (List AV)} {x : AV} {v : List AV} (h : bindL f (natA x) = some v) : ∃ n : Nat, x = .i .i64 n ∧ f n = some v := by
  cases hn : natA x with
  | none => rw [hn] at h; cases h
  | some n => rw [hn] at h; exact ⟨n, natA_some hn, h⟩

theorem rowF_flat {f : List UInt8 × Nat × List UInt8 → AV} (hf : ∀ x, flat (f x) = true) {n : Nat} {v : AV} (h : rowF f n = some v) : flat v = true := by
  unfold rowF at h
  split at h
  · simp at h; rw [← h]; exact hf _
  · cases h

section
variable {σ : Sg} {m : Int}

theorem flat_one {v : AV} (h : flat v = true) : flatR v = true := by
  cases v <;> simp [flat] at h <;> first | rfl | exact h

theorem name_ok (hm : σ.v 2 = .int .i64 m) : SpecOk σ 63 specName := by
  intro args h v h' hg ν w cs hh ha
  unfold specName at hg
  split at hg
  · obtain ⟨h1, rfl, hH⟩ := flatS_some hg
    obtain ⟨n, rfl, h2⟩ := bindN_some h1
    have := forN_spec (j := n) mem_name (Nat.zero_le _) (by have := rowF_lt h2; omega)
    simp only [h2, okO] at this
    exact okFlat_spec hm this rfl (flat_one (rowF_flat (fun _ => rfl) h2)) hH hh ha
  · cases hg

theorem kinds_ok (hm : σ.v 2 = .int .i64 m) : SpecOk σ 112 specKinds := by
  intro args h v h' hg ν w cs hh ha
  unfold specKinds at hg
  split at hg
  · obtain ⟨h1, rfl, hH⟩ := flatS_some hg
    obtain ⟨n, rfl, h2⟩ := bindN_some h1
    have := forN_spec (j := n) mem_kinds (Nat.zero_le _) (by have := rowF_lt h2; omega)
    simp only [h2, okO] at this
    exact okFlat_spec hm this rfl (flat_one (rowF_flat (fun _ => rfl) h2)) hH hh ha
  · cases hg

theorem size_ok (hm : σ.v 2 = .int .i64 m) : SpecOk σ 29 specSize := by
  intro args h v h' hg ν w cs hh ha
  unfold specSize at hg
  split at hg
  · obtain ⟨h1, rfl, hH⟩ := flatS_some hg
    obtain ⟨n, rfl, h2⟩ := bindN_some h1
    have h3 := h2
    unfold sizeA at h3
    cases hb : Nat.blt n 66 with
    | false => rw [hb] at h3; simp at h3
    | true =>
      rw [hb] at h3
      simp only [cond_true, Option.some.injEq] at h3
      have := forN_spec (j := n) mem_size (Nat.zero_le _) (by simp [Nat.blt] at hb; omega)
      simp only [h2, okO] at this
      exact okFlat_spec hm this rfl (by rw [← h3]; rfl) hH hh ha
  · cases hg

theorem bits_ok (hm : σ.v 2 = .int .i64 m) : SpecOk σ 72 specBits := by
  intro args h v h' hg ν w cs hh ha
  unfold specBits at hg
  split at hg
  · rename_i x f
    cases hf : Nat.beq f 73 with
    | false => rw [hf] at hg; simp at hg
    | true =>
      rw [hf] at hg
      simp only [cond_true] at hg
      have := Nat.eq_of_beq_eq_true hf
      subst this
      obtain ⟨h1, rfl, hH⟩ := flatS_some hg
      obtain ⟨n, rfl, h2⟩ := bindN_some h1
      have := forN_spec (j := n) mem_bits (Nat.zero_le _) (by have := rowF_lt h2; omega)
      simp only [h2, okO] at this
      exact okFlat_spec hm this rfl (flat_one (rowF_flat (fun _ => rfl) h2)) hH hh ha
  · cases hg

theorem strs_flat (l : List (List UInt8)) : (l.map AV.s).all flat = true := by
  induction l with
  | nil => rfl
  | cons x l ih => simp only [List.map_cons, List.all_cons, ih]; rfl

theorem of_ok (hm : σ.v 2 = .int .i64 m) : SpecOk σ 30 specOf := by
  intro args h v h' hg ν w cs hh ha
  unfold specOf at hg
  split at hg
  · rename_i x f
    cases hf : Nat.beq f 31 with
    | false => rw [hf] at hg; simp at hg
    | true =>
      rw [hf] at hg
      simp only [cond_true] at hg
      have := Nat.eq_of_beq_eq_true hf
      subst this
      obtain ⟨l, h1, rfl, rfl, hH⟩ := freshS_some hg
      obtain ⟨n, rfl, h2⟩ := bindL_some h1
      have := forN_spec (j := n) mem_of (Nat.zero_le _) (by have := rowF_lt h2; omega)
      simp only [h2, okR] at this
      refine okFresh_spec hm this rfl ?_ hH hh ha
      unfold kindsL rowF at h2
      split at h2
      · simp only [Option.some.injEq] at h2; rw [← h2]; exact strs_flat _
      · cases h2
  · cases hg

theorem memL_spec {s : List UInt8} : ∀ {l : List (List UInt8)}, memL s l = true → s ∈ l
  | [], h => by cases h
  | x :: l, h => by
    simp only [memL] at h
    cases hb : x == s with
    | true => simp at hb; simp [hb]
    | false => rw [hb] at h; exact List.mem_cons_of_mem _ (memL_spec h)

theorem fields_ok (hm : σ.v 2 = .int .i64 m) : SpecOk σ 64 specFields := by
  intro args h v h' hg ν w cs hh ha
  unfold specFields at hg
  split at hg
  · rename_i x
    obtain ⟨l, h1, rfl, rfl, hH⟩ := freshS_some hg
    have h2 := h1
    unfold fieldsA at h2
    cases hb : memL x kindsAll with
    | false => rw [hb] at h2; simp at h2
    | true =>
      rw [hb] at h2
      simp only [cond_true, Option.some.injEq] at h2
      have := List.all_eq_true.1 mem_fields x (memL_spec hb)
      simp only [h1, okR] at this
      exact okFresh_spec hm this rfl (by rw [← h2]; exact strs_flat _) hH hh ha
  · cases hg

theorem findL_mem {s : List UInt8} : ∀ {l : List (List UInt8 × Nat × Bool)} {v : AV}, findL s l = some v → (∃ x ∈ l, x.1 = s) ∧ flatR v = true
  | [], _, h => by cases h
  | x :: l, v, h => by
    simp only [findL] at h
    cases hb : x.1 == s with
    | true =>
      rw [hb] at h
      simp at h
      simp at hb
      exact ⟨⟨x, by simp, hb⟩, by rw [← h]; rfl⟩
    | false =>
      rw [hb] at h
      obtain ⟨⟨y, h1, h2⟩, h3⟩ := findL_mem h
      exact ⟨⟨y, List.mem_cons_of_mem _ h1, h2⟩, h3⟩

theorem find_ok (hm : σ.v 2 = .int .i64 m) : SpecOk σ 241 specFind := by
  intro args h v h' hg ν w cs hh ha
  unfold specFind at hg
  split at hg
  · rename_i x
    obtain ⟨h1, rfl, hH⟩ := flatS_some hg
    obtain ⟨⟨y, k1, rfl⟩, k2⟩ := findL_mem h1
    have := List.all_eq_true.1 mem_find y k1
    simp only [h1, okO] at this
    exact okFlat_spec hm this rfl k2 hH hh ha
  · cases hg

noncomputable def specM (f : Nat) : Option (List AV → AH → Option (AV × AH)) :=
  bif Nat.beq f 63 then some specName else bif Nat.beq f 112 then some specKinds else bif Nat.beq f 29 then some specSize else bif Nat.beq f 72 then some specBits else
  bif Nat.beq f 30 then some specOf else bif Nat.beq f 64 then some specFields else bif Nat.beq f 241 then some specFind else specT f

theorem specM_ok (hm : σ.v 2 = .int .i64 m) (f : Nat) (g : List AV → AH → Option (AV × AH)) (h : specM f = some g) : SpecB σ f g := by
  unfold specM at h
  rcases beq_cases h with ⟨rfl, e⟩ | ⟨_, h⟩
  · cases e; exact ⟨⟨Tryz.f63, _, Tryz.func63, rfl⟩, name_ok hm⟩
  rcases beq_cases h with ⟨rfl, e⟩ | ⟨_, h⟩
  · cases e; exact ⟨⟨Tryz.f112, _, Tryz.func112, rfl⟩, kinds_ok hm⟩
  rcases beq_cases h with ⟨rfl, e⟩ | ⟨_, h⟩
  · cases e; exact ⟨⟨Tryz.f29, _, Tryz.func29, rfl⟩, size_ok hm⟩
  rcases beq_cases h with ⟨rfl, e⟩ | ⟨_, h⟩
  · cases e; exact ⟨⟨Tryz.f72, _, Tryz.func72, rfl⟩, bits_ok hm⟩
  rcases beq_cases h with ⟨rfl, e⟩ | ⟨_, h⟩
  · cases e; exact ⟨⟨Tryz.f30, _, Tryz.func30, rfl⟩, of_ok hm⟩
  rcases beq_cases h with ⟨rfl, e⟩ | ⟨_, h⟩
  · cases e; exact ⟨⟨Tryz.f64, _, Tryz.func64, rfl⟩, fields_ok hm⟩
  rcases beq_cases h with ⟨rfl, e⟩ | ⟨_, h⟩
  · cases e; exact ⟨⟨Tryz.f241, _, Tryz.func241, rfl⟩, find_ok hm⟩
  exact specT_ok hm f g h
end
end Go.Ae
namespace Go.Ae
open Go Go.Proofs

noncomputable def pw (s : Nat) : Nat := Nat.pow 256 s
noncomputable def sgn32 (x : Nat) : Int := bif Nat.blt x 2147483648 then .ofNat x else .negSucc (4294967295 - x)
noncomputable def uns32 : Int → Nat
  | .ofNat n => n
  | .negSucc n => 4294967295 - n
/-- The number in which a byte stands. -/
noncomputable def backI (f s u : Nat) : Int := sgn32 (bif Nat.beq f 0 then Nat.mul u (pw s) else 4294967295 - Nat.mul (255 - u) (pw s))
/-- The byte that may be it. -/
noncomputable def candI (f s : Nat) (v : Int) : Nat := bif Nat.beq f 0 then Nat.div (uns32 v) (pw s) else 255 - Nat.div (4294967295 - uns32 v) (pw s)
noncomputable def foundI (f s : Nat) (v : Int) : Int := bif Nat.blt (candI f s v) 256 && eqI (backI f s (candI f s v)) v then .ofNat (candI f s v) else .negSucc 0

noncomputable def upTo : Nat → Nat → List Nat
  | _, 0 => []
  | k, n + 1 => k :: upTo (k + 1) n

noncomputable def forms8 (p : Nat → Nat → Bool) : Bool := p 0 0 && p 0 1 && p 0 2 && p 0 3 && p 1 0 && p 1 1 && p 1 2 && p 1 3

theorem forms8_spec {p : Nat → Nat → Bool} (h : forms8 p = true) {f s : Nat} (hf : f < 2) (hs : s < 4) : p f s = true := by
  simp only [forms8, Bool.and_eq_true] at h
  obtain ⟨⟨⟨⟨⟨⟨⟨h1, h2⟩, h3⟩, h4⟩, h5⟩, h6⟩, h7⟩, h8⟩ := h
  match f, s, hf, hs with
  | 0, 0, _, _ => exact h1
  | 0, 1, _, _ => exact h2
  | 0, 2, _, _ => exact h3
  | 0, 3, _, _ => exact h4
  | 1, 0, _, _ => exact h5
  | 1, 1, _, _ => exact h6
  | 1, 2, _, _ => exact h7
  | 1, 3, _, _ => exact h8

noncomputable def HB : AH := ⟨12, .e⟩
noncomputable def lane256 : AV := .ve ((upTo 0 256).map fun u => .int .i64 (.ofNat u))
noncomputable def backs (f s : Nat) : AV := .ve ((upTo 0 256).map fun u => .int .i64 (backI f s u))
noncomputable def isBack (v : AV) : Option (AV × AH) → Bool
  | some (u, _) => AV.beq u v
  | none => false
noncomputable def formA (f s : Nat) : AV := .ag [.i .i64 (.ofNat f), .i .i64 (.ofNat s)]

set_option maxRecDepth 1000000
theorem cand_ok : forms8 (fun f s => forN (fun u => Nat.beq (candI f s (backI f s u)) u) 0 256) = true := by kernel_rfl
theorem back_runs : forms8 (fun f s => isBack (backs f s) (call CM (run CM 1000) 130 [formA f s, lane256] HB)) = true := by kernel_rfl
end Go.Ae
namespace Go.Ae
open Go Go.Proofs

theorem upTo_get : ∀ {n k u : Nat}, u < n → (upTo k n)[u]? = some (k + u)
  | 0, _, _, h => by omega
  | n + 1, k, 0, _ => rfl
  | n + 1, k, u + 1, h => by
    have := upTo_get (n := n) (k := k + 1) (u := u) (by omega)
    simp only [upTo, List.getElem?_cons_succ, this]
    congr 1
    omega

/-- of, at a byte. -/
theorem of_run {σ : Sg} {m : Int} (hm : σ.v 2 = .int .i64 m) {f s u : Nat} (hf : f < 2) (hs : s < 4) (hu : u < 256) {ν : Nu} {h : AH} {w : World} (hh : hrel σ Tryz.prog.globals.size ν h w) :
    Calls Tryz.prog 130 #[.agg #[.int .i64 f, .int .i64 s], .int .i64 u] w fun e w' => e = .returned (.int .i64 (backI f s u)) ∧ Ext ν h w ν h w' ∧ hrel σ Tryz.prog.globals.size ν h w' := by
  have hk := forms8_spec back_runs hf hs
  cases hc : call CM (run CM 1000) 130 [formA f s, lane256] HB with
  | none => rw [hc] at hk; cases hk
  | some y =>
    obtain ⟨v, h'⟩ := y
    rw [hc] at hk
    have := beq_eq hk
    subst this
    let σ' : Sg := ⟨σ.v, u, σ.g⟩
    have hb : hrel σ' CM.gs (ν.take 12) HB w := by
      have hg : CM.gs = 12 := gs12
      have hg2 : Tryz.prog.globals.size = 12 := gs12
      have hlen : 12 ≤ ν.length := by
        obtain ⟨e, h1, _⟩ := hh.gl 11 (by rw [hg2]; omega)
        have := (List.getElem?_eq_some_iff.1 h1).1
        omega
      refine ⟨by rw [List.length_take, Nat.min_eq_left hlen]; rfl, fun k b hb => ?_, fun i j e e' b b' hi => ?_, fun g hgl => ?_⟩
      · simp [HB, AH.get, Tr.get_e] at hb
      · simp [HB, AH.get, Tr.get_e] at hi
      · rw [hg] at hgl
        obtain ⟨e, h1, h2⟩ := hh.gl g (by rw [hg2]; exact hgl)
        exact ⟨e, by rw [List.getElem?_take, if_pos hgl]; exact h1, h2⟩
    have ha : vrels σ' (ν.take 12) [formA f s, lane256] [.agg #[.int .i64 f, .int .i64 s], .int .i64 u] := by
      refine ⟨_, _, ⟨[.int .i64 f, .int .i64 s], ⟨_, _, rfl, ⟨_, _, rfl, rfl, rfl⟩, rfl⟩, rfl⟩, ⟨_, _, ⟨?_, rfl⟩, rfl, rfl⟩, rfl⟩
      have hi : (upTo 0 256)[u]? = some u := by rw [upTo_get hu]; simp
      show ((upTo 0 256).map fun u => Value.int .i64 (.ofNat u))[u]? = _
      rw [List.getElem?_map, hi]
      rfl
    refine (calls_ok (goodM (σ := σ') hm) hc hb ha).mono ?_
    rintro e w' ⟨c, ν', rfl, hE, hh', hv⟩
    have hc : c = .int .i64 (backI f s u) := by
      have h1 := hv.1
      have hi : (upTo 0 256)[u]? = some u := by rw [upTo_get hu]; simp
      have h2 : ((upTo 0 256).map fun u => Value.int .i64 (backI f s u))[u]? = some c := h1
      rw [List.getElem?_map, hi] at h2
      exact (Option.some.inj h2).symm
    have nim : ∀ b, ¬ im (ν.take 12) HB b := fun b ⟨k, x, e, h1, _⟩ => by simp [HB, AH.get, Tr.get_e] at h1
    have same : ∀ b, b < w.heap.size → w'.heap[b]? = w.heap[b]? := fun b hb => (hE.fr b hb (nim b)).2
    refine ⟨by rw [hc], ⟨⟨[], by simp⟩, hE.sz, fun b hb hi => ⟨hi, same b hb⟩, hE.kp⟩, ⟨hh.len, fun k b hb => ?_, hh.inj, hh.gl⟩⟩
    obtain ⟨e, o, h1, h2, h3⟩ := hh.dom k b hb
    exact ⟨e, o, h1, by rw [same e.b (Array.getElem?_eq_some_iff.1 h2).1]; exact h2, h3⟩

/-! The search, by steps: the number that is sought is .sym 0, the byte .sym 1, its number .sym 4, the next byte .sym 3. -/

noncomputable def omF (hit more : Bool) : Or where
  ob bo _ x y := match bo, x, y with
    | .lss, .sym 1, .i .i64 256 => some (.b more)
    | .eql, .sym 4, .sym 0 => some (.b hit)
    | .add, .sym 1, .i .i64 1 => some (.sym 3)
    | _, _, _ => none
  ou _ _ := none
  oc _ _ _ := none
  rl _ := none
  rn _ := false
  rz _ := false
  ce _ _ := none
  ru _ := none
  zl _ := none

noncomputable def specOfF : List AV → AH → Option (AV × AH)
  | [.ag [.sym 5, .sym 6], .sym 1], h => some (.sym 4, h)
  | _, _ => none

noncomputable def CF (hit more : Bool) : Cfg := cfg (omF hit more) (fun f => bif Nat.beq f 130 then some specOfF else none)

noncomputable def fnF : AV := .fn (.func 130) [.ag [.sym 5, .sym 6]] []
noncomputable def I129 : List Code := flatC (bodyOf 129)
noncomputable def L129 : Code := match at1 I129 2 with
  | .block _ (.loop b) => b
  | _ => .skip
noncomputable def SF0 : St := ⟨mkT 0 [.sym 0, fnF] .e, HB, []⟩
noncomputable def SF1 (x : AV) : St := ⟨ofL [(0, .sym 0), (1, fnF), (6, x)] .e, HB, []⟩
noncomputable def SFe (v : AV) : St := ⟨ofL [(4, v)] .e, HB, []⟩

theorem items129 : flatC (bodyOf 129) = I129.take 2 ++ ([.block 0 (.loop L129)] ++ I129.drop 3) := by kernel_rfl
theorem f_start0 : forgetO [0, 1, 6] [] (runs (cfg (omF false true) (fun _ => none)) 1000 16 (I129.take 2) SF0) = some (.nrm, SF1 (.i .i64 0)) := by kernel_rfl
theorem f_start1 : forgetO [0, 1, 6] [] (runs (cfg (omF true true) (fun _ => none)) 1000 16 (I129.take 2) SF0) = some (.nrm, SF1 (.i .i64 0)) := by kernel_rfl
theorem f_miss : forgetO [0, 1, 6] [] (run (CF false true) 1000 none 16 L129 (SF1 (.sym 1))) = some (.nrm, SF1 (.sym 3)) := by kernel_rfl
theorem f_hit : forgetO [4] [] (run (CF true true) 1000 none 16 L129 (SF1 (.sym 1))) = some (.ret, SFe (.sym 1)) := by kernel_rfl
noncomputable def CFe (hit : Bool) : Cfg := cfg (omF hit false) (fun _ => none)
theorem f_exit (hit : Bool) : forgetO [0, 1, 6] [] (run (CFe hit) 1000 none 16 L129 (SF1 (.sym 1))) = some (.ex 0, SF1 (.sym 1)) := by
  cases hit
  · kernel_rfl
  · kernel_rfl
theorem f_none0 : forgetO [4] [] (runs (cfg (omF false true) (fun _ => none)) 1000 16 (I129.drop 3) (SF1 (.i .i64 256))) = some (.ret, SFe (.i .i64 (-1))) := by kernel_rfl
theorem f_none1 : forgetO [4] [] (runs (cfg (omF true true) (fun _ => none)) 1000 16 (I129.drop 3) (SF1 (.i .i64 256))) = some (.ret, SFe (.i .i64 (-1))) := by kernel_rfl
end Go.Ae
namespace Go.Ae
open Go Go.Proofs

/-- What is known of the unknown. -/
noncomputable def sgF (σ : Sg) (v : Int) (f s u : Nat) : Sg := ⟨fun k => match k with
  | 0 => .int .i64 v
  | 1 => .int .i64 u
  | 3 => .int .i64 ((u + 1 : Nat) : Int)
  | 4 => .int .i64 (backI f s u)
  | 5 => .int .i64 f
  | 6 => .int .i64 s
  | k => σ.v k, σ.i, σ.g⟩

section
variable {σ : Sg} {m v : Int} {f s u : Nat}

theorem omF_ok {hit more : Bool} (hu : u ≤ 256) (h1 : more = decide (u < 256)) (h2 : hit = decide (backI f s u = v)) : OrOk Tryz.prog (sgF σ v f s u) (omF hit more) where
  ob {bo t x y r} h ν a b ha hb := by
    simp only [omF] at h
    split at h
    · cases h
      have e1 : a = .int .i64 u := ha.1
      have e2 : b = .int .i64 256 := hb
      subst e1 e2
      refine ⟨.inl (by simp), .inl (by simp), .bool more, rfl, fun w => ?_⟩
      have : decide ((u : Int) < 256) = more := by rw [h1]; simp; omega
      simp [Go.binOp, Op.intCmp, this]
    · cases h
      have e1 : a = .int .i64 (backI f s u) := ha.1
      have e2 : b = .int .i64 v := hb.1
      subst e1 e2
      refine ⟨.inl (by simp), .inl (by simp), .bool hit, rfl, fun w => ?_⟩
      have : (backI f s u == v) = hit := by rw [h2]; rfl
      simp [Go.binOp, Op.intCmp, this]
    · cases h
      have e1 : a = .int .i64 u := ha.1
      have e2 : b = .int .i64 1 := hb
      subst e1 e2
      refine ⟨.inl (by simp), .inl (by simp), .int .i64 ((u + 1 : Nat) : Int), ⟨rfl, rfl⟩, fun w => ?_⟩
      have : IntKind.i64.wrap ((u : Int) + 1) = ((u + 1 : Nat) : Int) := by
        have := wrap_nat (n := u + 1) (by omega)
        simpa using this
      simp [Go.binOp, Op.intArith, this]
    · cases h
  ou h := by cases h
  oc h := by cases h
  rl h := by cases h
  rn h := by cases h
  rz h := by cases h
  ce h := by cases h
  ru h := by cases h
  zl h := by cases h

theorem goodF (hm : σ.v 2 = .int .i64 m) (hf : f < 2) (hs : s < 4) {hit more : Bool} (hu : u ≤ 256) (h1 : more = decide (u < 256)) (h2 : hit = decide (backI f s u = v)) (hw : u < 256) : Good (CF hit more) (sgF σ v f s u) :=
  good_of (omF_ok hu h1 h2) fun g sp h => by
    rcases beq_cases h with ⟨rfl, e⟩ | ⟨_, h⟩
    · cases e
      refine ⟨⟨Tryz.f130, _, Tryz.func130, rfl⟩, ?_⟩
      intro args hp r h' hg ν w cs hh ha
      unfold specOfF at hg
      split at hg
      · simp only [Option.some.injEq, Prod.mk.injEq] at hg
        obtain ⟨rfl, rfl⟩ := hg
        obtain ⟨_, _, ⟨_, ⟨_, _, g1, ⟨_, _, g2, rfl, rfl⟩, rfl⟩, rfl⟩, ⟨_, _, g3, rfl, rfl⟩, rfl⟩ := ha
        have e1 := g1.1
        have e2 := g2.1
        have e3 := g3.1
        simp only [sgF] at e1 e2 e3
        subst e1 e2 e3
        refine (of_run (σ := sgF σ v f s u) (m := m) hm hf hs hw hh).mono ?_
        rintro e w' ⟨rfl, hE, hh'⟩
        exact ⟨_, ν, rfl, hE, hh', rfl, rfl⟩
      · cases hg
    · cases h

theorem goodE (hit : Bool) (h2 : hit = decide (backI f s 256 = v)) : Good (CFe hit) (sgF σ v f s 256) :=
  good_of (omF_ok (by omega) (by simp) h2) fun g sp h => by cases h

/-! The rounds. -/

theorem goes_conv {C C' : Cfg} {σ σ' : Sg} {n : Nat} {c : Code} {s s1 s' s1' : St} {x : Ex} (hP : C.P = C'.P) (hg : C.gs = C'.gs) (h0 : s.h = s'.h) (h1 : s1.h = s1'.h) (g : Goes C' σ' n c s' (x, s1'))
    (i0 : ∀ ν a w, srel σ ν C.P C.gs n s a w → srel σ' ν C.P C.gs n s' a w) (i1 : ∀ ν a w, srel σ' ν C.P C.gs n s1' a w → srel σ ν C.P C.gs n s1 a w) : Goes C σ n c s (x, s1) := by
  intro ν a w hs b k fs
  have h2 := i0 ν a w hs
  rw [hP, hg] at h2
  obtain ⟨e, a', w', ⟨p1, ν', p2, p3⟩, p4⟩ := g ν a w h2 b k fs
  rw [← hP] at p4
  refine ⟨e, a', w', ⟨p1, ν', by rw [h0, show (x, s1).2.h = s1'.h from h1]; exact p2, ?_⟩, p4⟩
  have p3' : srel σ' ν' C.P C.gs n s1' a' w' := by rw [hP, hg]; exact p3
  exact i1 ν' a' w' p3'

theorem goes_block_ret {C : Cfg} {σ : Sg} {n id : Nat} {p : Code} {s s1 : St} (g : Goes C σ n p s (.ret, s1)) : Goes C σ n (.block id p) s (.ret, s1) := by
  intro ν a w hs
  refine wp_block ?_
  intro fr k fs
  obtain ⟨e, a1, w1, ⟨p1, p2⟩, p4⟩ := g ν a w hs fr k fs
  refine ⟨e, a1, w1, ?_, p4⟩
  simp only [exOf] at p1
  subst p1
  exact ⟨rfl, p2⟩

/-- The three places of a state of the search. -/
theorem sf1_get {x y : AV} {k : Nat} (h : (SF1 x).t.get k = some y) : (k = 0 ∧ y = .sym 0) ∨ (k = 1 ∧ y = fnF) ∨ (k = 6 ∧ y = x) := by
  simp only [SF1, ofL, Tr.get_set_eq, Tr.get_e] at h
  split at h
  · rename_i e; cases h; exact .inr (.inr ⟨e.symm, rfl⟩)
  · split at h
    · rename_i e; cases h; exact .inr (.inl ⟨e.symm, rfl⟩)
    · split at h
      · rename_i e; cases h; exact .inl ⟨e.symm, rfl⟩
      · cases h

theorem sf1_at (x : AV) : (SF1 x).t.get 6 = some x ∧ (SF1 x).t.get 0 = some (.sym 0) ∧ (SF1 x).t.get 1 = some fnF := by
  refine ⟨?_, ?_, ?_⟩ <;> simp [SF1, ofL, Tr.get_set_eq]

theorem sf1_conv {σ1 σ2 : Sg} {x y : AV} {P : Program} {gs n : Nat} (h0 : σ1.v 0 = σ2.v 0) (h5 : σ1.v 5 = σ2.v 5) (h6 : σ1.v 6 = σ2.v 6) (hx : ∀ c, vrel σ1 [] x c → vrel σ2 [] y c) (fx : flat x = true) (fy : flat y = true) :
    ∀ ν a w, srel σ1 ν P gs n (SF1 x) a w → srel σ2 ν P gs n (SF1 y) a w := by
  intro ν a w hs
  have fn_ : ∀ c, vrel σ1 ν fnF c → vrel σ2 ν fnF c := by
    rintro c ⟨xs, cs, ⟨_, _, ⟨_, ⟨_, _, g1, ⟨_, _, g2, rfl, rfl⟩, rfl⟩, rfl⟩, rfl, rfl⟩, rfl, rfl⟩
    exact ⟨_, _, ⟨_, _, ⟨_, ⟨_, _, ⟨h5 ▸ g1.1, g1.2⟩, ⟨_, _, ⟨h6 ▸ g2.1, g2.2⟩, rfl, rfl⟩, rfl⟩, rfl⟩, rfl, rfl⟩, rfl, rfl⟩
  refine ⟨⟨hs.h.len, fun k b hb => by simp [SF1, HB, AH.get, Tr.get_e] at hb, fun i j e e' b b' hi => by simp [SF1, HB, AH.get, Tr.get_e] at hi, hs.h.gl⟩, fun k z hz => ?_, hs.n, hs.d⟩
  rcases sf1_get hz with ⟨rfl, rfl⟩ | ⟨rfl, rfl⟩ | ⟨rfl, rfl⟩
  · obtain ⟨c, g1, g2⟩ := hs.t 0 _ (sf1_at x).2.1
    exact ⟨c, g1, h0 ▸ g2.1, g2.2⟩
  · obtain ⟨c, g1, g2⟩ := hs.t 1 _ (sf1_at x).2.2
    exact ⟨c, g1, fn_ c g2⟩
  · obtain ⟨c, g1, g2⟩ := hs.t 6 _ (sf1_at x).1
    exact ⟨c, g1, flat_rel fy (hx c (flat_rel fx g2))⟩

noncomputable def SFi (u : Nat) : St := SF1 (.i .i64 u)

theorem to_sym (u : Nat) {P : Program} {gs n : Nat} : ∀ ν a w, srel (sgF σ v f s 0) ν P gs n (SFi u) a w → srel (sgF σ v f s u) ν P gs n (SF1 (.sym 1)) a w :=
  sf1_conv rfl rfl rfl (fun c h => ⟨h, by rw [show c = _ from h]; rfl⟩) rfl rfl

theorem of_sym (u : Nat) {P : Program} {gs n : Nat} : ∀ ν a w, srel (sgF σ v f s u) ν P gs n (SF1 (.sym 3)) a w → srel (sgF σ v f s 0) ν P gs n (SFi (u + 1)) a w :=
  sf1_conv rfl rfl rfl (fun _ h => h.1) rfl rfl

theorem of_sym1 (u : Nat) {P : Program} {gs n : Nat} : ∀ ν a w, srel (sgF σ v f s u) ν P gs n (SF1 (.sym 1)) a w → srel (sgF σ v f s 0) ν P gs n (SFi u) a w :=
  sf1_conv rfl rfl rfl (fun _ h => h.1) rfl rfl

theorem end_sym (u : Nat) {P : Program} {gs n : Nat} : ∀ ν a w, srel (sgF σ v f s u) ν P gs n (SFe (.sym 1)) a w → srel (sgF σ v f s 0) ν P gs n (SFe (.i .i64 u)) a w := by
  intro ν a w hs
  refine ⟨⟨hs.h.len, fun k b hb => by simp [SFe, HB, AH.get, Tr.get_e] at hb, fun i j e e' b b' hi => by simp [SFe, HB, AH.get, Tr.get_e] at hi, hs.h.gl⟩, fun k z hz => ?_, hs.n, hs.d⟩
  simp only [SFe, ofL, Tr.get_set_eq, Tr.get_e] at hz
  split at hz
  · rename_i e
    subst e
    cases hz
    obtain ⟨c, g1, g2⟩ := hs.t 4 (.sym 1) (by simp [SFe, ofL, Tr.get_set_eq])
    exact ⟨c, g1, g2.1⟩
  · cases hz

noncomputable def CFb : Cfg := CF false true

set_option maxRecDepth 100000

theorem round_miss (hm : σ.v 2 = .int .i64 m) (hf : f < 2) (hs : s < 4) {u : Nat} (hu : u < 256) (hne : backI f s u ≠ v) : Goes CFb (sgF σ v f s 0) 16 L129 (SFi u) (.nrm, SFi (u + 1)) :=
  goes_conv (C' := CF false true) (σ' := sgF σ v f s u) (s' := SF1 (.sym 1)) (s1' := SF1 (.sym 3)) rfl rfl rfl rfl (goes_cut (goodF (v := v) hm hf hs (by omega) (by simp [hu]) (by simp [hne]) hu) _ _ f_miss) (to_sym u) (of_sym u)

theorem round_hit (hm : σ.v 2 = .int .i64 m) (hf : f < 2) (hs : s < 4) {u : Nat} (hu : u < 256) (he : backI f s u = v) : Goes CFb (sgF σ v f s 0) 16 L129 (SFi u) (.ret, SFe (.i .i64 u)) :=
  goes_conv (C' := CF true true) (σ' := sgF σ v f s u) (s' := SF1 (.sym 1)) (s1' := SFe (.sym 1)) rfl rfl rfl rfl (goes_cut (goodF (v := v) hm hf hs (by omega) (by simp [hu]) (by simp [he]) hu) _ _ f_hit) (to_sym u) (end_sym u)

theorem round_exit : Goes CFb (sgF σ v f s 0) 16 L129 (SFi 256) (.ex 0, SFi 256) :=
  goes_conv (C' := CFe (decide (backI f s 256 = v))) (σ' := sgF σ v f s 256) (s' := SF1 (.sym 1)) (s1' := SF1 (.sym 1)) rfl rfl rfl rfl (goes_cut (goodE _ rfl) _ _ (f_exit _)) (to_sym 256) (of_sym1 256)

/-- A hit at a byte, none ahead of it. -/
theorem search_hit (hm : σ.v 2 = .int .i64 m) (hf : f < 2) (hs : s < 4) {u0 : Nat} (h0 : u0 < 256) (he : backI f s u0 = v) (hno : ∀ u, u < u0 → backI f s u ≠ v) :
    Goes CFb (sgF σ v f s 0) 16 (.block 0 (.loop L129)) (SFi 0) (.ret, SFe (.i .i64 u0)) := by
  have rounds : ∀ d u, u + d = u0 → GoesL CFb (sgF σ v f s 0) 16 L129 (SFi u) (.ret, SFe (.i .i64 u0)) ∧ Goes CFb (sgF σ v f s 0) 16 (.loop L129) (SFi u) (.ret, SFe (.i .i64 u0)) := by
    intro d
    induction d with
    | zero =>
      intro u hu
      have : u = u0 := by omega
      subst this
      exact goes_last (by simp) (round_hit hm hf hs h0 he)
    | succ d ih =>
      intro u hu
      exact goes_round (round_miss hm hf hs (by omega) (hno u (by omega))) (ih (u + 1) (by omega)).1
  exact goes_block_ret (rounds u0 0 (by omega)).2

theorem search_none (hm : σ.v 2 = .int .i64 m) (hf : f < 2) (hs : s < 4) (hno : ∀ u, u < 256 → backI f s u ≠ v) :
    Goes CFb (sgF σ v f s 0) 16 (.block 0 (.loop L129)) (SFi 0) (.nrm, SFi 256) := by
  have rounds : ∀ d u, u + d = 256 → GoesL CFb (sgF σ v f s 0) 16 L129 (SFi u) (.ex 0, SFi 256) ∧ Goes CFb (sgF σ v f s 0) 16 (.loop L129) (SFi u) (.ex 0, SFi 256) := by
    intro d
    induction d with
    | zero =>
      intro u hu
      have : u = 256 := by omega
      subst this
      exact goes_last (by simp) round_exit
    | succ d ih =>
      intro u hu
      exact goes_round (round_miss hm hf hs (by omega) (hno u (by omega))) (ih (u + 1) (by omega)).1
  exact goes_block (rounds 256 0 (by omega)).2

theorem cand_at (hf : f < 2) (hs : s < 4) {u : Nat} (hu : u < 256) : candI f s (backI f s u) = u := by
  have h := forms8_spec cand_ok hf hs
  exact Nat.eq_of_beq_eq_true (forN_spec (p := fun u => Nat.beq (candI f s (backI f s u)) u) h (Nat.zero_le _) (by omega))
end
end Go.Ae
namespace Go.Ae
open Go Go.Proofs

theorem hb_of {σ σ' : Sg} {ν : Nu} {h : AH} {w : World} (hh : hrel σ Tryz.prog.globals.size ν h w) : hrel σ' Tryz.prog.globals.size (ν.take 12) HB w := by
  have hg2 : Tryz.prog.globals.size = 12 := gs12
  have hlen : 12 ≤ ν.length := by
    obtain ⟨e, h1, _⟩ := hh.gl 11 (by rw [hg2]; omega)
    have := (List.getElem?_eq_some_iff.1 h1).1
    omega
  refine ⟨by rw [List.length_take, Nat.min_eq_left hlen]; rfl, fun k b hb => ?_, fun i j e e' b b' hi => ?_, fun g hgl => ?_⟩
  · simp [HB, AH.get, Tr.get_e] at hb
  · simp [HB, AH.get, Tr.get_e] at hi
  · obtain ⟨e, h1, h2⟩ := hh.gl g hgl
    rw [hg2] at hgl
    exact ⟨e, by rw [List.getElem?_take, if_pos hgl]; exact h1, h2⟩

/-- What was run over nothing serves over anything. -/
theorem over_any {σ σ' : Sg} {g : Nat} {cs : Array Value} {h' : AH} {Q : Value → Prop}
    (hc : ∀ ν w, hrel σ' Tryz.prog.globals.size ν HB w → Calls Tryz.prog g cs w fun e w' => ∃ c ν', e = .returned c ∧ Ext ν HB w ν' h' w' ∧ Q c) {ν : Nu} {h : AH} {w : World} (hh : hrel σ Tryz.prog.globals.size ν h w) :
    Calls Tryz.prog g cs w fun e w' => ∃ c, e = .returned c ∧ Q c ∧ Ext ν h w ν h w' ∧ hrel σ Tryz.prog.globals.size ν h w' := by
  refine (hc _ w (hb_of (σ' := σ') hh)).mono ?_
  rintro e w' ⟨c, ν', rfl, hE, hq⟩
  have nim : ∀ b, ¬ im (ν.take 12) HB b := fun b ⟨k, x, e, h1, _⟩ => by simp [HB, AH.get, Tr.get_e] at h1
  have same : ∀ b, b < w.heap.size → w'.heap[b]? = w.heap[b]? := fun b hb => (hE.fr b hb (nim b)).2
  refine ⟨c, rfl, hq, ⟨⟨[], by simp⟩, hE.sz, fun b hb hi => ⟨hi, same b hb⟩, hE.kp⟩, ⟨hh.len, fun k b hb => ?_, hh.inj, hh.gl⟩⟩
  obtain ⟨e, o, h1, h2, h3⟩ := hh.dom k b hb
  exact ⟨e, o, h1, by rw [same e.b (Array.getElem?_eq_some_iff.1 h2).1]; exact h2, h3⟩

section
variable {σ : Sg} {m v : Int} {f s : Nat}
set_option maxRecDepth 100000

noncomputable def CFg (hit : Bool) : Cfg := cfg (omF hit true) (fun _ => none)

theorem goodG (hit : Bool) (h2 : hit = decide (backI f s 0 = v)) : Good (CFg hit) (sgF σ v f s 0) :=
  good_of (omF_ok (by omega) (by simp) h2) fun g sp h => by cases h

theorem body129 : Tryz.f129.body = some (bodyOf 129) := by kernel_rfl

theorem start_goes : Goes CFb (sgF σ v f s 0) 16 (bodyOf 129) SF0 (.ret, SFe (.i .i64 0)) → True := fun _ => trivial

theorem found_goes (hm : σ.v 2 = .int .i64 m) (hf : f < 2) (hs : s < 4) : Goes CFb (sgF σ v f s 0) 16 (bodyOf 129) SF0 (.ret, SFe (.i .i64 (foundI f s v))) := by
  have G0 := goodG (σ := σ) (v := v) (f := f) (s := s) _ rfl
  have st : Chain CFb (sgF σ v f s 0) 16 (I129.take 2) SF0 (.nrm, SFi 0) := by
    have h : forgetO [0, 1, 6] [] (runs (CFg (decide (backI f s 0 = v))) 1000 16 (I129.take 2) SF0) = some (.nrm, SF1 (.i .i64 0)) := by
      cases decide (backI f s 0 = v)
      · exact f_start0
      · exact f_start1
    exact chain_cfg (C := CFg (decide (backI f s 0 = v))) (C' := CFb) rfl rfl (chain_cut G0 _ _ h)
  have none_ : Chain CFb (sgF σ v f s 0) 16 (I129.drop 3) (SFi 256) (.ret, SFe (.i .i64 (-1))) := by
    have h : forgetO [4] [] (runs (CFg (decide (backI f s 0 = v))) 1000 16 (I129.drop 3) (SF1 (.i .i64 256))) = some (.ret, SFe (.i .i64 (-1))) := by
      cases decide (backI f s 0 = v)
      · exact f_none0
      · exact f_none1
    exact chain_cfg (C := CFg (decide (backI f s 0 = v))) (C' := CFb) rfl rfl (chain_cut G0 _ _ h)
  refine goes_chain ?_
  rw [items129]
  refine chain_append st rfl ?_
  by_cases hex : ∃ u, u < 256 ∧ backI f s u = v
  · obtain ⟨u, hu, hv⟩ := hex
    have hc : candI f s v = u := by rw [← hv]; exact cand_at hf hs hu
    have hfo : foundI f s v = (u : Int) := by
      unfold foundI
      rw [hc, hv]
      have h1 : Nat.blt u 256 = true := by rw [blt_dec]; simp [hu]
      have h2 : eqI v v = true := by rw [eqI_eq]; simp
      rw [h1, h2]
      rfl
    rw [hfo]
    exact .stop (by simp) (search_hit hm hf hs hu hv fun q hq e => by
      have := cand_at (f := f) (s := s) hf hs (u := q) (by omega)
      rw [e, hc] at this
      omega)
  · have hfo : foundI f s v = -1 := by
      unfold foundI
      cases hb : (Nat.blt (candI f s v) 256 && eqI (backI f s (candI f s v)) v) with
      | false => rfl
      | true =>
        simp only [Bool.and_eq_true] at hb
        rw [blt_dec, eqI_eq] at hb
        exact absurd ⟨candI f s v, by simpa using hb.1, by simpa using hb.2⟩ hex
    rw [hfo]
    exact .cons (search_none hm hf hs fun u hu e => hex ⟨u, hu, e⟩) none_

theorem res129 (hit : Bool) (r : Int) : results (CFg hit) Tryz.f129 (SFe (.i .i64 r)).t (SFe (.i .i64 r)).h = some (.i .i64 r) := by
  have : Tryz.f129.results.toList = [.tmp 4] := by kernel_rfl
  simp only [results, this, resA, resV, cons1, res1]
  simp [SFe, ofL, Tr.get_set_eq]

theorem ntmps129 : Nat.max ([AV.sym 0, fnF] : List AV).length Tryz.f129.ntmps = 16 := by kernel_rfl

theorem found_calls (hm : σ.v 2 = .int .i64 m) (hf : f < 2) (hs : s < 4) {ν : Nu} {h : AH} {w : World} (hh : hrel σ Tryz.prog.globals.size ν h w) :
    Calls Tryz.prog 129 #[.int .i64 v, .func (.func 130) #[.agg #[.int .i64 f, .int .i64 s]] #[]] w fun e w' => ∃ c, e = .returned c ∧ c = .int .i64 (foundI f s v) ∧ Ext ν h w ν h w' ∧ hrel σ Tryz.prog.globals.size ν h w' := by
  refine over_any (σ' := sgF σ v f s 0) (h' := HB) (fun ν w hb => ?_) hh
  have ha : vrels (sgF σ v f s 0) ν [.sym 0, fnF] [.int .i64 v, .func (.func 130) #[.agg #[.int .i64 f, .int .i64 s]] #[]] :=
    ⟨_, _, ⟨rfl, rfl⟩, ⟨_, _, ⟨[_], [], ⟨_, _, ⟨[_, _], ⟨_, _, ⟨rfl, rfl⟩, ⟨_, _, ⟨rfl, rfl⟩, rfl, rfl⟩, rfl⟩, rfl⟩, rfl, rfl⟩, rfl, rfl⟩, rfl, rfl⟩, rfl⟩
  have hg : Goes (CFg (decide (backI f s 0 = v))) (sgF σ v f s 0) (Nat.max ([AV.sym 0, fnF] : List AV).length Tryz.f129.ntmps) (bodyOf 129) ⟨mkT 0 [.sym 0, fnF] .e, HB, []⟩ (.ret, SFe (.i .i64 (foundI f s v))) := by
    rw [ntmps129]
    exact found_goes hm hf hs
  refine (calls_goes (C := CFg (decide (backI f s 0 = v))) (goodG _ rfl) Tryz.func129 body129 (.inr rfl) rfl hg (res129 _ _) hb ha).mono ?_
  rintro e w' ⟨c, ν', rfl, hE, _, hv⟩
  exact ⟨c, ν', rfl, hE, hv⟩
end

/-! ### As a spec -/

noncomputable def foundV (f s : Nat) : Value → Option Value
  | .int .i64 v => some (.int .i64 (foundI f s v))
  | _ => none

noncomputable def foundA (f s : Nat) : AV → Option AV
  | .i .i64 v => some (.i .i64 (foundI f s v))
  | .ve l => mkVe (lanes1 (foundV f s) l)
  | _ => none

noncomputable def specFound : List AV → AH → Option (AV × AH)
  | [x, .fn (.func g) [.ag [.i .i64 (.ofNat f), .i .i64 (.ofNat s)]] []], h => bif Nat.beq g 130 && Nat.blt f 2 && Nat.blt s 4 then withH h (foundA f s x) else none
  | _, _ => none

theorem found_ok {σ : Sg} {m : Int} (hm : σ.v 2 = .int .i64 m) : SpecOk σ 129 specFound := by
  intro args h r h' hg ν w cs hh ha
  unfold specFound at hg
  split at hg
  rotate_left
  · cases hg
  rename_i x g f s
  cases hb : (Nat.beq g 130 && Nat.blt f 2 && Nat.blt s 4) with
  | false => rw [hb] at hg; cases hg
  | true =>
    rw [hb] at hg
    simp only [cond_true] at hg
    simp only [Bool.and_eq_true, blt_dec, decide_eq_true_eq] at hb
    obtain ⟨⟨hg0, hf⟩, hs⟩ := hb
    have := Nat.eq_of_beq_eq_true hg0
    subst this
    cases hx : foundA f s x with
    | none => rw [hx] at hg; cases hg
    | some y =>
      rw [hx] at hg
      simp only [withH, Option.some.injEq, Prod.mk.injEq] at hg
      obtain ⟨rfl, rfl⟩ := hg
      obtain ⟨c0, _, h0, ⟨c1, _, ⟨_, _, ⟨_, _, ⟨_, ⟨_, _, g1, ⟨_, _, g2, rfl, rfl⟩, rfl⟩, rfl⟩, rfl, rfl⟩, rfl, rfl⟩, rfl, rfl⟩, rfl⟩ := ha
      have e1 : _ = Value.int .i64 (Int.ofNat f) := g1
      have e2 : _ = Value.int .i64 (Int.ofNat s) := g2
      subst e1 e2
      have key : ∀ v : Int, c0 = .int .i64 v → (∀ ν, vrel σ ν y (.int .i64 (foundI f s v))) → Calls Tryz.prog 129 #[c0, .func (.func 130) #[.agg #[.int .i64 (Int.ofNat f), .int .i64 (Int.ofNat s)]] #[]] w fun e w' =>
          ∃ c ν', e = .returned c ∧ Ext ν h w ν' h w' ∧ hrel σ Tryz.prog.globals.size ν' h w' ∧ vrel σ ν' y c := by
        intro v hv hy
        subst hv
        refine (found_calls (v := v) hm hf hs hh).mono ?_
        rintro e w' ⟨c, rfl, rfl, hE, hh'⟩
        exact ⟨_, ν, rfl, hE, hh', hy ν⟩
      unfold foundA at hx
      split at hx
      · rename_i v
        simp only [Option.some.injEq] at hx
        exact key v h0 fun ν => by rw [← hx]; rfl
      · rename_i l
        obtain ⟨r, hr⟩ := mkVe_some hx
        rw [hr] at hx
        obtain ⟨d, k1, k2⟩ := lanes1_get hr h0.1
        unfold foundV at k2
        split at k2
        · rename_i v
          simp only [Option.some.injEq] at k2
          subst k2
          exact key v rfl fun ν => mkVe_rel hx k1
        · cases k2
      · cases hx

noncomputable def specN (f : Nat) : Option (List AV → AH → Option (AV × AH)) := bif Nat.beq f 129 then some specFound else specM f

theorem specN_ok {σ : Sg} {m : Int} (hm : σ.v 2 = .int .i64 m) (f : Nat) (g : List AV → AH → Option (AV × AH)) (h : specN f = some g) : SpecB σ f g := by
  unfold specN at h
  rcases beq_cases h with ⟨rfl, e⟩ | ⟨_, h⟩
  · cases e; exact ⟨⟨Tryz.f129, _, Tryz.func129, rfl⟩, found_ok hm⟩
  · exact specM_ok hm f g h
end Go.Ae
namespace Go.Ae
open Go Go.Proofs
noncomputable def vi (k : IntKind) (l : List Int) : AV := .ve (l.map (.int k))
noncomputable def vf (l : List Nat) : AV := .ve (l.map (.float .f64))
noncomputable def I7 : List Code := flatC (bodyOf 7)
noncomputable def I4 : List Code := flatC (bodyOf 4)
/-- Ahead of known. -/
noncomputable def CK : Cfg := cfg (lanes Tryz.prog) specN
theorem goodK {σ : Sg} {m : Int} (hm : σ.v 2 = .int .i64 m) : Good CK σ := good_of (lanes_ok _ σ) (specN_ok hm)
end Go.Ae
namespace Go.Ae
open Go Go.Proofs

noncomputable def specWA (L : List Value) : List AV → AH → Option (AV × AH)
  | [.sym k, .i .i64 n], h => bif Nat.beq k 0 && eqI n 200 then withH h (mkVe (some L)) else none
  | _, _ => none

noncomputable def specA (L : List Value) (f : Nat) : Option (List AV → AH → Option (AV × AH)) := bif Nat.beq f 10 then some (specWA L) else bif Nat.beq f 7 then some specKnown else specN f

noncomputable def CA (L : List Value) : Cfg := cfg (lanes Tryz.prog) (specA L)
end Go.Ae
namespace Go.Ae
open Go Go.Proofs
noncomputable def S7_1 : St := ⟨ofL [(0, .b false), (1, .p 18 0)] .e, ⟨141, ofL [
(0, .c asc 0),
(3, .c p10 0),
(4, .c [.sym 2] 0),
(12, .m [] 1),
(13, .m [⟨.s [102, 109], .so 97 0 0 1, 0⟩, ⟨.s [100], .so 95 0 0 1, 1⟩] 2),
(14, .c [.m 12, .i .i64 1000, .i .i64 1, .m 13] 0),
(15, .m [] 0),
(16, .c [.m 15, .sn, .i .i64 0] 0),
(17, .m [⟨.i .i64 0, .p 19 0, 0⟩] 1),
(18, .c [.p 14 0, .p 16 0, .m 17, .i .i64 1, .i .i64 3, .so 129 0 0 1] 0),
(19, .c [.sl 50 0 0 0, .sl 100 0 0 0, .pn, .sn] 0),
(50, .c [] 0),
(95, .c [.s [100], .s [109, 10], .b false, .i .i64 1] 4),
(97, .c [.s [102, 109], .s [103, 111, 58, 32, 98, 32, 103, 111], .b false, .i .i64 1] 4),
(100, .c [] 0),
(129, .c [.i .i64 0, .i .i64 1, .i .i64 3, .i .i64 1, .b true, .i .i64 1, .s [109], .s [103, 111, 58, 32, 98, 32, 103, 111], .i .i64 0, .i .i64 0, .s [], .sn, .sn] 13)] .e⟩, []⟩
noncomputable def S7_2 : St := ⟨ofL [(0, .b false), (1, .p 18 0)] .e, ⟨600, ofL [
(0, .c asc 0),
(3, .c p10 0),
(4, .c [.sym 2] 0),
(12, .m [] 2),
(13, .m [⟨.s [102, 109], .so 554 0 0 1, 0⟩, ⟨.s [100], .so 552 0 0 1, 1⟩] 2),
(14, .c [.m 12, .i .i64 1000, .i .i64 1, .m 13] 0),
(16, .c [.m 222, .so 343 0 0 1, .i .i64 1] 0),
(17, .m [⟨.i .i64 0, .p 19 0, 0⟩] 1),
(18, .c [.p 14 0, .p 16 0, .m 17, .i .i64 1, .i .i64 8, .so 587 0 0 2] 0),
(19, .c [.sl 166 0 0 0, .sl 557 0 0 0, .pn, .sn] 0),
(166, .c [] 0),
(222, .m [⟨.s [109], .ag [.s [103, 111, 58, 32, 98, 32, 103, 111], .so 341 0 0 1], 0⟩] 1),
(336, .c [.i .i64 (-1), .i .i64 2, .i .i64 0, .s [103, 111], .sn] 5),
(341, .c [.i .i64 1, .s [103, 111], .i .i64 2, .i .i64 0, .s [], .so 336 0 0 1] 6),
(343, .c [.s [109]] 1),
(545, .c [.i .u8 232, .i .u8 0] 1),
(552, .c [.s [100], .s [109, 10], .b false, .i .i64 1] 4),
(554, .c [.s [102, 109], .s [103, 111, 58, 32, 98, 32, 103, 111], .b false, .i .i64 1] 4),
(557, .c [] 0),
(587, .c [.i .i64 0, .i .i64 1, .i .i64 3, .i .i64 1, .b true, .i .i64 1, .s [109], .s [103, 111, 58, 32, 98, 32, 103, 111], .i .i64 0, .i .i64 0, .s [], .sn, .sn, .i .i64 0, .i .i64 4, .i .i64 8, .i .i64 1, .b false, .i .i64 7, .s [], .s [], .i .i64 0, .i .i64 0, .s [], .so 545 0 0 2, .sn] 13)] .e⟩, []⟩
noncomputable def S7_3 : St := ⟨ofL [(0, .b false), (1, .p 18 0), (2, .so 613 0 0 2)] .e, ⟨614, ofL [
(0, .c asc 0),
(3, .c p10 0),
(4, .c [.sym 2] 0),
(12, .m [] 2),
(13, .m [⟨.s [102, 109], .so 554 0 0 1, 0⟩, ⟨.s [100], .so 552 0 0 1, 1⟩] 2),
(14, .c [.m 12, .i .i64 1000, .i .i64 1, .m 13] 0),
(16, .c [.m 222, .so 343 0 0 1, .i .i64 1] 0),
(17, .m [⟨.i .i64 0, .p 19 0, 0⟩] 1),
(18, .c [.p 14 0, .p 16 0, .m 17, .i .i64 1, .i .i64 8, .so 587 0 0 2] 0),
(19, .c [.sl 166 0 0 0, .sl 557 0 0 0, .pn, .sn] 0),
(166, .c [] 0),
(222, .m [⟨.s [109], .ag [.s [103, 111, 58, 32, 98, 32, 103, 111], .so 341 0 0 1], 0⟩] 1),
(336, .c [.i .i64 (-1), .i .i64 2, .i .i64 0, .s [103, 111], .sn] 5),
(341, .c [.i .i64 1, .s [103, 111], .i .i64 2, .i .i64 0, .s [], .so 336 0 0 1] 6),
(343, .c [.s [109]] 1),
(545, .c [.i .u8 232, .i .u8 0] 1),
(552, .c [.s [100], .s [109, 10], .b false, .i .i64 1] 4),
(554, .c [.s [102, 109], .s [103, 111, 58, 32, 98, 32, 103, 111], .b false, .i .i64 1] 4),
(557, .c [] 0),
(587, .c [.i .i64 0, .i .i64 1, .i .i64 3, .i .i64 1, .b true, .i .i64 1, .s [109], .s [103, 111, 58, 32, 98, 32, 103, 111], .i .i64 0, .i .i64 0, .s [], .sn, .sn, .i .i64 0, .i .i64 4, .i .i64 8, .i .i64 1, .b false, .i .i64 7, .s [], .s [], .i .i64 0, .i .i64 0, .s [], .so 545 0 0 2, .sn] 13),
(609, .c [.i .u8 232, .i .u8 0] 1),
(613, .c [.i .i64 0, .i .i64 1, .i .i64 3, .i .i64 1, .b true, .i .i64 1, .s [109], .s [103, 111, 58, 32, 98, 32, 103, 111], .i .i64 0, .i .i64 0, .s [], .sn, .sn, .i .i64 0, .i .i64 4, .i .i64 8, .i .i64 1, .b false, .i .i64 7, .s [], .s [], .i .i64 0, .i .i64 0, .s [], .so 609 0 0 2, .sn] 13)] .e⟩, []⟩
noncomputable def S7_4 : St := ⟨ofL [(0, .b true)] .e, ⟨1256, ofL [(0, .c asc 0), (3, .c p10 0), (4, .c [.sym 2] 0)] .e⟩, []⟩
end Go.Ae
namespace Go.Ae
open Go Go.Proofs
noncomputable def LA000 : List Value := [0].map (.int .i64)
noncomputable def SA000_0 : St := ⟨ofL [(0, .sym 0), (1, .b false), (4, .b false), (5, .p 18 0), (6, .i .i64 0), (7, .s [98, 32, 116, 111]), (8, .s [116, 111, 58, 32, 115, 101, 95, 98, 108, 114]), (9, .s [46, 115, 112, 97, 99, 101, 32, 48]), (10, .i .i64 3)] .e, ⟨406, ofL [
(0, .c asc 0),
(3, .c p10 0),
(4, .c [.sym 2] 0),
(12, .m [] 3),
(13, .m [⟨.s [102, 97], .so 358 0 0 1, 0⟩, ⟨.s [100], .so 356 0 0 1, 1⟩, ⟨.s [102, 98, 49], .so 360 0 0 1, 2⟩, ⟨.s [102, 99], .so 362 0 0 1, 3⟩] 4),
(14, .c [.m 12, .i .i64 10000, .i .i64 3, .m 13] 0),
(15, .m [] 0),
(16, .c [.m 15, .sn, .i .i64 0] 0),
(17, .m [⟨.i .i64 0, .p 19 0, 0⟩] 1),
(18, .c [.p 14 0, .p 16 0, .m 17, .i .i64 1, .i .i64 9, .so 394 0 0 3] 0),
(19, .c [.sl 307 0 0 0, .sl 365 0 0 0, .pn, .sn] 0),
(307, .c [] 0),
(356, .c [.s [100], .s [97, 10, 98, 49, 10, 99, 10], .b false, .i .i64 3] 4),
(358, .c [.s [102, 97], .s [98, 32, 116, 111], .b false, .i .i64 1] 4),
(360, .c [.s [102, 98, 49], .s [46, 115, 112, 97, 99, 101, 32, 48], .b false, .i .i64 2] 4),
(362, .c [.s [102, 99], .s [116, 111, 58, 32, 115, 101, 95, 98, 108, 114], .b false, .i .i64 3] 4),
(365, .c [] 0),
(394, .c [.i .i64 0, .i .i64 1, .i .i64 3, .i .i64 1, .b true, .i .i64 1, .s [97], .s [98, 32, 116, 111], .i .i64 0, .i .i64 0, .s [], .sn, .sn, .i .i64 0, .i .i64 4, .i .i64 6, .i .i64 2, .b true, .i .i64 1, .s [98, 49], .s [46, 115, 112, 97, 99, 101, 32, 48], .i .i64 0, .i .i64 0, .s [], .sn, .sn, .i .i64 0, .i .i64 7, .i .i64 9, .i .i64 3, .b true, .i .i64 1, .s [99], .s [116, 111, 58, 32, 115, 101, 95, 98, 108, 114], .i .i64 0, .i .i64 0, .s [], .sn, .sn] 13)] .e⟩, []⟩
noncomputable def SA000_1 : St := ⟨ofL [(0, .sym 0), (1, .b false), (4, .b false), (5, .p 18 0), (6, .i .i64 0), (7, .s [98, 32, 116, 111]), (8, .s [116, 111, 58, 32, 115, 101, 95, 98, 108, 114]), (9, .s [46, 115, 112, 97, 99, 101, 32, 48]), (10, .i .i64 3), (11, .p 1218 0)] .e, ⟨1219, ofL [
(0, .c asc 0),
(3, .c p10 0),
(4, .c [.sym 2] 0),
(12, .m [] 4),
(13, .m [⟨.s [102, 97], .so 1168 0 0 1, 0⟩, ⟨.s [100], .so 1166 0 0 1, 1⟩, ⟨.s [102, 98, 49], .so 1170 0 0 1, 2⟩, ⟨.s [102, 99], .so 1172 0 0 1, 3⟩] 4),
(14, .c [.m 12, .i .i64 10000, .i .i64 3, .m 13] 0),
(16, .c [.m 511, .so 772 0 0 3, .i .i64 3] 0),
(17, .m [⟨.i .i64 0, .p 19 0, 0⟩] 1),
(18, .c [.p 14 0, .p 16 0, .m 17, .i .i64 1, .i .i64 16, .so 1205 0 0 4] 0),
(19, .c [.sl 431 0 0 0, .sl 1175 0 0 0, .pn, .sn] 0),
(431, .c [] 0),
(511, .m [⟨.s [97], .ag [.s [98, 32, 116, 111], .so 628 0 0 1], 0⟩, ⟨.s [98, 49], .ag [.s [46, 115, 112, 97, 99, 101, 32, 48], .so 751 0 0 1], 1⟩, ⟨.s [99], .ag [.s [116, 111, 58, 32, 115, 101, 95, 98, 108, 114], .so 770 0 0 1], 2⟩] 3),
(623, .c [.i .i64 (-1), .i .i64 2, .i .i64 0, .s [116, 111], .sn] 5),
(628, .c [.i .i64 1, .s [], .i .i64 2, .i .i64 0, .s [], .so 623 0 0 1] 6),
(746, .c [.i .i64 (-1), .i .i64 1, .i .i64 0, .s [], .sn] 5),
(751, .c [.i .i64 1, .s [], .i .i64 8, .i .i64 0, .s [], .so 746 0 0 1] 6),
(770, .c [.i .i64 1, .s [116, 111], .i .i64 1, .i .i64 3, .s [], .sn] 6),
(772, .c [.s [97], .s [98, 49], .s [99]] 1),
(1159, .c [.i .u8 232, .i .u8 1, .i .u8 0, .i .u8 4] 1),
(1166, .c [.s [100], .s [97, 10, 98, 49, 10, 99, 10], .b false, .i .i64 3] 4),
(1168, .c [.s [102, 97], .s [98, 32, 116, 111], .b false, .i .i64 1] 4),
(1170, .c [.s [102, 98, 49], .s [46, 115, 112, 97, 99, 101, 32, 48], .b false, .i .i64 2] 4),
(1172, .c [.s [102, 99], .s [116, 111, 58, 32, 115, 101, 95, 98, 108, 114], .b false, .i .i64 3] 4),
(1175, .c [] 0),
(1205, .c [.i .i64 0, .i .i64 1, .i .i64 3, .i .i64 1, .b true, .i .i64 1, .s [97], .s [98, 32, 116, 111], .i .i64 0, .i .i64 0, .s [], .sn, .sn, .i .i64 0, .i .i64 4, .i .i64 6, .i .i64 2, .b true, .i .i64 1, .s [98, 49], .s [46, 115, 112, 97, 99, 101, 32, 48], .i .i64 0, .i .i64 0, .s [], .sn, .sn, .i .i64 0, .i .i64 7, .i .i64 9, .i .i64 3, .b true, .i .i64 1, .s [99], .s [116, 111, 58, 32, 115, 101, 95, 98, 108, 114], .i .i64 0, .i .i64 0, .s [], .sn, .sn, .i .i64 0, .i .i64 10, .i .i64 16, .i .i64 3, .b false, .i .i64 7, .s [], .s [], .i .i64 0, .i .i64 0, .s [], .so 1159 0 0 4, .sn] 13),
(1216, .c [.i .u8 232, .i .u8 1, .i .u8 0, .i .u8 4] 1),
(1218, .c [.i .i64 0, .s [], .so 1216 0 0 4, .sn] 0)] .e⟩, []⟩
noncomputable def SA000_2 : St := ⟨ofL [(4, .b true)] .e, ⟨1848, ofL [(0, .c asc 0), (3, .c p10 0), (4, .c [.sym 2] 0)] .e⟩, []⟩
end Go.Ae
namespace Go.Ae
open Go Go.Proofs
noncomputable def LA010 : List Value := [1, 2, 3, 4].map (.int .i64)
noncomputable def SA010_0 : St := ⟨ofL [(0, .sym 0), (1, .b false), (4, .b false), (5, .p 18 0), (6, vi .i64 [2, 4, 6, 8]), (7, .s [98, 32, 116, 111]), (8, .s [116, 111, 58, 32, 115, 101, 95, 98, 108, 114]), (9, .st [.i .u8 46, .i .u8 115, .i .u8 112, .i .u8 97, .i .u8 99, .i .u8 101, .i .u8 32, vi .u8 [50, 52, 54, 56]]), (10, .i .i64 3)] .e, ⟨406, ofL [
(0, .c asc 0),
(3, .c p10 0),
(4, .c [.sym 2] 0),
(12, .m [] 3),
(13, .m [⟨.s [102, 97], .so 358 0 0 1, 0⟩, ⟨.s [100], .so 356 0 0 1, 1⟩, ⟨.s [102, 98, 49], .so 360 0 0 1, 2⟩, ⟨.s [102, 99], .so 362 0 0 1, 3⟩] 4),
(14, .c [.m 12, .i .i64 10000, .i .i64 3, .m 13] 0),
(15, .m [] 0),
(16, .c [.m 15, .sn, .i .i64 0] 0),
(17, .m [⟨.i .i64 0, .p 19 0, 0⟩] 1),
(18, .c [.p 14 0, .p 16 0, .m 17, .i .i64 1, .i .i64 9, .so 394 0 0 3] 0),
(19, .c [.sl 307 0 0 0, .sl 365 0 0 0, .pn, .sn] 0),
(307, .c [] 0),
(356, .c [.s [100], .s [97, 10, 98, 49, 10, 99, 10], .b false, .i .i64 3] 4),
(358, .c [.s [102, 97], .s [98, 32, 116, 111], .b false, .i .i64 1] 4),
(360, .c [.s [102, 98, 49], .st [.i .u8 46, .i .u8 115, .i .u8 112, .i .u8 97, .i .u8 99, .i .u8 101, .i .u8 32, vi .u8 [50, 52, 54, 56]], .b false, .i .i64 2] 4),
(362, .c [.s [102, 99], .s [116, 111, 58, 32, 115, 101, 95, 98, 108, 114], .b false, .i .i64 3] 4),
(365, .c [] 0),
(394, .c [.i .i64 0, .i .i64 1, .i .i64 3, .i .i64 1, .b true, .i .i64 1, .s [97], .s [98, 32, 116, 111], .i .i64 0, .i .i64 0, .s [], .sn, .sn, .i .i64 0, .i .i64 4, .i .i64 6, .i .i64 2, .b true, .i .i64 1, .s [98, 49], .st [.i .u8 46, .i .u8 115, .i .u8 112, .i .u8 97, .i .u8 99, .i .u8 101, .i .u8 32, vi .u8 [50, 52, 54, 56]], .i .i64 0, .i .i64 0, .s [], .sn, .sn, .i .i64 0, .i .i64 7, .i .i64 9, .i .i64 3, .b true, .i .i64 1, .s [99], .s [116, 111, 58, 32, 115, 101, 95, 98, 108, 114], .i .i64 0, .i .i64 0, .s [], .sn, .sn] 13)] .e⟩, []⟩
noncomputable def SA010_1 : St := ⟨ofL [(0, .sym 0), (1, .b false), (4, .b false), (5, .p 18 0), (6, vi .i64 [2, 4, 6, 8]), (7, .s [98, 32, 116, 111]), (8, .s [116, 111, 58, 32, 115, 101, 95, 98, 108, 114]), (9, .st [.i .u8 46, .i .u8 115, .i .u8 112, .i .u8 97, .i .u8 99, .i .u8 101, .i .u8 32, vi .u8 [50, 52, 54, 56]]), (10, .i .i64 3), (11, .p 1221 0)] .e, ⟨1222, ofL [
(0, .c asc 0),
(3, .c p10 0),
(4, .c [.sym 2] 0),
(12, .m [] 4),
(13, .m [⟨.s [102, 97], .so 1169 0 0 1, 0⟩, ⟨.s [100], .so 1167 0 0 1, 1⟩, ⟨.s [102, 98, 49], .so 1171 0 0 1, 2⟩, ⟨.s [102, 99], .so 1173 0 0 1, 3⟩] 4),
(14, .c [.m 12, .i .i64 10000, .i .i64 3, .m 13] 0),
(16, .c [.m 511, .so 772 0 0 3, .i .i64 3] 0),
(17, .m [⟨.i .i64 0, .p 19 0, 0⟩] 1),
(18, .c [.p 14 0, .p 16 0, .m 17, .i .i64 1, .i .i64 16, .so 1206 0 0 4] 0),
(19, .c [.sl 431 0 0 0, .sl 1176 0 0 0, .pn, .sn] 0),
(431, .c [] 0),
(511, .m [⟨.s [97], .ag [.s [98, 32, 116, 111], .so 628 0 0 1], 0⟩, ⟨.s [98, 49], .ag [.st [.i .u8 46, .i .u8 115, .i .u8 112, .i .u8 97, .i .u8 99, .i .u8 101, .i .u8 32, vi .u8 [50, 52, 54, 56]], .so 751 0 0 1], 1⟩, ⟨.s [99], .ag [.s [116, 111, 58, 32, 115, 101, 95, 98, 108, 114], .so 770 0 0 1], 2⟩] 3),
(623, .c [.i .i64 (-1), .i .i64 2, .i .i64 0, .s [116, 111], .sn] 5),
(628, .c [.i .i64 1, .s [], .i .i64 2, .i .i64 0, .s [], .so 623 0 0 1] 6),
(746, .c [.i .i64 (-1), .i .i64 1, vi .i64 [2, 4, 6, 8], .s [], .sn] 5),
(751, .c [.i .i64 1, .s [], .i .i64 8, .i .i64 0, .s [], .so 746 0 0 1] 6),
(770, .c [.i .i64 1, .s [116, 111], .i .i64 1, .i .i64 3, .s [], .sn] 6),
(772, .c [.s [97], .s [98, 49], .s [99]] 1),
(1160, .r [.i .u8 232, vi .u8 [2, 3, 4, 5], .z [2, 4, 6, 8], .i .u8 0, .i .u8 4]),
(1167, .c [.s [100], .s [97, 10, 98, 49, 10, 99, 10], .b false, .i .i64 3] 4),
(1169, .c [.s [102, 97], .s [98, 32, 116, 111], .b false, .i .i64 1] 4),
(1171, .c [.s [102, 98, 49], .st [.i .u8 46, .i .u8 115, .i .u8 112, .i .u8 97, .i .u8 99, .i .u8 101, .i .u8 32, vi .u8 [50, 52, 54, 56]], .b false, .i .i64 2] 4),
(1173, .c [.s [102, 99], .s [116, 111, 58, 32, 115, 101, 95, 98, 108, 114], .b false, .i .i64 3] 4),
(1176, .c [] 0),
(1206, .c [.i .i64 0, .i .i64 1, .i .i64 3, .i .i64 1, .b true, .i .i64 1, .s [97], .s [98, 32, 116, 111], .i .i64 0, .i .i64 0, .s [], .sn, .sn, .i .i64 0, .i .i64 4, .i .i64 6, .i .i64 2, .b true, .i .i64 1, .s [98, 49], .st [.i .u8 46, .i .u8 115, .i .u8 112, .i .u8 97, .i .u8 99, .i .u8 101, .i .u8 32, vi .u8 [50, 52, 54, 56]], .i .i64 0, .i .i64 0, .s [], .sn, .sn, .i .i64 0, .i .i64 7, .i .i64 9, .i .i64 3, .b true, .i .i64 1, .s [99], .s [116, 111, 58, 32, 115, 101, 95, 98, 108, 114], .i .i64 0, .i .i64 0, .s [], .sn, .sn, .i .i64 0, .i .i64 10, .i .i64 16, .i .i64 3, .b false, .i .i64 7, .s [], .s [], .i .i64 0, .i .i64 0, .s [], .rs 1160 0 5 false, .sn] 13),
(1218, .r [.i .u8 232, vi .u8 [2, 3, 4, 5], .z [2, 4, 6, 8], .i .u8 0, .i .u8 4]),
(1221, .c [.i .i64 0, .s [], .rs 1218 0 5 false, .sn] 0)] .e⟩, []⟩
noncomputable def SA010_2 : St := ⟨ofL [(4, .b true)] .e, ⟨1851, ofL [(0, .c asc 0), (3, .c p10 0), (4, .c [.sym 2] 0)] .e⟩, []⟩
end Go.Ae
namespace Go.Ae
open Go Go.Proofs
noncomputable def LA020 : List Value := [5, 6, 15, 16, 17, 18, 19, 20, 21, 22, 31, 32, 33, 34, 35, 36, 37, 38, 47, 48, 49].map (.int .i64)
noncomputable def SA020_0 : St := ⟨ofL [(0, .sym 0), (1, .b false), (4, .b false), (5, .p 18 0), (6, vi .i64 [10, 12, 30, 32, 34, 36, 38, 40, 42, 44, 62, 64, 66, 68, 70, 72, 74, 76, 94, 96, 98]), (7, .s [98, 32, 116, 111]), (8, .s [116, 111, 58, 32, 115, 101, 95, 98, 108, 114]), (9, .st [.i .u8 46, .i .u8 115, .i .u8 112, .i .u8 97, .i .u8 99, .i .u8 101, .i .u8 32, vi .u8 [49, 49, 51, 51, 51, 51, 51, 52, 52, 52, 54, 54, 54, 54, 55, 55, 55, 55, 57, 57, 57], vi .u8 [48, 50, 48, 50, 52, 54, 56, 48, 50, 52, 50, 52, 54, 56, 48, 50, 52, 54, 52, 54, 56]]), (10, .i .i64 3)] .e, ⟨408, ofL [
(0, .c asc 0),
(3, .c p10 0),
(4, .c [.sym 2] 0),
(12, .m [] 3),
(13, .m [⟨.s [102, 97], .so 360 0 0 1, 0⟩, ⟨.s [100], .so 358 0 0 1, 1⟩, ⟨.s [102, 98, 49], .so 362 0 0 1, 2⟩, ⟨.s [102, 99], .so 364 0 0 1, 3⟩] 4),
(14, .c [.m 12, .i .i64 10000, .i .i64 3, .m 13] 0),
(15, .m [] 0),
(16, .c [.m 15, .sn, .i .i64 0] 0),
(17, .m [⟨.i .i64 0, .p 19 0, 0⟩] 1),
(18, .c [.p 14 0, .p 16 0, .m 17, .i .i64 1, .i .i64 9, .so 396 0 0 3] 0),
(19, .c [.sl 309 0 0 0, .sl 367 0 0 0, .pn, .sn] 0),
(309, .c [] 0),
(358, .c [.s [100], .s [97, 10, 98, 49, 10, 99, 10], .b false, .i .i64 3] 4),
(360, .c [.s [102, 97], .s [98, 32, 116, 111], .b false, .i .i64 1] 4),
(362, .c [.s [102, 98, 49], .st [.i .u8 46, .i .u8 115, .i .u8 112, .i .u8 97, .i .u8 99, .i .u8 101, .i .u8 32, vi .u8 [49, 49, 51, 51, 51, 51, 51, 52, 52, 52, 54, 54, 54, 54, 55, 55, 55, 55, 57, 57, 57], vi .u8 [48, 50, 48, 50, 52, 54, 56, 48, 50, 52, 50, 52, 54, 56, 48, 50, 52, 54, 52, 54, 56]], .b false, .i .i64 2] 4),
(364, .c [.s [102, 99], .s [116, 111, 58, 32, 115, 101, 95, 98, 108, 114], .b false, .i .i64 3] 4),
(367, .c [] 0),
(396, .c [.i .i64 0, .i .i64 1, .i .i64 3, .i .i64 1, .b true, .i .i64 1, .s [97], .s [98, 32, 116, 111], .i .i64 0, .i .i64 0, .s [], .sn, .sn, .i .i64 0, .i .i64 4, .i .i64 6, .i .i64 2, .b true, .i .i64 1, .s [98, 49], .st [.i .u8 46, .i .u8 115, .i .u8 112, .i .u8 97, .i .u8 99, .i .u8 101, .i .u8 32, vi .u8 [49, 49, 51, 51, 51, 51, 51, 52, 52, 52, 54, 54, 54, 54, 55, 55, 55, 55, 57, 57, 57], vi .u8 [48, 50, 48, 50, 52, 54, 56, 48, 50, 52, 50, 52, 54, 56, 48, 50, 52, 54, 52, 54, 56]], .i .i64 0, .i .i64 0, .s [], .sn, .sn, .i .i64 0, .i .i64 7, .i .i64 9, .i .i64 3, .b true, .i .i64 1, .s [99], .s [116, 111, 58, 32, 115, 101, 95, 98, 108, 114], .i .i64 0, .i .i64 0, .s [], .sn, .sn] 13)] .e⟩, []⟩
noncomputable def SA020_1 : St := ⟨ofL [(0, .sym 0), (1, .b false), (4, .b false), (5, .p 18 0), (6, vi .i64 [10, 12, 30, 32, 34, 36, 38, 40, 42, 44, 62, 64, 66, 68, 70, 72, 74, 76, 94, 96, 98]), (7, .s [98, 32, 116, 111]), (8, .s [116, 111, 58, 32, 115, 101, 95, 98, 108, 114]), (9, .st [.i .u8 46, .i .u8 115, .i .u8 112, .i .u8 97, .i .u8 99, .i .u8 101, .i .u8 32, vi .u8 [49, 49, 51, 51, 51, 51, 51, 52, 52, 52, 54, 54, 54, 54, 55, 55, 55, 55, 57, 57, 57], vi .u8 [48, 50, 48, 50, 52, 54, 56, 48, 50, 52, 50, 52, 54, 56, 48, 50, 52, 54, 52, 54, 56]]), (10, .i .i64 3), (11, .p 1223 0)] .e, ⟨1224, ofL [
(0, .c asc 0),
(3, .c p10 0),
(4, .c [.sym 2] 0),
(12, .m [] 4),
(13, .m [⟨.s [102, 97], .so 1171 0 0 1, 0⟩, ⟨.s [100], .so 1169 0 0 1, 1⟩, ⟨.s [102, 98, 49], .so 1173 0 0 1, 2⟩, ⟨.s [102, 99], .so 1175 0 0 1, 3⟩] 4),
(14, .c [.m 12, .i .i64 10000, .i .i64 3, .m 13] 0),
(16, .c [.m 513, .so 774 0 0 3, .i .i64 3] 0),
(17, .m [⟨.i .i64 0, .p 19 0, 0⟩] 1),
(18, .c [.p 14 0, .p 16 0, .m 17, .i .i64 1, .i .i64 16, .so 1208 0 0 4] 0),
(19, .c [.sl 433 0 0 0, .sl 1178 0 0 0, .pn, .sn] 0),
(433, .c [] 0),
(513, .m [⟨.s [97], .ag [.s [98, 32, 116, 111], .so 630 0 0 1], 0⟩, ⟨.s [98, 49], .ag [.st [.i .u8 46, .i .u8 115, .i .u8 112, .i .u8 97, .i .u8 99, .i .u8 101, .i .u8 32, vi .u8 [49, 49, 51, 51, 51, 51, 51, 52, 52, 52, 54, 54, 54, 54, 55, 55, 55, 55, 57, 57, 57], vi .u8 [48, 50, 48, 50, 52, 54, 56, 48, 50, 52, 50, 52, 54, 56, 48, 50, 52, 54, 52, 54, 56]], .so 753 0 0 1], 1⟩, ⟨.s [99], .ag [.s [116, 111, 58, 32, 115, 101, 95, 98, 108, 114], .so 772 0 0 1], 2⟩] 3),
(625, .c [.i .i64 (-1), .i .i64 2, .i .i64 0, .s [116, 111], .sn] 5),
(630, .c [.i .i64 1, .s [], .i .i64 2, .i .i64 0, .s [], .so 625 0 0 1] 6),
(748, .c [.i .i64 (-1), .i .i64 1, vi .i64 [10, 12, 30, 32, 34, 36, 38, 40, 42, 44, 62, 64, 66, 68, 70, 72, 74, 76, 94, 96, 98], .s [], .sn] 5),
(753, .c [.i .i64 1, .s [], .i .i64 8, .i .i64 0, .s [], .so 748 0 0 1] 6),
(772, .c [.i .i64 1, .s [116, 111], .i .i64 1, .i .i64 3, .s [], .sn] 6),
(774, .c [.s [97], .s [98, 49], .s [99]] 1),
(1162, .r [.i .u8 232, vi .u8 [6, 7, 16, 17, 18, 19, 20, 21, 22, 23, 32, 33, 34, 35, 36, 37, 38, 39, 48, 49, 50], .z [10, 12, 30, 32, 34, 36, 38, 40, 42, 44, 62, 64, 66, 68, 70, 72, 74, 76, 94, 96, 98], .i .u8 0, .i .u8 4]),
(1169, .c [.s [100], .s [97, 10, 98, 49, 10, 99, 10], .b false, .i .i64 3] 4),
(1171, .c [.s [102, 97], .s [98, 32, 116, 111], .b false, .i .i64 1] 4),
(1173, .c [.s [102, 98, 49], .st [.i .u8 46, .i .u8 115, .i .u8 112, .i .u8 97, .i .u8 99, .i .u8 101, .i .u8 32, vi .u8 [49, 49, 51, 51, 51, 51, 51, 52, 52, 52, 54, 54, 54, 54, 55, 55, 55, 55, 57, 57, 57], vi .u8 [48, 50, 48, 50, 52, 54, 56, 48, 50, 52, 50, 52, 54, 56, 48, 50, 52, 54, 52, 54, 56]], .b false, .i .i64 2] 4),
(1175, .c [.s [102, 99], .s [116, 111, 58, 32, 115, 101, 95, 98, 108, 114], .b false, .i .i64 3] 4),
(1178, .c [] 0),
(1208, .c [.i .i64 0, .i .i64 1, .i .i64 3, .i .i64 1, .b true, .i .i64 1, .s [97], .s [98, 32, 116, 111], .i .i64 0, .i .i64 0, .s [], .sn, .sn, .i .i64 0, .i .i64 4, .i .i64 6, .i .i64 2, .b true, .i .i64 1, .s [98, 49], .st [.i .u8 46, .i .u8 115, .i .u8 112, .i .u8 97, .i .u8 99, .i .u8 101, .i .u8 32, vi .u8 [49, 49, 51, 51, 51, 51, 51, 52, 52, 52, 54, 54, 54, 54, 55, 55, 55, 55, 57, 57, 57], vi .u8 [48, 50, 48, 50, 52, 54, 56, 48, 50, 52, 50, 52, 54, 56, 48, 50, 52, 54, 52, 54, 56]], .i .i64 0, .i .i64 0, .s [], .sn, .sn, .i .i64 0, .i .i64 7, .i .i64 9, .i .i64 3, .b true, .i .i64 1, .s [99], .s [116, 111, 58, 32, 115, 101, 95, 98, 108, 114], .i .i64 0, .i .i64 0, .s [], .sn, .sn, .i .i64 0, .i .i64 10, .i .i64 16, .i .i64 3, .b false, .i .i64 7, .s [], .s [], .i .i64 0, .i .i64 0, .s [], .rs 1162 0 5 false, .sn] 13),
(1220, .r [.i .u8 232, vi .u8 [6, 7, 16, 17, 18, 19, 20, 21, 22, 23, 32, 33, 34, 35, 36, 37, 38, 39, 48, 49, 50], .z [10, 12, 30, 32, 34, 36, 38, 40, 42, 44, 62, 64, 66, 68, 70, 72, 74, 76, 94, 96, 98], .i .u8 0, .i .u8 4]),
(1223, .c [.i .i64 0, .s [], .rs 1220 0 5 false, .sn] 0)] .e⟩, []⟩
noncomputable def SA020_2 : St := ⟨ofL [(4, .b true)] .e, ⟨1853, ofL [(0, .c asc 0), (3, .c p10 0), (4, .c [.sym 2] 0)] .e⟩, []⟩
end Go.Ae
namespace Go.Ae
open Go Go.Proofs
noncomputable def LA021 : List Value := [7, 8, 9, 10, 11, 12, 13, 14, 23, 24, 25, 26, 27, 28, 29, 30, 39, 40, 41, 42, 43, 44, 45, 46].map (.int .i64)
noncomputable def SA021_0 : St := ⟨ofL [(0, .sym 0), (1, .b false), (4, .b false), (5, .p 18 0), (6, vi .i64 [14, 16, 18, 20, 22, 24, 26, 28, 46, 48, 50, 52, 54, 56, 58, 60, 78, 80, 82, 84, 86, 88, 90, 92]), (7, .s [98, 32, 116, 111]), (8, .s [116, 111, 58, 32, 115, 101, 95, 98, 108, 114]), (9, .st [.i .u8 46, .i .u8 115, .i .u8 112, .i .u8 97, .i .u8 99, .i .u8 101, .i .u8 32, vi .u8 [49, 49, 49, 50, 50, 50, 50, 50, 52, 52, 53, 53, 53, 53, 53, 54, 55, 56, 56, 56, 56, 56, 57, 57], vi .u8 [52, 54, 56, 48, 50, 52, 54, 56, 54, 56, 48, 50, 52, 54, 56, 48, 56, 48, 50, 52, 54, 56, 48, 50]]), (10, .i .i64 3)] .e, ⟨408, ofL [
(0, .c asc 0),
(3, .c p10 0),
(4, .c [.sym 2] 0),
(12, .m [] 3),
(13, .m [⟨.s [102, 97], .so 360 0 0 1, 0⟩, ⟨.s [100], .so 358 0 0 1, 1⟩, ⟨.s [102, 98, 49], .so 362 0 0 1, 2⟩, ⟨.s [102, 99], .so 364 0 0 1, 3⟩] 4),
(14, .c [.m 12, .i .i64 10000, .i .i64 3, .m 13] 0),
(15, .m [] 0),
(16, .c [.m 15, .sn, .i .i64 0] 0),
(17, .m [⟨.i .i64 0, .p 19 0, 0⟩] 1),
(18, .c [.p 14 0, .p 16 0, .m 17, .i .i64 1, .i .i64 9, .so 396 0 0 3] 0),
(19, .c [.sl 309 0 0 0, .sl 367 0 0 0, .pn, .sn] 0),
(309, .c [] 0),
(358, .c [.s [100], .s [97, 10, 98, 49, 10, 99, 10], .b false, .i .i64 3] 4),
(360, .c [.s [102, 97], .s [98, 32, 116, 111], .b false, .i .i64 1] 4),
(362, .c [.s [102, 98, 49], .st [.i .u8 46, .i .u8 115, .i .u8 112, .i .u8 97, .i .u8 99, .i .u8 101, .i .u8 32, vi .u8 [49, 49, 49, 50, 50, 50, 50, 50, 52, 52, 53, 53, 53, 53, 53, 54, 55, 56, 56, 56, 56, 56, 57, 57], vi .u8 [52, 54, 56, 48, 50, 52, 54, 56, 54, 56, 48, 50, 52, 54, 56, 48, 56, 48, 50, 52, 54, 56, 48, 50]], .b false, .i .i64 2] 4),
(364, .c [.s [102, 99], .s [116, 111, 58, 32, 115, 101, 95, 98, 108, 114], .b false, .i .i64 3] 4),
(367, .c [] 0),
(396, .c [.i .i64 0, .i .i64 1, .i .i64 3, .i .i64 1, .b true, .i .i64 1, .s [97], .s [98, 32, 116, 111], .i .i64 0, .i .i64 0, .s [], .sn, .sn, .i .i64 0, .i .i64 4, .i .i64 6, .i .i64 2, .b true, .i .i64 1, .s [98, 49], .st [.i .u8 46, .i .u8 115, .i .u8 112, .i .u8 97, .i .u8 99, .i .u8 101, .i .u8 32, vi .u8 [49, 49, 49, 50, 50, 50, 50, 50, 52, 52, 53, 53, 53, 53, 53, 54, 55, 56, 56, 56, 56, 56, 57, 57], vi .u8 [52, 54, 56, 48, 50, 52, 54, 56, 54, 56, 48, 50, 52, 54, 56, 48, 56, 48, 50, 52, 54, 56, 48, 50]], .i .i64 0, .i .i64 0, .s [], .sn, .sn, .i .i64 0, .i .i64 7, .i .i64 9, .i .i64 3, .b true, .i .i64 1, .s [99], .s [116, 111, 58, 32, 115, 101, 95, 98, 108, 114], .i .i64 0, .i .i64 0, .s [], .sn, .sn] 13)] .e⟩, []⟩
noncomputable def SA021_1 : St := ⟨ofL [(0, .sym 0), (1, .b false), (4, .b false), (5, .p 18 0), (6, vi .i64 [14, 16, 18, 20, 22, 24, 26, 28, 46, 48, 50, 52, 54, 56, 58, 60, 78, 80, 82, 84, 86, 88, 90, 92]), (7, .s [98, 32, 116, 111]), (8, .s [116, 111, 58, 32, 115, 101, 95, 98, 108, 114]), (9, .st [.i .u8 46, .i .u8 115, .i .u8 112, .i .u8 97, .i .u8 99, .i .u8 101, .i .u8 32, vi .u8 [49, 49, 49, 50, 50, 50, 50, 50, 52, 52, 53, 53, 53, 53, 53, 54, 55, 56, 56, 56, 56, 56, 57, 57], vi .u8 [52, 54, 56, 48, 50, 52, 54, 56, 54, 56, 48, 50, 52, 54, 56, 48, 56, 48, 50, 52, 54, 56, 48, 50]]), (10, .i .i64 3), (11, .p 1223 0)] .e, ⟨1224, ofL [
(0, .c asc 0),
(3, .c p10 0),
(4, .c [.sym 2] 0),
(12, .m [] 4),
(13, .m [⟨.s [102, 97], .so 1171 0 0 1, 0⟩, ⟨.s [100], .so 1169 0 0 1, 1⟩, ⟨.s [102, 98, 49], .so 1173 0 0 1, 2⟩, ⟨.s [102, 99], .so 1175 0 0 1, 3⟩] 4),
(14, .c [.m 12, .i .i64 10000, .i .i64 3, .m 13] 0),
(16, .c [.m 513, .so 774 0 0 3, .i .i64 3] 0),
(17, .m [⟨.i .i64 0, .p 19 0, 0⟩] 1),
(18, .c [.p 14 0, .p 16 0, .m 17, .i .i64 1, .i .i64 16, .so 1208 0 0 4] 0),
(19, .c [.sl 433 0 0 0, .sl 1178 0 0 0, .pn, .sn] 0),
(433, .c [] 0),
(513, .m [⟨.s [97], .ag [.s [98, 32, 116, 111], .so 630 0 0 1], 0⟩, ⟨.s [98, 49], .ag [.st [.i .u8 46, .i .u8 115, .i .u8 112, .i .u8 97, .i .u8 99, .i .u8 101, .i .u8 32, vi .u8 [49, 49, 49, 50, 50, 50, 50, 50, 52, 52, 53, 53, 53, 53, 53, 54, 55, 56, 56, 56, 56, 56, 57, 57], vi .u8 [52, 54, 56, 48, 50, 52, 54, 56, 54, 56, 48, 50, 52, 54, 56, 48, 56, 48, 50, 52, 54, 56, 48, 50]], .so 753 0 0 1], 1⟩, ⟨.s [99], .ag [.s [116, 111, 58, 32, 115, 101, 95, 98, 108, 114], .so 772 0 0 1], 2⟩] 3),
(625, .c [.i .i64 (-1), .i .i64 2, .i .i64 0, .s [116, 111], .sn] 5),
(630, .c [.i .i64 1, .s [], .i .i64 2, .i .i64 0, .s [], .so 625 0 0 1] 6),
(748, .c [.i .i64 (-1), .i .i64 1, vi .i64 [14, 16, 18, 20, 22, 24, 26, 28, 46, 48, 50, 52, 54, 56, 58, 60, 78, 80, 82, 84, 86, 88, 90, 92], .s [], .sn] 5),
(753, .c [.i .i64 1, .s [], .i .i64 8, .i .i64 0, .s [], .so 748 0 0 1] 6),
(772, .c [.i .i64 1, .s [116, 111], .i .i64 1, .i .i64 3, .s [], .sn] 6),
(774, .c [.s [97], .s [98, 49], .s [99]] 1),
(1162, .r [.i .u8 232, vi .u8 [8, 9, 10, 11, 12, 13, 14, 15, 24, 25, 26, 27, 28, 29, 30, 31, 40, 41, 42, 43, 44, 45, 46, 47], .z [14, 16, 18, 20, 22, 24, 26, 28, 46, 48, 50, 52, 54, 56, 58, 60, 78, 80, 82, 84, 86, 88, 90, 92], .i .u8 0, .i .u8 4]),
(1169, .c [.s [100], .s [97, 10, 98, 49, 10, 99, 10], .b false, .i .i64 3] 4),
(1171, .c [.s [102, 97], .s [98, 32, 116, 111], .b false, .i .i64 1] 4),
(1173, .c [.s [102, 98, 49], .st [.i .u8 46, .i .u8 115, .i .u8 112, .i .u8 97, .i .u8 99, .i .u8 101, .i .u8 32, vi .u8 [49, 49, 49, 50, 50, 50, 50, 50, 52, 52, 53, 53, 53, 53, 53, 54, 55, 56, 56, 56, 56, 56, 57, 57], vi .u8 [52, 54, 56, 48, 50, 52, 54, 56, 54, 56, 48, 50, 52, 54, 56, 48, 56, 48, 50, 52, 54, 56, 48, 50]], .b false, .i .i64 2] 4),
(1175, .c [.s [102, 99], .s [116, 111, 58, 32, 115, 101, 95, 98, 108, 114], .b false, .i .i64 3] 4),
(1178, .c [] 0),
(1208, .c [.i .i64 0, .i .i64 1, .i .i64 3, .i .i64 1, .b true, .i .i64 1, .s [97], .s [98, 32, 116, 111], .i .i64 0, .i .i64 0, .s [], .sn, .sn, .i .i64 0, .i .i64 4, .i .i64 6, .i .i64 2, .b true, .i .i64 1, .s [98, 49], .st [.i .u8 46, .i .u8 115, .i .u8 112, .i .u8 97, .i .u8 99, .i .u8 101, .i .u8 32, vi .u8 [49, 49, 49, 50, 50, 50, 50, 50, 52, 52, 53, 53, 53, 53, 53, 54, 55, 56, 56, 56, 56, 56, 57, 57], vi .u8 [52, 54, 56, 48, 50, 52, 54, 56, 54, 56, 48, 50, 52, 54, 56, 48, 56, 48, 50, 52, 54, 56, 48, 50]], .i .i64 0, .i .i64 0, .s [], .sn, .sn, .i .i64 0, .i .i64 7, .i .i64 9, .i .i64 3, .b true, .i .i64 1, .s [99], .s [116, 111, 58, 32, 115, 101, 95, 98, 108, 114], .i .i64 0, .i .i64 0, .s [], .sn, .sn, .i .i64 0, .i .i64 10, .i .i64 16, .i .i64 3, .b false, .i .i64 7, .s [], .s [], .i .i64 0, .i .i64 0, .s [], .rs 1162 0 5 false, .sn] 13),
(1220, .r [.i .u8 232, vi .u8 [8, 9, 10, 11, 12, 13, 14, 15, 24, 25, 26, 27, 28, 29, 30, 31, 40, 41, 42, 43, 44, 45, 46, 47], .z [14, 16, 18, 20, 22, 24, 26, 28, 46, 48, 50, 52, 54, 56, 58, 60, 78, 80, 82, 84, 86, 88, 90, 92], .i .u8 0, .i .u8 4]),
(1223, .c [.i .i64 0, .s [], .rs 1220 0 5 false, .sn] 0)] .e⟩, []⟩
noncomputable def SA021_2 : St := ⟨ofL [(4, .b true)] .e, ⟨1853, ofL [(0, .c asc 0), (3, .c p10 0), (4, .c [.sym 2] 0)] .e⟩, []⟩
end Go.Ae
namespace Go.Ae
open Go Go.Proofs
noncomputable def LA030 : List Value := [50, 51, 52, 53, 54, 63, 64, 65, 66, 67, 68, 69, 70, 79, 80, 81, 82, 83, 84, 85, 86, 95, 96, 97, 98, 99, 100, 101, 102, 111, 112, 113, 114, 115, 116, 117, 118].map (.int .i64)
noncomputable def SA030_0 : St := ⟨ofL [(0, .sym 0), (1, .b false), (4, .b false), (5, .p 18 0), (6, vi .i64 [100, 102, 104, 106, 108, 126, 128, 130, 132, 134, 136, 138, 140, 158, 160, 162, 164, 166, 168, 170, 172, 190, 192, 194, 196, 198, 200, 202, 204, 222, 224, 226, 228, 230, 232, 234, 236]), (7, .s [98, 32, 116, 111]), (8, .s [116, 111, 58, 32, 115, 101, 95, 98, 108, 114]), (9, .st [.i .u8 46, .i .u8 115, .i .u8 112, .i .u8 97, .i .u8 99, .i .u8 101, .i .u8 32, vi .u8 [49, 49, 49, 49, 49, 49, 49, 49, 49, 49, 49, 49, 49, 49, 49, 49, 49, 49, 49, 49, 49, 49, 49, 49, 49, 49, 50, 50, 50, 50, 50, 50, 50, 50, 50, 50, 50], vi .u8 [48, 48, 48, 48, 48, 50, 50, 51, 51, 51, 51, 51, 52, 53, 54, 54, 54, 54, 54, 55, 55, 57, 57, 57, 57, 57, 48, 48, 48, 50, 50, 50, 50, 51, 51, 51, 51], vi .u8 [48, 50, 52, 54, 56, 54, 56, 48, 50, 52, 54, 56, 48, 56, 48, 50, 52, 54, 56, 48, 50, 48, 50, 52, 54, 56, 48, 50, 52, 50, 52, 54, 56, 48, 50, 52, 54]]), (10, .i .i64 3)] .e, ⟨410, ofL [
(0, .c asc 0),
(3, .c p10 0),
(4, .c [.sym 2] 0),
(12, .m [] 3),
(13, .m [⟨.s [102, 97], .so 362 0 0 1, 0⟩, ⟨.s [100], .so 360 0 0 1, 1⟩, ⟨.s [102, 98, 49], .so 364 0 0 1, 2⟩, ⟨.s [102, 99], .so 366 0 0 1, 3⟩] 4),
(14, .c [.m 12, .i .i64 10000, .i .i64 3, .m 13] 0),
(15, .m [] 0),
(16, .c [.m 15, .sn, .i .i64 0] 0),
(17, .m [⟨.i .i64 0, .p 19 0, 0⟩] 1),
(18, .c [.p 14 0, .p 16 0, .m 17, .i .i64 1, .i .i64 9, .so 398 0 0 3] 0),
(19, .c [.sl 311 0 0 0, .sl 369 0 0 0, .pn, .sn] 0),
(311, .c [] 0),
(360, .c [.s [100], .s [97, 10, 98, 49, 10, 99, 10], .b false, .i .i64 3] 4),
(362, .c [.s [102, 97], .s [98, 32, 116, 111], .b false, .i .i64 1] 4),
(364, .c [.s [102, 98, 49], .st [.i .u8 46, .i .u8 115, .i .u8 112, .i .u8 97, .i .u8 99, .i .u8 101, .i .u8 32, vi .u8 [49, 49, 49, 49, 49, 49, 49, 49, 49, 49, 49, 49, 49, 49, 49, 49, 49, 49, 49, 49, 49, 49, 49, 49, 49, 49, 50, 50, 50, 50, 50, 50, 50, 50, 50, 50, 50], vi .u8 [48, 48, 48, 48, 48, 50, 50, 51, 51, 51, 51, 51, 52, 53, 54, 54, 54, 54, 54, 55, 55, 57, 57, 57, 57, 57, 48, 48, 48, 50, 50, 50, 50, 51, 51, 51, 51], vi .u8 [48, 50, 52, 54, 56, 54, 56, 48, 50, 52, 54, 56, 48, 56, 48, 50, 52, 54, 56, 48, 50, 48, 50, 52, 54, 56, 48, 50, 52, 50, 52, 54, 56, 48, 50, 52, 54]], .b false, .i .i64 2] 4),
(366, .c [.s [102, 99], .s [116, 111, 58, 32, 115, 101, 95, 98, 108, 114], .b false, .i .i64 3] 4),
(369, .c [] 0),
(398, .c [.i .i64 0, .i .i64 1, .i .i64 3, .i .i64 1, .b true, .i .i64 1, .s [97], .s [98, 32, 116, 111], .i .i64 0, .i .i64 0, .s [], .sn, .sn, .i .i64 0, .i .i64 4, .i .i64 6, .i .i64 2, .b true, .i .i64 1, .s [98, 49], .st [.i .u8 46, .i .u8 115, .i .u8 112, .i .u8 97, .i .u8 99, .i .u8 101, .i .u8 32, vi .u8 [49, 49, 49, 49, 49, 49, 49, 49, 49, 49, 49, 49, 49, 49, 49, 49, 49, 49, 49, 49, 49, 49, 49, 49, 49, 49, 50, 50, 50, 50, 50, 50, 50, 50, 50, 50, 50], vi .u8 [48, 48, 48, 48, 48, 50, 50, 51, 51, 51, 51, 51, 52, 53, 54, 54, 54, 54, 54, 55, 55, 57, 57, 57, 57, 57, 48, 48, 48, 50, 50, 50, 50, 51, 51, 51, 51], vi .u8 [48, 50, 52, 54, 56, 54, 56, 48, 50, 52, 54, 56, 48, 56, 48, 50, 52, 54, 56, 48, 50, 48, 50, 52, 54, 56, 48, 50, 52, 50, 52, 54, 56, 48, 50, 52, 54]], .i .i64 0, .i .i64 0, .s [], .sn, .sn, .i .i64 0, .i .i64 7, .i .i64 9, .i .i64 3, .b true, .i .i64 1, .s [99], .s [116, 111, 58, 32, 115, 101, 95, 98, 108, 114], .i .i64 0, .i .i64 0, .s [], .sn, .sn] 13)] .e⟩, []⟩
noncomputable def SA030_1 : St := ⟨ofL [(0, .sym 0), (1, .b false), (4, .b false), (5, .p 18 0), (6, vi .i64 [100, 102, 104, 106, 108, 126, 128, 130, 132, 134, 136, 138, 140, 158, 160, 162, 164, 166, 168, 170, 172, 190, 192, 194, 196, 198, 200, 202, 204, 222, 224, 226, 228, 230, 232, 234, 236]), (7, .s [98, 32, 116, 111]), (8, .s [116, 111, 58, 32, 115, 101, 95, 98, 108, 114]), (9, .st [.i .u8 46, .i .u8 115, .i .u8 112, .i .u8 97, .i .u8 99, .i .u8 101, .i .u8 32, vi .u8 [49, 49, 49, 49, 49, 49, 49, 49, 49, 49, 49, 49, 49, 49, 49, 49, 49, 49, 49, 49, 49, 49, 49, 49, 49, 49, 50, 50, 50, 50, 50, 50, 50, 50, 50, 50, 50], vi .u8 [48, 48, 48, 48, 48, 50, 50, 51, 51, 51, 51, 51, 52, 53, 54, 54, 54, 54, 54, 55, 55, 57, 57, 57, 57, 57, 48, 48, 48, 50, 50, 50, 50, 51, 51, 51, 51], vi .u8 [48, 50, 52, 54, 56, 54, 56, 48, 50, 52, 54, 56, 48, 56, 48, 50, 52, 54, 56, 48, 50, 48, 50, 52, 54, 56, 48, 50, 52, 50, 52, 54, 56, 48, 50, 52, 54]]), (10, .i .i64 3), (11, .p 1225 0)] .e, ⟨1226, ofL [
(0, .c asc 0),
(3, .c p10 0),
(4, .c [.sym 2] 0),
(12, .m [] 4),
(13, .m [⟨.s [102, 97], .so 1173 0 0 1, 0⟩, ⟨.s [100], .so 1171 0 0 1, 1⟩, ⟨.s [102, 98, 49], .so 1175 0 0 1, 2⟩, ⟨.s [102, 99], .so 1177 0 0 1, 3⟩] 4),
(14, .c [.m 12, .i .i64 10000, .i .i64 3, .m 13] 0),
(16, .c [.m 515, .so 776 0 0 3, .i .i64 3] 0),
(17, .m [⟨.i .i64 0, .p 19 0, 0⟩] 1),
(18, .c [.p 14 0, .p 16 0, .m 17, .i .i64 1, .i .i64 16, .so 1210 0 0 4] 0),
(19, .c [.sl 435 0 0 0, .sl 1180 0 0 0, .pn, .sn] 0),
(435, .c [] 0),
(515, .m [⟨.s [97], .ag [.s [98, 32, 116, 111], .so 632 0 0 1], 0⟩, ⟨.s [98, 49], .ag [.st [.i .u8 46, .i .u8 115, .i .u8 112, .i .u8 97, .i .u8 99, .i .u8 101, .i .u8 32, vi .u8 [49, 49, 49, 49, 49, 49, 49, 49, 49, 49, 49, 49, 49, 49, 49, 49, 49, 49, 49, 49, 49, 49, 49, 49, 49, 49, 50, 50, 50, 50, 50, 50, 50, 50, 50, 50, 50], vi .u8 [48, 48, 48, 48, 48, 50, 50, 51, 51, 51, 51, 51, 52, 53, 54, 54, 54, 54, 54, 55, 55, 57, 57, 57, 57, 57, 48, 48, 48, 50, 50, 50, 50, 51, 51, 51, 51], vi .u8 [48, 50, 52, 54, 56, 54, 56, 48, 50, 52, 54, 56, 48, 56, 48, 50, 52, 54, 56, 48, 50, 48, 50, 52, 54, 56, 48, 50, 52, 50, 52, 54, 56, 48, 50, 52, 54]], .so 755 0 0 1], 1⟩, ⟨.s [99], .ag [.s [116, 111, 58, 32, 115, 101, 95, 98, 108, 114], .so 774 0 0 1], 2⟩] 3),
(627, .c [.i .i64 (-1), .i .i64 2, .i .i64 0, .s [116, 111], .sn] 5),
(632, .c [.i .i64 1, .s [], .i .i64 2, .i .i64 0, .s [], .so 627 0 0 1] 6),
(750, .c [.i .i64 (-1), .i .i64 1, vi .i64 [100, 102, 104, 106, 108, 126, 128, 130, 132, 134, 136, 138, 140, 158, 160, 162, 164, 166, 168, 170, 172, 190, 192, 194, 196, 198, 200, 202, 204, 222, 224, 226, 228, 230, 232, 234, 236], .s [], .sn] 5),
(755, .c [.i .i64 1, .s [], .i .i64 8, .i .i64 0, .s [], .so 750 0 0 1] 6),
(774, .c [.i .i64 1, .s [116, 111], .i .i64 1, .i .i64 3, .s [], .sn] 6),
(776, .c [.s [97], .s [98, 49], .s [99]] 1),
(1164, .r [.i .u8 232, vi .u8 [51, 52, 53, 54, 55, 64, 65, 66, 67, 68, 69, 70, 71, 80, 81, 82, 83, 84, 85, 86, 87, 96, 97, 98, 99, 100, 101, 102, 103, 112, 113, 114, 115, 116, 117, 118, 119], .z [100, 102, 104, 106, 108, 126, 128, 130, 132, 134, 136, 138, 140, 158, 160, 162, 164, 166, 168, 170, 172, 190, 192, 194, 196, 198, 200, 202, 204, 222, 224, 226, 228, 230, 232, 234, 236], .i .u8 0, .i .u8 4]),
(1171, .c [.s [100], .s [97, 10, 98, 49, 10, 99, 10], .b false, .i .i64 3] 4),
(1173, .c [.s [102, 97], .s [98, 32, 116, 111], .b false, .i .i64 1] 4),
(1175, .c [.s [102, 98, 49], .st [.i .u8 46, .i .u8 115, .i .u8 112, .i .u8 97, .i .u8 99, .i .u8 101, .i .u8 32, vi .u8 [49, 49, 49, 49, 49, 49, 49, 49, 49, 49, 49, 49, 49, 49, 49, 49, 49, 49, 49, 49, 49, 49, 49, 49, 49, 49, 50, 50, 50, 50, 50, 50, 50, 50, 50, 50, 50], vi .u8 [48, 48, 48, 48, 48, 50, 50, 51, 51, 51, 51, 51, 52, 53, 54, 54, 54, 54, 54, 55, 55, 57, 57, 57, 57, 57, 48, 48, 48, 50, 50, 50, 50, 51, 51, 51, 51], vi .u8 [48, 50, 52, 54, 56, 54, 56, 48, 50, 52, 54, 56, 48, 56, 48, 50, 52, 54, 56, 48, 50, 48, 50, 52, 54, 56, 48, 50, 52, 50, 52, 54, 56, 48, 50, 52, 54]], .b false, .i .i64 2] 4),
(1177, .c [.s [102, 99], .s [116, 111, 58, 32, 115, 101, 95, 98, 108, 114], .b false, .i .i64 3] 4),
(1180, .c [] 0),
(1210, .c [.i .i64 0, .i .i64 1, .i .i64 3, .i .i64 1, .b true, .i .i64 1, .s [97], .s [98, 32, 116, 111], .i .i64 0, .i .i64 0, .s [], .sn, .sn, .i .i64 0, .i .i64 4, .i .i64 6, .i .i64 2, .b true, .i .i64 1, .s [98, 49], .st [.i .u8 46, .i .u8 115, .i .u8 112, .i .u8 97, .i .u8 99, .i .u8 101, .i .u8 32, vi .u8 [49, 49, 49, 49, 49, 49, 49, 49, 49, 49, 49, 49, 49, 49, 49, 49, 49, 49, 49, 49, 49, 49, 49, 49, 49, 49, 50, 50, 50, 50, 50, 50, 50, 50, 50, 50, 50], vi .u8 [48, 48, 48, 48, 48, 50, 50, 51, 51, 51, 51, 51, 52, 53, 54, 54, 54, 54, 54, 55, 55, 57, 57, 57, 57, 57, 48, 48, 48, 50, 50, 50, 50, 51, 51, 51, 51], vi .u8 [48, 50, 52, 54, 56, 54, 56, 48, 50, 52, 54, 56, 48, 56, 48, 50, 52, 54, 56, 48, 50, 48, 50, 52, 54, 56, 48, 50, 52, 50, 52, 54, 56, 48, 50, 52, 54]], .i .i64 0, .i .i64 0, .s [], .sn, .sn, .i .i64 0, .i .i64 7, .i .i64 9, .i .i64 3, .b true, .i .i64 1, .s [99], .s [116, 111, 58, 32, 115, 101, 95, 98, 108, 114], .i .i64 0, .i .i64 0, .s [], .sn, .sn, .i .i64 0, .i .i64 10, .i .i64 16, .i .i64 3, .b false, .i .i64 7, .s [], .s [], .i .i64 0, .i .i64 0, .s [], .rs 1164 0 5 false, .sn] 13),
(1222, .r [.i .u8 232, vi .u8 [51, 52, 53, 54, 55, 64, 65, 66, 67, 68, 69, 70, 71, 80, 81, 82, 83, 84, 85, 86, 87, 96, 97, 98, 99, 100, 101, 102, 103, 112, 113, 114, 115, 116, 117, 118, 119], .z [100, 102, 104, 106, 108, 126, 128, 130, 132, 134, 136, 138, 140, 158, 160, 162, 164, 166, 168, 170, 172, 190, 192, 194, 196, 198, 200, 202, 204, 222, 224, 226, 228, 230, 232, 234, 236], .i .u8 0, .i .u8 4]),
(1225, .c [.i .i64 0, .s [], .rs 1222 0 5 false, .sn] 0)] .e⟩, []⟩
noncomputable def SA030_2 : St := ⟨ofL [(4, .b true)] .e, ⟨1855, ofL [(0, .c asc 0), (3, .c p10 0), (4, .c [.sym 2] 0)] .e⟩, []⟩
end Go.Ae
namespace Go.Ae
open Go Go.Proofs
noncomputable def LA031 : List Value := [55, 56, 57, 58, 59, 60, 61, 62, 71, 72, 73, 74, 75, 76, 77, 78, 87, 88, 89, 90, 91, 92, 93, 94, 103, 104, 105, 106, 107, 108, 109, 110, 119, 120, 121, 122, 123, 124, 125, 126].map (.int .i64)
noncomputable def SA031_0 : St := ⟨ofL [(0, .sym 0), (1, .b false), (4, .b false), (5, .p 18 0), (6, vi .i64 [110, 112, 114, 116, 118, 120, 122, 124, 142, 144, 146, 148, 150, 152, 154, 156, 174, 176, 178, 180, 182, 184, 186, 188, 206, 208, 210, 212, 214, 216, 218, 220, 238, 240, 242, 244, 246, 248, 250, 252]), (7, .s [98, 32, 116, 111]), (8, .s [116, 111, 58, 32, 115, 101, 95, 98, 108, 114]), (9, .st [.i .u8 46, .i .u8 115, .i .u8 112, .i .u8 97, .i .u8 99, .i .u8 101, .i .u8 32, vi .u8 [49, 49, 49, 49, 49, 49, 49, 49, 49, 49, 49, 49, 49, 49, 49, 49, 49, 49, 49, 49, 49, 49, 49, 49, 50, 50, 50, 50, 50, 50, 50, 50, 50, 50, 50, 50, 50, 50, 50, 50], vi .u8 [49, 49, 49, 49, 49, 50, 50, 50, 52, 52, 52, 52, 53, 53, 53, 53, 55, 55, 55, 56, 56, 56, 56, 56, 48, 48, 49, 49, 49, 49, 49, 50, 51, 52, 52, 52, 52, 52, 53, 53], vi .u8 [48, 50, 52, 54, 56, 48, 50, 52, 50, 52, 54, 56, 48, 50, 52, 54, 52, 54, 56, 48, 50, 52, 54, 56, 54, 56, 48, 50, 52, 54, 56, 48, 56, 48, 50, 52, 54, 56, 48, 50]]), (10, .i .i64 3)] .e, ⟨410, ofL [
(0, .c asc 0),
(3, .c p10 0),
(4, .c [.sym 2] 0),
(12, .m [] 3),
(13, .m [⟨.s [102, 97], .so 362 0 0 1, 0⟩, ⟨.s [100], .so 360 0 0 1, 1⟩, ⟨.s [102, 98, 49], .so 364 0 0 1, 2⟩, ⟨.s [102, 99], .so 366 0 0 1, 3⟩] 4),
(14, .c [.m 12, .i .i64 10000, .i .i64 3, .m 13] 0),
(15, .m [] 0),
(16, .c [.m 15, .sn, .i .i64 0] 0),
(17, .m [⟨.i .i64 0, .p 19 0, 0⟩] 1),
(18, .c [.p 14 0, .p 16 0, .m 17, .i .i64 1, .i .i64 9, .so 398 0 0 3] 0),
(19, .c [.sl 311 0 0 0, .sl 369 0 0 0, .pn, .sn] 0),
(311, .c [] 0),
(360, .c [.s [100], .s [97, 10, 98, 49, 10, 99, 10], .b false, .i .i64 3] 4),
(362, .c [.s [102, 97], .s [98, 32, 116, 111], .b false, .i .i64 1] 4),
(364, .c [.s [102, 98, 49], .st [.i .u8 46, .i .u8 115, .i .u8 112, .i .u8 97, .i .u8 99, .i .u8 101, .i .u8 32, vi .u8 [49, 49, 49, 49, 49, 49, 49, 49, 49, 49, 49, 49, 49, 49, 49, 49, 49, 49, 49, 49, 49, 49, 49, 49, 50, 50, 50, 50, 50, 50, 50, 50, 50, 50, 50, 50, 50, 50, 50, 50], vi .u8 [49, 49, 49, 49, 49, 50, 50, 50, 52, 52, 52, 52, 53, 53, 53, 53, 55, 55, 55, 56, 56, 56, 56, 56, 48, 48, 49, 49, 49, 49, 49, 50, 51, 52, 52, 52, 52, 52, 53, 53], vi .u8 [48, 50, 52, 54, 56, 48, 50, 52, 50, 52, 54, 56, 48, 50, 52, 54, 52, 54, 56, 48, 50, 52, 54, 56, 54, 56, 48, 50, 52, 54, 56, 48, 56, 48, 50, 52, 54, 56, 48, 50]], .b false, .i .i64 2] 4),
(366, .c [.s [102, 99], .s [116, 111, 58, 32, 115, 101, 95, 98, 108, 114], .b false, .i .i64 3] 4),
(369, .c [] 0),
(398, .c [.i .i64 0, .i .i64 1, .i .i64 3, .i .i64 1, .b true, .i .i64 1, .s [97], .s [98, 32, 116, 111], .i .i64 0, .i .i64 0, .s [], .sn, .sn, .i .i64 0, .i .i64 4, .i .i64 6, .i .i64 2, .b true, .i .i64 1, .s [98, 49], .st [.i .u8 46, .i .u8 115, .i .u8 112, .i .u8 97, .i .u8 99, .i .u8 101, .i .u8 32, vi .u8 [49, 49, 49, 49, 49, 49, 49, 49, 49, 49, 49, 49, 49, 49, 49, 49, 49, 49, 49, 49, 49, 49, 49, 49, 50, 50, 50, 50, 50, 50, 50, 50, 50, 50, 50, 50, 50, 50, 50, 50], vi .u8 [49, 49, 49, 49, 49, 50, 50, 50, 52, 52, 52, 52, 53, 53, 53, 53, 55, 55, 55, 56, 56, 56, 56, 56, 48, 48, 49, 49, 49, 49, 49, 50, 51, 52, 52, 52, 52, 52, 53, 53], vi .u8 [48, 50, 52, 54, 56, 48, 50, 52, 50, 52, 54, 56, 48, 50, 52, 54, 52, 54, 56, 48, 50, 52, 54, 56, 54, 56, 48, 50, 52, 54, 56, 48, 56, 48, 50, 52, 54, 56, 48, 50]], .i .i64 0, .i .i64 0, .s [], .sn, .sn, .i .i64 0, .i .i64 7, .i .i64 9, .i .i64 3, .b true, .i .i64 1, .s [99], .s [116, 111, 58, 32, 115, 101, 95, 98, 108, 114], .i .i64 0, .i .i64 0, .s [], .sn, .sn] 13)] .e⟩, []⟩
noncomputable def SA031_1 : St := ⟨ofL [(0, .sym 0), (1, .b false), (4, .b false), (5, .p 18 0), (6, vi .i64 [110, 112, 114, 116, 118, 120, 122, 124, 142, 144, 146, 148, 150, 152, 154, 156, 174, 176, 178, 180, 182, 184, 186, 188, 206, 208, 210, 212, 214, 216, 218, 220, 238, 240, 242, 244, 246, 248, 250, 252]), (7, .s [98, 32, 116, 111]), (8, .s [116, 111, 58, 32, 115, 101, 95, 98, 108, 114]), (9, .st [.i .u8 46, .i .u8 115, .i .u8 112, .i .u8 97, .i .u8 99, .i .u8 101, .i .u8 32, vi .u8 [49, 49, 49, 49, 49, 49, 49, 49, 49, 49, 49, 49, 49, 49, 49, 49, 49, 49, 49, 49, 49, 49, 49, 49, 50, 50, 50, 50, 50, 50, 50, 50, 50, 50, 50, 50, 50, 50, 50, 50], vi .u8 [49, 49, 49, 49, 49, 50, 50, 50, 52, 52, 52, 52, 53, 53, 53, 53, 55, 55, 55, 56, 56, 56, 56, 56, 48, 48, 49, 49, 49, 49, 49, 50, 51, 52, 52, 52, 52, 52, 53, 53], vi .u8 [48, 50, 52, 54, 56, 48, 50, 52, 50, 52, 54, 56, 48, 50, 52, 54, 52, 54, 56, 48, 50, 52, 54, 56, 54, 56, 48, 50, 52, 54, 56, 48, 56, 48, 50, 52, 54, 56, 48, 50]]), (10, .i .i64 3), (11, .p 1225 0)] .e, ⟨1226, ofL [
(0, .c asc 0),
(3, .c p10 0),
(4, .c [.sym 2] 0),
(12, .m [] 4),
(13, .m [⟨.s [102, 97], .so 1173 0 0 1, 0⟩, ⟨.s [100], .so 1171 0 0 1, 1⟩, ⟨.s [102, 98, 49], .so 1175 0 0 1, 2⟩, ⟨.s [102, 99], .so 1177 0 0 1, 3⟩] 4),
(14, .c [.m 12, .i .i64 10000, .i .i64 3, .m 13] 0),
(16, .c [.m 515, .so 776 0 0 3, .i .i64 3] 0),
(17, .m [⟨.i .i64 0, .p 19 0, 0⟩] 1),
(18, .c [.p 14 0, .p 16 0, .m 17, .i .i64 1, .i .i64 16, .so 1210 0 0 4] 0),
(19, .c [.sl 435 0 0 0, .sl 1180 0 0 0, .pn, .sn] 0),
(435, .c [] 0),
(515, .m [⟨.s [97], .ag [.s [98, 32, 116, 111], .so 632 0 0 1], 0⟩, ⟨.s [98, 49], .ag [.st [.i .u8 46, .i .u8 115, .i .u8 112, .i .u8 97, .i .u8 99, .i .u8 101, .i .u8 32, vi .u8 [49, 49, 49, 49, 49, 49, 49, 49, 49, 49, 49, 49, 49, 49, 49, 49, 49, 49, 49, 49, 49, 49, 49, 49, 50, 50, 50, 50, 50, 50, 50, 50, 50, 50, 50, 50, 50, 50, 50, 50], vi .u8 [49, 49, 49, 49, 49, 50, 50, 50, 52, 52, 52, 52, 53, 53, 53, 53, 55, 55, 55, 56, 56, 56, 56, 56, 48, 48, 49, 49, 49, 49, 49, 50, 51, 52, 52, 52, 52, 52, 53, 53], vi .u8 [48, 50, 52, 54, 56, 48, 50, 52, 50, 52, 54, 56, 48, 50, 52, 54, 52, 54, 56, 48, 50, 52, 54, 56, 54, 56, 48, 50, 52, 54, 56, 48, 56, 48, 50, 52, 54, 56, 48, 50]], .so 755 0 0 1], 1⟩, ⟨.s [99], .ag [.s [116, 111, 58, 32, 115, 101, 95, 98, 108, 114], .so 774 0 0 1], 2⟩] 3),
(627, .c [.i .i64 (-1), .i .i64 2, .i .i64 0, .s [116, 111], .sn] 5),
(632, .c [.i .i64 1, .s [], .i .i64 2, .i .i64 0, .s [], .so 627 0 0 1] 6),
(750, .c [.i .i64 (-1), .i .i64 1, vi .i64 [110, 112, 114, 116, 118, 120, 122, 124, 142, 144, 146, 148, 150, 152, 154, 156, 174, 176, 178, 180, 182, 184, 186, 188, 206, 208, 210, 212, 214, 216, 218, 220, 238, 240, 242, 244, 246, 248, 250, 252], .s [], .sn] 5),
(755, .c [.i .i64 1, .s [], .i .i64 8, .i .i64 0, .s [], .so 750 0 0 1] 6),
(774, .c [.i .i64 1, .s [116, 111], .i .i64 1, .i .i64 3, .s [], .sn] 6),
(776, .c [.s [97], .s [98, 49], .s [99]] 1),
(1164, .r [.i .u8 232, vi .u8 [56, 57, 58, 59, 60, 61, 62, 63, 72, 73, 74, 75, 76, 77, 78, 79, 88, 89, 90, 91, 92, 93, 94, 95, 104, 105, 106, 107, 108, 109, 110, 111, 120, 121, 122, 123, 124, 125, 126, 127], .z [110, 112, 114, 116, 118, 120, 122, 124, 142, 144, 146, 148, 150, 152, 154, 156, 174, 176, 178, 180, 182, 184, 186, 188, 206, 208, 210, 212, 214, 216, 218, 220, 238, 240, 242, 244, 246, 248, 250, 252], .i .u8 0, .i .u8 4]),
(1171, .c [.s [100], .s [97, 10, 98, 49, 10, 99, 10], .b false, .i .i64 3] 4),
(1173, .c [.s [102, 97], .s [98, 32, 116, 111], .b false, .i .i64 1] 4),
(1175, .c [.s [102, 98, 49], .st [.i .u8 46, .i .u8 115, .i .u8 112, .i .u8 97, .i .u8 99, .i .u8 101, .i .u8 32, vi .u8 [49, 49, 49, 49, 49, 49, 49, 49, 49, 49, 49, 49, 49, 49, 49, 49, 49, 49, 49, 49, 49, 49, 49, 49, 50, 50, 50, 50, 50, 50, 50, 50, 50, 50, 50, 50, 50, 50, 50, 50], vi .u8 [49, 49, 49, 49, 49, 50, 50, 50, 52, 52, 52, 52, 53, 53, 53, 53, 55, 55, 55, 56, 56, 56, 56, 56, 48, 48, 49, 49, 49, 49, 49, 50, 51, 52, 52, 52, 52, 52, 53, 53], vi .u8 [48, 50, 52, 54, 56, 48, 50, 52, 50, 52, 54, 56, 48, 50, 52, 54, 52, 54, 56, 48, 50, 52, 54, 56, 54, 56, 48, 50, 52, 54, 56, 48, 56, 48, 50, 52, 54, 56, 48, 50]], .b false, .i .i64 2] 4),
(1177, .c [.s [102, 99], .s [116, 111, 58, 32, 115, 101, 95, 98, 108, 114], .b false, .i .i64 3] 4),
(1180, .c [] 0),
(1210, .c [.i .i64 0, .i .i64 1, .i .i64 3, .i .i64 1, .b true, .i .i64 1, .s [97], .s [98, 32, 116, 111], .i .i64 0, .i .i64 0, .s [], .sn, .sn, .i .i64 0, .i .i64 4, .i .i64 6, .i .i64 2, .b true, .i .i64 1, .s [98, 49], .st [.i .u8 46, .i .u8 115, .i .u8 112, .i .u8 97, .i .u8 99, .i .u8 101, .i .u8 32, vi .u8 [49, 49, 49, 49, 49, 49, 49, 49, 49, 49, 49, 49, 49, 49, 49, 49, 49, 49, 49, 49, 49, 49, 49, 49, 50, 50, 50, 50, 50, 50, 50, 50, 50, 50, 50, 50, 50, 50, 50, 50], vi .u8 [49, 49, 49, 49, 49, 50, 50, 50, 52, 52, 52, 52, 53, 53, 53, 53, 55, 55, 55, 56, 56, 56, 56, 56, 48, 48, 49, 49, 49, 49, 49, 50, 51, 52, 52, 52, 52, 52, 53, 53], vi .u8 [48, 50, 52, 54, 56, 48, 50, 52, 50, 52, 54, 56, 48, 50, 52, 54, 52, 54, 56, 48, 50, 52, 54, 56, 54, 56, 48, 50, 52, 54, 56, 48, 56, 48, 50, 52, 54, 56, 48, 50]], .i .i64 0, .i .i64 0, .s [], .sn, .sn, .i .i64 0, .i .i64 7, .i .i64 9, .i .i64 3, .b true, .i .i64 1, .s [99], .s [116, 111, 58, 32, 115, 101, 95, 98, 108, 114], .i .i64 0, .i .i64 0, .s [], .sn, .sn, .i .i64 0, .i .i64 10, .i .i64 16, .i .i64 3, .b false, .i .i64 7, .s [], .s [], .i .i64 0, .i .i64 0, .s [], .rs 1164 0 5 false, .sn] 13),
(1222, .r [.i .u8 232, vi .u8 [56, 57, 58, 59, 60, 61, 62, 63, 72, 73, 74, 75, 76, 77, 78, 79, 88, 89, 90, 91, 92, 93, 94, 95, 104, 105, 106, 107, 108, 109, 110, 111, 120, 121, 122, 123, 124, 125, 126, 127], .z [110, 112, 114, 116, 118, 120, 122, 124, 142, 144, 146, 148, 150, 152, 154, 156, 174, 176, 178, 180, 182, 184, 186, 188, 206, 208, 210, 212, 214, 216, 218, 220, 238, 240, 242, 244, 246, 248, 250, 252], .i .u8 0, .i .u8 4]),
(1225, .c [.i .i64 0, .s [], .rs 1222 0 5 false, .sn] 0)] .e⟩, []⟩
noncomputable def SA031_2 : St := ⟨ofL [(4, .b true)] .e, ⟨1855, ofL [(0, .c asc 0), (3, .c p10 0), (4, .c [.sym 2] 0)] .e⟩, []⟩
end Go.Ae
namespace Go.Ae
open Go Go.Proofs
noncomputable def LA03L : List Value := [127, 128, 129, 130, 131, 132, 133, 134, 135, 136, 137, 138, 139, 140, 141, 142, 143, 144, 145, 146, 147, 148, 149, 150, 151, 152, 153, 154, 155, 156, 157, 158, 159, 160, 161, 162, 163, 164, 165, 166, 167, 168, 169, 170, 171, 172, 173, 174, 175, 176, 177, 178, 179, 180, 181, 182, 183, 184, 185, 186, 187, 188, 189, 190, 191, 192, 193, 194, 195, 196, 197, 198, 199].map (.int .i64)
noncomputable def SA03L_0 : St := ⟨ofL [(0, .sym 0), (1, .b false), (4, .b false), (5, .p 18 0), (6, vi .i64 [254, 256, 258, 260, 262, 264, 266, 268, 270, 272, 274, 276, 278, 280, 282, 284, 286, 288, 290, 292, 294, 296, 298, 300, 302, 304, 306, 308, 310, 312, 314, 316, 318, 320, 322, 324, 326, 328, 330, 332, 334, 336, 338, 340, 342, 344, 346, 348, 350, 352, 354, 356, 358, 360, 362, 364, 366, 368, 370, 372, 374, 376, 378, 380, 382, 384, 386, 388, 390, 392, 394, 396, 398]), (7, .s [98, 32, 116, 111]), (8, .s [116, 111, 58, 32, 115, 101, 95, 98, 108, 114]), (9, .st [.i .u8 46, .i .u8 115, .i .u8 112, .i .u8 97, .i .u8 99, .i .u8 101, .i .u8 32, vi .u8 [50, 50, 50, 50, 50, 50, 50, 50, 50, 50, 50, 50, 50, 50, 50, 50, 50, 50, 50, 50, 50, 50, 50, 51, 51, 51, 51, 51, 51, 51, 51, 51, 51, 51, 51, 51, 51, 51, 51, 51, 51, 51, 51, 51, 51, 51, 51, 51, 51, 51, 51, 51, 51, 51, 51, 51, 51, 51, 51, 51, 51, 51, 51, 51, 51, 51, 51, 51, 51, 51, 51, 51, 51], vi .u8 [53, 53, 53, 54, 54, 54, 54, 54, 55, 55, 55, 55, 55, 56, 56, 56, 56, 56, 57, 57, 57, 57, 57, 48, 48, 48, 48, 48, 49, 49, 49, 49, 49, 50, 50, 50, 50, 50, 51, 51, 51, 51, 51, 52, 52, 52, 52, 52, 53, 53, 53, 53, 53, 54, 54, 54, 54, 54, 55, 55, 55, 55, 55, 56, 56, 56, 56, 56, 57, 57, 57, 57, 57], vi .u8 [52, 54, 56, 48, 50, 52, 54, 56, 48, 50, 52, 54, 56, 48, 50, 52, 54, 56, 48, 50, 52, 54, 56, 48, 50, 52, 54, 56, 48, 50, 52, 54, 56, 48, 50, 52, 54, 56, 48, 50, 52, 54, 56, 48, 50, 52, 54, 56, 48, 50, 52, 54, 56, 48, 50, 52, 54, 56, 48, 50, 52, 54, 56, 48, 50, 52, 54, 56, 48, 50, 52, 54, 56]]), (10, .i .i64 3)] .e, ⟨410, ofL [
(0, .c asc 0),
(3, .c p10 0),
(4, .c [.sym 2] 0),
(12, .m [] 3),
(13, .m [⟨.s [102, 97], .so 362 0 0 1, 0⟩, ⟨.s [100], .so 360 0 0 1, 1⟩, ⟨.s [102, 98, 49], .so 364 0 0 1, 2⟩, ⟨.s [102, 99], .so 366 0 0 1, 3⟩] 4),
(14, .c [.m 12, .i .i64 10000, .i .i64 3, .m 13] 0),
(15, .m [] 0),
(16, .c [.m 15, .sn, .i .i64 0] 0),
(17, .m [⟨.i .i64 0, .p 19 0, 0⟩] 1),
(18, .c [.p 14 0, .p 16 0, .m 17, .i .i64 1, .i .i64 9, .so 398 0 0 3] 0),
(19, .c [.sl 311 0 0 0, .sl 369 0 0 0, .pn, .sn] 0),
(311, .c [] 0),
(360, .c [.s [100], .s [97, 10, 98, 49, 10, 99, 10], .b false, .i .i64 3] 4),
(362, .c [.s [102, 97], .s [98, 32, 116, 111], .b false, .i .i64 1] 4),
(364, .c [.s [102, 98, 49], .st [.i .u8 46, .i .u8 115, .i .u8 112, .i .u8 97, .i .u8 99, .i .u8 101, .i .u8 32, vi .u8 [50, 50, 50, 50, 50, 50, 50, 50, 50, 50, 50, 50, 50, 50, 50, 50, 50, 50, 50, 50, 50, 50, 50, 51, 51, 51, 51, 51, 51, 51, 51, 51, 51, 51, 51, 51, 51, 51, 51, 51, 51, 51, 51, 51, 51, 51, 51, 51, 51, 51, 51, 51, 51, 51, 51, 51, 51, 51, 51, 51, 51, 51, 51, 51, 51, 51, 51, 51, 51, 51, 51, 51, 51], vi .u8 [53, 53, 53, 54, 54, 54, 54, 54, 55, 55, 55, 55, 55, 56, 56, 56, 56, 56, 57, 57, 57, 57, 57, 48, 48, 48, 48, 48, 49, 49, 49, 49, 49, 50, 50, 50, 50, 50, 51, 51, 51, 51, 51, 52, 52, 52, 52, 52, 53, 53, 53, 53, 53, 54, 54, 54, 54, 54, 55, 55, 55, 55, 55, 56, 56, 56, 56, 56, 57, 57, 57, 57, 57], vi .u8 [52, 54, 56, 48, 50, 52, 54, 56, 48, 50, 52, 54, 56, 48, 50, 52, 54, 56, 48, 50, 52, 54, 56, 48, 50, 52, 54, 56, 48, 50, 52, 54, 56, 48, 50, 52, 54, 56, 48, 50, 52, 54, 56, 48, 50, 52, 54, 56, 48, 50, 52, 54, 56, 48, 50, 52, 54, 56, 48, 50, 52, 54, 56, 48, 50, 52, 54, 56, 48, 50, 52, 54, 56]], .b false, .i .i64 2] 4),
(366, .c [.s [102, 99], .s [116, 111, 58, 32, 115, 101, 95, 98, 108, 114], .b false, .i .i64 3] 4),
(369, .c [] 0),
(398, .c [.i .i64 0, .i .i64 1, .i .i64 3, .i .i64 1, .b true, .i .i64 1, .s [97], .s [98, 32, 116, 111], .i .i64 0, .i .i64 0, .s [], .sn, .sn, .i .i64 0, .i .i64 4, .i .i64 6, .i .i64 2, .b true, .i .i64 1, .s [98, 49], .st [.i .u8 46, .i .u8 115, .i .u8 112, .i .u8 97, .i .u8 99, .i .u8 101, .i .u8 32, vi .u8 [50, 50, 50, 50, 50, 50, 50, 50, 50, 50, 50, 50, 50, 50, 50, 50, 50, 50, 50, 50, 50, 50, 50, 51, 51, 51, 51, 51, 51, 51, 51, 51, 51, 51, 51, 51, 51, 51, 51, 51, 51, 51, 51, 51, 51, 51, 51, 51, 51, 51, 51, 51, 51, 51, 51, 51, 51, 51, 51, 51, 51, 51, 51, 51, 51, 51, 51, 51, 51, 51, 51, 51, 51], vi .u8 [53, 53, 53, 54, 54, 54, 54, 54, 55, 55, 55, 55, 55, 56, 56, 56, 56, 56, 57, 57, 57, 57, 57, 48, 48, 48, 48, 48, 49, 49, 49, 49, 49, 50, 50, 50, 50, 50, 51, 51, 51, 51, 51, 52, 52, 52, 52, 52, 53, 53, 53, 53, 53, 54, 54, 54, 54, 54, 55, 55, 55, 55, 55, 56, 56, 56, 56, 56, 57, 57, 57, 57, 57], vi .u8 [52, 54, 56, 48, 50, 52, 54, 56, 48, 50, 52, 54, 56, 48, 50, 52, 54, 56, 48, 50, 52, 54, 56, 48, 50, 52, 54, 56, 48, 50, 52, 54, 56, 48, 50, 52, 54, 56, 48, 50, 52, 54, 56, 48, 50, 52, 54, 56, 48, 50, 52, 54, 56, 48, 50, 52, 54, 56, 48, 50, 52, 54, 56, 48, 50, 52, 54, 56, 48, 50, 52, 54, 56]], .i .i64 0, .i .i64 0, .s [], .sn, .sn, .i .i64 0, .i .i64 7, .i .i64 9, .i .i64 3, .b true, .i .i64 1, .s [99], .s [116, 111, 58, 32, 115, 101, 95, 98, 108, 114], .i .i64 0, .i .i64 0, .s [], .sn, .sn] 13)] .e⟩, []⟩
noncomputable def SA03L_1 : St := ⟨ofL [(0, .sym 0), (1, .b false), (4, .b false), (5, .p 18 0), (6, vi .i64 [254, 256, 258, 260, 262, 264, 266, 268, 270, 272, 274, 276, 278, 280, 282, 284, 286, 288, 290, 292, 294, 296, 298, 300, 302, 304, 306, 308, 310, 312, 314, 316, 318, 320, 322, 324, 326, 328, 330, 332, 334, 336, 338, 340, 342, 344, 346, 348, 350, 352, 354, 356, 358, 360, 362, 364, 366, 368, 370, 372, 374, 376, 378, 380, 382, 384, 386, 388, 390, 392, 394, 396, 398]), (7, .s [98, 32, 116, 111]), (8, .s [116, 111, 58, 32, 115, 101, 95, 98, 108, 114]), (9, .st [.i .u8 46, .i .u8 115, .i .u8 112, .i .u8 97, .i .u8 99, .i .u8 101, .i .u8 32, vi .u8 [50, 50, 50, 50, 50, 50, 50, 50, 50, 50, 50, 50, 50, 50, 50, 50, 50, 50, 50, 50, 50, 50, 50, 51, 51, 51, 51, 51, 51, 51, 51, 51, 51, 51, 51, 51, 51, 51, 51, 51, 51, 51, 51, 51, 51, 51, 51, 51, 51, 51, 51, 51, 51, 51, 51, 51, 51, 51, 51, 51, 51, 51, 51, 51, 51, 51, 51, 51, 51, 51, 51, 51, 51], vi .u8 [53, 53, 53, 54, 54, 54, 54, 54, 55, 55, 55, 55, 55, 56, 56, 56, 56, 56, 57, 57, 57, 57, 57, 48, 48, 48, 48, 48, 49, 49, 49, 49, 49, 50, 50, 50, 50, 50, 51, 51, 51, 51, 51, 52, 52, 52, 52, 52, 53, 53, 53, 53, 53, 54, 54, 54, 54, 54, 55, 55, 55, 55, 55, 56, 56, 56, 56, 56, 57, 57, 57, 57, 57], vi .u8 [52, 54, 56, 48, 50, 52, 54, 56, 48, 50, 52, 54, 56, 48, 50, 52, 54, 56, 48, 50, 52, 54, 56, 48, 50, 52, 54, 56, 48, 50, 52, 54, 56, 48, 50, 52, 54, 56, 48, 50, 52, 54, 56, 48, 50, 52, 54, 56, 48, 50, 52, 54, 56, 48, 50, 52, 54, 56, 48, 50, 52, 54, 56, 48, 50, 52, 54, 56, 48, 50, 52, 54, 56]]), (10, .i .i64 3), (11, .p 1233 0)] .e, ⟨1234, ofL [
(0, .c asc 0),
(3, .c p10 0),
(4, .c [.sym 2] 0),
(12, .m [] 4),
(13, .m [⟨.s [102, 97], .so 1181 0 0 1, 0⟩, ⟨.s [100], .so 1179 0 0 1, 1⟩, ⟨.s [102, 98, 49], .so 1183 0 0 1, 2⟩, ⟨.s [102, 99], .so 1185 0 0 1, 3⟩] 4),
(14, .c [.m 12, .i .i64 10000, .i .i64 3, .m 13] 0),
(16, .c [.m 515, .so 776 0 0 3, .i .i64 3] 0),
(17, .m [⟨.i .i64 0, .p 19 0, 0⟩] 1),
(18, .c [.p 14 0, .p 16 0, .m 17, .i .i64 1, .i .i64 16, .so 1218 0 0 4] 0),
(19, .c [.sl 435 0 0 0, .sl 1188 0 0 0, .pn, .sn] 0),
(435, .c [] 0),
(515, .m [⟨.s [97], .ag [.s [98, 32, 116, 111], .so 632 0 0 1], 0⟩, ⟨.s [98, 49], .ag [.st [.i .u8 46, .i .u8 115, .i .u8 112, .i .u8 97, .i .u8 99, .i .u8 101, .i .u8 32, vi .u8 [50, 50, 50, 50, 50, 50, 50, 50, 50, 50, 50, 50, 50, 50, 50, 50, 50, 50, 50, 50, 50, 50, 50, 51, 51, 51, 51, 51, 51, 51, 51, 51, 51, 51, 51, 51, 51, 51, 51, 51, 51, 51, 51, 51, 51, 51, 51, 51, 51, 51, 51, 51, 51, 51, 51, 51, 51, 51, 51, 51, 51, 51, 51, 51, 51, 51, 51, 51, 51, 51, 51, 51, 51], vi .u8 [53, 53, 53, 54, 54, 54, 54, 54, 55, 55, 55, 55, 55, 56, 56, 56, 56, 56, 57, 57, 57, 57, 57, 48, 48, 48, 48, 48, 49, 49, 49, 49, 49, 50, 50, 50, 50, 50, 51, 51, 51, 51, 51, 52, 52, 52, 52, 52, 53, 53, 53, 53, 53, 54, 54, 54, 54, 54, 55, 55, 55, 55, 55, 56, 56, 56, 56, 56, 57, 57, 57, 57, 57], vi .u8 [52, 54, 56, 48, 50, 52, 54, 56, 48, 50, 52, 54, 56, 48, 50, 52, 54, 56, 48, 50, 52, 54, 56, 48, 50, 52, 54, 56, 48, 50, 52, 54, 56, 48, 50, 52, 54, 56, 48, 50, 52, 54, 56, 48, 50, 52, 54, 56, 48, 50, 52, 54, 56, 48, 50, 52, 54, 56, 48, 50, 52, 54, 56, 48, 50, 52, 54, 56, 48, 50, 52, 54, 56]], .so 755 0 0 1], 1⟩, ⟨.s [99], .ag [.s [116, 111, 58, 32, 115, 101, 95, 98, 108, 114], .so 774 0 0 1], 2⟩] 3),
(627, .c [.i .i64 (-1), .i .i64 2, .i .i64 0, .s [116, 111], .sn] 5),
(632, .c [.i .i64 1, .s [], .i .i64 2, .i .i64 0, .s [], .so 627 0 0 1] 6),
(750, .c [.i .i64 (-1), .i .i64 1, vi .i64 [254, 256, 258, 260, 262, 264, 266, 268, 270, 272, 274, 276, 278, 280, 282, 284, 286, 288, 290, 292, 294, 296, 298, 300, 302, 304, 306, 308, 310, 312, 314, 316, 318, 320, 322, 324, 326, 328, 330, 332, 334, 336, 338, 340, 342, 344, 346, 348, 350, 352, 354, 356, 358, 360, 362, 364, 366, 368, 370, 372, 374, 376, 378, 380, 382, 384, 386, 388, 390, 392, 394, 396, 398], .s [], .sn] 5),
(755, .c [.i .i64 1, .s [], .i .i64 8, .i .i64 0, .s [], .so 750 0 0 1] 6),
(774, .c [.i .i64 1, .s [116, 111], .i .i64 1, .i .i64 3, .s [], .sn] 6),
(776, .c [.s [97], .s [98, 49], .s [99]] 1),
(1172, .r [.i .u8 120, .i .u8 0, .i .u8 1, vi .u8 [2, 4, 6, 8, 10, 12, 14, 16, 18, 20, 22, 24, 26, 28, 30, 32, 34, 36, 38, 40, 42, 44, 46, 48, 50, 52, 54, 56, 58, 60, 62, 64, 66, 68, 70, 72, 74, 76, 78, 80, 82, 84, 86, 88, 90, 92, 94, 96, 98, 100, 102, 104, 106, 108, 110, 112, 114, 116, 118, 120, 122, 124, 126, 128, 130, 132, 134, 136, 138, 140, 142, 144, 146], .z [254, 256, 258, 260, 262, 264, 266, 268, 270, 272, 274, 276, 278, 280, 282, 284, 286, 288, 290, 292, 294, 296, 298, 300, 302, 304, 306, 308, 310, 312, 314, 316, 318, 320, 322, 324, 326, 328, 330, 332, 334, 336, 338, 340, 342, 344, 346, 348, 350, 352, 354, 356, 358, 360, 362, 364, 366, 368, 370, 372, 374, 376, 378, 380, 382, 384, 386, 388, 390, 392, 394, 396, 398], .i .u8 0, .i .u8 4]),
(1179, .c [.s [100], .s [97, 10, 98, 49, 10, 99, 10], .b false, .i .i64 3] 4),
(1181, .c [.s [102, 97], .s [98, 32, 116, 111], .b false, .i .i64 1] 4),
(1183, .c [.s [102, 98, 49], .st [.i .u8 46, .i .u8 115, .i .u8 112, .i .u8 97, .i .u8 99, .i .u8 101, .i .u8 32, vi .u8 [50, 50, 50, 50, 50, 50, 50, 50, 50, 50, 50, 50, 50, 50, 50, 50, 50, 50, 50, 50, 50, 50, 50, 51, 51, 51, 51, 51, 51, 51, 51, 51, 51, 51, 51, 51, 51, 51, 51, 51, 51, 51, 51, 51, 51, 51, 51, 51, 51, 51, 51, 51, 51, 51, 51, 51, 51, 51, 51, 51, 51, 51, 51, 51, 51, 51, 51, 51, 51, 51, 51, 51, 51], vi .u8 [53, 53, 53, 54, 54, 54, 54, 54, 55, 55, 55, 55, 55, 56, 56, 56, 56, 56, 57, 57, 57, 57, 57, 48, 48, 48, 48, 48, 49, 49, 49, 49, 49, 50, 50, 50, 50, 50, 51, 51, 51, 51, 51, 52, 52, 52, 52, 52, 53, 53, 53, 53, 53, 54, 54, 54, 54, 54, 55, 55, 55, 55, 55, 56, 56, 56, 56, 56, 57, 57, 57, 57, 57], vi .u8 [52, 54, 56, 48, 50, 52, 54, 56, 48, 50, 52, 54, 56, 48, 50, 52, 54, 56, 48, 50, 52, 54, 56, 48, 50, 52, 54, 56, 48, 50, 52, 54, 56, 48, 50, 52, 54, 56, 48, 50, 52, 54, 56, 48, 50, 52, 54, 56, 48, 50, 52, 54, 56, 48, 50, 52, 54, 56, 48, 50, 52, 54, 56, 48, 50, 52, 54, 56, 48, 50, 52, 54, 56]], .b false, .i .i64 2] 4),
(1185, .c [.s [102, 99], .s [116, 111, 58, 32, 115, 101, 95, 98, 108, 114], .b false, .i .i64 3] 4),
(1188, .c [] 0),
(1218, .c [.i .i64 0, .i .i64 1, .i .i64 3, .i .i64 1, .b true, .i .i64 1, .s [97], .s [98, 32, 116, 111], .i .i64 0, .i .i64 0, .s [], .sn, .sn, .i .i64 0, .i .i64 4, .i .i64 6, .i .i64 2, .b true, .i .i64 1, .s [98, 49], .st [.i .u8 46, .i .u8 115, .i .u8 112, .i .u8 97, .i .u8 99, .i .u8 101, .i .u8 32, vi .u8 [50, 50, 50, 50, 50, 50, 50, 50, 50, 50, 50, 50, 50, 50, 50, 50, 50, 50, 50, 50, 50, 50, 50, 51, 51, 51, 51, 51, 51, 51, 51, 51, 51, 51, 51, 51, 51, 51, 51, 51, 51, 51, 51, 51, 51, 51, 51, 51, 51, 51, 51, 51, 51, 51, 51, 51, 51, 51, 51, 51, 51, 51, 51, 51, 51, 51, 51, 51, 51, 51, 51, 51, 51], vi .u8 [53, 53, 53, 54, 54, 54, 54, 54, 55, 55, 55, 55, 55, 56, 56, 56, 56, 56, 57, 57, 57, 57, 57, 48, 48, 48, 48, 48, 49, 49, 49, 49, 49, 50, 50, 50, 50, 50, 51, 51, 51, 51, 51, 52, 52, 52, 52, 52, 53, 53, 53, 53, 53, 54, 54, 54, 54, 54, 55, 55, 55, 55, 55, 56, 56, 56, 56, 56, 57, 57, 57, 57, 57], vi .u8 [52, 54, 56, 48, 50, 52, 54, 56, 48, 50, 52, 54, 56, 48, 50, 52, 54, 56, 48, 50, 52, 54, 56, 48, 50, 52, 54, 56, 48, 50, 52, 54, 56, 48, 50, 52, 54, 56, 48, 50, 52, 54, 56, 48, 50, 52, 54, 56, 48, 50, 52, 54, 56, 48, 50, 52, 54, 56, 48, 50, 52, 54, 56, 48, 50, 52, 54, 56, 48, 50, 52, 54, 56]], .i .i64 0, .i .i64 0, .s [], .sn, .sn, .i .i64 0, .i .i64 7, .i .i64 9, .i .i64 3, .b true, .i .i64 1, .s [99], .s [116, 111, 58, 32, 115, 101, 95, 98, 108, 114], .i .i64 0, .i .i64 0, .s [], .sn, .sn, .i .i64 0, .i .i64 10, .i .i64 16, .i .i64 3, .b false, .i .i64 7, .s [], .s [], .i .i64 0, .i .i64 0, .s [], .rs 1172 0 7 false, .sn] 13),
(1230, .r [.i .u8 120, .i .u8 0, .i .u8 1, vi .u8 [2, 4, 6, 8, 10, 12, 14, 16, 18, 20, 22, 24, 26, 28, 30, 32, 34, 36, 38, 40, 42, 44, 46, 48, 50, 52, 54, 56, 58, 60, 62, 64, 66, 68, 70, 72, 74, 76, 78, 80, 82, 84, 86, 88, 90, 92, 94, 96, 98, 100, 102, 104, 106, 108, 110, 112, 114, 116, 118, 120, 122, 124, 126, 128, 130, 132, 134, 136, 138, 140, 142, 144, 146], .z [254, 256, 258, 260, 262, 264, 266, 268, 270, 272, 274, 276, 278, 280, 282, 284, 286, 288, 290, 292, 294, 296, 298, 300, 302, 304, 306, 308, 310, 312, 314, 316, 318, 320, 322, 324, 326, 328, 330, 332, 334, 336, 338, 340, 342, 344, 346, 348, 350, 352, 354, 356, 358, 360, 362, 364, 366, 368, 370, 372, 374, 376, 378, 380, 382, 384, 386, 388, 390, 392, 394, 396, 398], .i .u8 0, .i .u8 4]),
(1233, .c [.i .i64 0, .s [], .rs 1230 0 7 false, .sn] 0)] .e⟩, []⟩
noncomputable def SA03L_2 : St := ⟨ofL [(4, .b true)] .e, ⟨1591, ofL [(0, .c asc 0), (3, .c p10 0), (4, .c [.sym 2] 0)] .e⟩, []⟩
end Go.Ae
namespace Go.Ae
open Go Go.Proofs
noncomputable def LA101 : List Value := [0].map (.int .i64)
noncomputable def SA101_0 : St := ⟨ofL [(0, .sym 0), (1, .b true), (4, .b false), (5, .p 18 0), (6, .i .i64 0), (7, .s [116, 111, 58, 32, 115, 101, 95, 98, 108, 114]), (8, .s [98, 32, 116, 111]), (9, .s [46, 115, 112, 97, 99, 101, 32, 48]), (10, .i .i64 3)] .e, ⟨406, ofL [
(0, .c asc 0),
(3, .c p10 0),
(4, .c [.sym 2] 0),
(12, .m [] 3),
(13, .m [⟨.s [102, 97], .so 358 0 0 1, 0⟩, ⟨.s [100], .so 356 0 0 1, 1⟩, ⟨.s [102, 98, 49], .so 360 0 0 1, 2⟩, ⟨.s [102, 99], .so 362 0 0 1, 3⟩] 4),
(14, .c [.m 12, .i .i64 10000, .i .i64 3, .m 13] 0),
(15, .m [] 0),
(16, .c [.m 15, .sn, .i .i64 0] 0),
(17, .m [⟨.i .i64 0, .p 19 0, 0⟩] 1),
(18, .c [.p 14 0, .p 16 0, .m 17, .i .i64 1, .i .i64 9, .so 394 0 0 3] 0),
(19, .c [.sl 307 0 0 0, .sl 365 0 0 0, .pn, .sn] 0),
(307, .c [] 0),
(356, .c [.s [100], .s [97, 10, 98, 49, 10, 99, 10], .b false, .i .i64 3] 4),
(358, .c [.s [102, 97], .s [116, 111, 58, 32, 115, 101, 95, 98, 108, 114], .b false, .i .i64 1] 4),
(360, .c [.s [102, 98, 49], .s [46, 115, 112, 97, 99, 101, 32, 48], .b false, .i .i64 2] 4),
(362, .c [.s [102, 99], .s [98, 32, 116, 111], .b false, .i .i64 3] 4),
(365, .c [] 0),
(394, .c [.i .i64 0, .i .i64 1, .i .i64 3, .i .i64 1, .b true, .i .i64 1, .s [97], .s [116, 111, 58, 32, 115, 101, 95, 98, 108, 114], .i .i64 0, .i .i64 0, .s [], .sn, .sn, .i .i64 0, .i .i64 4, .i .i64 6, .i .i64 2, .b true, .i .i64 1, .s [98, 49], .s [46, 115, 112, 97, 99, 101, 32, 48], .i .i64 0, .i .i64 0, .s [], .sn, .sn, .i .i64 0, .i .i64 7, .i .i64 9, .i .i64 3, .b true, .i .i64 1, .s [99], .s [98, 32, 116, 111], .i .i64 0, .i .i64 0, .s [], .sn, .sn] 13)] .e⟩, []⟩
noncomputable def SA101_1 : St := ⟨ofL [(0, .sym 0), (1, .b true), (4, .b false), (5, .p 18 0), (6, .i .i64 0), (7, .s [116, 111, 58, 32, 115, 101, 95, 98, 108, 114]), (8, .s [98, 32, 116, 111]), (9, .s [46, 115, 112, 97, 99, 101, 32, 48]), (10, .i .i64 3), (11, .p 1218 0)] .e, ⟨1219, ofL [
(0, .c asc 0),
(3, .c p10 0),
(4, .c [.sym 2] 0),
(12, .m [] 4),
(13, .m [⟨.s [102, 97], .so 1168 0 0 1, 0⟩, ⟨.s [100], .so 1166 0 0 1, 1⟩, ⟨.s [102, 98, 49], .so 1170 0 0 1, 2⟩, ⟨.s [102, 99], .so 1172 0 0 1, 3⟩] 4),
(14, .c [.m 12, .i .i64 10000, .i .i64 3, .m 13] 0),
(16, .c [.m 511, .so 772 0 0 3, .i .i64 3] 0),
(17, .m [⟨.i .i64 0, .p 19 0, 0⟩] 1),
(18, .c [.p 14 0, .p 16 0, .m 17, .i .i64 1, .i .i64 16, .so 1205 0 0 4] 0),
(19, .c [.sl 431 0 0 0, .sl 1175 0 0 0, .pn, .sn] 0),
(431, .c [] 0),
(511, .m [⟨.s [97], .ag [.s [116, 111, 58, 32, 115, 101, 95, 98, 108, 114], .so 528 0 0 1], 0⟩, ⟨.s [98, 49], .ag [.s [46, 115, 112, 97, 99, 101, 32, 48], .so 651 0 0 1], 1⟩, ⟨.s [99], .ag [.s [98, 32, 116, 111], .so 770 0 0 1], 2⟩] 3),
(528, .c [.i .i64 1, .s [116, 111], .i .i64 1, .i .i64 3, .s [], .sn] 6),
(646, .c [.i .i64 (-1), .i .i64 1, .i .i64 0, .s [], .sn] 5),
(651, .c [.i .i64 1, .s [], .i .i64 8, .i .i64 0, .s [], .so 646 0 0 1] 6),
(765, .c [.i .i64 (-1), .i .i64 2, .i .i64 0, .s [116, 111], .sn] 5),
(770, .c [.i .i64 1, .s [], .i .i64 2, .i .i64 0, .s [], .so 765 0 0 1] 6),
(772, .c [.s [97], .s [98, 49], .s [99]] 1),
(1159, .c [.i .u8 0, .i .u8 4, .i .u8 232, .i .u8 255] 1),
(1166, .c [.s [100], .s [97, 10, 98, 49, 10, 99, 10], .b false, .i .i64 3] 4),
(1168, .c [.s [102, 97], .s [116, 111, 58, 32, 115, 101, 95, 98, 108, 114], .b false, .i .i64 1] 4),
(1170, .c [.s [102, 98, 49], .s [46, 115, 112, 97, 99, 101, 32, 48], .b false, .i .i64 2] 4),
(1172, .c [.s [102, 99], .s [98, 32, 116, 111], .b false, .i .i64 3] 4),
(1175, .c [] 0),
(1205, .c [.i .i64 0, .i .i64 1, .i .i64 3, .i .i64 1, .b true, .i .i64 1, .s [97], .s [116, 111, 58, 32, 115, 101, 95, 98, 108, 114], .i .i64 0, .i .i64 0, .s [], .sn, .sn, .i .i64 0, .i .i64 4, .i .i64 6, .i .i64 2, .b true, .i .i64 1, .s [98, 49], .s [46, 115, 112, 97, 99, 101, 32, 48], .i .i64 0, .i .i64 0, .s [], .sn, .sn, .i .i64 0, .i .i64 7, .i .i64 9, .i .i64 3, .b true, .i .i64 1, .s [99], .s [98, 32, 116, 111], .i .i64 0, .i .i64 0, .s [], .sn, .sn, .i .i64 0, .i .i64 10, .i .i64 16, .i .i64 3, .b false, .i .i64 7, .s [], .s [], .i .i64 0, .i .i64 0, .s [], .so 1159 0 0 4, .sn] 13),
(1216, .c [.i .u8 0, .i .u8 4, .i .u8 232, .i .u8 255] 1),
(1218, .c [.i .i64 0, .s [], .so 1216 0 0 4, .sn] 0)] .e⟩, []⟩
noncomputable def SA101_2 : St := ⟨ofL [(4, .b true)] .e, ⟨1848, ofL [(0, .c asc 0), (3, .c p10 0), (4, .c [.sym 2] 0)] .e⟩, []⟩
end Go.Ae
namespace Go.Ae
open Go Go.Proofs
noncomputable def LA111 : List Value := [1, 2, 3, 4].map (.int .i64)
noncomputable def SA111_0 : St := ⟨ofL [(0, .sym 0), (1, .b true), (4, .b false), (5, .p 18 0), (6, vi .i64 [2, 4, 6, 8]), (7, .s [116, 111, 58, 32, 115, 101, 95, 98, 108, 114]), (8, .s [98, 32, 116, 111]), (9, .st [.i .u8 46, .i .u8 115, .i .u8 112, .i .u8 97, .i .u8 99, .i .u8 101, .i .u8 32, vi .u8 [50, 52, 54, 56]]), (10, .i .i64 3)] .e, ⟨406, ofL [
(0, .c asc 0),
(3, .c p10 0),
(4, .c [.sym 2] 0),
(12, .m [] 3),
(13, .m [⟨.s [102, 97], .so 358 0 0 1, 0⟩, ⟨.s [100], .so 356 0 0 1, 1⟩, ⟨.s [102, 98, 49], .so 360 0 0 1, 2⟩, ⟨.s [102, 99], .so 362 0 0 1, 3⟩] 4),
(14, .c [.m 12, .i .i64 10000, .i .i64 3, .m 13] 0),
(15, .m [] 0),
(16, .c [.m 15, .sn, .i .i64 0] 0),
(17, .m [⟨.i .i64 0, .p 19 0, 0⟩] 1),
(18, .c [.p 14 0, .p 16 0, .m 17, .i .i64 1, .i .i64 9, .so 394 0 0 3] 0),
(19, .c [.sl 307 0 0 0, .sl 365 0 0 0, .pn, .sn] 0),
(307, .c [] 0),
(356, .c [.s [100], .s [97, 10, 98, 49, 10, 99, 10], .b false, .i .i64 3] 4),
(358, .c [.s [102, 97], .s [116, 111, 58, 32, 115, 101, 95, 98, 108, 114], .b false, .i .i64 1] 4),
(360, .c [.s [102, 98, 49], .st [.i .u8 46, .i .u8 115, .i .u8 112, .i .u8 97, .i .u8 99, .i .u8 101, .i .u8 32, vi .u8 [50, 52, 54, 56]], .b false, .i .i64 2] 4),
(362, .c [.s [102, 99], .s [98, 32, 116, 111], .b false, .i .i64 3] 4),
(365, .c [] 0),
(394, .c [.i .i64 0, .i .i64 1, .i .i64 3, .i .i64 1, .b true, .i .i64 1, .s [97], .s [116, 111, 58, 32, 115, 101, 95, 98, 108, 114], .i .i64 0, .i .i64 0, .s [], .sn, .sn, .i .i64 0, .i .i64 4, .i .i64 6, .i .i64 2, .b true, .i .i64 1, .s [98, 49], .st [.i .u8 46, .i .u8 115, .i .u8 112, .i .u8 97, .i .u8 99, .i .u8 101, .i .u8 32, vi .u8 [50, 52, 54, 56]], .i .i64 0, .i .i64 0, .s [], .sn, .sn, .i .i64 0, .i .i64 7, .i .i64 9, .i .i64 3, .b true, .i .i64 1, .s [99], .s [98, 32, 116, 111], .i .i64 0, .i .i64 0, .s [], .sn, .sn] 13)] .e⟩, []⟩
noncomputable def SA111_1 : St := ⟨ofL [(0, .sym 0), (1, .b true), (4, .b false), (5, .p 18 0), (6, vi .i64 [2, 4, 6, 8]), (7, .s [116, 111, 58, 32, 115, 101, 95, 98, 108, 114]), (8, .s [98, 32, 116, 111]), (9, .st [.i .u8 46, .i .u8 115, .i .u8 112, .i .u8 97, .i .u8 99, .i .u8 101, .i .u8 32, vi .u8 [50, 52, 54, 56]]), (10, .i .i64 3), (11, .p 1221 0)] .e, ⟨1222, ofL [
(0, .c asc 0),
(3, .c p10 0),
(4, .c [.sym 2] 0),
(12, .m [] 4),
(13, .m [⟨.s [102, 97], .so 1169 0 0 1, 0⟩, ⟨.s [100], .so 1167 0 0 1, 1⟩, ⟨.s [102, 98, 49], .so 1171 0 0 1, 2⟩, ⟨.s [102, 99], .so 1173 0 0 1, 3⟩] 4),
(14, .c [.m 12, .i .i64 10000, .i .i64 3, .m 13] 0),
(16, .c [.m 511, .so 772 0 0 3, .i .i64 3] 0),
(17, .m [⟨.i .i64 0, .p 19 0, 0⟩] 1),
(18, .c [.p 14 0, .p 16 0, .m 17, .i .i64 1, .i .i64 16, .so 1206 0 0 4] 0),
(19, .c [.sl 431 0 0 0, .sl 1176 0 0 0, .pn, .sn] 0),
(431, .c [] 0),
(511, .m [⟨.s [97], .ag [.s [116, 111, 58, 32, 115, 101, 95, 98, 108, 114], .so 528 0 0 1], 0⟩, ⟨.s [98, 49], .ag [.st [.i .u8 46, .i .u8 115, .i .u8 112, .i .u8 97, .i .u8 99, .i .u8 101, .i .u8 32, vi .u8 [50, 52, 54, 56]], .so 651 0 0 1], 1⟩, ⟨.s [99], .ag [.s [98, 32, 116, 111], .so 770 0 0 1], 2⟩] 3),
(528, .c [.i .i64 1, .s [116, 111], .i .i64 1, .i .i64 3, .s [], .sn] 6),
(646, .c [.i .i64 (-1), .i .i64 1, vi .i64 [2, 4, 6, 8], .s [], .sn] 5),
(651, .c [.i .i64 1, .s [], .i .i64 8, .i .i64 0, .s [], .so 646 0 0 1] 6),
(765, .c [.i .i64 (-1), .i .i64 2, .i .i64 0, .s [116, 111], .sn] 5),
(770, .c [.i .i64 1, .s [], .i .i64 2, .i .i64 0, .s [], .so 765 0 0 1] 6),
(772, .c [.s [97], .s [98, 49], .s [99]] 1),
(1160, .r [.i .u8 0, .i .u8 4, .z [2, 4, 6, 8], .i .u8 232, vi .u8 [254, 253, 252, 251]]),
(1167, .c [.s [100], .s [97, 10, 98, 49, 10, 99, 10], .b false, .i .i64 3] 4),
(1169, .c [.s [102, 97], .s [116, 111, 58, 32, 115, 101, 95, 98, 108, 114], .b false, .i .i64 1] 4),
(1171, .c [.s [102, 98, 49], .st [.i .u8 46, .i .u8 115, .i .u8 112, .i .u8 97, .i .u8 99, .i .u8 101, .i .u8 32, vi .u8 [50, 52, 54, 56]], .b false, .i .i64 2] 4),
(1173, .c [.s [102, 99], .s [98, 32, 116, 111], .b false, .i .i64 3] 4),
(1176, .c [] 0),
(1206, .c [.i .i64 0, .i .i64 1, .i .i64 3, .i .i64 1, .b true, .i .i64 1, .s [97], .s [116, 111, 58, 32, 115, 101, 95, 98, 108, 114], .i .i64 0, .i .i64 0, .s [], .sn, .sn, .i .i64 0, .i .i64 4, .i .i64 6, .i .i64 2, .b true, .i .i64 1, .s [98, 49], .st [.i .u8 46, .i .u8 115, .i .u8 112, .i .u8 97, .i .u8 99, .i .u8 101, .i .u8 32, vi .u8 [50, 52, 54, 56]], .i .i64 0, .i .i64 0, .s [], .sn, .sn, .i .i64 0, .i .i64 7, .i .i64 9, .i .i64 3, .b true, .i .i64 1, .s [99], .s [98, 32, 116, 111], .i .i64 0, .i .i64 0, .s [], .sn, .sn, .i .i64 0, .i .i64 10, .i .i64 16, .i .i64 3, .b false, .i .i64 7, .s [], .s [], .i .i64 0, .i .i64 0, .s [], .rs 1160 0 5 false, .sn] 13),
(1218, .r [.i .u8 0, .i .u8 4, .z [2, 4, 6, 8], .i .u8 232, vi .u8 [254, 253, 252, 251]]),
(1221, .c [.i .i64 0, .s [], .rs 1218 0 5 false, .sn] 0)] .e⟩, []⟩
noncomputable def SA111_2 : St := ⟨ofL [(4, .b true)] .e, ⟨1851, ofL [(0, .c asc 0), (3, .c p10 0), (4, .c [.sym 2] 0)] .e⟩, []⟩
end Go.Ae
namespace Go.Ae
open Go Go.Proofs
noncomputable def LA120 : List Value := [8, 9, 10, 11, 12, 13, 14, 15, 24, 25, 26, 27, 28, 29, 30, 31, 40, 41, 42, 43, 44, 45, 46, 47].map (.int .i64)
noncomputable def SA120_0 : St := ⟨ofL [(0, .sym 0), (1, .b true), (4, .b false), (5, .p 18 0), (6, vi .i64 [16, 18, 20, 22, 24, 26, 28, 30, 48, 50, 52, 54, 56, 58, 60, 62, 80, 82, 84, 86, 88, 90, 92, 94]), (7, .s [116, 111, 58, 32, 115, 101, 95, 98, 108, 114]), (8, .s [98, 32, 116, 111]), (9, .st [.i .u8 46, .i .u8 115, .i .u8 112, .i .u8 97, .i .u8 99, .i .u8 101, .i .u8 32, vi .u8 [49, 49, 50, 50, 50, 50, 50, 51, 52, 53, 53, 53, 53, 53, 54, 54, 56, 56, 56, 56, 56, 57, 57, 57], vi .u8 [54, 56, 48, 50, 52, 54, 56, 48, 56, 48, 50, 52, 54, 56, 48, 50, 48, 50, 52, 54, 56, 48, 50, 52]]), (10, .i .i64 3)] .e, ⟨408, ofL [
(0, .c asc 0),
(3, .c p10 0),
(4, .c [.sym 2] 0),
(12, .m [] 3),
(13, .m [⟨.s [102, 97], .so 360 0 0 1, 0⟩, ⟨.s [100], .so 358 0 0 1, 1⟩, ⟨.s [102, 98, 49], .so 362 0 0 1, 2⟩, ⟨.s [102, 99], .so 364 0 0 1, 3⟩] 4),
(14, .c [.m 12, .i .i64 10000, .i .i64 3, .m 13] 0),
(15, .m [] 0),
(16, .c [.m 15, .sn, .i .i64 0] 0),
(17, .m [⟨.i .i64 0, .p 19 0, 0⟩] 1),
(18, .c [.p 14 0, .p 16 0, .m 17, .i .i64 1, .i .i64 9, .so 396 0 0 3] 0),
(19, .c [.sl 309 0 0 0, .sl 367 0 0 0, .pn, .sn] 0),
(309, .c [] 0),
(358, .c [.s [100], .s [97, 10, 98, 49, 10, 99, 10], .b false, .i .i64 3] 4),
(360, .c [.s [102, 97], .s [116, 111, 58, 32, 115, 101, 95, 98, 108, 114], .b false, .i .i64 1] 4),
(362, .c [.s [102, 98, 49], .st [.i .u8 46, .i .u8 115, .i .u8 112, .i .u8 97, .i .u8 99, .i .u8 101, .i .u8 32, vi .u8 [49, 49, 50, 50, 50, 50, 50, 51, 52, 53, 53, 53, 53, 53, 54, 54, 56, 56, 56, 56, 56, 57, 57, 57], vi .u8 [54, 56, 48, 50, 52, 54, 56, 48, 56, 48, 50, 52, 54, 56, 48, 50, 48, 50, 52, 54, 56, 48, 50, 52]], .b false, .i .i64 2] 4),
(364, .c [.s [102, 99], .s [98, 32, 116, 111], .b false, .i .i64 3] 4),
(367, .c [] 0),
(396, .c [.i .i64 0, .i .i64 1, .i .i64 3, .i .i64 1, .b true, .i .i64 1, .s [97], .s [116, 111, 58, 32, 115, 101, 95, 98, 108, 114], .i .i64 0, .i .i64 0, .s [], .sn, .sn, .i .i64 0, .i .i64 4, .i .i64 6, .i .i64 2, .b true, .i .i64 1, .s [98, 49], .st [.i .u8 46, .i .u8 115, .i .u8 112, .i .u8 97, .i .u8 99, .i .u8 101, .i .u8 32, vi .u8 [49, 49, 50, 50, 50, 50, 50, 51, 52, 53, 53, 53, 53, 53, 54, 54, 56, 56, 56, 56, 56, 57, 57, 57], vi .u8 [54, 56, 48, 50, 52, 54, 56, 48, 56, 48, 50, 52, 54, 56, 48, 50, 48, 50, 52, 54, 56, 48, 50, 52]], .i .i64 0, .i .i64 0, .s [], .sn, .sn, .i .i64 0, .i .i64 7, .i .i64 9, .i .i64 3, .b true, .i .i64 1, .s [99], .s [98, 32, 116, 111], .i .i64 0, .i .i64 0, .s [], .sn, .sn] 13)] .e⟩, []⟩
noncomputable def SA120_1 : St := ⟨ofL [(0, .sym 0), (1, .b true), (4, .b false), (5, .p 18 0), (6, vi .i64 [16, 18, 20, 22, 24, 26, 28, 30, 48, 50, 52, 54, 56, 58, 60, 62, 80, 82, 84, 86, 88, 90, 92, 94]), (7, .s [116, 111, 58, 32, 115, 101, 95, 98, 108, 114]), (8, .s [98, 32, 116, 111]), (9, .st [.i .u8 46, .i .u8 115, .i .u8 112, .i .u8 97, .i .u8 99, .i .u8 101, .i .u8 32, vi .u8 [49, 49, 50, 50, 50, 50, 50, 51, 52, 53, 53, 53, 53, 53, 54, 54, 56, 56, 56, 56, 56, 57, 57, 57], vi .u8 [54, 56, 48, 50, 52, 54, 56, 48, 56, 48, 50, 52, 54, 56, 48, 50, 48, 50, 52, 54, 56, 48, 50, 52]]), (10, .i .i64 3), (11, .p 1223 0)] .e, ⟨1224, ofL [
(0, .c asc 0),
(3, .c p10 0),
(4, .c [.sym 2] 0),
(12, .m [] 4),
(13, .m [⟨.s [102, 97], .so 1171 0 0 1, 0⟩, ⟨.s [100], .so 1169 0 0 1, 1⟩, ⟨.s [102, 98, 49], .so 1173 0 0 1, 2⟩, ⟨.s [102, 99], .so 1175 0 0 1, 3⟩] 4),
(14, .c [.m 12, .i .i64 10000, .i .i64 3, .m 13] 0),
(16, .c [.m 513, .so 774 0 0 3, .i .i64 3] 0),
(17, .m [⟨.i .i64 0, .p 19 0, 0⟩] 1),
(18, .c [.p 14 0, .p 16 0, .m 17, .i .i64 1, .i .i64 16, .so 1208 0 0 4] 0),
(19, .c [.sl 433 0 0 0, .sl 1178 0 0 0, .pn, .sn] 0),
(433, .c [] 0),
(513, .m [⟨.s [97], .ag [.s [116, 111, 58, 32, 115, 101, 95, 98, 108, 114], .so 530 0 0 1], 0⟩, ⟨.s [98, 49], .ag [.st [.i .u8 46, .i .u8 115, .i .u8 112, .i .u8 97, .i .u8 99, .i .u8 101, .i .u8 32, vi .u8 [49, 49, 50, 50, 50, 50, 50, 51, 52, 53, 53, 53, 53, 53, 54, 54, 56, 56, 56, 56, 56, 57, 57, 57], vi .u8 [54, 56, 48, 50, 52, 54, 56, 48, 56, 48, 50, 52, 54, 56, 48, 50, 48, 50, 52, 54, 56, 48, 50, 52]], .so 653 0 0 1], 1⟩, ⟨.s [99], .ag [.s [98, 32, 116, 111], .so 772 0 0 1], 2⟩] 3),
(530, .c [.i .i64 1, .s [116, 111], .i .i64 1, .i .i64 3, .s [], .sn] 6),
(648, .c [.i .i64 (-1), .i .i64 1, vi .i64 [16, 18, 20, 22, 24, 26, 28, 30, 48, 50, 52, 54, 56, 58, 60, 62, 80, 82, 84, 86, 88, 90, 92, 94], .s [], .sn] 5),
(653, .c [.i .i64 1, .s [], .i .i64 8, .i .i64 0, .s [], .so 648 0 0 1] 6),
(767, .c [.i .i64 (-1), .i .i64 2, .i .i64 0, .s [116, 111], .sn] 5),
(772, .c [.i .i64 1, .s [], .i .i64 2, .i .i64 0, .s [], .so 767 0 0 1] 6),
(774, .c [.s [97], .s [98, 49], .s [99]] 1),
(1162, .r [.i .u8 0, .i .u8 4, .z [16, 18, 20, 22, 24, 26, 28, 30, 48, 50, 52, 54, 56, 58, 60, 62, 80, 82, 84, 86, 88, 90, 92, 94], .i .u8 232, vi .u8 [247, 246, 245, 244, 243, 242, 241, 240, 231, 230, 229, 228, 227, 226, 225, 224, 215, 214, 213, 212, 211, 210, 209, 208]]),
(1169, .c [.s [100], .s [97, 10, 98, 49, 10, 99, 10], .b false, .i .i64 3] 4),
(1171, .c [.s [102, 97], .s [116, 111, 58, 32, 115, 101, 95, 98, 108, 114], .b false, .i .i64 1] 4),
(1173, .c [.s [102, 98, 49], .st [.i .u8 46, .i .u8 115, .i .u8 112, .i .u8 97, .i .u8 99, .i .u8 101, .i .u8 32, vi .u8 [49, 49, 50, 50, 50, 50, 50, 51, 52, 53, 53, 53, 53, 53, 54, 54, 56, 56, 56, 56, 56, 57, 57, 57], vi .u8 [54, 56, 48, 50, 52, 54, 56, 48, 56, 48, 50, 52, 54, 56, 48, 50, 48, 50, 52, 54, 56, 48, 50, 52]], .b false, .i .i64 2] 4),
(1175, .c [.s [102, 99], .s [98, 32, 116, 111], .b false, .i .i64 3] 4),
(1178, .c [] 0),
(1208, .c [.i .i64 0, .i .i64 1, .i .i64 3, .i .i64 1, .b true, .i .i64 1, .s [97], .s [116, 111, 58, 32, 115, 101, 95, 98, 108, 114], .i .i64 0, .i .i64 0, .s [], .sn, .sn, .i .i64 0, .i .i64 4, .i .i64 6, .i .i64 2, .b true, .i .i64 1, .s [98, 49], .st [.i .u8 46, .i .u8 115, .i .u8 112, .i .u8 97, .i .u8 99, .i .u8 101, .i .u8 32, vi .u8 [49, 49, 50, 50, 50, 50, 50, 51, 52, 53, 53, 53, 53, 53, 54, 54, 56, 56, 56, 56, 56, 57, 57, 57], vi .u8 [54, 56, 48, 50, 52, 54, 56, 48, 56, 48, 50, 52, 54, 56, 48, 50, 48, 50, 52, 54, 56, 48, 50, 52]], .i .i64 0, .i .i64 0, .s [], .sn, .sn, .i .i64 0, .i .i64 7, .i .i64 9, .i .i64 3, .b true, .i .i64 1, .s [99], .s [98, 32, 116, 111], .i .i64 0, .i .i64 0, .s [], .sn, .sn, .i .i64 0, .i .i64 10, .i .i64 16, .i .i64 3, .b false, .i .i64 7, .s [], .s [], .i .i64 0, .i .i64 0, .s [], .rs 1162 0 5 false, .sn] 13),
(1220, .r [.i .u8 0, .i .u8 4, .z [16, 18, 20, 22, 24, 26, 28, 30, 48, 50, 52, 54, 56, 58, 60, 62, 80, 82, 84, 86, 88, 90, 92, 94], .i .u8 232, vi .u8 [247, 246, 245, 244, 243, 242, 241, 240, 231, 230, 229, 228, 227, 226, 225, 224, 215, 214, 213, 212, 211, 210, 209, 208]]),
(1223, .c [.i .i64 0, .s [], .rs 1220 0 5 false, .sn] 0)] .e⟩, []⟩
noncomputable def SA120_2 : St := ⟨ofL [(4, .b true)] .e, ⟨1853, ofL [(0, .c asc 0), (3, .c p10 0), (4, .c [.sym 2] 0)] .e⟩, []⟩
end Go.Ae
namespace Go.Ae
open Go Go.Proofs
noncomputable def LA121 : List Value := [5, 6, 7, 16, 17, 18, 19, 20, 21, 22, 23, 32, 33, 34, 35, 36, 37, 38, 39, 48, 49].map (.int .i64)
noncomputable def SA121_0 : St := ⟨ofL [(0, .sym 0), (1, .b true), (4, .b false), (5, .p 18 0), (6, vi .i64 [10, 12, 14, 32, 34, 36, 38, 40, 42, 44, 46, 64, 66, 68, 70, 72, 74, 76, 78, 96, 98]), (7, .s [116, 111, 58, 32, 115, 101, 95, 98, 108, 114]), (8, .s [98, 32, 116, 111]), (9, .st [.i .u8 46, .i .u8 115, .i .u8 112, .i .u8 97, .i .u8 99, .i .u8 101, .i .u8 32, vi .u8 [49, 49, 49, 51, 51, 51, 51, 52, 52, 52, 52, 54, 54, 54, 55, 55, 55, 55, 55, 57, 57], vi .u8 [48, 50, 52, 50, 52, 54, 56, 48, 50, 52, 54, 52, 54, 56, 48, 50, 52, 54, 56, 54, 56]]), (10, .i .i64 3)] .e, ⟨408, ofL [
(0, .c asc 0),
(3, .c p10 0),
(4, .c [.sym 2] 0),
(12, .m [] 3),
(13, .m [⟨.s [102, 97], .so 360 0 0 1, 0⟩, ⟨.s [100], .so 358 0 0 1, 1⟩, ⟨.s [102, 98, 49], .so 362 0 0 1, 2⟩, ⟨.s [102, 99], .so 364 0 0 1, 3⟩] 4),
(14, .c [.m 12, .i .i64 10000, .i .i64 3, .m 13] 0),
(15, .m [] 0),
(16, .c [.m 15, .sn, .i .i64 0] 0),
(17, .m [⟨.i .i64 0, .p 19 0, 0⟩] 1),
(18, .c [.p 14 0, .p 16 0, .m 17, .i .i64 1, .i .i64 9, .so 396 0 0 3] 0),
(19, .c [.sl 309 0 0 0, .sl 367 0 0 0, .pn, .sn] 0),
(309, .c [] 0),
(358, .c [.s [100], .s [97, 10, 98, 49, 10, 99, 10], .b false, .i .i64 3] 4),
(360, .c [.s [102, 97], .s [116, 111, 58, 32, 115, 101, 95, 98, 108, 114], .b false, .i .i64 1] 4),
(362, .c [.s [102, 98, 49], .st [.i .u8 46, .i .u8 115, .i .u8 112, .i .u8 97, .i .u8 99, .i .u8 101, .i .u8 32, vi .u8 [49, 49, 49, 51, 51, 51, 51, 52, 52, 52, 52, 54, 54, 54, 55, 55, 55, 55, 55, 57, 57], vi .u8 [48, 50, 52, 50, 52, 54, 56, 48, 50, 52, 54, 52, 54, 56, 48, 50, 52, 54, 56, 54, 56]], .b false, .i .i64 2] 4),
(364, .c [.s [102, 99], .s [98, 32, 116, 111], .b false, .i .i64 3] 4),
(367, .c [] 0),
(396, .c [.i .i64 0, .i .i64 1, .i .i64 3, .i .i64 1, .b true, .i .i64 1, .s [97], .s [116, 111, 58, 32, 115, 101, 95, 98, 108, 114], .i .i64 0, .i .i64 0, .s [], .sn, .sn, .i .i64 0, .i .i64 4, .i .i64 6, .i .i64 2, .b true, .i .i64 1, .s [98, 49], .st [.i .u8 46, .i .u8 115, .i .u8 112, .i .u8 97, .i .u8 99, .i .u8 101, .i .u8 32, vi .u8 [49, 49, 49, 51, 51, 51, 51, 52, 52, 52, 52, 54, 54, 54, 55, 55, 55, 55, 55, 57, 57], vi .u8 [48, 50, 52, 50, 52, 54, 56, 48, 50, 52, 54, 52, 54, 56, 48, 50, 52, 54, 56, 54, 56]], .i .i64 0, .i .i64 0, .s [], .sn, .sn, .i .i64 0, .i .i64 7, .i .i64 9, .i .i64 3, .b true, .i .i64 1, .s [99], .s [98, 32, 116, 111], .i .i64 0, .i .i64 0, .s [], .sn, .sn] 13)] .e⟩, []⟩
noncomputable def SA121_1 : St := ⟨ofL [(0, .sym 0), (1, .b true), (4, .b false), (5, .p 18 0), (6, vi .i64 [10, 12, 14, 32, 34, 36, 38, 40, 42, 44, 46, 64, 66, 68, 70, 72, 74, 76, 78, 96, 98]), (7, .s [116, 111, 58, 32, 115, 101, 95, 98, 108, 114]), (8, .s [98, 32, 116, 111]), (9, .st [.i .u8 46, .i .u8 115, .i .u8 112, .i .u8 97, .i .u8 99, .i .u8 101, .i .u8 32, vi .u8 [49, 49, 49, 51, 51, 51, 51, 52, 52, 52, 52, 54, 54, 54, 55, 55, 55, 55, 55, 57, 57], vi .u8 [48, 50, 52, 50, 52, 54, 56, 48, 50, 52, 54, 52, 54, 56, 48, 50, 52, 54, 56, 54, 56]]), (10, .i .i64 3), (11, .p 1223 0)] .e, ⟨1224, ofL [
(0, .c asc 0),
(3, .c p10 0),
(4, .c [.sym 2] 0),
(12, .m [] 4),
(13, .m [⟨.s [102, 97], .so 1171 0 0 1, 0⟩, ⟨.s [100], .so 1169 0 0 1, 1⟩, ⟨.s [102, 98, 49], .so 1173 0 0 1, 2⟩, ⟨.s [102, 99], .so 1175 0 0 1, 3⟩] 4),
(14, .c [.m 12, .i .i64 10000, .i .i64 3, .m 13] 0),
(16, .c [.m 513, .so 774 0 0 3, .i .i64 3] 0),
(17, .m [⟨.i .i64 0, .p 19 0, 0⟩] 1),
(18, .c [.p 14 0, .p 16 0, .m 17, .i .i64 1, .i .i64 16, .so 1208 0 0 4] 0),
(19, .c [.sl 433 0 0 0, .sl 1178 0 0 0, .pn, .sn] 0),
(433, .c [] 0),
(513, .m [⟨.s [97], .ag [.s [116, 111, 58, 32, 115, 101, 95, 98, 108, 114], .so 530 0 0 1], 0⟩, ⟨.s [98, 49], .ag [.st [.i .u8 46, .i .u8 115, .i .u8 112, .i .u8 97, .i .u8 99, .i .u8 101, .i .u8 32, vi .u8 [49, 49, 49, 51, 51, 51, 51, 52, 52, 52, 52, 54, 54, 54, 55, 55, 55, 55, 55, 57, 57], vi .u8 [48, 50, 52, 50, 52, 54, 56, 48, 50, 52, 54, 52, 54, 56, 48, 50, 52, 54, 56, 54, 56]], .so 653 0 0 1], 1⟩, ⟨.s [99], .ag [.s [98, 32, 116, 111], .so 772 0 0 1], 2⟩] 3),
(530, .c [.i .i64 1, .s [116, 111], .i .i64 1, .i .i64 3, .s [], .sn] 6),
(648, .c [.i .i64 (-1), .i .i64 1, vi .i64 [10, 12, 14, 32, 34, 36, 38, 40, 42, 44, 46, 64, 66, 68, 70, 72, 74, 76, 78, 96, 98], .s [], .sn] 5),
(653, .c [.i .i64 1, .s [], .i .i64 8, .i .i64 0, .s [], .so 648 0 0 1] 6),
(767, .c [.i .i64 (-1), .i .i64 2, .i .i64 0, .s [116, 111], .sn] 5),
(772, .c [.i .i64 1, .s [], .i .i64 2, .i .i64 0, .s [], .so 767 0 0 1] 6),
(774, .c [.s [97], .s [98, 49], .s [99]] 1),
(1162, .r [.i .u8 0, .i .u8 4, .z [10, 12, 14, 32, 34, 36, 38, 40, 42, 44, 46, 64, 66, 68, 70, 72, 74, 76, 78, 96, 98], .i .u8 232, vi .u8 [250, 249, 248, 239, 238, 237, 236, 235, 234, 233, 232, 223, 222, 221, 220, 219, 218, 217, 216, 207, 206]]),
(1169, .c [.s [100], .s [97, 10, 98, 49, 10, 99, 10], .b false, .i .i64 3] 4),
(1171, .c [.s [102, 97], .s [116, 111, 58, 32, 115, 101, 95, 98, 108, 114], .b false, .i .i64 1] 4),
(1173, .c [.s [102, 98, 49], .st [.i .u8 46, .i .u8 115, .i .u8 112, .i .u8 97, .i .u8 99, .i .u8 101, .i .u8 32, vi .u8 [49, 49, 49, 51, 51, 51, 51, 52, 52, 52, 52, 54, 54, 54, 55, 55, 55, 55, 55, 57, 57], vi .u8 [48, 50, 52, 50, 52, 54, 56, 48, 50, 52, 54, 52, 54, 56, 48, 50, 52, 54, 56, 54, 56]], .b false, .i .i64 2] 4),
(1175, .c [.s [102, 99], .s [98, 32, 116, 111], .b false, .i .i64 3] 4),
(1178, .c [] 0),
(1208, .c [.i .i64 0, .i .i64 1, .i .i64 3, .i .i64 1, .b true, .i .i64 1, .s [97], .s [116, 111, 58, 32, 115, 101, 95, 98, 108, 114], .i .i64 0, .i .i64 0, .s [], .sn, .sn, .i .i64 0, .i .i64 4, .i .i64 6, .i .i64 2, .b true, .i .i64 1, .s [98, 49], .st [.i .u8 46, .i .u8 115, .i .u8 112, .i .u8 97, .i .u8 99, .i .u8 101, .i .u8 32, vi .u8 [49, 49, 49, 51, 51, 51, 51, 52, 52, 52, 52, 54, 54, 54, 55, 55, 55, 55, 55, 57, 57], vi .u8 [48, 50, 52, 50, 52, 54, 56, 48, 50, 52, 54, 52, 54, 56, 48, 50, 52, 54, 56, 54, 56]], .i .i64 0, .i .i64 0, .s [], .sn, .sn, .i .i64 0, .i .i64 7, .i .i64 9, .i .i64 3, .b true, .i .i64 1, .s [99], .s [98, 32, 116, 111], .i .i64 0, .i .i64 0, .s [], .sn, .sn, .i .i64 0, .i .i64 10, .i .i64 16, .i .i64 3, .b false, .i .i64 7, .s [], .s [], .i .i64 0, .i .i64 0, .s [], .rs 1162 0 5 false, .sn] 13),
(1220, .r [.i .u8 0, .i .u8 4, .z [10, 12, 14, 32, 34, 36, 38, 40, 42, 44, 46, 64, 66, 68, 70, 72, 74, 76, 78, 96, 98], .i .u8 232, vi .u8 [250, 249, 248, 239, 238, 237, 236, 235, 234, 233, 232, 223, 222, 221, 220, 219, 218, 217, 216, 207, 206]]),
(1223, .c [.i .i64 0, .s [], .rs 1220 0 5 false, .sn] 0)] .e⟩, []⟩
noncomputable def SA121_2 : St := ⟨ofL [(4, .b true)] .e, ⟨1853, ofL [(0, .c asc 0), (3, .c p10 0), (4, .c [.sym 2] 0)] .e⟩, []⟩
end Go.Ae
namespace Go.Ae
open Go Go.Proofs
noncomputable def LA130 : List Value := [56, 57, 58, 59, 60, 61, 62, 63, 72, 73, 74, 75, 76, 77, 78, 79, 88, 89, 90, 91, 92, 93, 94, 95, 104, 105, 106, 107, 108, 109, 110, 111, 120, 121, 122, 123, 124, 125, 126, 127].map (.int .i64)
noncomputable def SA130_0 : St := ⟨ofL [(0, .sym 0), (1, .b true), (4, .b false), (5, .p 18 0), (6, vi .i64 [112, 114, 116, 118, 120, 122, 124, 126, 144, 146, 148, 150, 152, 154, 156, 158, 176, 178, 180, 182, 184, 186, 188, 190, 208, 210, 212, 214, 216, 218, 220, 222, 240, 242, 244, 246, 248, 250, 252, 254]), (7, .s [116, 111, 58, 32, 115, 101, 95, 98, 108, 114]), (8, .s [98, 32, 116, 111]), (9, .st [.i .u8 46, .i .u8 115, .i .u8 112, .i .u8 97, .i .u8 99, .i .u8 101, .i .u8 32, vi .u8 [49, 49, 49, 49, 49, 49, 49, 49, 49, 49, 49, 49, 49, 49, 49, 49, 49, 49, 49, 49, 49, 49, 49, 49, 50, 50, 50, 50, 50, 50, 50, 50, 50, 50, 50, 50, 50, 50, 50, 50], vi .u8 [49, 49, 49, 49, 50, 50, 50, 50, 52, 52, 52, 53, 53, 53, 53, 53, 55, 55, 56, 56, 56, 56, 56, 57, 48, 49, 49, 49, 49, 49, 50, 50, 52, 52, 52, 52, 52, 53, 53, 53], vi .u8 [50, 52, 54, 56, 48, 50, 52, 54, 52, 54, 56, 48, 50, 52, 54, 56, 54, 56, 48, 50, 52, 54, 56, 48, 56, 48, 50, 52, 54, 56, 48, 50, 48, 50, 52, 54, 56, 48, 50, 52]]), (10, .i .i64 3)] .e, ⟨410, ofL [
(0, .c asc 0),
(3, .c p10 0),
(4, .c [.sym 2] 0),
(12, .m [] 3),
(13, .m [⟨.s [102, 97], .so 362 0 0 1, 0⟩, ⟨.s [100], .so 360 0 0 1, 1⟩, ⟨.s [102, 98, 49], .so 364 0 0 1, 2⟩, ⟨.s [102, 99], .so 366 0 0 1, 3⟩] 4),
(14, .c [.m 12, .i .i64 10000, .i .i64 3, .m 13] 0),
(15, .m [] 0),
(16, .c [.m 15, .sn, .i .i64 0] 0),
(17, .m [⟨.i .i64 0, .p 19 0, 0⟩] 1),
(18, .c [.p 14 0, .p 16 0, .m 17, .i .i64 1, .i .i64 9, .so 398 0 0 3] 0),
(19, .c [.sl 311 0 0 0, .sl 369 0 0 0, .pn, .sn] 0),
(311, .c [] 0),
(360, .c [.s [100], .s [97, 10, 98, 49, 10, 99, 10], .b false, .i .i64 3] 4),
(362, .c [.s [102, 97], .s [116, 111, 58, 32, 115, 101, 95, 98, 108, 114], .b false, .i .i64 1] 4),
(364, .c [.s [102, 98, 49], .st [.i .u8 46, .i .u8 115, .i .u8 112, .i .u8 97, .i .u8 99, .i .u8 101, .i .u8 32, vi .u8 [49, 49, 49, 49, 49, 49, 49, 49, 49, 49, 49, 49, 49, 49, 49, 49, 49, 49, 49, 49, 49, 49, 49, 49, 50, 50, 50, 50, 50, 50, 50, 50, 50, 50, 50, 50, 50, 50, 50, 50], vi .u8 [49, 49, 49, 49, 50, 50, 50, 50, 52, 52, 52, 53, 53, 53, 53, 53, 55, 55, 56, 56, 56, 56, 56, 57, 48, 49, 49, 49, 49, 49, 50, 50, 52, 52, 52, 52, 52, 53, 53, 53], vi .u8 [50, 52, 54, 56, 48, 50, 52, 54, 52, 54, 56, 48, 50, 52, 54, 56, 54, 56, 48, 50, 52, 54, 56, 48, 56, 48, 50, 52, 54, 56, 48, 50, 48, 50, 52, 54, 56, 48, 50, 52]], .b false, .i .i64 2] 4),
(366, .c [.s [102, 99], .s [98, 32, 116, 111], .b false, .i .i64 3] 4),
(369, .c [] 0),
(398, .c [.i .i64 0, .i .i64 1, .i .i64 3, .i .i64 1, .b true, .i .i64 1, .s [97], .s [116, 111, 58, 32, 115, 101, 95, 98, 108, 114], .i .i64 0, .i .i64 0, .s [], .sn, .sn, .i .i64 0, .i .i64 4, .i .i64 6, .i .i64 2, .b true, .i .i64 1, .s [98, 49], .st [.i .u8 46, .i .u8 115, .i .u8 112, .i .u8 97, .i .u8 99, .i .u8 101, .i .u8 32, vi .u8 [49, 49, 49, 49, 49, 49, 49, 49, 49, 49, 49, 49, 49, 49, 49, 49, 49, 49, 49, 49, 49, 49, 49, 49, 50, 50, 50, 50, 50, 50, 50, 50, 50, 50, 50, 50, 50, 50, 50, 50], vi .u8 [49, 49, 49, 49, 50, 50, 50, 50, 52, 52, 52, 53, 53, 53, 53, 53, 55, 55, 56, 56, 56, 56, 56, 57, 48, 49, 49, 49, 49, 49, 50, 50, 52, 52, 52, 52, 52, 53, 53, 53], vi .u8 [50, 52, 54, 56, 48, 50, 52, 54, 52, 54, 56, 48, 50, 52, 54, 56, 54, 56, 48, 50, 52, 54, 56, 48, 56, 48, 50, 52, 54, 56, 48, 50, 48, 50, 52, 54, 56, 48, 50, 52]], .i .i64 0, .i .i64 0, .s [], .sn, .sn, .i .i64 0, .i .i64 7, .i .i64 9, .i .i64 3, .b true, .i .i64 1, .s [99], .s [98, 32, 116, 111], .i .i64 0, .i .i64 0, .s [], .sn, .sn] 13)] .e⟩, []⟩
noncomputable def SA130_1 : St := ⟨ofL [(0, .sym 0), (1, .b true), (4, .b false), (5, .p 18 0), (6, vi .i64 [112, 114, 116, 118, 120, 122, 124, 126, 144, 146, 148, 150, 152, 154, 156, 158, 176, 178, 180, 182, 184, 186, 188, 190, 208, 210, 212, 214, 216, 218, 220, 222, 240, 242, 244, 246, 248, 250, 252, 254]), (7, .s [116, 111, 58, 32, 115, 101, 95, 98, 108, 114]), (8, .s [98, 32, 116, 111]), (9, .st [.i .u8 46, .i .u8 115, .i .u8 112, .i .u8 97, .i .u8 99, .i .u8 101, .i .u8 32, vi .u8 [49, 49, 49, 49, 49, 49, 49, 49, 49, 49, 49, 49, 49, 49, 49, 49, 49, 49, 49, 49, 49, 49, 49, 49, 50, 50, 50, 50, 50, 50, 50, 50, 50, 50, 50, 50, 50, 50, 50, 50], vi .u8 [49, 49, 49, 49, 50, 50, 50, 50, 52, 52, 52, 53, 53, 53, 53, 53, 55, 55, 56, 56, 56, 56, 56, 57, 48, 49, 49, 49, 49, 49, 50, 50, 52, 52, 52, 52, 52, 53, 53, 53], vi .u8 [50, 52, 54, 56, 48, 50, 52, 54, 52, 54, 56, 48, 50, 52, 54, 56, 54, 56, 48, 50, 52, 54, 56, 48, 56, 48, 50, 52, 54, 56, 48, 50, 48, 50, 52, 54, 56, 48, 50, 52]]), (10, .i .i64 3), (11, .p 1225 0)] .e, ⟨1226, ofL [
(0, .c asc 0),
(3, .c p10 0),
(4, .c [.sym 2] 0),
(12, .m [] 4),
(13, .m [⟨.s [102, 97], .so 1173 0 0 1, 0⟩, ⟨.s [100], .so 1171 0 0 1, 1⟩, ⟨.s [102, 98, 49], .so 1175 0 0 1, 2⟩, ⟨.s [102, 99], .so 1177 0 0 1, 3⟩] 4),
(14, .c [.m 12, .i .i64 10000, .i .i64 3, .m 13] 0),
(16, .c [.m 515, .so 776 0 0 3, .i .i64 3] 0),
(17, .m [⟨.i .i64 0, .p 19 0, 0⟩] 1),
(18, .c [.p 14 0, .p 16 0, .m 17, .i .i64 1, .i .i64 16, .so 1210 0 0 4] 0),
(19, .c [.sl 435 0 0 0, .sl 1180 0 0 0, .pn, .sn] 0),
(435, .c [] 0),
(515, .m [⟨.s [97], .ag [.s [116, 111, 58, 32, 115, 101, 95, 98, 108, 114], .so 532 0 0 1], 0⟩, ⟨.s [98, 49], .ag [.st [.i .u8 46, .i .u8 115, .i .u8 112, .i .u8 97, .i .u8 99, .i .u8 101, .i .u8 32, vi .u8 [49, 49, 49, 49, 49, 49, 49, 49, 49, 49, 49, 49, 49, 49, 49, 49, 49, 49, 49, 49, 49, 49, 49, 49, 50, 50, 50, 50, 50, 50, 50, 50, 50, 50, 50, 50, 50, 50, 50, 50], vi .u8 [49, 49, 49, 49, 50, 50, 50, 50, 52, 52, 52, 53, 53, 53, 53, 53, 55, 55, 56, 56, 56, 56, 56, 57, 48, 49, 49, 49, 49, 49, 50, 50, 52, 52, 52, 52, 52, 53, 53, 53], vi .u8 [50, 52, 54, 56, 48, 50, 52, 54, 52, 54, 56, 48, 50, 52, 54, 56, 54, 56, 48, 50, 52, 54, 56, 48, 56, 48, 50, 52, 54, 56, 48, 50, 48, 50, 52, 54, 56, 48, 50, 52]], .so 655 0 0 1], 1⟩, ⟨.s [99], .ag [.s [98, 32, 116, 111], .so 774 0 0 1], 2⟩] 3),
(532, .c [.i .i64 1, .s [116, 111], .i .i64 1, .i .i64 3, .s [], .sn] 6),
(650, .c [.i .i64 (-1), .i .i64 1, vi .i64 [112, 114, 116, 118, 120, 122, 124, 126, 144, 146, 148, 150, 152, 154, 156, 158, 176, 178, 180, 182, 184, 186, 188, 190, 208, 210, 212, 214, 216, 218, 220, 222, 240, 242, 244, 246, 248, 250, 252, 254], .s [], .sn] 5),
(655, .c [.i .i64 1, .s [], .i .i64 8, .i .i64 0, .s [], .so 650 0 0 1] 6),
(769, .c [.i .i64 (-1), .i .i64 2, .i .i64 0, .s [116, 111], .sn] 5),
(774, .c [.i .i64 1, .s [], .i .i64 2, .i .i64 0, .s [], .so 769 0 0 1] 6),
(776, .c [.s [97], .s [98, 49], .s [99]] 1),
(1164, .r [.i .u8 0, .i .u8 4, .z [112, 114, 116, 118, 120, 122, 124, 126, 144, 146, 148, 150, 152, 154, 156, 158, 176, 178, 180, 182, 184, 186, 188, 190, 208, 210, 212, 214, 216, 218, 220, 222, 240, 242, 244, 246, 248, 250, 252, 254], .i .u8 232, vi .u8 [199, 198, 197, 196, 195, 194, 193, 192, 183, 182, 181, 180, 179, 178, 177, 176, 167, 166, 165, 164, 163, 162, 161, 160, 151, 150, 149, 148, 147, 146, 145, 144, 135, 134, 133, 132, 131, 130, 129, 128]]),
(1171, .c [.s [100], .s [97, 10, 98, 49, 10, 99, 10], .b false, .i .i64 3] 4),
(1173, .c [.s [102, 97], .s [116, 111, 58, 32, 115, 101, 95, 98, 108, 114], .b false, .i .i64 1] 4),
(1175, .c [.s [102, 98, 49], .st [.i .u8 46, .i .u8 115, .i .u8 112, .i .u8 97, .i .u8 99, .i .u8 101, .i .u8 32, vi .u8 [49, 49, 49, 49, 49, 49, 49, 49, 49, 49, 49, 49, 49, 49, 49, 49, 49, 49, 49, 49, 49, 49, 49, 49, 50, 50, 50, 50, 50, 50, 50, 50, 50, 50, 50, 50, 50, 50, 50, 50], vi .u8 [49, 49, 49, 49, 50, 50, 50, 50, 52, 52, 52, 53, 53, 53, 53, 53, 55, 55, 56, 56, 56, 56, 56, 57, 48, 49, 49, 49, 49, 49, 50, 50, 52, 52, 52, 52, 52, 53, 53, 53], vi .u8 [50, 52, 54, 56, 48, 50, 52, 54, 52, 54, 56, 48, 50, 52, 54, 56, 54, 56, 48, 50, 52, 54, 56, 48, 56, 48, 50, 52, 54, 56, 48, 50, 48, 50, 52, 54, 56, 48, 50, 52]], .b false, .i .i64 2] 4),
(1177, .c [.s [102, 99], .s [98, 32, 116, 111], .b false, .i .i64 3] 4),
(1180, .c [] 0),
(1210, .c [.i .i64 0, .i .i64 1, .i .i64 3, .i .i64 1, .b true, .i .i64 1, .s [97], .s [116, 111, 58, 32, 115, 101, 95, 98, 108, 114], .i .i64 0, .i .i64 0, .s [], .sn, .sn, .i .i64 0, .i .i64 4, .i .i64 6, .i .i64 2, .b true, .i .i64 1, .s [98, 49], .st [.i .u8 46, .i .u8 115, .i .u8 112, .i .u8 97, .i .u8 99, .i .u8 101, .i .u8 32, vi .u8 [49, 49, 49, 49, 49, 49, 49, 49, 49, 49, 49, 49, 49, 49, 49, 49, 49, 49, 49, 49, 49, 49, 49, 49, 50, 50, 50, 50, 50, 50, 50, 50, 50, 50, 50, 50, 50, 50, 50, 50], vi .u8 [49, 49, 49, 49, 50, 50, 50, 50, 52, 52, 52, 53, 53, 53, 53, 53, 55, 55, 56, 56, 56, 56, 56, 57, 48, 49, 49, 49, 49, 49, 50, 50, 52, 52, 52, 52, 52, 53, 53, 53], vi .u8 [50, 52, 54, 56, 48, 50, 52, 54, 52, 54, 56, 48, 50, 52, 54, 56, 54, 56, 48, 50, 52, 54, 56, 48, 56, 48, 50, 52, 54, 56, 48, 50, 48, 50, 52, 54, 56, 48, 50, 52]], .i .i64 0, .i .i64 0, .s [], .sn, .sn, .i .i64 0, .i .i64 7, .i .i64 9, .i .i64 3, .b true, .i .i64 1, .s [99], .s [98, 32, 116, 111], .i .i64 0, .i .i64 0, .s [], .sn, .sn, .i .i64 0, .i .i64 10, .i .i64 16, .i .i64 3, .b false, .i .i64 7, .s [], .s [], .i .i64 0, .i .i64 0, .s [], .rs 1164 0 5 false, .sn] 13),
(1222, .r [.i .u8 0, .i .u8 4, .z [112, 114, 116, 118, 120, 122, 124, 126, 144, 146, 148, 150, 152, 154, 156, 158, 176, 178, 180, 182, 184, 186, 188, 190, 208, 210, 212, 214, 216, 218, 220, 222, 240, 242, 244, 246, 248, 250, 252, 254], .i .u8 232, vi .u8 [199, 198, 197, 196, 195, 194, 193, 192, 183, 182, 181, 180, 179, 178, 177, 176, 167, 166, 165, 164, 163, 162, 161, 160, 151, 150, 149, 148, 147, 146, 145, 144, 135, 134, 133, 132, 131, 130, 129, 128]]),
(1225, .c [.i .i64 0, .s [], .rs 1222 0 5 false, .sn] 0)] .e⟩, []⟩
noncomputable def SA130_2 : St := ⟨ofL [(4, .b true)] .e, ⟨1855, ofL [(0, .c asc 0), (3, .c p10 0), (4, .c [.sym 2] 0)] .e⟩, []⟩
end Go.Ae
namespace Go.Ae
open Go Go.Proofs
noncomputable def LA131 : List Value := [50, 51, 52, 53, 54, 55, 64, 65, 66, 67, 68, 69, 70, 71, 80, 81, 82, 83, 84, 85, 86, 87, 96, 97, 98, 99, 100, 101, 102, 103, 112, 113, 114, 115, 116, 117, 118, 119].map (.int .i64)
noncomputable def SA131_0 : St := ⟨ofL [(0, .sym 0), (1, .b true), (4, .b false), (5, .p 18 0), (6, vi .i64 [100, 102, 104, 106, 108, 110, 128, 130, 132, 134, 136, 138, 140, 142, 160, 162, 164, 166, 168, 170, 172, 174, 192, 194, 196, 198, 200, 202, 204, 206, 224, 226, 228, 230, 232, 234, 236, 238]), (7, .s [116, 111, 58, 32, 115, 101, 95, 98, 108, 114]), (8, .s [98, 32, 116, 111]), (9, .st [.i .u8 46, .i .u8 115, .i .u8 112, .i .u8 97, .i .u8 99, .i .u8 101, .i .u8 32, vi .u8 [49, 49, 49, 49, 49, 49, 49, 49, 49, 49, 49, 49, 49, 49, 49, 49, 49, 49, 49, 49, 49, 49, 49, 49, 49, 49, 50, 50, 50, 50, 50, 50, 50, 50, 50, 50, 50, 50], vi .u8 [48, 48, 48, 48, 48, 49, 50, 51, 51, 51, 51, 51, 52, 52, 54, 54, 54, 54, 54, 55, 55, 55, 57, 57, 57, 57, 48, 48, 48, 48, 50, 50, 50, 51, 51, 51, 51, 51], vi .u8 [48, 50, 52, 54, 56, 48, 56, 48, 50, 52, 54, 56, 48, 50, 48, 50, 52, 54, 56, 48, 50, 52, 50, 52, 54, 56, 48, 50, 52, 54, 52, 54, 56, 48, 50, 52, 54, 56]]), (10, .i .i64 3)] .e, ⟨410, ofL [
(0, .c asc 0),
(3, .c p10 0),
(4, .c [.sym 2] 0),
(12, .m [] 3),
(13, .m [⟨.s [102, 97], .so 362 0 0 1, 0⟩, ⟨.s [100], .so 360 0 0 1, 1⟩, ⟨.s [102, 98, 49], .so 364 0 0 1, 2⟩, ⟨.s [102, 99], .so 366 0 0 1, 3⟩] 4),
(14, .c [.m 12, .i .i64 10000, .i .i64 3, .m 13] 0),
(15, .m [] 0),
(16, .c [.m 15, .sn, .i .i64 0] 0),
(17, .m [⟨.i .i64 0, .p 19 0, 0⟩] 1),
(18, .c [.p 14 0, .p 16 0, .m 17, .i .i64 1, .i .i64 9, .so 398 0 0 3] 0),
(19, .c [.sl 311 0 0 0, .sl 369 0 0 0, .pn, .sn] 0),
(311, .c [] 0),
(360, .c [.s [100], .s [97, 10, 98, 49, 10, 99, 10], .b false, .i .i64 3] 4),
(362, .c [.s [102, 97], .s [116, 111, 58, 32, 115, 101, 95, 98, 108, 114], .b false, .i .i64 1] 4),
(364, .c [.s [102, 98, 49], .st [.i .u8 46, .i .u8 115, .i .u8 112, .i .u8 97, .i .u8 99, .i .u8 101, .i .u8 32, vi .u8 [49, 49, 49, 49, 49, 49, 49, 49, 49, 49, 49, 49, 49, 49, 49, 49, 49, 49, 49, 49, 49, 49, 49, 49, 49, 49, 50, 50, 50, 50, 50, 50, 50, 50, 50, 50, 50, 50], vi .u8 [48, 48, 48, 48, 48, 49, 50, 51, 51, 51, 51, 51, 52, 52, 54, 54, 54, 54, 54, 55, 55, 55, 57, 57, 57, 57, 48, 48, 48, 48, 50, 50, 50, 51, 51, 51, 51, 51], vi .u8 [48, 50, 52, 54, 56, 48, 56, 48, 50, 52, 54, 56, 48, 50, 48, 50, 52, 54, 56, 48, 50, 52, 50, 52, 54, 56, 48, 50, 52, 54, 52, 54, 56, 48, 50, 52, 54, 56]], .b false, .i .i64 2] 4),
(366, .c [.s [102, 99], .s [98, 32, 116, 111], .b false, .i .i64 3] 4),
(369, .c [] 0),
(398, .c [.i .i64 0, .i .i64 1, .i .i64 3, .i .i64 1, .b true, .i .i64 1, .s [97], .s [116, 111, 58, 32, 115, 101, 95, 98, 108, 114], .i .i64 0, .i .i64 0, .s [], .sn, .sn, .i .i64 0, .i .i64 4, .i .i64 6, .i .i64 2, .b true, .i .i64 1, .s [98, 49], .st [.i .u8 46, .i .u8 115, .i .u8 112, .i .u8 97, .i .u8 99, .i .u8 101, .i .u8 32, vi .u8 [49, 49, 49, 49, 49, 49, 49, 49, 49, 49, 49, 49, 49, 49, 49, 49, 49, 49, 49, 49, 49, 49, 49, 49, 49, 49, 50, 50, 50, 50, 50, 50, 50, 50, 50, 50, 50, 50], vi .u8 [48, 48, 48, 48, 48, 49, 50, 51, 51, 51, 51, 51, 52, 52, 54, 54, 54, 54, 54, 55, 55, 55, 57, 57, 57, 57, 48, 48, 48, 48, 50, 50, 50, 51, 51, 51, 51, 51], vi .u8 [48, 50, 52, 54, 56, 48, 56, 48, 50, 52, 54, 56, 48, 50, 48, 50, 52, 54, 56, 48, 50, 52, 50, 52, 54, 56, 48, 50, 52, 54, 52, 54, 56, 48, 50, 52, 54, 56]], .i .i64 0, .i .i64 0, .s [], .sn, .sn, .i .i64 0, .i .i64 7, .i .i64 9, .i .i64 3, .b true, .i .i64 1, .s [99], .s [98, 32, 116, 111], .i .i64 0, .i .i64 0, .s [], .sn, .sn] 13)] .e⟩, []⟩
noncomputable def SA131_1 : St := ⟨ofL [(0, .sym 0), (1, .b true), (4, .b false), (5, .p 18 0), (6, vi .i64 [100, 102, 104, 106, 108, 110, 128, 130, 132, 134, 136, 138, 140, 142, 160, 162, 164, 166, 168, 170, 172, 174, 192, 194, 196, 198, 200, 202, 204, 206, 224, 226, 228, 230, 232, 234, 236, 238]), (7, .s [116, 111, 58, 32, 115, 101, 95, 98, 108, 114]), (8, .s [98, 32, 116, 111]), (9, .st [.i .u8 46, .i .u8 115, .i .u8 112, .i .u8 97, .i .u8 99, .i .u8 101, .i .u8 32, vi .u8 [49, 49, 49, 49, 49, 49, 49, 49, 49, 49, 49, 49, 49, 49, 49, 49, 49, 49, 49, 49, 49, 49, 49, 49, 49, 49, 50, 50, 50, 50, 50, 50, 50, 50, 50, 50, 50, 50], vi .u8 [48, 48, 48, 48, 48, 49, 50, 51, 51, 51, 51, 51, 52, 52, 54, 54, 54, 54, 54, 55, 55, 55, 57, 57, 57, 57, 48, 48, 48, 48, 50, 50, 50, 51, 51, 51, 51, 51], vi .u8 [48, 50, 52, 54, 56, 48, 56, 48, 50, 52, 54, 56, 48, 50, 48, 50, 52, 54, 56, 48, 50, 52, 50, 52, 54, 56, 48, 50, 52, 54, 52, 54, 56, 48, 50, 52, 54, 56]]), (10, .i .i64 3), (11, .p 1225 0)] .e, ⟨1226, ofL [
(0, .c asc 0),
(3, .c p10 0),
(4, .c [.sym 2] 0),
(12, .m [] 4),
(13, .m [⟨.s [102, 97], .so 1173 0 0 1, 0⟩, ⟨.s [100], .so 1171 0 0 1, 1⟩, ⟨.s [102, 98, 49], .so 1175 0 0 1, 2⟩, ⟨.s [102, 99], .so 1177 0 0 1, 3⟩] 4),
(14, .c [.m 12, .i .i64 10000, .i .i64 3, .m 13] 0),
(16, .c [.m 515, .so 776 0 0 3, .i .i64 3] 0),
(17, .m [⟨.i .i64 0, .p 19 0, 0⟩] 1),
(18, .c [.p 14 0, .p 16 0, .m 17, .i .i64 1, .i .i64 16, .so 1210 0 0 4] 0),
(19, .c [.sl 435 0 0 0, .sl 1180 0 0 0, .pn, .sn] 0),
(435, .c [] 0),
(515, .m [⟨.s [97], .ag [.s [116, 111, 58, 32, 115, 101, 95, 98, 108, 114], .so 532 0 0 1], 0⟩, ⟨.s [98, 49], .ag [.st [.i .u8 46, .i .u8 115, .i .u8 112, .i .u8 97, .i .u8 99, .i .u8 101, .i .u8 32, vi .u8 [49, 49, 49, 49, 49, 49, 49, 49, 49, 49, 49, 49, 49, 49, 49, 49, 49, 49, 49, 49, 49, 49, 49, 49, 49, 49, 50, 50, 50, 50, 50, 50, 50, 50, 50, 50, 50, 50], vi .u8 [48, 48, 48, 48, 48, 49, 50, 51, 51, 51, 51, 51, 52, 52, 54, 54, 54, 54, 54, 55, 55, 55, 57, 57, 57, 57, 48, 48, 48, 48, 50, 50, 50, 51, 51, 51, 51, 51], vi .u8 [48, 50, 52, 54, 56, 48, 56, 48, 50, 52, 54, 56, 48, 50, 48, 50, 52, 54, 56, 48, 50, 52, 50, 52, 54, 56, 48, 50, 52, 54, 52, 54, 56, 48, 50, 52, 54, 56]], .so 655 0 0 1], 1⟩, ⟨.s [99], .ag [.s [98, 32, 116, 111], .so 774 0 0 1], 2⟩] 3),
(532, .c [.i .i64 1, .s [116, 111], .i .i64 1, .i .i64 3, .s [], .sn] 6),
(650, .c [.i .i64 (-1), .i .i64 1, vi .i64 [100, 102, 104, 106, 108, 110, 128, 130, 132, 134, 136, 138, 140, 142, 160, 162, 164, 166, 168, 170, 172, 174, 192, 194, 196, 198, 200, 202, 204, 206, 224, 226, 228, 230, 232, 234, 236, 238], .s [], .sn] 5),
(655, .c [.i .i64 1, .s [], .i .i64 8, .i .i64 0, .s [], .so 650 0 0 1] 6),
(769, .c [.i .i64 (-1), .i .i64 2, .i .i64 0, .s [116, 111], .sn] 5),
(774, .c [.i .i64 1, .s [], .i .i64 2, .i .i64 0, .s [], .so 769 0 0 1] 6),
(776, .c [.s [97], .s [98, 49], .s [99]] 1),
(1164, .r [.i .u8 0, .i .u8 4, .z [100, 102, 104, 106, 108, 110, 128, 130, 132, 134, 136, 138, 140, 142, 160, 162, 164, 166, 168, 170, 172, 174, 192, 194, 196, 198, 200, 202, 204, 206, 224, 226, 228, 230, 232, 234, 236, 238], .i .u8 232, vi .u8 [205, 204, 203, 202, 201, 200, 191, 190, 189, 188, 187, 186, 185, 184, 175, 174, 173, 172, 171, 170, 169, 168, 159, 158, 157, 156, 155, 154, 153, 152, 143, 142, 141, 140, 139, 138, 137, 136]]),
(1171, .c [.s [100], .s [97, 10, 98, 49, 10, 99, 10], .b false, .i .i64 3] 4),
(1173, .c [.s [102, 97], .s [116, 111, 58, 32, 115, 101, 95, 98, 108, 114], .b false, .i .i64 1] 4),
(1175, .c [.s [102, 98, 49], .st [.i .u8 46, .i .u8 115, .i .u8 112, .i .u8 97, .i .u8 99, .i .u8 101, .i .u8 32, vi .u8 [49, 49, 49, 49, 49, 49, 49, 49, 49, 49, 49, 49, 49, 49, 49, 49, 49, 49, 49, 49, 49, 49, 49, 49, 49, 49, 50, 50, 50, 50, 50, 50, 50, 50, 50, 50, 50, 50], vi .u8 [48, 48, 48, 48, 48, 49, 50, 51, 51, 51, 51, 51, 52, 52, 54, 54, 54, 54, 54, 55, 55, 55, 57, 57, 57, 57, 48, 48, 48, 48, 50, 50, 50, 51, 51, 51, 51, 51], vi .u8 [48, 50, 52, 54, 56, 48, 56, 48, 50, 52, 54, 56, 48, 50, 48, 50, 52, 54, 56, 48, 50, 52, 50, 52, 54, 56, 48, 50, 52, 54, 52, 54, 56, 48, 50, 52, 54, 56]], .b false, .i .i64 2] 4),
(1177, .c [.s [102, 99], .s [98, 32, 116, 111], .b false, .i .i64 3] 4),
(1180, .c [] 0),
(1210, .c [.i .i64 0, .i .i64 1, .i .i64 3, .i .i64 1, .b true, .i .i64 1, .s [97], .s [116, 111, 58, 32, 115, 101, 95, 98, 108, 114], .i .i64 0, .i .i64 0, .s [], .sn, .sn, .i .i64 0, .i .i64 4, .i .i64 6, .i .i64 2, .b true, .i .i64 1, .s [98, 49], .st [.i .u8 46, .i .u8 115, .i .u8 112, .i .u8 97, .i .u8 99, .i .u8 101, .i .u8 32, vi .u8 [49, 49, 49, 49, 49, 49, 49, 49, 49, 49, 49, 49, 49, 49, 49, 49, 49, 49, 49, 49, 49, 49, 49, 49, 49, 49, 50, 50, 50, 50, 50, 50, 50, 50, 50, 50, 50, 50], vi .u8 [48, 48, 48, 48, 48, 49, 50, 51, 51, 51, 51, 51, 52, 52, 54, 54, 54, 54, 54, 55, 55, 55, 57, 57, 57, 57, 48, 48, 48, 48, 50, 50, 50, 51, 51, 51, 51, 51], vi .u8 [48, 50, 52, 54, 56, 48, 56, 48, 50, 52, 54, 56, 48, 50, 48, 50, 52, 54, 56, 48, 50, 52, 50, 52, 54, 56, 48, 50, 52, 54, 52, 54, 56, 48, 50, 52, 54, 56]], .i .i64 0, .i .i64 0, .s [], .sn, .sn, .i .i64 0, .i .i64 7, .i .i64 9, .i .i64 3, .b true, .i .i64 1, .s [99], .s [98, 32, 116, 111], .i .i64 0, .i .i64 0, .s [], .sn, .sn, .i .i64 0, .i .i64 10, .i .i64 16, .i .i64 3, .b false, .i .i64 7, .s [], .s [], .i .i64 0, .i .i64 0, .s [], .rs 1164 0 5 false, .sn] 13),
(1222, .r [.i .u8 0, .i .u8 4, .z [100, 102, 104, 106, 108, 110, 128, 130, 132, 134, 136, 138, 140, 142, 160, 162, 164, 166, 168, 170, 172, 174, 192, 194, 196, 198, 200, 202, 204, 206, 224, 226, 228, 230, 232, 234, 236, 238], .i .u8 232, vi .u8 [205, 204, 203, 202, 201, 200, 191, 190, 189, 188, 187, 186, 185, 184, 175, 174, 173, 172, 171, 170, 169, 168, 159, 158, 157, 156, 155, 154, 153, 152, 143, 142, 141, 140, 139, 138, 137, 136]]),
(1225, .c [.i .i64 0, .s [], .rs 1222 0 5 false, .sn] 0)] .e⟩, []⟩
noncomputable def SA131_2 : St := ⟨ofL [(4, .b true)] .e, ⟨1855, ofL [(0, .c asc 0), (3, .c p10 0), (4, .c [.sym 2] 0)] .e⟩, []⟩
end Go.Ae
namespace Go.Ae
open Go Go.Proofs
noncomputable def LA13L : List Value := [128, 129, 130, 131, 132, 133, 134, 135, 136, 137, 138, 139, 140, 141, 142, 143, 144, 145, 146, 147, 148, 149, 150, 151, 152, 153, 154, 155, 156, 157, 158, 159, 160, 161, 162, 163, 164, 165, 166, 167, 168, 169, 170, 171, 172, 173, 174, 175, 176, 177, 178, 179, 180, 181, 182, 183, 184, 185, 186, 187, 188, 189, 190, 191, 192, 193, 194, 195, 196, 197, 198, 199].map (.int .i64)
noncomputable def SA13L_0 : St := ⟨ofL [(0, .sym 0), (1, .b true), (4, .b false), (5, .p 18 0), (6, vi .i64 [256, 258, 260, 262, 264, 266, 268, 270, 272, 274, 276, 278, 280, 282, 284, 286, 288, 290, 292, 294, 296, 298, 300, 302, 304, 306, 308, 310, 312, 314, 316, 318, 320, 322, 324, 326, 328, 330, 332, 334, 336, 338, 340, 342, 344, 346, 348, 350, 352, 354, 356, 358, 360, 362, 364, 366, 368, 370, 372, 374, 376, 378, 380, 382, 384, 386, 388, 390, 392, 394, 396, 398]), (7, .s [116, 111, 58, 32, 115, 101, 95, 98, 108, 114]), (8, .s [98, 32, 116, 111]), (9, .st [.i .u8 46, .i .u8 115, .i .u8 112, .i .u8 97, .i .u8 99, .i .u8 101, .i .u8 32, vi .u8 [50, 50, 50, 50, 50, 50, 50, 50, 50, 50, 50, 50, 50, 50, 50, 50, 50, 50, 50, 50, 50, 50, 51, 51, 51, 51, 51, 51, 51, 51, 51, 51, 51, 51, 51, 51, 51, 51, 51, 51, 51, 51, 51, 51, 51, 51, 51, 51, 51, 51, 51, 51, 51, 51, 51, 51, 51, 51, 51, 51, 51, 51, 51, 51, 51, 51, 51, 51, 51, 51, 51, 51], vi .u8 [53, 53, 54, 54, 54, 54, 54, 55, 55, 55, 55, 55, 56, 56, 56, 56, 56, 57, 57, 57, 57, 57, 48, 48, 48, 48, 48, 49, 49, 49, 49, 49, 50, 50, 50, 50, 50, 51, 51, 51, 51, 51, 52, 52, 52, 52, 52, 53, 53, 53, 53, 53, 54, 54, 54, 54, 54, 55, 55, 55, 55, 55, 56, 56, 56, 56, 56, 57, 57, 57, 57, 57], vi .u8 [54, 56, 48, 50, 52, 54, 56, 48, 50, 52, 54, 56, 48, 50, 52, 54, 56, 48, 50, 52, 54, 56, 48, 50, 52, 54, 56, 48, 50, 52, 54, 56, 48, 50, 52, 54, 56, 48, 50, 52, 54, 56, 48, 50, 52, 54, 56, 48, 50, 52, 54, 56, 48, 50, 52, 54, 56, 48, 50, 52, 54, 56, 48, 50, 52, 54, 56, 48, 50, 52, 54, 56]]), (10, .i .i64 3)] .e, ⟨410, ofL [
(0, .c asc 0),
(3, .c p10 0),
(4, .c [.sym 2] 0),
(12, .m [] 3),
(13, .m [⟨.s [102, 97], .so 362 0 0 1, 0⟩, ⟨.s [100], .so 360 0 0 1, 1⟩, ⟨.s [102, 98, 49], .so 364 0 0 1, 2⟩, ⟨.s [102, 99], .so 366 0 0 1, 3⟩] 4),
(14, .c [.m 12, .i .i64 10000, .i .i64 3, .m 13] 0),
(15, .m [] 0),
(16, .c [.m 15, .sn, .i .i64 0] 0),
(17, .m [⟨.i .i64 0, .p 19 0, 0⟩] 1),
(18, .c [.p 14 0, .p 16 0, .m 17, .i .i64 1, .i .i64 9, .so 398 0 0 3] 0),
(19, .c [.sl 311 0 0 0, .sl 369 0 0 0, .pn, .sn] 0),
(311, .c [] 0),
(360, .c [.s [100], .s [97, 10, 98, 49, 10, 99, 10], .b false, .i .i64 3] 4),
(362, .c [.s [102, 97], .s [116, 111, 58, 32, 115, 101, 95, 98, 108, 114], .b false, .i .i64 1] 4),
(364, .c [.s [102, 98, 49], .st [.i .u8 46, .i .u8 115, .i .u8 112, .i .u8 97, .i .u8 99, .i .u8 101, .i .u8 32, vi .u8 [50, 50, 50, 50, 50, 50, 50, 50, 50, 50, 50, 50, 50, 50, 50, 50, 50, 50, 50, 50, 50, 50, 51, 51, 51, 51, 51, 51, 51, 51, 51, 51, 51, 51, 51, 51, 51, 51, 51, 51, 51, 51, 51, 51, 51, 51, 51, 51, 51, 51, 51, 51, 51, 51, 51, 51, 51, 51, 51, 51, 51, 51, 51, 51, 51, 51, 51, 51, 51, 51, 51, 51], vi .u8 [53, 53, 54, 54, 54, 54, 54, 55, 55, 55, 55, 55, 56, 56, 56, 56, 56, 57, 57, 57, 57, 57, 48, 48, 48, 48, 48, 49, 49, 49, 49, 49, 50, 50, 50, 50, 50, 51, 51, 51, 51, 51, 52, 52, 52, 52, 52, 53, 53, 53, 53, 53, 54, 54, 54, 54, 54, 55, 55, 55, 55, 55, 56, 56, 56, 56, 56, 57, 57, 57, 57, 57], vi .u8 [54, 56, 48, 50, 52, 54, 56, 48, 50, 52, 54, 56, 48, 50, 52, 54, 56, 48, 50, 52, 54, 56, 48, 50, 52, 54, 56, 48, 50, 52, 54, 56, 48, 50, 52, 54, 56, 48, 50, 52, 54, 56, 48, 50, 52, 54, 56, 48, 50, 52, 54, 56, 48, 50, 52, 54, 56, 48, 50, 52, 54, 56, 48, 50, 52, 54, 56, 48, 50, 52, 54, 56]], .b false, .i .i64 2] 4),
(366, .c [.s [102, 99], .s [98, 32, 116, 111], .b false, .i .i64 3] 4),
(369, .c [] 0),
(398, .c [.i .i64 0, .i .i64 1, .i .i64 3, .i .i64 1, .b true, .i .i64 1, .s [97], .s [116, 111, 58, 32, 115, 101, 95, 98, 108, 114], .i .i64 0, .i .i64 0, .s [], .sn, .sn, .i .i64 0, .i .i64 4, .i .i64 6, .i .i64 2, .b true, .i .i64 1, .s [98, 49], .st [.i .u8 46, .i .u8 115, .i .u8 112, .i .u8 97, .i .u8 99, .i .u8 101, .i .u8 32, vi .u8 [50, 50, 50, 50, 50, 50, 50, 50, 50, 50, 50, 50, 50, 50, 50, 50, 50, 50, 50, 50, 50, 50, 51, 51, 51, 51, 51, 51, 51, 51, 51, 51, 51, 51, 51, 51, 51, 51, 51, 51, 51, 51, 51, 51, 51, 51, 51, 51, 51, 51, 51, 51, 51, 51, 51, 51, 51, 51, 51, 51, 51, 51, 51, 51, 51, 51, 51, 51, 51, 51, 51, 51], vi .u8 [53, 53, 54, 54, 54, 54, 54, 55, 55, 55, 55, 55, 56, 56, 56, 56, 56, 57, 57, 57, 57, 57, 48, 48, 48, 48, 48, 49, 49, 49, 49, 49, 50, 50, 50, 50, 50, 51, 51, 51, 51, 51, 52, 52, 52, 52, 52, 53, 53, 53, 53, 53, 54, 54, 54, 54, 54, 55, 55, 55, 55, 55, 56, 56, 56, 56, 56, 57, 57, 57, 57, 57], vi .u8 [54, 56, 48, 50, 52, 54, 56, 48, 50, 52, 54, 56, 48, 50, 52, 54, 56, 48, 50, 52, 54, 56, 48, 50, 52, 54, 56, 48, 50, 52, 54, 56, 48, 50, 52, 54, 56, 48, 50, 52, 54, 56, 48, 50, 52, 54, 56, 48, 50, 52, 54, 56, 48, 50, 52, 54, 56, 48, 50, 52, 54, 56, 48, 50, 52, 54, 56, 48, 50, 52, 54, 56]], .i .i64 0, .i .i64 0, .s [], .sn, .sn, .i .i64 0, .i .i64 7, .i .i64 9, .i .i64 3, .b true, .i .i64 1, .s [99], .s [98, 32, 116, 111], .i .i64 0, .i .i64 0, .s [], .sn, .sn] 13)] .e⟩, []⟩
noncomputable def SA13L_1 : St := ⟨ofL [(0, .sym 0), (1, .b true), (4, .b false), (5, .p 18 0), (6, vi .i64 [256, 258, 260, 262, 264, 266, 268, 270, 272, 274, 276, 278, 280, 282, 284, 286, 288, 290, 292, 294, 296, 298, 300, 302, 304, 306, 308, 310, 312, 314, 316, 318, 320, 322, 324, 326, 328, 330, 332, 334, 336, 338, 340, 342, 344, 346, 348, 350, 352, 354, 356, 358, 360, 362, 364, 366, 368, 370, 372, 374, 376, 378, 380, 382, 384, 386, 388, 390, 392, 394, 396, 398]), (7, .s [116, 111, 58, 32, 115, 101, 95, 98, 108, 114]), (8, .s [98, 32, 116, 111]), (9, .st [.i .u8 46, .i .u8 115, .i .u8 112, .i .u8 97, .i .u8 99, .i .u8 101, .i .u8 32, vi .u8 [50, 50, 50, 50, 50, 50, 50, 50, 50, 50, 50, 50, 50, 50, 50, 50, 50, 50, 50, 50, 50, 50, 51, 51, 51, 51, 51, 51, 51, 51, 51, 51, 51, 51, 51, 51, 51, 51, 51, 51, 51, 51, 51, 51, 51, 51, 51, 51, 51, 51, 51, 51, 51, 51, 51, 51, 51, 51, 51, 51, 51, 51, 51, 51, 51, 51, 51, 51, 51, 51, 51, 51], vi .u8 [53, 53, 54, 54, 54, 54, 54, 55, 55, 55, 55, 55, 56, 56, 56, 56, 56, 57, 57, 57, 57, 57, 48, 48, 48, 48, 48, 49, 49, 49, 49, 49, 50, 50, 50, 50, 50, 51, 51, 51, 51, 51, 52, 52, 52, 52, 52, 53, 53, 53, 53, 53, 54, 54, 54, 54, 54, 55, 55, 55, 55, 55, 56, 56, 56, 56, 56, 57, 57, 57, 57, 57], vi .u8 [54, 56, 48, 50, 52, 54, 56, 48, 50, 52, 54, 56, 48, 50, 52, 54, 56, 48, 50, 52, 54, 56, 48, 50, 52, 54, 56, 48, 50, 52, 54, 56, 48, 50, 52, 54, 56, 48, 50, 52, 54, 56, 48, 50, 52, 54, 56, 48, 50, 52, 54, 56, 48, 50, 52, 54, 56, 48, 50, 52, 54, 56, 48, 50, 52, 54, 56, 48, 50, 52, 54, 56]]), (10, .i .i64 3), (11, .p 1233 0)] .e, ⟨1234, ofL [
(0, .c asc 0),
(3, .c p10 0),
(4, .c [.sym 2] 0),
(12, .m [] 4),
(13, .m [⟨.s [102, 97], .so 1181 0 0 1, 0⟩, ⟨.s [100], .so 1179 0 0 1, 1⟩, ⟨.s [102, 98, 49], .so 1183 0 0 1, 2⟩, ⟨.s [102, 99], .so 1185 0 0 1, 3⟩] 4),
(14, .c [.m 12, .i .i64 10000, .i .i64 3, .m 13] 0),
(16, .c [.m 515, .so 776 0 0 3, .i .i64 3] 0),
(17, .m [⟨.i .i64 0, .p 19 0, 0⟩] 1),
(18, .c [.p 14 0, .p 16 0, .m 17, .i .i64 1, .i .i64 16, .so 1218 0 0 4] 0),
(19, .c [.sl 435 0 0 0, .sl 1188 0 0 0, .pn, .sn] 0),
(435, .c [] 0),
(515, .m [⟨.s [97], .ag [.s [116, 111, 58, 32, 115, 101, 95, 98, 108, 114], .so 532 0 0 1], 0⟩, ⟨.s [98, 49], .ag [.st [.i .u8 46, .i .u8 115, .i .u8 112, .i .u8 97, .i .u8 99, .i .u8 101, .i .u8 32, vi .u8 [50, 50, 50, 50, 50, 50, 50, 50, 50, 50, 50, 50, 50, 50, 50, 50, 50, 50, 50, 50, 50, 50, 51, 51, 51, 51, 51, 51, 51, 51, 51, 51, 51, 51, 51, 51, 51, 51, 51, 51, 51, 51, 51, 51, 51, 51, 51, 51, 51, 51, 51, 51, 51, 51, 51, 51, 51, 51, 51, 51, 51, 51, 51, 51, 51, 51, 51, 51, 51, 51, 51, 51], vi .u8 [53, 53, 54, 54, 54, 54, 54, 55, 55, 55, 55, 55, 56, 56, 56, 56, 56, 57, 57, 57, 57, 57, 48, 48, 48, 48, 48, 49, 49, 49, 49, 49, 50, 50, 50, 50, 50, 51, 51, 51, 51, 51, 52, 52, 52, 52, 52, 53, 53, 53, 53, 53, 54, 54, 54, 54, 54, 55, 55, 55, 55, 55, 56, 56, 56, 56, 56, 57, 57, 57, 57, 57], vi .u8 [54, 56, 48, 50, 52, 54, 56, 48, 50, 52, 54, 56, 48, 50, 52, 54, 56, 48, 50, 52, 54, 56, 48, 50, 52, 54, 56, 48, 50, 52, 54, 56, 48, 50, 52, 54, 56, 48, 50, 52, 54, 56, 48, 50, 52, 54, 56, 48, 50, 52, 54, 56, 48, 50, 52, 54, 56, 48, 50, 52, 54, 56, 48, 50, 52, 54, 56, 48, 50, 52, 54, 56]], .so 655 0 0 1], 1⟩, ⟨.s [99], .ag [.s [98, 32, 116, 111], .so 774 0 0 1], 2⟩] 3),
(532, .c [.i .i64 1, .s [116, 111], .i .i64 1, .i .i64 3, .s [], .sn] 6),
(650, .c [.i .i64 (-1), .i .i64 1, vi .i64 [256, 258, 260, 262, 264, 266, 268, 270, 272, 274, 276, 278, 280, 282, 284, 286, 288, 290, 292, 294, 296, 298, 300, 302, 304, 306, 308, 310, 312, 314, 316, 318, 320, 322, 324, 326, 328, 330, 332, 334, 336, 338, 340, 342, 344, 346, 348, 350, 352, 354, 356, 358, 360, 362, 364, 366, 368, 370, 372, 374, 376, 378, 380, 382, 384, 386, 388, 390, 392, 394, 396, 398], .s [], .sn] 5),
(655, .c [.i .i64 1, .s [], .i .i64 8, .i .i64 0, .s [], .so 650 0 0 1] 6),
(769, .c [.i .i64 (-1), .i .i64 2, .i .i64 0, .s [116, 111], .sn] 5),
(774, .c [.i .i64 1, .s [], .i .i64 2, .i .i64 0, .s [], .so 769 0 0 1] 6),
(776, .c [.s [97], .s [98, 49], .s [99]] 1),
(1172, .r [.i .u8 0, .i .u8 4, .z [256, 258, 260, 262, 264, 266, 268, 270, 272, 274, 276, 278, 280, 282, 284, 286, 288, 290, 292, 294, 296, 298, 300, 302, 304, 306, 308, 310, 312, 314, 316, 318, 320, 322, 324, 326, 328, 330, 332, 334, 336, 338, 340, 342, 344, 346, 348, 350, 352, 354, 356, 358, 360, 362, 364, 366, 368, 370, 372, 374, 376, 378, 380, 382, 384, 386, 388, 390, 392, 394, 396, 398], .i .u8 121, .i .u8 255, .i .u8 254, vi .u8 [254, 252, 250, 248, 246, 244, 242, 240, 238, 236, 234, 232, 230, 228, 226, 224, 222, 220, 218, 216, 214, 212, 210, 208, 206, 204, 202, 200, 198, 196, 194, 192, 190, 188, 186, 184, 182, 180, 178, 176, 174, 172, 170, 168, 166, 164, 162, 160, 158, 156, 154, 152, 150, 148, 146, 144, 142, 140, 138, 136, 134, 132, 130, 128, 126, 124, 122, 120, 118, 116, 114, 112]]),
(1179, .c [.s [100], .s [97, 10, 98, 49, 10, 99, 10], .b false, .i .i64 3] 4),
(1181, .c [.s [102, 97], .s [116, 111, 58, 32, 115, 101, 95, 98, 108, 114], .b false, .i .i64 1] 4),
(1183, .c [.s [102, 98, 49], .st [.i .u8 46, .i .u8 115, .i .u8 112, .i .u8 97, .i .u8 99, .i .u8 101, .i .u8 32, vi .u8 [50, 50, 50, 50, 50, 50, 50, 50, 50, 50, 50, 50, 50, 50, 50, 50, 50, 50, 50, 50, 50, 50, 51, 51, 51, 51, 51, 51, 51, 51, 51, 51, 51, 51, 51, 51, 51, 51, 51, 51, 51, 51, 51, 51, 51, 51, 51, 51, 51, 51, 51, 51, 51, 51, 51, 51, 51, 51, 51, 51, 51, 51, 51, 51, 51, 51, 51, 51, 51, 51, 51, 51], vi .u8 [53, 53, 54, 54, 54, 54, 54, 55, 55, 55, 55, 55, 56, 56, 56, 56, 56, 57, 57, 57, 57, 57, 48, 48, 48, 48, 48, 49, 49, 49, 49, 49, 50, 50, 50, 50, 50, 51, 51, 51, 51, 51, 52, 52, 52, 52, 52, 53, 53, 53, 53, 53, 54, 54, 54, 54, 54, 55, 55, 55, 55, 55, 56, 56, 56, 56, 56, 57, 57, 57, 57, 57], vi .u8 [54, 56, 48, 50, 52, 54, 56, 48, 50, 52, 54, 56, 48, 50, 52, 54, 56, 48, 50, 52, 54, 56, 48, 50, 52, 54, 56, 48, 50, 52, 54, 56, 48, 50, 52, 54, 56, 48, 50, 52, 54, 56, 48, 50, 52, 54, 56, 48, 50, 52, 54, 56, 48, 50, 52, 54, 56, 48, 50, 52, 54, 56, 48, 50, 52, 54, 56, 48, 50, 52, 54, 56]], .b false, .i .i64 2] 4),
(1185, .c [.s [102, 99], .s [98, 32, 116, 111], .b false, .i .i64 3] 4),
(1188, .c [] 0),
(1218, .c [.i .i64 0, .i .i64 1, .i .i64 3, .i .i64 1, .b true, .i .i64 1, .s [97], .s [116, 111, 58, 32, 115, 101, 95, 98, 108, 114], .i .i64 0, .i .i64 0, .s [], .sn, .sn, .i .i64 0, .i .i64 4, .i .i64 6, .i .i64 2, .b true, .i .i64 1, .s [98, 49], .st [.i .u8 46, .i .u8 115, .i .u8 112, .i .u8 97, .i .u8 99, .i .u8 101, .i .u8 32, vi .u8 [50, 50, 50, 50, 50, 50, 50, 50, 50, 50, 50, 50, 50, 50, 50, 50, 50, 50, 50, 50, 50, 50, 51, 51, 51, 51, 51, 51, 51, 51, 51, 51, 51, 51, 51, 51, 51, 51, 51, 51, 51, 51, 51, 51, 51, 51, 51, 51, 51, 51, 51, 51, 51, 51, 51, 51, 51, 51, 51, 51, 51, 51, 51, 51, 51, 51, 51, 51, 51, 51, 51, 51], vi .u8 [53, 53, 54, 54, 54, 54, 54, 55, 55, 55, 55, 55, 56, 56, 56, 56, 56, 57, 57, 57, 57, 57, 48, 48, 48, 48, 48, 49, 49, 49, 49, 49, 50, 50, 50, 50, 50, 51, 51, 51, 51, 51, 52, 52, 52, 52, 52, 53, 53, 53, 53, 53, 54, 54, 54, 54, 54, 55, 55, 55, 55, 55, 56, 56, 56, 56, 56, 57, 57, 57, 57, 57], vi .u8 [54, 56, 48, 50, 52, 54, 56, 48, 50, 52, 54, 56, 48, 50, 52, 54, 56, 48, 50, 52, 54, 56, 48, 50, 52, 54, 56, 48, 50, 52, 54, 56, 48, 50, 52, 54, 56, 48, 50, 52, 54, 56, 48, 50, 52, 54, 56, 48, 50, 52, 54, 56, 48, 50, 52, 54, 56, 48, 50, 52, 54, 56, 48, 50, 52, 54, 56, 48, 50, 52, 54, 56]], .i .i64 0, .i .i64 0, .s [], .sn, .sn, .i .i64 0, .i .i64 7, .i .i64 9, .i .i64 3, .b true, .i .i64 1, .s [99], .s [98, 32, 116, 111], .i .i64 0, .i .i64 0, .s [], .sn, .sn, .i .i64 0, .i .i64 10, .i .i64 16, .i .i64 3, .b false, .i .i64 7, .s [], .s [], .i .i64 0, .i .i64 0, .s [], .rs 1172 0 7 false, .sn] 13),
(1230, .r [.i .u8 0, .i .u8 4, .z [256, 258, 260, 262, 264, 266, 268, 270, 272, 274, 276, 278, 280, 282, 284, 286, 288, 290, 292, 294, 296, 298, 300, 302, 304, 306, 308, 310, 312, 314, 316, 318, 320, 322, 324, 326, 328, 330, 332, 334, 336, 338, 340, 342, 344, 346, 348, 350, 352, 354, 356, 358, 360, 362, 364, 366, 368, 370, 372, 374, 376, 378, 380, 382, 384, 386, 388, 390, 392, 394, 396, 398], .i .u8 121, .i .u8 255, .i .u8 254, vi .u8 [254, 252, 250, 248, 246, 244, 242, 240, 238, 236, 234, 232, 230, 228, 226, 224, 222, 220, 218, 216, 214, 212, 210, 208, 206, 204, 202, 200, 198, 196, 194, 192, 190, 188, 186, 184, 182, 180, 178, 176, 174, 172, 170, 168, 166, 164, 162, 160, 158, 156, 154, 152, 150, 148, 146, 144, 142, 140, 138, 136, 134, 132, 130, 128, 126, 124, 122, 120, 118, 116, 114, 112]]),
(1233, .c [.i .i64 0, .s [], .rs 1230 0 7 false, .sn] 0)] .e⟩, []⟩
noncomputable def SA13L_2 : St := ⟨ofL [(4, .b true)] .e, ⟨1611, ofL [(0, .c asc 0), (3, .c p10 0), (4, .c [.sym 2] 0)] .e⟩, []⟩
end Go.Ae
