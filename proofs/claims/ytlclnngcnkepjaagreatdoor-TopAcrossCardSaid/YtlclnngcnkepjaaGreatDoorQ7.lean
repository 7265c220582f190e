/- A part of the proof of the law of TopAcross: XE, YR, YS, YT, YU. -/
import Derived.Test.YtlclnngcnkepjaaGreatDoorQK
import Derived.Test.YtlclnngcnkepjaaGreatDoorQA000
import Derived.Test.YtlclnngcnkepjaaGreatDoorQB000
import Derived.Test.YtlclnngcnkepjaaGreatDoorQA010
import Derived.Test.YtlclnngcnkepjaaGreatDoorQB010
import Derived.Test.YtlclnngcnkepjaaGreatDoorQA020
import Derived.Test.YtlclnngcnkepjaaGreatDoorQB020
import Derived.Test.YtlclnngcnkepjaaGreatDoorQA021
import Derived.Test.YtlclnngcnkepjaaGreatDoorQB021
import Derived.Test.YtlclnngcnkepjaaGreatDoorQA030
import Derived.Test.YtlclnngcnkepjaaGreatDoorQB030
import Derived.Test.YtlclnngcnkepjaaGreatDoorQA031
import Derived.Test.YtlclnngcnkepjaaGreatDoorQB031
import Derived.Test.YtlclnngcnkepjaaGreatDoorQA03L
import Derived.Test.YtlclnngcnkepjaaGreatDoorQB03L
import Derived.Test.YtlclnngcnkepjaaGreatDoorQA101
import Derived.Test.YtlclnngcnkepjaaGreatDoorQB101
import Derived.Test.YtlclnngcnkepjaaGreatDoorQA111
import Derived.Test.YtlclnngcnkepjaaGreatDoorQB111
import Derived.Test.YtlclnngcnkepjaaGreatDoorQA120
import Derived.Test.YtlclnngcnkepjaaGreatDoorQB120
import Derived.Test.YtlclnngcnkepjaaGreatDoorQA121
import Derived.Test.YtlclnngcnkepjaaGreatDoorQB121
import Derived.Test.YtlclnngcnkepjaaGreatDoorQA130
import Derived.Test.YtlclnngcnkepjaaGreatDoorQB130
import Derived.Test.YtlclnngcnkepjaaGreatDoorQA131
import Derived.Test.YtlclnngcnkepjaaGreatDoorQB131
import Derived.Test.YtlclnngcnkepjaaGreatDoorQA13L
import Derived.Test.YtlclnngcnkepjaaGreatDoorQB13L
import Derived.Lib.LaidTab
import Derived.Test.YtlclnngcnkepjaaGreatDoorRows
import Derived.Deep.DeepHandedRow
import Derived.ProofKit
import Derived.SizedLaws
import Derived.Shelf.Vars
namespace Go.Ae
open Go Go.Proofs

theorem items4 : flatC (bodyOf 4) = (I4.drop 0).take 14 ++ ((I4.drop 14).take 1 ++ (I4.drop 15).take 14) := by kernel_rfl
theorem body4 : Tryz.f4.body = some (bodyOf 4) := by kernel_rfl

theorem fromA {σ : Sg} {L : List Value} {n : Nat} {l : List Code} {s : St} {y : Ex × St} (h : Chain (CA L) σ n l s y) : Chain CK σ n l s y := chain_cfg (C := CA L) (C' := CK) rfl rfl h

/-- How TopAcross ends. -/
def EndsA (σ : Sg) (s0 : St) : Prop := ∃ e, Goes CK σ 114 (bodyOf 4) s0 (.ret, e) ∧ e.d = [] ∧ results CK Tryz.f4 e.t e.h = some (.b true) ∧ ∀ k b, H1.get k = some b → e.h.get k = some b

theorem keep4 {k : Nat} {b : AB} (n : Nat) (hk : H1.get k = some b) : (AH.mk n (ofL [(0, .c asc 0), (3, .c p10 0), (4, .c [.sym 2] 0)] .e)).get k = some b := by
  rcases h1_get k b hk with ⟨rfl, rfl⟩ | ⟨rfl, rfl⟩ | ⟨rfl, rfl⟩ <;> rfl

theorem glue4 {σ : Sg} {C : Cfg} (G : Good C σ) (hP : C.P = CK.P) (hg : C.gs = CK.gs) {s0 s1 s2 e : St} {t0 t1 t2 h0 h1 h2 : List Nat} (k0 : forgetO t0 h0 (runsQ C 100000 114 ((I4.drop 0).take 14) s0) = some (.nrm, s1)) (k1 : forgetO t1 h1 (runsQ C 100000 114 ((I4.drop 14).take 1) s1) = some (.nrm, s2))
    (k2 : forgetO t2 h2 (runsQ C 100000 114 ((I4.drop 15).take 14) s2) = some (.ret, e)) : Goes CK σ 114 (bodyOf 4) s0 (.ret, e) := by
  refine goes_chain ?_
  rw [items4]
  exact chain_cfg hP hg (chain_append (chain_cutQ G _ _ k0) rfl (chain_append (chain_cutQ G _ _ k1) rfl (chain_cutQ G _ _ k2)))

section
variable {σ : Sg} {a m : Int}

theorem ends_000 (hm : σ.v 2 = .int .i64 m) (ha : σ.v 0 = .int .i64 a) (a1 : -9223372036854775808 ≤ a) (a2 : a ≤ 9223372036854775807) (hL : LA000[σ.i]? = some (.int .i64 (a % 200))) : EndsA σ ⟨mkT 0 [.sym 0, .b false] .e, H1, []⟩ :=
  ⟨SA000_2, glue4 (goodA hm ha a1 a2 hL) rfl rfl ka000_0 ka000_1 ka000_2, rfl, by kernel_rfl, fun _ _ hk => keep4 _ hk⟩

theorem ends_010 (hm : σ.v 2 = .int .i64 m) (ha : σ.v 0 = .int .i64 a) (a1 : -9223372036854775808 ≤ a) (a2 : a ≤ 9223372036854775807) (hL : LA010[σ.i]? = some (.int .i64 (a % 200))) : EndsA σ ⟨mkT 0 [.sym 0, .b false] .e, H1, []⟩ :=
  ⟨SA010_2, glue4 (goodA hm ha a1 a2 hL) rfl rfl ka010_0 ka010_1 ka010_2, rfl, by kernel_rfl, fun _ _ hk => keep4 _ hk⟩

theorem ends_020 (hm : σ.v 2 = .int .i64 m) (ha : σ.v 0 = .int .i64 a) (a1 : -9223372036854775808 ≤ a) (a2 : a ≤ 9223372036854775807) (hL : LA020[σ.i]? = some (.int .i64 (a % 200))) : EndsA σ ⟨mkT 0 [.sym 0, .b false] .e, H1, []⟩ :=
  ⟨SA020_2, glue4 (goodA hm ha a1 a2 hL) rfl rfl ka020_0 ka020_1 ka020_2, rfl, by kernel_rfl, fun _ _ hk => keep4 _ hk⟩

theorem ends_021 (hm : σ.v 2 = .int .i64 m) (ha : σ.v 0 = .int .i64 a) (a1 : -9223372036854775808 ≤ a) (a2 : a ≤ 9223372036854775807) (hL : LA021[σ.i]? = some (.int .i64 (a % 200))) : EndsA σ ⟨mkT 0 [.sym 0, .b false] .e, H1, []⟩ :=
  ⟨SA021_2, glue4 (goodA hm ha a1 a2 hL) rfl rfl ka021_0 ka021_1 ka021_2, rfl, by kernel_rfl, fun _ _ hk => keep4 _ hk⟩

theorem ends_030 (hm : σ.v 2 = .int .i64 m) (ha : σ.v 0 = .int .i64 a) (a1 : -9223372036854775808 ≤ a) (a2 : a ≤ 9223372036854775807) (hL : LA030[σ.i]? = some (.int .i64 (a % 200))) : EndsA σ ⟨mkT 0 [.sym 0, .b false] .e, H1, []⟩ :=
  ⟨SA030_2, glue4 (goodA hm ha a1 a2 hL) rfl rfl ka030_0 ka030_1 ka030_2, rfl, by kernel_rfl, fun _ _ hk => keep4 _ hk⟩

theorem ends_031 (hm : σ.v 2 = .int .i64 m) (ha : σ.v 0 = .int .i64 a) (a1 : -9223372036854775808 ≤ a) (a2 : a ≤ 9223372036854775807) (hL : LA031[σ.i]? = some (.int .i64 (a % 200))) : EndsA σ ⟨mkT 0 [.sym 0, .b false] .e, H1, []⟩ :=
  ⟨SA031_2, glue4 (goodA hm ha a1 a2 hL) rfl rfl ka031_0 ka031_1 ka031_2, rfl, by kernel_rfl, fun _ _ hk => keep4 _ hk⟩

theorem ends_03L (hm : σ.v 2 = .int .i64 m) (ha : σ.v 0 = .int .i64 a) (a1 : -9223372036854775808 ≤ a) (a2 : a ≤ 9223372036854775807) (hL : LA03L[σ.i]? = some (.int .i64 (a % 200))) : EndsA σ ⟨mkT 0 [.sym 0, .b false] .e, H1, []⟩ :=
  ⟨SA03L_2, glue4 (goodA hm ha a1 a2 hL) rfl rfl ka03L_0 ka03L_1 ka03L_2, rfl, by kernel_rfl, fun _ _ hk => keep4 _ hk⟩

theorem ends_101 (hm : σ.v 2 = .int .i64 m) (ha : σ.v 0 = .int .i64 a) (a1 : -9223372036854775808 ≤ a) (a2 : a ≤ 9223372036854775807) (hL : LA101[σ.i]? = some (.int .i64 (a % 200))) : EndsA σ ⟨mkT 0 [.sym 0, .b true] .e, H1, []⟩ :=
  ⟨SA101_2, glue4 (goodA hm ha a1 a2 hL) rfl rfl ka101_0 ka101_1 ka101_2, rfl, by kernel_rfl, fun _ _ hk => keep4 _ hk⟩

theorem ends_111 (hm : σ.v 2 = .int .i64 m) (ha : σ.v 0 = .int .i64 a) (a1 : -9223372036854775808 ≤ a) (a2 : a ≤ 9223372036854775807) (hL : LA111[σ.i]? = some (.int .i64 (a % 200))) : EndsA σ ⟨mkT 0 [.sym 0, .b true] .e, H1, []⟩ :=
  ⟨SA111_2, glue4 (goodA hm ha a1 a2 hL) rfl rfl ka111_0 ka111_1 ka111_2, rfl, by kernel_rfl, fun _ _ hk => keep4 _ hk⟩

theorem ends_120 (hm : σ.v 2 = .int .i64 m) (ha : σ.v 0 = .int .i64 a) (a1 : -9223372036854775808 ≤ a) (a2 : a ≤ 9223372036854775807) (hL : LA120[σ.i]? = some (.int .i64 (a % 200))) : EndsA σ ⟨mkT 0 [.sym 0, .b true] .e, H1, []⟩ :=
  ⟨SA120_2, glue4 (goodA hm ha a1 a2 hL) rfl rfl ka120_0 ka120_1 ka120_2, rfl, by kernel_rfl, fun _ _ hk => keep4 _ hk⟩

theorem ends_121 (hm : σ.v 2 = .int .i64 m) (ha : σ.v 0 = .int .i64 a) (a1 : -9223372036854775808 ≤ a) (a2 : a ≤ 9223372036854775807) (hL : LA121[σ.i]? = some (.int .i64 (a % 200))) : EndsA σ ⟨mkT 0 [.sym 0, .b true] .e, H1, []⟩ :=
  ⟨SA121_2, glue4 (goodA hm ha a1 a2 hL) rfl rfl ka121_0 ka121_1 ka121_2, rfl, by kernel_rfl, fun _ _ hk => keep4 _ hk⟩

theorem ends_130 (hm : σ.v 2 = .int .i64 m) (ha : σ.v 0 = .int .i64 a) (a1 : -9223372036854775808 ≤ a) (a2 : a ≤ 9223372036854775807) (hL : LA130[σ.i]? = some (.int .i64 (a % 200))) : EndsA σ ⟨mkT 0 [.sym 0, .b true] .e, H1, []⟩ :=
  ⟨SA130_2, glue4 (goodA hm ha a1 a2 hL) rfl rfl ka130_0 ka130_1 ka130_2, rfl, by kernel_rfl, fun _ _ hk => keep4 _ hk⟩

theorem ends_131 (hm : σ.v 2 = .int .i64 m) (ha : σ.v 0 = .int .i64 a) (a1 : -9223372036854775808 ≤ a) (a2 : a ≤ 9223372036854775807) (hL : LA131[σ.i]? = some (.int .i64 (a % 200))) : EndsA σ ⟨mkT 0 [.sym 0, .b true] .e, H1, []⟩ :=
  ⟨SA131_2, glue4 (goodA hm ha a1 a2 hL) rfl rfl ka131_0 ka131_1 ka131_2, rfl, by kernel_rfl, fun _ _ hk => keep4 _ hk⟩

theorem ends_13L (hm : σ.v 2 = .int .i64 m) (ha : σ.v 0 = .int .i64 a) (a1 : -9223372036854775808 ≤ a) (a2 : a ≤ 9223372036854775807) (hL : LA13L[σ.i]? = some (.int .i64 (a % 200))) : EndsA σ ⟨mkT 0 [.sym 0, .b true] .e, H1, []⟩ :=
  ⟨SA13L_2, glue4 (goodA hm ha a1 a2 hL) rfl rfl ka13L_0 ka13L_1 ka13L_2, rfl, by kernel_rfl, fun _ _ hk => keep4 _ hk⟩
end

/-- Whether a number stands in a list of lanes. -/
def inL (p : Nat) (L : List Value) : Bool := L.any fun v => match v with
  | .int k n => k == .i64 && n == Int.ofNat p
  | _ => false

theorem inL_spec {p : Nat} {L : List Value} (h : inL p L = true) : ∃ i : Nat, L[i]? = some (.int .i64 p) := by
  unfold inL at h
  obtain ⟨v, hv, h⟩ := List.any_eq_true.1 h
  split at h
  · simp only [Bool.and_eq_true, beq_iff_eq] at h
    obtain ⟨rfl, rfl⟩ := h
    obtain ⟨i, hi⟩ := List.mem_iff_getElem?.1 hv
    exact ⟨i, hi⟩
  · cases h

theorem cover0 : (List.range 200).all (fun p => [LA000, LA010, LA020, LA021, LA030, LA031, LA03L].any (inL p)) = true := by kernel_rfl
theorem cover1 : (List.range 200).all (fun p => [LA101, LA111, LA120, LA121, LA130, LA131, LA13L].any (inL p)) = true := by kernel_rfl

/-- For every input some lane serves. -/
theorem ends_all (v : Nat → Value) (g : Nat → List UInt8) (b : Bool) {a m : Int} (ha : v 0 = .int .i64 a) (hm : v 2 = .int .i64 m) (a1 : -9223372036854775808 ≤ a) (a2 : a ≤ 9223372036854775807) : ∃ i, EndsA ⟨v, i, g⟩ ⟨mkT 0 [.sym 0, .b b] .e, H1, []⟩ := by
  have p1 := Int.emod_nonneg a (show (200 : Int) ≠ 0 by omega)
  have p2 := Int.emod_lt_of_pos a (show (0 : Int) < 200 by omega)
  obtain ⟨p, hp⟩ := Int.eq_ofNat_of_zero_le p1
  have hlt : p < 200 := by omega
  cases b with
  | false =>
    have h := List.all_eq_true.1 cover0 p (List.mem_range.2 hlt)
    simp only [List.any_cons, List.any_nil, Bool.or_eq_true, Bool.or_false] at h
    rcases h with h | h | h | h | h | h | h
    · obtain ⟨i, hi⟩ := inL_spec h
      exact ⟨i, ends_000 (σ := ⟨v, i, g⟩) hm ha a1 a2 (by rw [hp]; exact hi)⟩
    · obtain ⟨i, hi⟩ := inL_spec h
      exact ⟨i, ends_010 (σ := ⟨v, i, g⟩) hm ha a1 a2 (by rw [hp]; exact hi)⟩
    · obtain ⟨i, hi⟩ := inL_spec h
      exact ⟨i, ends_020 (σ := ⟨v, i, g⟩) hm ha a1 a2 (by rw [hp]; exact hi)⟩
    · obtain ⟨i, hi⟩ := inL_spec h
      exact ⟨i, ends_021 (σ := ⟨v, i, g⟩) hm ha a1 a2 (by rw [hp]; exact hi)⟩
    · obtain ⟨i, hi⟩ := inL_spec h
      exact ⟨i, ends_030 (σ := ⟨v, i, g⟩) hm ha a1 a2 (by rw [hp]; exact hi)⟩
    · obtain ⟨i, hi⟩ := inL_spec h
      exact ⟨i, ends_031 (σ := ⟨v, i, g⟩) hm ha a1 a2 (by rw [hp]; exact hi)⟩
    · obtain ⟨i, hi⟩ := inL_spec h
      exact ⟨i, ends_03L (σ := ⟨v, i, g⟩) hm ha a1 a2 (by rw [hp]; exact hi)⟩
  | true =>
    have h := List.all_eq_true.1 cover1 p (List.mem_range.2 hlt)
    simp only [List.any_cons, List.any_nil, Bool.or_eq_true, Bool.or_false] at h
    rcases h with h | h | h | h | h | h | h
    · obtain ⟨i, hi⟩ := inL_spec h
      exact ⟨i, ends_101 (σ := ⟨v, i, g⟩) hm ha a1 a2 (by rw [hp]; exact hi)⟩
    · obtain ⟨i, hi⟩ := inL_spec h
      exact ⟨i, ends_111 (σ := ⟨v, i, g⟩) hm ha a1 a2 (by rw [hp]; exact hi)⟩
    · obtain ⟨i, hi⟩ := inL_spec h
      exact ⟨i, ends_120 (σ := ⟨v, i, g⟩) hm ha a1 a2 (by rw [hp]; exact hi)⟩
    · obtain ⟨i, hi⟩ := inL_spec h
      exact ⟨i, ends_121 (σ := ⟨v, i, g⟩) hm ha a1 a2 (by rw [hp]; exact hi)⟩
    · obtain ⟨i, hi⟩ := inL_spec h
      exact ⟨i, ends_130 (σ := ⟨v, i, g⟩) hm ha a1 a2 (by rw [hp]; exact hi)⟩
    · obtain ⟨i, hi⟩ := inL_spec h
      exact ⟨i, ends_131 (σ := ⟨v, i, g⟩) hm ha a1 a2 (by rw [hp]; exact hi)⟩
    · obtain ⟨i, hi⟩ := inL_spec h
      exact ⟨i, ends_13L (σ := ⟨v, i, g⟩) hm ha a1 a2 (by rw [hp]; exact hi)⟩

theorem top_across {v : Nat → Value} {b : Bool} {a m : Int} (ha : v 0 = .int .i64 a) (hm : v 2 = .int .i64 m) (a1 : -9223372036854775808 ≤ a) (a2 : a ≤ 9223372036854775807)
    {ν : Nu} {w : World} (hh : ∀ i, hrel ⟨v, i, fun _ => []⟩ Tryz.prog.globals.size ν H1 w) :
    ∃ i, Calls Tryz.prog 4 #[.int .i64 a, .bool b] w fun e w' => e = .returned (.bool true) ∧ Keeps w w' ∧ ∃ ν' h', Ext ν H1 w ν' h' w' ∧ hrel ⟨v, i, fun _ => []⟩ Tryz.prog.globals.size ν' h' w' ∧ ∀ k b, H1.get k = some b → h'.get k = some b := by
  obtain ⟨i, e, g1, g2, g3, g4⟩ := ends_all v (fun _ => []) b ha hm a1 a2
  refine ⟨i, (calls_goes (σ := ⟨v, i, fun _ => []⟩) (C := CK) (args := [.sym 0, .b b]) (cs := [.int .i64 a, .bool b]) (x := .ret) (goodK hm) Tryz.func4 body4 (.inr rfl) g2 (show Goes CK ⟨v, i, fun _ => []⟩ (Nat.max 2 Tryz.f4.ntmps) (bodyOf 4) _ (.ret, e) from g1) g3 (hh i) ?_).mono ?_⟩
  · exact ⟨_, _, ⟨ha.symm, rfl⟩, ⟨_, _, rfl, rfl, rfl⟩, rfl⟩
  · rintro en w' ⟨c, ν', rfl, k1, k2, k3⟩
    simp only [vrel] at k3
    subst k3
    exact ⟨rfl, k1.kp, ν', _, k1, k2, g4⟩
end Go.Ae
namespace Go.Ae
open Go Go.Proofs

section
variable {σ : Sg}

theorem flats_fun {ν ν' : Nu} {l : List AV} {cs cs' : List Value} (hf : l.all flat = true) (h : vrels σ ν l cs) (h' : vrels σ ν' l cs') : cs = cs' := vrels_fun l cs cs' (flats_rel hf h) h'

/-- The names of the start. -/
def nu12 : Nu := (List.range 12).map fun g => ⟨g, 0, 0, []⟩

theorem nu12_get {g : Nat} (h : g < 12) : nu12[g]? = some ⟨g, 0, 0, []⟩ := by
  simp [nu12, List.getElem?_map, List.getElem?_range h]

theorem start_rel {W : World} (hA : ∃ a t, W.heap[0]? = some (.cells a t (0, 0)) ∧ vrels σ nu12 asc a.toList) (hB : ∃ a t, W.heap[3]? = some (.cells a t (0, 0)) ∧ vrels σ nu12 p10 a.toList)
    (hM : ∃ a t, W.heap[4]? = some (.cells a t (0, 0)) ∧ vrels σ nu12 [.sym 2] a.toList) : hrel σ Tryz.prog.globals.size nu12 H1 W where
  len := rfl
  dom := fun k b h => by
    have go : ∀ {k : Nat} {cs : List AV}, k < 12 → (∃ a t, W.heap[k]? = some (.cells a t (0, 0)) ∧ vrels σ nu12 cs a.toList) → ∃ e o, nu12[k]? = some e ∧ W.heap[e.b]? = some o ∧ brel σ nu12 e (.c cs 0) o := by
      intro k cs hk ⟨a, t, h1, h2⟩
      refine ⟨⟨k, 0, 0, []⟩, _, nu12_get hk, h1, a.toList, [], by simp, h2, fun _ => rfl, fun h => absurd rfl h, fun o _ h => ?_⟩
      have := h.2
      simp at this
    rcases h1_get k b h with ⟨rfl, rfl⟩ | ⟨rfl, rfl⟩ | ⟨rfl, rfl⟩
    · exact go (by omega) hA
    · exact go (by omega) hB
    · exact go (by omega) hM
  inj := fun i j e e' b b' hi hj he he' hE => by
    have hlt : ∀ {k b}, H1.get k = some b → k < 12 := fun {k b} hk => by
      rcases h1_get k b hk with ⟨rfl, _⟩ | ⟨rfl, _⟩ | ⟨rfl, _⟩ <;> omega
    rw [nu12_get (hlt hi)] at he
    rw [nu12_get (hlt hj)] at he'
    cases he
    cases he'
    exact hE
  gl := fun g hg => ⟨_, nu12_get (by rw [gs12] at hg; exact hg), rfl⟩

/-- What lay ahead lies there still. -/
theorem kept_all {W W' : World} {gs : Nat} {ν' : Nu} {h' : AH} (hK : Keeps W W') (hE : Ext nu12 H1 W ν' h' W') (hh : hrel σ gs nu12 H1 W) (hh' : hrel σ gs ν' h' W') (hk : ∀ k b, H1.get k = some b → h'.get k = some b) :
    W'.os = W.os ∧ W'.output = W.output ∧ ∀ i, i < W.heap.size → W'.heap[i]? = W.heap[i]? := by
  refine ⟨hK.os, hK.output, fun i hi => ?_⟩
  by_cases him : im nu12 H1 i
  · obtain ⟨k, b, e, h1, h2, rfl⟩ := him
    obtain ⟨e1, o, k1, k2, k3⟩ := hh.dom k b h1
    rw [h2] at k1
    cases k1
    obtain ⟨μ, rfl⟩ := hE.pre
    obtain ⟨e2, o', g1, g2, g3⟩ := hh'.dom k b (hk k b h1)
    rw [pre_get h2] at g1
    cases g1
    have fl : ∃ cs, b = .c cs 0 ∧ cs.all flat = true := by
      rcases h1_get k b h1 with ⟨rfl, rfl⟩ | ⟨rfl, rfl⟩ | ⟨rfl, rfl⟩
      · exact ⟨_, rfl, asc_flat⟩
      · exact ⟨_, rfl, p10_flat⟩
      · exact ⟨_, rfl, rfl⟩
    obtain ⟨cs, rfl, hfl⟩ := fl
    cases o <;> simp only [brel] at k3
    cases o' <;> simp only [brel] at g3
    rename_i a t fr a' t' fr'
    obtain ⟨l, ext, p1, p2, p3, _⟩ := k3
    obtain ⟨l', ext', q1, q2, q3, _⟩ := g3
    have := p3 rfl
    subst this
    have := q3 rfl
    subst this
    have hl := flats_fun hfl p2 q2
    subst hl
    have haa : a' = a := by
      apply Array.ext'
      rw [p1, q1]
    subst haa
    obtain ⟨a2, r1, r2⟩ := hK.cells _ _ _ _ k2
    rw [g2] at r1
    cases r1
    rw [g2, k2]
  · exact (hE.fr i hi him).2

theorem kept_but {W W' : World} (h : W'.os = W.os ∧ W'.output = W.output ∧ ∀ i, i < W.heap.size → W'.heap[i]? = W.heap[i]?) (may : MemPlace → Prop) : W.keptBut W' may := by
  refine ⟨h.1, h.2.1, fun i hi => ?_⟩
  rw [h.2.2 i hi]
  split
  · rename_i h1 h2
    rw [h1] at h2
    cases h2
    exact ⟨rfl, rfl, rfl, fun _ _ => rfl⟩
  · rename_i h1 h2
    rw [h1] at h2
    cases h2
    exact .inr ⟨rfl, rfl⟩
  · rename_i o o' _ _
    rfl
end
end Go.Ae
namespace Go.Ae
open Go Go.Proofs Go.Proofs.YtlclnngcnkepjaaGreatDoor

theorem laid_at {P : Program} {w : World} : ∀ {l : List (String × DataW Unit)} {ps : List MemPlace}, DataW.LaidVars P w l ps → ∀ {n : String} {d : DataW Unit}, (n, d) ∈ l →
    ∃ g t cs fuel p, P.globalNamed n = some g ∧ (P.globals[g]?).map (·.type) = some t ∧ w.var? P n = some cs ∧ DataW.trod (fun _ => ()) P w 0 (fun _ => true) false fuel t cs.toList = some (d, p) ∧ ∀ x ∈ MemPlace.row ⟨g, 0, none⟩ cs.size, x ∈ ps
  | [], _, _, _, _, h => by simp at h
  | (m, e) :: l, ps, ⟨g, t, cs, fuel, p, q, h1, h2, h3, h4, h5, h6⟩, n, d, h => by
    rcases List.mem_cons.1 h with h | h
    · cases h
      exact ⟨g, t, cs, fuel, p, h1, h2, h3, h4, fun x hx => by rw [h6]; simp [hx]⟩
    · obtain ⟨g', t', cs', fuel', p', k1, k2, k3, k4, k5⟩ := laid_at h5 h
      exact ⟨g', t', cs', fuel', p', k1, k2, k3, k4, fun x hx => by rw [h6]; simp [k5 x hx]⟩

theorem laid_block {P : Program} {w : World} {l : List (String × DataW Unit)} (h : laidMet P l w) {name : String} {k : IntKind} {zs : List Int} {g : Nat} {t e : TypeId} {n : Nat} (hm : (name, Lib.tabData k zs) ∈ l)
    (hg : P.globalNamed name = some g) (hty : (P.globals[g]?).map (·.type) = some t) (ht : P.underlying t = some (.array n e)) (he : P.underlying e = some (.int k)) (hce : P.cellsOf e = 1) (hct : P.cellsOf t = n) (hz : 0 < zs.length) :
    ∃ a ty, w.heap[g]? = some (.cells a ty (0, 0)) ∧ a.toList = zs.map fun z => Value.int k z := by
  obtain ⟨ps, hL, _, hb⟩ := h
  obtain ⟨g', t', cs, fuel, p, h1, h2, h3, h4, h5⟩ := laid_at hL hm
  obtain rfl := Option.some.inj (hg.symm.trans h1)
  obtain rfl := Option.some.inj (hty.symm.trans h2)
  have hcs := Lib.cells_of_tab ht he hce hct h4
  have hsz : 0 < cs.size := by
    have := congrArg List.length hcs
    simp at this
    omega
  obtain ⟨⟨c, ty, hc⟩, _⟩ := hb g 0 (h5 _ (by simp [MemPlace.row]; exact hsz))
  refine ⟨c, ty, hc, ?_⟩
  have : c = cs := by
    simp [World.var?, hg, hc] at h3
    exact h3
  rw [this, hcs]

theorem vrels_ints {σ : Sg} {ν : Nu} (k : IntKind) : ∀ zs : List Int, vrels σ ν (zs.map (AV.i k)) (zs.map fun z => Value.int k z)
  | [] => rfl
  | _ :: r => ⟨_, _, rfl, vrels_ints k r, rfl⟩

noncomputable def numsOf : List AV → List Int
  | .i _ n :: r => n :: numsOf r
  | _ => []

theorem asc_eq : asc = (numsOf asc).map (AV.i .u8) := by kernel_rfl
theorem p10_eq : p10 = (numsOf p10).map (AV.i .u64) := by kernel_rfl

theorem tab0 : Rows.laid_strings_asciiSpace (H := Unit) = Lib.tabData .u8 (numsOf asc) := by kernel_rfl
theorem tab3 : Rows.laid_internal_strconv_uint64pow10 (H := Unit) = Lib.tabData .u64 (numsOf p10) := by kernel_rfl

theorem row_asc {σ : Sg} {W : World} (h : laidMet Tryz.prog Rows.topAcrossRow.laid W) : ∃ a t, W.heap[0]? = some (.cells a t (0, 0)) ∧ vrels σ nu12 asc a.toList := by
  have hm : ("strings.asciiSpace", Lib.tabData (H := Unit) .u8 (numsOf asc)) ∈ Rows.topAcrossRow.laid := by rw [← tab0]; simp [Rows.topAcrossRow]
  obtain ⟨a, t, h1, h2⟩ := laid_block h hm (g := 0) (t := 186) (by kernel_rfl) (by kernel_rfl) Tryz.underlying186 (by kernel_rfl) (by kernel_rfl) (by kernel_rfl) (by decide +kernel)
  refine ⟨a, t, h1, ?_⟩
  rw [h2]
  have := vrels_ints (σ := σ) (ν := nu12) .u8 (numsOf asc)
  rw [← asc_eq] at this
  exact this

theorem row_p10 {σ : Sg} {W : World} (h : laidMet Tryz.prog Rows.topAcrossRow.laid W) : ∃ a t, W.heap[3]? = some (.cells a t (0, 0)) ∧ vrels σ nu12 p10 a.toList := by
  have hm : ("internal/strconv.uint64pow10", Lib.tabData (H := Unit) .u64 (numsOf p10)) ∈ Rows.topAcrossRow.laid := by rw [← tab3]; simp [Rows.topAcrossRow]
  obtain ⟨a, t, h1, h2⟩ := laid_block h hm (g := 3) (t := 339) (by kernel_rfl) (by kernel_rfl) Tryz.underlying339 (by kernel_rfl) (by kernel_rfl) (by kernel_rfl) (by decide +kernel)
  refine ⟨a, t, h1, ?_⟩
  rw [h2]
  have := vrels_ints (σ := σ) (ν := nu12) .u64 (numsOf p10)
  rw [← p10_eq] at this
  exact this
end Go.Ae
namespace Go.Ae
open Go Go.Proofs Go.Proofs.YtlclnngcnkepjaaGreatDoor Go.ChangeShapes Go.WideShapes Go.ChangeAt Go.RowKit

theorem own_ : ownKnob Tryz.prog.godebug = none := by kernel_rfl

theorem max_cell {W : World} (h : W.ShapedOpen Tryz.prog) : ∃ m t, W.heap[4]? = some (.cells #[.int .i64 m] t (0, 0)) := by
  obtain ⟨m, hm⟩ := cell_of_shapedOpen_int (P := Tryz.prog) (w := W) (g := 4) (t := 3) (zero := #[.int .i64 0]) (k := .i64) h (by rw [gs12]; omega) (by kernel_rfl) rfl (by kernel_rfl) (by kernel_rfl) Tryz.underlying3
  obtain ⟨cs, h1, h2, _⟩ := h.1 4 #[.int .i64 0] 3 (by rw [gs12]; omega) (by kernel_rfl)
  refine ⟨m, 3, ?_⟩
  have hc : cs[0]? = some (.int .i64 m) := by simpa [World.cell?, h1] using hm
  have : cs = #[.int .i64 m] := by
    apply Array.ext_getElem?
    intro i
    rcases i with _ | i
    · rw [hc]; rfl
    · rw [Array.getElem?_eq_none (by rw [h2]; simp), Array.getElem?_eq_none (by simp)]
  rw [h1, this]

theorem contract {W : World} {a : Int} {b : Bool} (hL : laidMet Tryz.prog Rows.topAcrossRow.laid W) (hsh : W.ShapedOpen Tryz.prog) (a1 : -9223372036854775808 ≤ a) (a2 : a ≤ 9223372036854775807) :
    Calls Tryz.prog 4 #[.int .i64 a, .bool b] W fun e W' => e = .returned (.bool true) ∧ W'.os = W.os ∧ W'.output = W.output ∧ ∀ i, i < W.heap.size → W'.heap[i]? = W.heap[i]? := by
  obtain ⟨m, t, hm⟩ := max_cell hsh
  let v : Nat → Value := fun k => match k with | 0 => .int .i64 a | _ => .int .i64 m
  have hr : ∀ i, hrel ⟨v, i, fun _ => []⟩ Tryz.prog.globals.size nu12 H1 W := fun i => start_rel (row_asc hL) (row_p10 hL) ⟨_, t, hm, ⟨_, _, ⟨rfl, rfl⟩, rfl, rfl⟩⟩
  obtain ⟨i, h⟩ := top_across (v := v) (b := b) (a := a) (m := m) rfl rfl a1 a2 hr
  refine h.mono ?_
  rintro e W' ⟨rfl, hK, ν', h', hE, hh', hk⟩
  exact ⟨rfl, kept_all hK hE (hr i) hh' hk⟩
end Go.Ae
namespace Go.Ae
open Go Go.Proofs Go.Proofs.YtlclnngcnkepjaaGreatDoor Go.ChangeShapes Go.WideShapes Go.ChangeAt Go.RowKit

set_option maxRecDepth 100000 in
theorem lifted (os : Os) (started : os.Started) (H : Type) (enc : TypeId × Value → H) (F : Stop.Interp) (wit : ∃ (w : World) (tape : Tape) (i : Input), w.os = os ∧ (w.forCall tape i).Shaped Tryz.checked.prog ∧ i.vars = [] ∧ Input.okWide Tryz.checked.prog (w.forCall tape i) .any w.heap.size 4 i ∧
      (OpenSpec.ofChange Rows.topAcrossSpec).preRow enc Tryz.checked.prog Tryz.f4 Rows.topAcrossRow.domain false Rows.topAcrossRow.laid (w.forCall tape i).memory i.args ∧ Assume.holds {} Tryz.checked.prog (lone (Frame.enter Tryz.checked.prog 4 i.args .normal) [] (w.forCall tape i))) :
    ReturnsInHanded {} Tryz.checked os 4 .any ((OpenSpec.ofChange Rows.topAcrossSpec).preRow enc Tryz.prog Tryz.f4 Rows.topAcrossRow.domain false Rows.topAcrossRow.laid) (((OpenSpec.ofChange Rows.topAcrossSpec).at F).post enc Tryz.prog Tryz.f4 false true false false) := by
  refine returnsInHanded_of_row (C := Tryz.checked) (s := OpenSpec.ofChange Rows.topAcrossSpec) own_ started (by kernel_rfl) Tryz.func4 wit ?_
  intro W base args ds gs before hval0 hW _ _ _ hL hsh _
  have hL' : laidMet Tryz.prog Rows.topAcrossRow.laid W := hL
  have hval : ∀ (j : Nat) t v, Tryz.f4.params[j]? = some t → args[j]? = some v → Value.okWide Tryz.prog W .any base t v := hval0
  have hW' := hW
  obtain ⟨p, q, hA0, hV0, rfl, _, _⟩ := hW
  have hA : DataW.TrodAll enc Tryz.prog W 0 (fun _ => true) true Tryz.f4.params.toList args.toList ds p := hA0
  rw [Tryz.params4] at hA hval
  obtain ⟨v0, v1, d0, d1, p0, p1, rfl, rfl, rfl, h0, h1⟩ := trodAll_two hA
  obtain ⟨rfl, rfl⟩ := trodVars_none hV0
  obtain ⟨a, rfl, rfl, rfl, wa⟩ := open_int Tryz.underlying3 (hval 0 3 v0 rfl rfl) h0
  obtain ⟨b, rfl, rfl, rfl⟩ := open_bool Tryz.underlying4 (hval 1 4 v1 rfl rfl) h1
  clear hA0 hV0 hval0
  simp only [List.append_nil] at hW'
  have ra : -9223372036854775808 ≤ a ∧ a ≤ 9223372036854775807 := by have := wa; simp [Lit.wf] at this; exact ⟨Int.le_trans (by decide) this.1, Int.le_trans this.2 (by decide)⟩
  refine (contract (b := b) hL' hsh ra.1 ra.2).mono ?_
  rintro e W' ⟨rfl, hk⟩
  have e1 : ((OpenSpec.ofChange Rows.topAcrossSpec).at F).fn H ([.lit (.int .i64 a), .lit (.bool b)] ++ []) = { results := [.lit (.bool true)], args := [.lit (.int .i64 a), .lit (.bool b)] } := rfl
  refine ⟨_, rfl, _, _, _, [], [], [], hW', ?_, ?_, ?_, kept_but hk _, fun h => by cases h⟩
  · rw [e1]; exact trodAll_mk1 (shut_bool Tryz.underlying4 true)
  · rw [e1]; exact trodAll_mk2 (shut_int Tryz.underlying3 wa) (shut_bool Tryz.underlying4 b)
  · rw [e1]; rfl
end Go.Ae
