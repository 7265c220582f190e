/- A part of the proof of the law of TopAcross: XK, XG. -/
import Derived.Test.YtlclnngcnkepjaaGreatDoorQKa
import Derived.Test.YtlclnngcnkepjaaGreatDoorQKb
import Derived.Test.YtlclnngcnkepjaaGreatDoorQKc
import Derived.Test.YtlclnngcnkepjaaGreatDoorQKd
import Derived.Test.YtlclnngcnkepjaaGreatDoorQ6
namespace Go.Ae
open Go Go.Proofs

theorem items7 : flatC (bodyOf 7) = (I7.drop 0).take 6 ++ ((I7.drop 6).take 1 ++ ((I7.drop 7).take 1 ++ (I7.drop 8).take 2)) := by kernel_rfl
theorem body7 : Tryz.f7.body = some (bodyOf 7) := by kernel_rfl
theorem res7 : results CK Tryz.f7 S7_4.t S7_4.h = some (.b true) := by kernel_rfl

theorem known_runs {σ : Sg} {m : Int} (hm : σ.v 2 = .int .i64 m) : Goes CK σ 48 (bodyOf 7) ⟨mkT 0 [] .e, H1, []⟩ (.ret, S7_4) := by
  refine goes_chain ?_
  rw [items7]
  exact chain_append (chain_cutQ (goodK hm) _ _ k7_1) rfl (chain_append (chain_cutQ (goodK hm) _ _ k7_2) rfl (chain_append (chain_cutQ (goodK hm) _ _ k7_3) rfl (chain_cutQ (goodK hm) _ _ k7_4)))

theorem known_spec {σ : Sg} {m : Int} (hm : σ.v 2 = .int .i64 m) : SpecOk σ 7 specKnown := by
  intro args h v h' hg ν w cs hh ha
  unfold specKnown at hg
  split at hg
  rotate_left
  · cases hg
  cases hb : hasH h with
  | false => rw [hb] at hg; cases hg
  | true =>
    rw [hb] at hg
    simp only [cond_true, Option.some.injEq, Prod.mk.injEq] at hg
    obtain ⟨rfl, rfl⟩ := hg
    refine known_ok (C := CK) (h' := S7_4.h) base1 (has_of hb) (fun k b hk => ?_) rfl rfl (fun ν w cs hh ha => ?_) hh ha
    · rcases h1_get k b hk with ⟨rfl, rfl⟩ | ⟨rfl, rfl⟩ | ⟨rfl, rfl⟩ <;> rfl
    · exact calls_goes (C := CK) (args := []) (h := H1) (s := S7_4) (x := .ret) (goodK hm) Tryz.func7 body7 (.inr rfl) rfl (show Goes CK σ (Nat.max 0 Tryz.f7.ntmps) (bodyOf 7) ⟨mkT 0 [] .e, H1, []⟩ (.ret, S7_4) from known_runs hm) res7 hh ha
end Go.Ae
namespace Go.Ae
open Go Go.Proofs

theorem withinA_ok {σ : Sg} {a : Int} {L : List Value} (ha : σ.v 0 = .int .i64 a) (a1 : -9223372036854775808 ≤ a) (a2 : a ≤ 9223372036854775807) (hL : L[σ.i]? = some (.int .i64 (a % 200))) : SpecOk σ 10 (specWA L) := by
  intro args h v h' hg ν w cs hh hr
  unfold specWA at hg
  split at hg
  rotate_left
  · cases hg
  rename_i k n
  obtain ⟨_, _, ⟨h1, _⟩, ⟨_, _, rfl, rfl, rfl⟩, rfl⟩ := hr
  subst h1
  cases hc : (Nat.beq k 0 && eqI n 200) with
  | false => rw [hc] at hg; cases hg
  | true =>
    rw [hc] at hg
    simp only [cond_true] at hg
    simp only [Bool.and_eq_true] at hc
    obtain ⟨k0, k1⟩ := hc
    have := Nat.eq_of_beq_eq_true k0
    subst this
    rw [eqI_eq, beq_iff_eq] at k1
    subst k1
    cases hm : mkVe (some L) with
    | none => rw [hm] at hg; cases hg
    | some u =>
      rw [hm] at hg
      simp only [withH, Option.some.injEq, Prod.mk.injEq] at hg
      obtain ⟨rfl, rfl⟩ := hg
      rw [ha]
      refine (Tot.within_any a 200 w (by omega) (by omega) a1 a2).mono ?_
      rintro e w' ⟨rfl, rfl⟩
      exact ⟨_, ν, rfl, Ext.refl _ _ _, hh, mkVe_rel hm hL⟩

theorem goodA {σ : Sg} {a m : Int} {L : List Value} (hm : σ.v 2 = .int .i64 m) (ha : σ.v 0 = .int .i64 a) (a1 : -9223372036854775808 ≤ a) (a2 : a ≤ 9223372036854775807) (hL : L[σ.i]? = some (.int .i64 (a % 200))) : Good (CA L) σ := by
  refine good_of (lanes_ok _ σ) fun f g h => ?_
  unfold specA at h
  rcases beq_cases h with ⟨rfl, e⟩ | ⟨_, h⟩
  · cases e; exact ⟨⟨Tryz.f10, _, Tryz.func10, rfl⟩, withinA_ok ha a1 a2 hL⟩
  rcases beq_cases h with ⟨rfl, e⟩ | ⟨_, h⟩
  · cases e; exact ⟨⟨Tryz.f7, _, Tryz.func7, rfl⟩, known_spec hm⟩
  · exact specN_ok hm f g h
end Go.Ae
