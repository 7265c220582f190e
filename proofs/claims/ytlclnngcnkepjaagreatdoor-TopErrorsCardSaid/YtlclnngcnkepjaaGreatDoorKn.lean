/- A part of the proof of the four laws of the top: Kn. -/
import Derived.Test.YtlclnngcnkepjaaGreatDoorKn1
import Derived.Test.YtlclnngcnkepjaaGreatDoorKn2
import Derived.Test.YtlclnngcnkepjaaGreatDoorKn3
import Derived.Test.YtlclnngcnkepjaaGreatDoorKn4
namespace Go.Ae
open Go Go.Proofs

theorem h1_get (k : Nat) (b : AB) (h : H1.get k = some b) : (k = 0 ∧ b = .c asc 0) ∨ (k = 3 ∧ b = .c p10 0) ∨ (k = 4 ∧ b = .c [.sym 2] 0) := by
  simp only [H1, AH.get, Tr.get_set_eq, Tr.get_e] at h
  split at h
  · rename_i e; cases h; exact .inr (.inr ⟨e.symm, rfl⟩)
  · split at h
    · rename_i e; cases h; exact .inr (.inl ⟨e.symm, rfl⟩)
    · split at h
      · rename_i e; cases h; exact .inl ⟨e.symm, rfl⟩
      · cases h

theorem gs12 : Tryz.prog.globals.size = 12 := by kernel_rfl
theorem asc_flat : asc.all flat = true := by kernel_rfl
theorem p10_flat : p10.all flat = true := by kernel_rfl

theorem base1 : Base Tryz.prog.globals.size H1 where
  gs := by rw [gs12]; exact Nat.le_refl _
  flat := fun k b h => by
    rcases h1_get k b h with ⟨rfl, rfl⟩ | ⟨rfl, rfl⟩ | ⟨rfl, rfl⟩
    · exact ⟨asc_flat, by show 0 < 12; omega⟩
    · exact ⟨p10_flat, by show 3 < 12; omega⟩
    · exact ⟨rfl, by show 4 < 12; omega⟩

theorem sameC_spec {cs : List AV} {b : Option AB} (h : sameC cs b = true) : b = some (.c cs 0) := by
  unfold sameC at h
  split at h
  · rename_i ds wd
    simp only [Bool.and_eq_true] at h
    rw [beqs_eq h.2, Nat.eq_of_beq_eq_true h.1]
  · cases h

theorem has_of {h : AH} (hh : hasH h = true) : Has H1 h := by
  simp only [hasH, Bool.and_eq_true] at hh
  obtain ⟨h1, h2, h3, h4⟩ := hh
  refine ⟨Nat.le_of_ble_eq_true h1, fun k b hk => ?_⟩
  rcases h1_get k b hk with ⟨rfl, rfl⟩ | ⟨rfl, rfl⟩ | ⟨rfl, rfl⟩
  · exact sameC_spec h2
  · exact sameC_spec h3
  · exact sameC_spec h4

theorem items7 : flatC (bodyOf 7) = (I7.drop 0).take 6 ++ ((I7.drop 6).take 1 ++ ((I7.drop 7).take 1 ++ (I7.drop 8).take 2)) := by kernel_rfl
theorem body7 : Tryz.f7.body = some (bodyOf 7) := by kernel_rfl
theorem res7 : results C0 Tryz.f7 S7_4.t S7_4.h = some (.b true) := by kernel_rfl

theorem known_runs {σ : Nat → Value} {m : Int} (hm : σ 2 = .int .i64 m) : Goes C0 σ 48 (bodyOf 7) ⟨mkT 0 [] .e, H1, []⟩ (.ret, S7_4) := by
  refine goes_chain ?_
  rw [items7]
  exact chain_append (chain_cut (good0 hm) _ _ k7_1) rfl (chain_append (chain_cut (good0 hm) _ _ k7_2) rfl (chain_append (chain_cut (good0 hm) _ _ k7_3) rfl (chain_cut (good0 hm) _ _ k7_4)))

theorem known_spec {σ : Nat → Value} {m : Int} (hm : σ 2 = .int .i64 m) : SpecOk σ 7 specKnown := by
  intro args h v h' hg ν w cs hh ha
  unfold specKnown at hg
  split at hg
  rotate_left
  · cases hg
  cases hb : hasH h with
  | false => rw [hb] at hg; cases hg
  | true =>
    rw [hb] at hg
    simp only [cond_true, Option.some.injEq, Prod.mk.injEq] at hg
    obtain ⟨rfl, rfl⟩ := hg
    refine known_ok (C := C0) (h' := S7_4.h) base1 (has_of hb) (fun k b hk => ?_) rfl rfl (fun ν w cs hh ha => ?_) hh ha
    · rcases h1_get k b hk with ⟨rfl, rfl⟩ | ⟨rfl, rfl⟩ | ⟨rfl, rfl⟩ <;> rfl
    · exact calls_goes (C := C0) (args := []) (h := H1) (s := S7_4) (x := .ret) (good0 hm) Tryz.func7 body7 (.inr rfl) rfl (show Goes C0 σ (Nat.max 0 Tryz.f7.ntmps) (bodyOf 7) ⟨mkT 0 [] .e, H1, []⟩ (.ret, S7_4) from known_runs hm) res7 hh ha
end Go.Ae
