/- A part of the proof of the four laws of the top: TopE, TopR, TopS, TopT, TopU. -/
import Derived.Test.YtlclnngcnkepjaaGreatDoorKn
import Derived.Test.YtlclnngcnkepjaaGreatDoorE4
import Derived.Test.YtlclnngcnkepjaaGreatDoorTEa0
import Derived.Test.YtlclnngcnkepjaaGreatDoorTEb0
import Derived.Test.YtlclnngcnkepjaaGreatDoorTEc0
import Derived.Test.YtlclnngcnkepjaaGreatDoorTEd0
import Derived.Test.YtlclnngcnkepjaaGreatDoorTEa1
import Derived.Test.YtlclnngcnkepjaaGreatDoorTEb1
import Derived.Test.YtlclnngcnkepjaaGreatDoorTEc1
import Derived.Test.YtlclnngcnkepjaaGreatDoorTEd1
import Derived.Test.YtlclnngcnkepjaaGreatDoorTEa2
import Derived.Test.YtlclnngcnkepjaaGreatDoorTEb2
import Derived.Test.YtlclnngcnkepjaaGreatDoorTEc2
import Derived.Test.YtlclnngcnkepjaaGreatDoorTEd2
import Derived.Test.YtlclnngcnkepjaaGreatDoorTEa3
import Derived.Test.YtlclnngcnkepjaaGreatDoorTEb3
import Derived.Test.YtlclnngcnkepjaaGreatDoorTEc3
import Derived.Test.YtlclnngcnkepjaaGreatDoorTEd3
import Derived.Test.YtlclnngcnkepjaaGreatDoorTEa4
import Derived.Test.YtlclnngcnkepjaaGreatDoorTEb4
import Derived.Test.YtlclnngcnkepjaaGreatDoorTEc4
import Derived.Test.YtlclnngcnkepjaaGreatDoorTEd4
import Derived.Test.YtlclnngcnkepjaaGreatDoorTEa5
import Derived.Test.YtlclnngcnkepjaaGreatDoorTEb5
import Derived.Test.YtlclnngcnkepjaaGreatDoorTEc5
import Derived.Test.YtlclnngcnkepjaaGreatDoorTEd5
import Derived.Lib.LaidTab
import Derived.Test.YtlclnngcnkepjaaGreatDoorRows
import Derived.Deep.DeepHandedRow
import Derived.ProofKit
import Derived.SizedLaws
import Derived.Shelf.Vars
namespace Go.Ae
open Go Go.Proofs

theorem body3 : Tryz.f3.body = some (bodyOf 3) := by kernel_rfl

theorem from1 {σ : Nat → Value} {n : Nat} {l : List Code} {s : St} {y : Ex × St} (h : Chain C1 σ n l s y) : Chain C0 σ n l s y := chain_cfg (C := C1) (C' := C0) rfl rfl h
theorem fromW {σ : Nat → Value} {p q : Int} {n : Nat} {l : List Code} {s : St} {y : Ex × St} (h : Chain (CW p q) σ n l s y) : Chain C0 σ n l s y := chain_cfg (C := CW p q) (C' := C0) rfl rfl h

/-- How TopErrors ends. -/
def Ends (σ : Nat → Value) (s0 : St) : Prop := ∃ e, Goes C0 σ 79 (bodyOf 3) s0 (.ret, e) ∧ e.d = [] ∧ results C0 Tryz.f3 e.t e.h = some (.b true) ∧ ∀ k b, H1.get k = some b → e.h.get k = some b

noncomputable def pick4 (a b c d : St) : Nat → St
  | 0 => a
  | 1 => b
  | 2 => c
  | _ => d

theorem keep3 {k : Nat} {b : AB} (n : Nat) (hk : H1.get k = some b) : (AH.mk n (ofL [(0, .c asc 0), (3, .c p10 0), (4, .c [.sym 2] 0)] .e)).get k = some b := by
  rcases h1_get k b hk with ⟨rfl, rfl⟩ | ⟨rfl, rfl⟩ | ⟨rfl, rfl⟩ <;> rfl

section
variable {σ : Nat → Value} {m : Int}

theorem ends00 (hm : σ 2 = .int .i64 m) (hw : SpecOk σ 10 (specWithin 0 0)) : Ends σ ⟨mkT 0 [.sym 0, .sym 1] .e, H1, []⟩ := by
  have G1 := good1 hm (known_spec hm)
  have GW := goodW hm (known_spec hm) hw
  refine ⟨S0e1, te_glue (q := 0) (h := pick4 S0h0 S0h1 S0h2 S0h3) (p := S0p1) (fromW (chain_cut GW _ _ (te0h0 0))) ?_ (fromW (chain_cut GW _ _ (te0t10 0))) ?_ (from1 (chain_cut G1 _ _ te0p1)) (from1 (chain_cut G1 _ _ te0e1)), rfl, by kernel_rfl, fun k b hk => keep3 _ hk⟩
  · intro j hj
    match j, hj with
    | 0, _ => exact fromW (chain_cut GW _ _ (te0t00 0))
    | j + 1, hj => omega
  · intro j hj
    match j, hj with
    | 0, _ => exact from1 (chain_cut G1 _ _ te0b0)
    | j + 1, hj => omega

theorem ends01 (hm : σ 2 = .int .i64 m) (hw : SpecOk σ 10 (specWithin 0 1)) : Ends σ ⟨mkT 0 [.sym 0, .sym 1] .e, H1, []⟩ := by
  have G1 := good1 hm (known_spec hm)
  have GW := goodW hm (known_spec hm) hw
  refine ⟨S0e2, te_glue (q := 1) (h := pick4 S0h0 S0h1 S0h2 S0h3) (p := S0p2) (fromW (chain_cut GW _ _ (te0h0 1))) ?_ (fromW (chain_cut GW _ _ (te0t21 0))) ?_ (from1 (chain_cut G1 _ _ te0p2)) (from1 (chain_cut G1 _ _ te0e2)), rfl, by kernel_rfl, fun k b hk => keep3 _ hk⟩
  · intro j hj
    match j, hj with
    | 0, _ => exact fromW (chain_cut GW _ _ (te0t01 0))
    | 1, _ => exact fromW (chain_cut GW _ _ (te0t11 0))
    | j + 2, hj => omega
  · intro j hj
    match j, hj with
    | 0, _ => exact from1 (chain_cut G1 _ _ te0b0)
    | 1, _ => exact from1 (chain_cut G1 _ _ te0b1)
    | j + 2, hj => omega

theorem ends02 (hm : σ 2 = .int .i64 m) (hw : SpecOk σ 10 (specWithin 0 2)) : Ends σ ⟨mkT 0 [.sym 0, .sym 1] .e, H1, []⟩ := by
  have G1 := good1 hm (known_spec hm)
  have GW := goodW hm (known_spec hm) hw
  refine ⟨S0e3, te_glue (q := 2) (h := pick4 S0h0 S0h1 S0h2 S0h3) (p := S0p3) (fromW (chain_cut GW _ _ (te0h0 2))) ?_ (fromW (chain_cut GW _ _ (te0t32 0))) ?_ (from1 (chain_cut G1 _ _ te0p3)) (from1 (chain_cut G1 _ _ te0e3)), rfl, by kernel_rfl, fun k b hk => keep3 _ hk⟩
  · intro j hj
    match j, hj with
    | 0, _ => exact fromW (chain_cut GW _ _ (te0t02 0))
    | 1, _ => exact fromW (chain_cut GW _ _ (te0t12 0))
    | 2, _ => exact fromW (chain_cut GW _ _ (te0t22 0))
    | j + 3, hj => omega
  · intro j hj
    match j, hj with
    | 0, _ => exact from1 (chain_cut G1 _ _ te0b0)
    | 1, _ => exact from1 (chain_cut G1 _ _ te0b1)
    | 2, _ => exact from1 (chain_cut G1 _ _ te0b2)
    | j + 3, hj => omega

theorem ends10 (hm : σ 2 = .int .i64 m) (hw : SpecOk σ 10 (specWithin 1 0)) : Ends σ ⟨mkT 0 [.sym 0, .sym 1] .e, H1, []⟩ := by
  have G1 := good1 hm (known_spec hm)
  have GW := goodW hm (known_spec hm) hw
  refine ⟨S1e1, te_glue (q := 0) (h := pick4 S1h0 S1h1 S1h2 S1h3) (p := S1p1) (fromW (chain_cut GW _ _ (te1h0 0))) ?_ (fromW (chain_cut GW _ _ (te1t10 1))) ?_ (from1 (chain_cut G1 _ _ te1p1)) (from1 (chain_cut G1 _ _ te1e1)), rfl, by kernel_rfl, fun k b hk => keep3 _ hk⟩
  · intro j hj
    match j, hj with
    | 0, _ => exact fromW (chain_cut GW _ _ (te1t00 1))
    | j + 1, hj => omega
  · intro j hj
    match j, hj with
    | 0, _ => exact from1 (chain_cut G1 _ _ te1b0)
    | j + 1, hj => omega

theorem ends11 (hm : σ 2 = .int .i64 m) (hw : SpecOk σ 10 (specWithin 1 1)) : Ends σ ⟨mkT 0 [.sym 0, .sym 1] .e, H1, []⟩ := by
  have G1 := good1 hm (known_spec hm)
  have GW := goodW hm (known_spec hm) hw
  refine ⟨S1e2, te_glue (q := 1) (h := pick4 S1h0 S1h1 S1h2 S1h3) (p := S1p2) (fromW (chain_cut GW _ _ (te1h0 1))) ?_ (fromW (chain_cut GW _ _ (te1t21 1))) ?_ (from1 (chain_cut G1 _ _ te1p2)) (from1 (chain_cut G1 _ _ te1e2)), rfl, by kernel_rfl, fun k b hk => keep3 _ hk⟩
  · intro j hj
    match j, hj with
    | 0, _ => exact fromW (chain_cut GW _ _ (te1t01 1))
    | 1, _ => exact fromW (chain_cut GW _ _ (te1t11 1))
    | j + 2, hj => omega
  · intro j hj
    match j, hj with
    | 0, _ => exact from1 (chain_cut G1 _ _ te1b0)
    | 1, _ => exact from1 (chain_cut G1 _ _ te1b1)
    | j + 2, hj => omega

theorem ends12 (hm : σ 2 = .int .i64 m) (hw : SpecOk σ 10 (specWithin 1 2)) : Ends σ ⟨mkT 0 [.sym 0, .sym 1] .e, H1, []⟩ := by
  have G1 := good1 hm (known_spec hm)
  have GW := goodW hm (known_spec hm) hw
  refine ⟨S1e3, te_glue (q := 2) (h := pick4 S1h0 S1h1 S1h2 S1h3) (p := S1p3) (fromW (chain_cut GW _ _ (te1h0 2))) ?_ (fromW (chain_cut GW _ _ (te1t32 1))) ?_ (from1 (chain_cut G1 _ _ te1p3)) (from1 (chain_cut G1 _ _ te1e3)), rfl, by kernel_rfl, fun k b hk => keep3 _ hk⟩
  · intro j hj
    match j, hj with
    | 0, _ => exact fromW (chain_cut GW _ _ (te1t02 1))
    | 1, _ => exact fromW (chain_cut GW _ _ (te1t12 1))
    | 2, _ => exact fromW (chain_cut GW _ _ (te1t22 1))
    | j + 3, hj => omega
  · intro j hj
    match j, hj with
    | 0, _ => exact from1 (chain_cut G1 _ _ te1b0)
    | 1, _ => exact from1 (chain_cut G1 _ _ te1b1)
    | 2, _ => exact from1 (chain_cut G1 _ _ te1b2)
    | j + 3, hj => omega

theorem ends20 (hm : σ 2 = .int .i64 m) (hw : SpecOk σ 10 (specWithin 2 0)) : Ends σ ⟨mkT 0 [.sym 0, .sym 1] .e, H1, []⟩ := by
  have G1 := good1 hm (known_spec hm)
  have GW := goodW hm (known_spec hm) hw
  refine ⟨S2e1, te_glue (q := 0) (h := pick4 S2h0 S2h1 S2h2 S2h3) (p := S2p1) (fromW (chain_cut GW _ _ (te2h0 0))) ?_ (fromW (chain_cut GW _ _ (te2t10 2))) ?_ (from1 (chain_cut G1 _ _ te2p1)) (from1 (chain_cut G1 _ _ te2e1)), rfl, by kernel_rfl, fun k b hk => keep3 _ hk⟩
  · intro j hj
    match j, hj with
    | 0, _ => exact fromW (chain_cut GW _ _ (te2t00 2))
    | j + 1, hj => omega
  · intro j hj
    match j, hj with
    | 0, _ => exact from1 (chain_cut G1 _ _ te2b0)
    | j + 1, hj => omega

theorem ends21 (hm : σ 2 = .int .i64 m) (hw : SpecOk σ 10 (specWithin 2 1)) : Ends σ ⟨mkT 0 [.sym 0, .sym 1] .e, H1, []⟩ := by
  have G1 := good1 hm (known_spec hm)
  have GW := goodW hm (known_spec hm) hw
  refine ⟨S2e2, te_glue (q := 1) (h := pick4 S2h0 S2h1 S2h2 S2h3) (p := S2p2) (fromW (chain_cut GW _ _ (te2h0 1))) ?_ (fromW (chain_cut GW _ _ (te2t21 2))) ?_ (from1 (chain_cut G1 _ _ te2p2)) (from1 (chain_cut G1 _ _ te2e2)), rfl, by kernel_rfl, fun k b hk => keep3 _ hk⟩
  · intro j hj
    match j, hj with
    | 0, _ => exact fromW (chain_cut GW _ _ (te2t01 2))
    | 1, _ => exact fromW (chain_cut GW _ _ (te2t11 2))
    | j + 2, hj => omega
  · intro j hj
    match j, hj with
    | 0, _ => exact from1 (chain_cut G1 _ _ te2b0)
    | 1, _ => exact from1 (chain_cut G1 _ _ te2b1)
    | j + 2, hj => omega

theorem ends22 (hm : σ 2 = .int .i64 m) (hw : SpecOk σ 10 (specWithin 2 2)) : Ends σ ⟨mkT 0 [.sym 0, .sym 1] .e, H1, []⟩ := by
  have G1 := good1 hm (known_spec hm)
  have GW := goodW hm (known_spec hm) hw
  refine ⟨S2e3, te_glue (q := 2) (h := pick4 S2h0 S2h1 S2h2 S2h3) (p := S2p3) (fromW (chain_cut GW _ _ (te2h0 2))) ?_ (fromW (chain_cut GW _ _ (te2t32 2))) ?_ (from1 (chain_cut G1 _ _ te2p3)) (from1 (chain_cut G1 _ _ te2e3)), rfl, by kernel_rfl, fun k b hk => keep3 _ hk⟩
  · intro j hj
    match j, hj with
    | 0, _ => exact fromW (chain_cut GW _ _ (te2t02 2))
    | 1, _ => exact fromW (chain_cut GW _ _ (te2t12 2))
    | 2, _ => exact fromW (chain_cut GW _ _ (te2t22 2))
    | j + 3, hj => omega
  · intro j hj
    match j, hj with
    | 0, _ => exact from1 (chain_cut G1 _ _ te2b0)
    | 1, _ => exact from1 (chain_cut G1 _ _ te2b1)
    | 2, _ => exact from1 (chain_cut G1 _ _ te2b2)
    | j + 3, hj => omega

theorem ends30 (hm : σ 2 = .int .i64 m) (hw : SpecOk σ 10 (specWithin 3 0)) : Ends σ ⟨mkT 0 [.sym 0, .sym 1] .e, H1, []⟩ := by
  have G1 := good1 hm (known_spec hm)
  have GW := goodW hm (known_spec hm) hw
  refine ⟨S3e1, te_glue (q := 0) (h := pick4 S3h0 S3h1 S3h2 S3h3) (p := S3p1) (fromW (chain_cut GW _ _ (te3h0 0))) ?_ (fromW (chain_cut GW _ _ (te3t10 3))) ?_ (from1 (chain_cut G1 _ _ te3p1)) (from1 (chain_cut G1 _ _ te3e1)), rfl, by kernel_rfl, fun k b hk => keep3 _ hk⟩
  · intro j hj
    match j, hj with
    | 0, _ => exact fromW (chain_cut GW _ _ (te3t00 3))
    | j + 1, hj => omega
  · intro j hj
    match j, hj with
    | 0, _ => exact from1 (chain_cut G1 _ _ te3b0)
    | j + 1, hj => omega

theorem ends31 (hm : σ 2 = .int .i64 m) (hw : SpecOk σ 10 (specWithin 3 1)) : Ends σ ⟨mkT 0 [.sym 0, .sym 1] .e, H1, []⟩ := by
  have G1 := good1 hm (known_spec hm)
  have GW := goodW hm (known_spec hm) hw
  refine ⟨S3e2, te_glue (q := 1) (h := pick4 S3h0 S3h1 S3h2 S3h3) (p := S3p2) (fromW (chain_cut GW _ _ (te3h0 1))) ?_ (fromW (chain_cut GW _ _ (te3t21 3))) ?_ (from1 (chain_cut G1 _ _ te3p2)) (from1 (chain_cut G1 _ _ te3e2)), rfl, by kernel_rfl, fun k b hk => keep3 _ hk⟩
  · intro j hj
    match j, hj with
    | 0, _ => exact fromW (chain_cut GW _ _ (te3t01 3))
    | 1, _ => exact fromW (chain_cut GW _ _ (te3t11 3))
    | j + 2, hj => omega
  · intro j hj
    match j, hj with
    | 0, _ => exact from1 (chain_cut G1 _ _ te3b0)
    | 1, _ => exact from1 (chain_cut G1 _ _ te3b1)
    | j + 2, hj => omega

theorem ends32 (hm : σ 2 = .int .i64 m) (hw : SpecOk σ 10 (specWithin 3 2)) : Ends σ ⟨mkT 0 [.sym 0, .sym 1] .e, H1, []⟩ := by
  have G1 := good1 hm (known_spec hm)
  have GW := goodW hm (known_spec hm) hw
  refine ⟨S3e3, te_glue (q := 2) (h := pick4 S3h0 S3h1 S3h2 S3h3) (p := S3p3) (fromW (chain_cut GW _ _ (te3h0 2))) ?_ (fromW (chain_cut GW _ _ (te3t32 3))) ?_ (from1 (chain_cut G1 _ _ te3p3)) (from1 (chain_cut G1 _ _ te3e3)), rfl, by kernel_rfl, fun k b hk => keep3 _ hk⟩
  · intro j hj
    match j, hj with
    | 0, _ => exact fromW (chain_cut GW _ _ (te3t02 3))
    | 1, _ => exact fromW (chain_cut GW _ _ (te3t12 3))
    | 2, _ => exact fromW (chain_cut GW _ _ (te3t22 3))
    | j + 3, hj => omega
  · intro j hj
    match j, hj with
    | 0, _ => exact from1 (chain_cut G1 _ _ te3b0)
    | 1, _ => exact from1 (chain_cut G1 _ _ te3b1)
    | 2, _ => exact from1 (chain_cut G1 _ _ te3b2)
    | j + 3, hj => omega

theorem ends40 (hm : σ 2 = .int .i64 m) (hw : SpecOk σ 10 (specWithin 4 0)) : Ends σ ⟨mkT 0 [.sym 0, .sym 1] .e, H1, []⟩ := by
  have G1 := good1 hm (known_spec hm)
  have GW := goodW hm (known_spec hm) hw
  refine ⟨S4e1, te_glue (q := 0) (h := pick4 S4h0 S4h1 S4h2 S4h3) (p := S4p1) (fromW (chain_cut GW _ _ (te4h0 0))) ?_ (fromW (chain_cut GW _ _ (te4t10 4))) ?_ (from1 (chain_cut G1 _ _ te4p1)) (from1 (chain_cut G1 _ _ te4e1)), rfl, by kernel_rfl, fun k b hk => keep3 _ hk⟩
  · intro j hj
    match j, hj with
    | 0, _ => exact fromW (chain_cut GW _ _ (te4t00 4))
    | j + 1, hj => omega
  · intro j hj
    match j, hj with
    | 0, _ => exact from1 (chain_cut G1 _ _ te4b0)
    | j + 1, hj => omega

theorem ends41 (hm : σ 2 = .int .i64 m) (hw : SpecOk σ 10 (specWithin 4 1)) : Ends σ ⟨mkT 0 [.sym 0, .sym 1] .e, H1, []⟩ := by
  have G1 := good1 hm (known_spec hm)
  have GW := goodW hm (known_spec hm) hw
  refine ⟨S4e2, te_glue (q := 1) (h := pick4 S4h0 S4h1 S4h2 S4h3) (p := S4p2) (fromW (chain_cut GW _ _ (te4h0 1))) ?_ (fromW (chain_cut GW _ _ (te4t21 4))) ?_ (from1 (chain_cut G1 _ _ te4p2)) (from1 (chain_cut G1 _ _ te4e2)), rfl, by kernel_rfl, fun k b hk => keep3 _ hk⟩
  · intro j hj
    match j, hj with
    | 0, _ => exact fromW (chain_cut GW _ _ (te4t01 4))
    | 1, _ => exact fromW (chain_cut GW _ _ (te4t11 4))
    | j + 2, hj => omega
  · intro j hj
    match j, hj with
    | 0, _ => exact from1 (chain_cut G1 _ _ te4b0)
    | 1, _ => exact from1 (chain_cut G1 _ _ te4b1)
    | j + 2, hj => omega

theorem ends42 (hm : σ 2 = .int .i64 m) (hw : SpecOk σ 10 (specWithin 4 2)) : Ends σ ⟨mkT 0 [.sym 0, .sym 1] .e, H1, []⟩ := by
  have G1 := good1 hm (known_spec hm)
  have GW := goodW hm (known_spec hm) hw
  refine ⟨S4e3, te_glue (q := 2) (h := pick4 S4h0 S4h1 S4h2 S4h3) (p := S4p3) (fromW (chain_cut GW _ _ (te4h0 2))) ?_ (fromW (chain_cut GW _ _ (te4t32 4))) ?_ (from1 (chain_cut G1 _ _ te4p3)) (from1 (chain_cut G1 _ _ te4e3)), rfl, by kernel_rfl, fun k b hk => keep3 _ hk⟩
  · intro j hj
    match j, hj with
    | 0, _ => exact fromW (chain_cut GW _ _ (te4t02 4))
    | 1, _ => exact fromW (chain_cut GW _ _ (te4t12 4))
    | 2, _ => exact fromW (chain_cut GW _ _ (te4t22 4))
    | j + 3, hj => omega
  · intro j hj
    match j, hj with
    | 0, _ => exact from1 (chain_cut G1 _ _ te4b0)
    | 1, _ => exact from1 (chain_cut G1 _ _ te4b1)
    | 2, _ => exact from1 (chain_cut G1 _ _ te4b2)
    | j + 3, hj => omega

theorem ends50 (hm : σ 2 = .int .i64 m) (hw : SpecOk σ 10 (specWithin 5 0)) : Ends σ ⟨mkT 0 [.sym 0, .sym 1] .e, H1, []⟩ := by
  have G1 := good1 hm (known_spec hm)
  have GW := goodW hm (known_spec hm) hw
  refine ⟨S5e1, te_glue (q := 0) (h := pick4 S5h0 S5h1 S5h2 S5h3) (p := S5p1) (fromW (chain_cut GW _ _ (te5h0 0))) ?_ (fromW (chain_cut GW _ _ (te5t10 5))) ?_ (from1 (chain_cut G1 _ _ te5p1)) (from1 (chain_cut G1 _ _ te5e1)), rfl, by kernel_rfl, fun k b hk => keep3 _ hk⟩
  · intro j hj
    match j, hj with
    | 0, _ => exact fromW (chain_cut GW _ _ (te5t00 5))
    | j + 1, hj => omega
  · intro j hj
    match j, hj with
    | 0, _ => exact from1 (chain_cut G1 _ _ te5b0)
    | j + 1, hj => omega

theorem ends51 (hm : σ 2 = .int .i64 m) (hw : SpecOk σ 10 (specWithin 5 1)) : Ends σ ⟨mkT 0 [.sym 0, .sym 1] .e, H1, []⟩ := by
  have G1 := good1 hm (known_spec hm)
  have GW := goodW hm (known_spec hm) hw
  refine ⟨S5e2, te_glue (q := 1) (h := pick4 S5h0 S5h1 S5h2 S5h3) (p := S5p2) (fromW (chain_cut GW _ _ (te5h0 1))) ?_ (fromW (chain_cut GW _ _ (te5t21 5))) ?_ (from1 (chain_cut G1 _ _ te5p2)) (from1 (chain_cut G1 _ _ te5e2)), rfl, by kernel_rfl, fun k b hk => keep3 _ hk⟩
  · intro j hj
    match j, hj with
    | 0, _ => exact fromW (chain_cut GW _ _ (te5t01 5))
    | 1, _ => exact fromW (chain_cut GW _ _ (te5t11 5))
    | j + 2, hj => omega
  · intro j hj
    match j, hj with
    | 0, _ => exact from1 (chain_cut G1 _ _ te5b0)
    | 1, _ => exact from1 (chain_cut G1 _ _ te5b1)
    | j + 2, hj => omega

theorem ends52 (hm : σ 2 = .int .i64 m) (hw : SpecOk σ 10 (specWithin 5 2)) : Ends σ ⟨mkT 0 [.sym 0, .sym 1] .e, H1, []⟩ := by
  have G1 := good1 hm (known_spec hm)
  have GW := goodW hm (known_spec hm) hw
  refine ⟨S5e3, te_glue (q := 2) (h := pick4 S5h0 S5h1 S5h2 S5h3) (p := S5p3) (fromW (chain_cut GW _ _ (te5h0 2))) ?_ (fromW (chain_cut GW _ _ (te5t32 5))) ?_ (from1 (chain_cut G1 _ _ te5p3)) (from1 (chain_cut G1 _ _ te5e3)), rfl, by kernel_rfl, fun k b hk => keep3 _ hk⟩
  · intro j hj
    match j, hj with
    | 0, _ => exact fromW (chain_cut GW _ _ (te5t02 5))
    | 1, _ => exact fromW (chain_cut GW _ _ (te5t12 5))
    | 2, _ => exact fromW (chain_cut GW _ _ (te5t22 5))
    | j + 3, hj => omega
  · intro j hj
    match j, hj with
    | 0, _ => exact from1 (chain_cut G1 _ _ te5b0)
    | 1, _ => exact from1 (chain_cut G1 _ _ te5b1)
    | 2, _ => exact from1 (chain_cut G1 _ _ te5b2)
    | j + 3, hj => omega
end

theorem ends_all {σ : Nat → Value} {a b m : Int} (ha : σ 0 = .int .i64 a) (hb : σ 1 = .int .i64 b) (hm : σ 2 = .int .i64 m) (a1 : -9223372036854775808 ≤ a) (a2 : a ≤ 9223372036854775807) (b1 : -9223372036854775808 ≤ b) (b2 : b ≤ 9223372036854775807) :
    Ends σ ⟨mkT 0 [.sym 0, .sym 1] .e, H1, []⟩ := by
  have hw := within_ok ha hb a1 a2 b1 b2
  have p1 := Int.emod_nonneg a (show (6 : Int) ≠ 0 by omega)
  have p2 := Int.emod_lt_of_pos a (show (0 : Int) < 6 by omega)
  have q1 := Int.emod_nonneg b (show (3 : Int) ≠ 0 by omega)
  have q2 := Int.emod_lt_of_pos b (show (0 : Int) < 3 by omega)
  generalize a % 6 = p at *
  generalize b % 3 = q at *
  rcases (show p = 0 ∨ p = 1 ∨ p = 2 ∨ p = 3 ∨ p = 4 ∨ p = 5 by omega) with rfl | rfl | rfl | rfl | rfl | rfl <;> rcases (show q = 0 ∨ q = 1 ∨ q = 2 by omega) with rfl | rfl | rfl
  · exact ends00 hm hw
  · exact ends01 hm hw
  · exact ends02 hm hw
  · exact ends10 hm hw
  · exact ends11 hm hw
  · exact ends12 hm hw
  · exact ends20 hm hw
  · exact ends21 hm hw
  · exact ends22 hm hw
  · exact ends30 hm hw
  · exact ends31 hm hw
  · exact ends32 hm hw
  · exact ends40 hm hw
  · exact ends41 hm hw
  · exact ends42 hm hw
  · exact ends50 hm hw
  · exact ends51 hm hw
  · exact ends52 hm hw

theorem top_errors {σ : Nat → Value} {a b m : Int} (ha : σ 0 = .int .i64 a) (hb : σ 1 = .int .i64 b) (hm : σ 2 = .int .i64 m) (a1 : -9223372036854775808 ≤ a) (a2 : a ≤ 9223372036854775807) (b1 : -9223372036854775808 ≤ b) (b2 : b ≤ 9223372036854775807)
    {ν : Nu} {w : World} (hh : hrel σ Tryz.prog.globals.size ν H1 w) :
    Calls Tryz.prog 3 #[.int .i64 a, .int .i64 b] w fun e w' => e = .returned (.bool true) ∧ Keeps w w' ∧ ∃ ν' h', Ext ν H1 w ν' h' w' ∧ hrel σ Tryz.prog.globals.size ν' h' w' ∧ ∀ k b, H1.get k = some b → h'.get k = some b := by
  obtain ⟨e, g1, g2, g3, g4⟩ := ends_all ha hb hm a1 a2 b1 b2
  refine (calls_goes (C := C0) (args := [.sym 0, .sym 1]) (cs := [.int .i64 a, .int .i64 b]) (x := .ret) (good0 hm) Tryz.func3 body3 (.inr rfl) g2 (show Goes C0 σ (Nat.max 2 Tryz.f3.ntmps) (bodyOf 3) _ (.ret, e) from g1) g3 hh ?_).mono ?_
  · exact ⟨_, _, ⟨ha.symm, rfl⟩, ⟨_, _, ⟨hb.symm, rfl⟩, rfl, rfl⟩, rfl⟩
  · rintro en w' ⟨c, ν', rfl, k1, k2, k3⟩
    simp only [vrel] at k3
    subst k3
    exact ⟨rfl, k1.kp, ν', _, k1, k2, g4⟩
end Go.Ae
namespace Go.Ae
open Go Go.Proofs

section
variable {σ : Nat → Value}

theorem flat_fun {ν ν' : Nu} {v : AV} {c c' : Value} (hf : flat v = true) (h : vrel σ ν v c) (h' : vrel σ ν' v c') : c = c' := by
  cases v <;> simp only [flat] at hf <;> first | (cases hf; done) | (simp only [vrel] at h h'; first | (rw [h, h']; done) | (rw [h.1, h'.1]; done))

theorem flats_fun {ν ν' : Nu} : ∀ {l : List AV} {cs cs' : List Value}, l.all flat = true → vrels σ ν l cs → vrels σ ν' l cs' → cs = cs'
  | [], _, _, _, h, h' => h.trans h'.symm
  | x :: l, _, _, hf, ⟨c, cs, h1, h2, e⟩, ⟨c', cs', h1', h2', e'⟩ => by
    simp only [List.all_cons, Bool.and_eq_true] at hf
    rw [e, e', flat_fun hf.1 h1 h1', flats_fun hf.2 h2 h2']

/-- The names of the start. -/
def nu12 : Nu := (List.range 12).map fun g => ⟨g, 0, 0⟩

theorem nu12_get {g : Nat} (h : g < 12) : nu12[g]? = some ⟨g, 0, 0⟩ := by
  simp [nu12, List.getElem?_map, List.getElem?_range h]

theorem start_rel {W : World} (hA : ∃ a t, W.heap[0]? = some (.cells a t (0, 0)) ∧ vrels σ nu12 asc a.toList) (hB : ∃ a t, W.heap[3]? = some (.cells a t (0, 0)) ∧ vrels σ nu12 p10 a.toList)
    (hM : ∃ a t, W.heap[4]? = some (.cells a t (0, 0)) ∧ vrels σ nu12 [.sym 2] a.toList) : hrel σ Tryz.prog.globals.size nu12 H1 W where
  len := rfl
  dom := fun k b h => by
    have go : ∀ {k : Nat} {cs : List AV}, k < 12 → (∃ a t, W.heap[k]? = some (.cells a t (0, 0)) ∧ vrels σ nu12 cs a.toList) → ∃ e o, nu12[k]? = some e ∧ W.heap[e.b]? = some o ∧ brel σ nu12 e (.c cs 0) o := by
      intro k cs hk ⟨a, t, h1, h2⟩
      refine ⟨⟨k, 0, 0⟩, _, nu12_get hk, h1, a.toList, [], by simp, h2, fun _ => rfl, fun h => absurd rfl h, fun o _ h => ?_⟩
      have := h.2
      simp at this
    rcases h1_get k b h with ⟨rfl, rfl⟩ | ⟨rfl, rfl⟩ | ⟨rfl, rfl⟩
    · exact go (by omega) hA
    · exact go (by omega) hB
    · exact go (by omega) hM
  inj := fun i j e e' b b' hi hj he he' hE => by
    have hlt : ∀ {k b}, H1.get k = some b → k < 12 := fun {k b} hk => by
      rcases h1_get k b hk with ⟨rfl, _⟩ | ⟨rfl, _⟩ | ⟨rfl, _⟩ <;> omega
    rw [nu12_get (hlt hi)] at he
    rw [nu12_get (hlt hj)] at he'
    cases he
    cases he'
    exact hE
  gl := fun g hg => ⟨_, nu12_get (by rw [gs12] at hg; exact hg), rfl⟩

/-- What lay ahead lies there still. -/
theorem kept_all {W W' : World} {gs : Nat} {ν' : Nu} {h' : AH} (hK : Keeps W W') (hE : Ext nu12 H1 W ν' h' W') (hh : hrel σ gs nu12 H1 W) (hh' : hrel σ gs ν' h' W') (hk : ∀ k b, H1.get k = some b → h'.get k = some b) :
    W'.os = W.os ∧ W'.output = W.output ∧ ∀ i, i < W.heap.size → W'.heap[i]? = W.heap[i]? := by
  refine ⟨hK.os, hK.output, fun i hi => ?_⟩
  by_cases him : im nu12 H1 i
  · obtain ⟨k, b, e, h1, h2, rfl⟩ := him
    obtain ⟨e1, o, k1, k2, k3⟩ := hh.dom k b h1
    rw [h2] at k1
    cases k1
    obtain ⟨μ, rfl⟩ := hE.pre
    obtain ⟨e2, o', g1, g2, g3⟩ := hh'.dom k b (hk k b h1)
    rw [pre_get h2] at g1
    cases g1
    have fl : ∃ cs, b = .c cs 0 ∧ cs.all flat = true := by
      rcases h1_get k b h1 with ⟨rfl, rfl⟩ | ⟨rfl, rfl⟩ | ⟨rfl, rfl⟩
      · exact ⟨_, rfl, asc_flat⟩
      · exact ⟨_, rfl, p10_flat⟩
      · exact ⟨_, rfl, rfl⟩
    obtain ⟨cs, rfl, hfl⟩ := fl
    cases o <;> simp only [brel] at k3
    cases o' <;> simp only [brel] at g3
    rename_i a t fr a' t' fr'
    obtain ⟨l, ext, p1, p2, p3, _⟩ := k3
    obtain ⟨l', ext', q1, q2, q3, _⟩ := g3
    have := p3 rfl
    subst this
    have := q3 rfl
    subst this
    have hl := flats_fun hfl p2 q2
    subst hl
    have haa : a' = a := by
      apply Array.ext'
      rw [p1, q1]
    subst haa
    obtain ⟨a2, r1, r2⟩ := hK.cells _ _ _ _ k2
    rw [g2] at r1
    cases r1
    rw [g2, k2]
  · exact (hE.fr i hi him).2

theorem kept_but {W W' : World} (h : W'.os = W.os ∧ W'.output = W.output ∧ ∀ i, i < W.heap.size → W'.heap[i]? = W.heap[i]?) (may : MemPlace → Prop) : W.keptBut W' may := by
  refine ⟨h.1, h.2.1, fun i hi => ?_⟩
  rw [h.2.2 i hi]
  split
  · rename_i h1 h2
    rw [h1] at h2
    cases h2
    exact ⟨rfl, rfl, rfl, fun _ _ => rfl⟩
  · rename_i h1 h2
    rw [h1] at h2
    cases h2
    exact .inr ⟨rfl, rfl⟩
  · rename_i o o' _ _
    rfl
end
end Go.Ae
namespace Go.Ae
open Go Go.Proofs Go.Proofs.YtlclnngcnkepjaaGreatDoor

theorem laid_at {P : Program} {w : World} : ∀ {l : List (String × DataW Unit)} {ps : List MemPlace}, DataW.LaidVars P w l ps → ∀ {n : String} {d : DataW Unit}, (n, d) ∈ l →
    ∃ g t cs fuel p, P.globalNamed n = some g ∧ (P.globals[g]?).map (·.type) = some t ∧ w.var? P n = some cs ∧ DataW.trod (fun _ => ()) P w 0 (fun _ => true) false fuel t cs.toList = some (d, p) ∧ ∀ x ∈ MemPlace.row ⟨g, 0, none⟩ cs.size, x ∈ ps
  | [], _, _, _, _, h => by simp at h
  | (m, e) :: l, ps, ⟨g, t, cs, fuel, p, q, h1, h2, h3, h4, h5, h6⟩, n, d, h => by
    rcases List.mem_cons.1 h with h | h
    · cases h
      exact ⟨g, t, cs, fuel, p, h1, h2, h3, h4, fun x hx => by rw [h6]; simp [hx]⟩
    · obtain ⟨g', t', cs', fuel', p', k1, k2, k3, k4, k5⟩ := laid_at h5 h
      exact ⟨g', t', cs', fuel', p', k1, k2, k3, k4, fun x hx => by rw [h6]; simp [k5 x hx]⟩

theorem laid_block {P : Program} {w : World} {l : List (String × DataW Unit)} (h : laidMet P l w) {name : String} {k : IntKind} {zs : List Int} {g : Nat} {t e : TypeId} {n : Nat} (hm : (name, Lib.tabData k zs) ∈ l)
    (hg : P.globalNamed name = some g) (hty : (P.globals[g]?).map (·.type) = some t) (ht : P.underlying t = some (.array n e)) (he : P.underlying e = some (.int k)) (hce : P.cellsOf e = 1) (hct : P.cellsOf t = n) (hz : 0 < zs.length) :
    ∃ a ty, w.heap[g]? = some (.cells a ty (0, 0)) ∧ a.toList = zs.map fun z => Value.int k z := by
  obtain ⟨ps, hL, _, hb⟩ := h
  obtain ⟨g', t', cs, fuel, p, h1, h2, h3, h4, h5⟩ := laid_at hL hm
  obtain rfl := Option.some.inj (hg.symm.trans h1)
  obtain rfl := Option.some.inj (hty.symm.trans h2)
  have hcs := Lib.cells_of_tab ht he hce hct h4
  have hsz : 0 < cs.size := by
    have := congrArg List.length hcs
    simp at this
    omega
  obtain ⟨⟨c, ty, hc⟩, _⟩ := hb g 0 (h5 _ (by simp [MemPlace.row]; exact hsz))
  refine ⟨c, ty, hc, ?_⟩
  have : c = cs := by
    simp [World.var?, hg, hc] at h3
    exact h3
  rw [this, hcs]

theorem vrels_ints {σ : Nat → Value} {ν : Nu} (k : IntKind) : ∀ zs : List Int, vrels σ ν (zs.map (AV.i k)) (zs.map fun z => Value.int k z)
  | [] => rfl
  | _ :: r => ⟨_, _, rfl, vrels_ints k r, rfl⟩

noncomputable def numsOf : List AV → List Int
  | .i _ n :: r => n :: numsOf r
  | _ => []

theorem asc_eq : asc = (numsOf asc).map (AV.i .u8) := by kernel_rfl
theorem p10_eq : p10 = (numsOf p10).map (AV.i .u64) := by kernel_rfl

theorem tab0 : Rows.laid_strings_asciiSpace (H := Unit) = Lib.tabData .u8 (numsOf asc) := by kernel_rfl
theorem tab3 : Rows.laid_internal_strconv_uint64pow10 (H := Unit) = Lib.tabData .u64 (numsOf p10) := by kernel_rfl

theorem row_asc {σ : Nat → Value} {W : World} (h : laidMet Tryz.prog Rows.topErrorsRow.laid W) : ∃ a t, W.heap[0]? = some (.cells a t (0, 0)) ∧ vrels σ nu12 asc a.toList := by
  have hm : ("strings.asciiSpace", Lib.tabData (H := Unit) .u8 (numsOf asc)) ∈ Rows.topErrorsRow.laid := by rw [← tab0]; simp [Rows.topErrorsRow]
  obtain ⟨a, t, h1, h2⟩ := laid_block h hm (g := 0) (t := 186) (by kernel_rfl) (by kernel_rfl) Tryz.underlying186 (by kernel_rfl) (by kernel_rfl) (by kernel_rfl) (by decide +kernel)
  refine ⟨a, t, h1, ?_⟩
  rw [h2]
  have := vrels_ints (σ := σ) (ν := nu12) .u8 (numsOf asc)
  rw [← asc_eq] at this
  exact this

theorem row_p10 {σ : Nat → Value} {W : World} (h : laidMet Tryz.prog Rows.topErrorsRow.laid W) : ∃ a t, W.heap[3]? = some (.cells a t (0, 0)) ∧ vrels σ nu12 p10 a.toList := by
  have hm : ("internal/strconv.uint64pow10", Lib.tabData (H := Unit) .u64 (numsOf p10)) ∈ Rows.topErrorsRow.laid := by rw [← tab3]; simp [Rows.topErrorsRow]
  obtain ⟨a, t, h1, h2⟩ := laid_block h hm (g := 3) (t := 339) (by kernel_rfl) (by kernel_rfl) Tryz.underlying339 (by kernel_rfl) (by kernel_rfl) (by kernel_rfl) (by decide +kernel)
  refine ⟨a, t, h1, ?_⟩
  rw [h2]
  have := vrels_ints (σ := σ) (ν := nu12) .u64 (numsOf p10)
  rw [← p10_eq] at this
  exact this
end Go.Ae
namespace Go.Ae
open Go Go.Proofs Go.Proofs.YtlclnngcnkepjaaGreatDoor Go.ChangeShapes Go.WideShapes Go.ChangeAt Go.RowKit

theorem own_ : ownKnob Tryz.prog.godebug = none := by kernel_rfl

theorem max_cell {W : World} (h : W.ShapedOpen Tryz.prog) : ∃ m t, W.heap[4]? = some (.cells #[.int .i64 m] t (0, 0)) := by
  obtain ⟨m, hm⟩ := cell_of_shapedOpen_int (P := Tryz.prog) (w := W) (g := 4) (t := 3) (zero := #[.int .i64 0]) (k := .i64) h (by rw [gs12]; omega) (by kernel_rfl) rfl (by kernel_rfl) (by kernel_rfl) Tryz.underlying3
  obtain ⟨cs, h1, h2, _⟩ := h.1 4 #[.int .i64 0] 3 (by rw [gs12]; omega) (by kernel_rfl)
  refine ⟨m, 3, ?_⟩
  have hc : cs[0]? = some (.int .i64 m) := by simpa [World.cell?, h1] using hm
  have : cs = #[.int .i64 m] := by
    apply Array.ext_getElem?
    intro i
    rcases i with _ | i
    · rw [hc]; rfl
    · rw [Array.getElem?_eq_none (by rw [h2]; simp), Array.getElem?_eq_none (by simp)]
  rw [h1, this]

theorem contract {W : World} {a b : Int} (hL : laidMet Tryz.prog Rows.topErrorsRow.laid W) (hsh : W.ShapedOpen Tryz.prog) (a1 : -9223372036854775808 ≤ a) (a2 : a ≤ 9223372036854775807) (b1 : -9223372036854775808 ≤ b) (b2 : b ≤ 9223372036854775807) :
    Calls Tryz.prog 3 #[.int .i64 a, .int .i64 b] W fun e W' => e = .returned (.bool true) ∧ W'.os = W.os ∧ W'.output = W.output ∧ ∀ i, i < W.heap.size → W'.heap[i]? = W.heap[i]? := by
  obtain ⟨m, t, hm⟩ := max_cell hsh
  let σ : Nat → Value := fun k => match k with | 0 => .int .i64 a | 1 => .int .i64 b | _ => .int .i64 m
  have hr : hrel σ Tryz.prog.globals.size nu12 H1 W := start_rel (row_asc hL) (row_p10 hL) ⟨_, t, hm, ⟨_, _, ⟨rfl, rfl⟩, rfl, rfl⟩⟩
  refine (top_errors (σ := σ) (a := a) (b := b) (m := m) rfl rfl rfl a1 a2 b1 b2 hr).mono ?_
  rintro e W' ⟨rfl, hK, ν', h', hE, hh', hk⟩
  exact ⟨rfl, kept_all hK hE hr hh' hk⟩
end Go.Ae
namespace Go.Ae
open Go Go.Proofs Go.Proofs.YtlclnngcnkepjaaGreatDoor Go.ChangeShapes Go.WideShapes Go.ChangeAt Go.RowKit

set_option maxRecDepth 100000 in
theorem lifted (os : Os) (started : os.Started) (H : Type) (enc : TypeId × Value → H) (F : Stop.Interp) (wit : ∃ (w : World) (tape : Tape) (i : Input), w.os = os ∧ (w.forCall tape i).Shaped Tryz.checked.prog ∧ i.vars = [] ∧ Input.okWide Tryz.checked.prog (w.forCall tape i) .any w.heap.size 3 i ∧
      (OpenSpec.ofChange Rows.topErrorsSpec).preRow enc Tryz.checked.prog Tryz.f3 Rows.topErrorsRow.domain false Rows.topErrorsRow.laid (w.forCall tape i).memory i.args ∧ Assume.holds {} Tryz.checked.prog (lone (Frame.enter Tryz.checked.prog 3 i.args .normal) [] (w.forCall tape i))) :
    ReturnsInHanded {} Tryz.checked os 3 .any ((OpenSpec.ofChange Rows.topErrorsSpec).preRow enc Tryz.prog Tryz.f3 Rows.topErrorsRow.domain false Rows.topErrorsRow.laid) (((OpenSpec.ofChange Rows.topErrorsSpec).at F).post enc Tryz.prog Tryz.f3 false true false false) := by
  refine returnsInHanded_of_row (C := Tryz.checked) (s := OpenSpec.ofChange Rows.topErrorsSpec) own_ started (by kernel_rfl) Tryz.func3 wit ?_
  intro W base args ds gs before hval0 hW _ _ _ hL hsh _
  have hL' : laidMet Tryz.prog Rows.topErrorsRow.laid W := hL
  have hval : ∀ (j : Nat) t v, Tryz.f3.params[j]? = some t → args[j]? = some v → Value.okWide Tryz.prog W .any base t v := hval0
  have hW' := hW
  obtain ⟨p, q, hA0, hV0, rfl, _, _⟩ := hW
  have hA : DataW.TrodAll enc Tryz.prog W 0 (fun _ => true) true Tryz.f3.params.toList args.toList ds p := hA0
  rw [Tryz.params3] at hA hval
  obtain ⟨v0, v1, d0, d1, p0, p1, rfl, rfl, rfl, h0, h1⟩ := trodAll_two hA
  obtain ⟨rfl, rfl⟩ := trodVars_none hV0
  obtain ⟨a, rfl, rfl, rfl, wa⟩ := open_int Tryz.underlying3 (hval 0 3 v0 rfl rfl) h0
  obtain ⟨b, rfl, rfl, rfl, wb⟩ := open_int Tryz.underlying3 (hval 1 3 v1 rfl rfl) h1
  clear hA0 hV0 hval0
  simp only [List.append_nil] at hW'
  have ra : -9223372036854775808 ≤ a ∧ a ≤ 9223372036854775807 := by have := wa; simp [Lit.wf] at this; exact ⟨Int.le_trans (by decide) this.1, Int.le_trans this.2 (by decide)⟩
  have rb : -9223372036854775808 ≤ b ∧ b ≤ 9223372036854775807 := by have := wb; simp [Lit.wf] at this; exact ⟨Int.le_trans (by decide) this.1, Int.le_trans this.2 (by decide)⟩
  refine (contract hL' hsh ra.1 ra.2 rb.1 rb.2).mono ?_
  rintro e W' ⟨rfl, hk⟩
  have e1 : ((OpenSpec.ofChange Rows.topErrorsSpec).at F).fn H ([.lit (.int .i64 a), .lit (.int .i64 b)] ++ []) = { results := [.lit (.bool true)], args := [.lit (.int .i64 a), .lit (.int .i64 b)] } := rfl
  refine ⟨_, rfl, _, _, _, [], [], [], hW', ?_, ?_, ?_, kept_but hk _, fun h => by cases h⟩
  · rw [e1]; exact trodAll_mk1 (shut_bool Tryz.underlying4 true)
  · rw [e1]; exact trodAll_mk2 (shut_int Tryz.underlying3 wa) (shut_int Tryz.underlying3 wb)
  · rw [e1]; rfl
end Go.Ae
