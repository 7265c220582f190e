/-
  For every two numbers FrameValues returns true and leaves what was there as it was. No conditions.
-/
import Derived.Test.YtifdkkkcecpjoaaRows
import Derived.WalkKit
import Derived.ProofKit
import Derived.OpenShut
import Derived.ShutString
import Derived.ChangeOld
import Derived.Below
import Derived.Test.YtifdkkkcecpjoaaFrV
import Derived.Test.YtifdkkkcecpjoaaFrO
import Derived.Deep.DeepCutAuto
import Derived.Deep.CutBlock
namespace Go.Proofs.Ytifdkkkcecpjoaa.frameValues
open Go.ChangeShapes Go.WideShapes Go.ChangeAt Go.RowKit
open Go.ChangeMaps (open_string shut_string)
set_option linter.unusedVariables false

theorem own : ownKnob Try.prog.godebug = none := by kernel_rfl
theorem laidOut : laidOutB Try.prog = true := by kernel_rfl

/-- WHAT THE WALK IS TOLD OF A SLICE OF INTEGERS THAT CAME IN: it is nil; or it leads to a row of 'cap' cells, the numbers 'zs' (the first 'len' are its elements, the rest its spare room), each fitting its kind. -/
def IsRow (k : IntKind) (w : World) (a : Option Addr) (len cap : Nat) (zs : List Int) : Prop :=
  (a = none ∧ len = 0 ∧ cap = 0 ∧ zs = []) ∨
  ∃ x, a = some x ∧ len ≤ cap ∧ cap ≤ maxLen ∧ zs.length = cap ∧ (∀ i, i < zs.length → w.cell? (x.add i) = some (.int k (zs.getD i 0))) ∧ ∀ n ∈ zs, (Lit.int k n).wf = true

attribute [local go_sem ↓] Go.wp_at_zero Go.wp_at_succ
open Go.Proofs.YtifdkkkcecpjoaaW
set_option linter.unusedSimpArgs false

def Cut7 (wr : World) (x : Int) (v : Value) (wc : World) : Prop := ∃ (g : Nat) (s : ByteArray), v = .pointer (some ⟨g, 0, none⟩) ∧ wr.heap.size ≤ g ∧ wc.heap[g]? = some (.cells #[.int .i64 5, .string s, .string ⟨#[]⟩, .int .i64 x] 27 (0, 0)) ∧ Below wr.heap.size wr wc ∧ isWord (bl s) = true ∧ s.size ≤ 12
theorem list_at (x0 x5 : Int) (h0 : -1099511627776 ≤ x0 ∧ x0 ≤ 1099511627776) (h5 : -1099511627776 ≤ x5 ∧ x5 ≤ 1099511627776) : ∀ j : Nat, j < 6 → ∃ x : Int, (#[.int .i64 x0, .int .i64 1099511627776, .int .i64 (-1099511627776), .int .i64 0, .int .i64 (-1), .int .i64 x5] : Array Value)[j]? = some (.int .i64 x) ∧ -1099511627776 ≤ x ∧ x ≤ 1099511627776
  | 0, _ => ⟨_, rfl, h0.1, h0.2⟩
  | 1, _ => ⟨_, rfl, by decide, by decide⟩
  | 2, _ => ⟨_, rfl, by decide, by decide⟩
  | 3, _ => ⟨_, rfl, by decide, by decide⟩
  | 4, _ => ⟨_, rfl, by decide, by decide⟩
  | 5, _ => ⟨_, rfl, h5.1, h5.2⟩
  | j + 6, h => absurd h (by omega)

set_option maxRecDepth 100000 in
set_option maxHeartbeats 3200000 in
theorem walk (a0 : Int) (a1 : Int) (w : World) (w0 : (Lit.int .i64 a0).wf = true) (w1 : (Lit.int .i64 a1).wf = true) :
    Calls Try.prog 11 #[.int .i64 a0, .int .i64 a1] w fun e w' => e = .returned (.bool true) ∧ Below w.heap.size w w' := by
  have hk := known_any w
  simp [Lit.wf, IntKind.min, IntKind.max, IntKind.signed, IntKind.bits] at w0 w1
  have n0 := Int.emod_nonneg a0 (show (2199023255552 : Int) ≠ 0 by omega)
  have n1 := Int.emod_lt_of_pos a0 (show (0 : Int) < 2199023255552 by omega)
  have n2 := Int.emod_nonneg a0 (show (300 : Int) ≠ 0 by omega)
  have n3 := Int.emod_lt_of_pos a0 (show (0 : Int) < 300 by omega)
  go_enter Try.func11, Try.ntmps11
  go_wp2_with fail
  refine hk.mono ?_
  rintro e v1 ⟨rfl, b1⟩
  go_wp2_with fail
  refine (within15 a0 2199023255552 _ (by omega) (by omega) w0.1 w0.2).mono ?_
  rintro e v1' ⟨rfl, rfl⟩
  go_wp2_with fail
  refine (within15 a0 300 _ (by omega) (by omega) w0.1 w0.2).mono ?_
  rintro e v1' ⟨rfl, rfl⟩
  obtain ⟨y0, hy0⟩ : ∃ y0, y0 = a0 % 2199023255552 := ⟨_, rfl⟩
  obtain ⟨x5, hx5⟩ : ∃ x5, x5 = a0 % 300 := ⟨_, rfl⟩
  rw [← hy0] at n0 n1 ⊢
  rw [← hx5] at n2 n3 ⊢
  clear hy0 hx5 hk
  have hlist := list_at (y0 - 1099511627776) x5 (by omega) (by omega)
  have HLI := Lib.hid hlist
  clear hlist
  go_wp2_with fail
  obtain ⟨lb, hlb⟩ : ∃ lb, lb = v1.heap.size := ⟨_, rfl⟩
  have hq : (v1.alloc (.cells #[.int .i64 (y0 - 1099511627776), .int .i64 1099511627776, .int .i64 (-1099511627776), .int .i64 0, .int .i64 (-1), .int .i64 x5] 3)).heap[lb]? = some (.cells #[.int .i64 (y0 - 1099511627776), .int .i64 1099511627776, .int .i64 (-1099511627776), .int .i64 0, .int .i64 (-1), .int .i64 x5] 3 (0, 0)) := by rw [hlb]; exact heap_alloc_new v1 _
  have hb0 : Below w.heap.size w (v1.alloc (.cells #[.int .i64 (y0 - 1099511627776), .int .i64 1099511627776, .int .i64 (-1099511627776), .int .i64 0, .int .i64 (-1), .int .i64 x5] 3)) := b1.alloc b1.size _
  rw [← hlb]
  clear hlb
  go_loopw [6] (fun i wr => ∃ j : Nat, j ≤ 6 ∧ i = .int .i64 j ∧ wr.heap[lb]? = some (.cells #[.int .i64 (y0 - 1099511627776), .int .i64 1099511627776, .int .i64 (-1099511627776), .int .i64 0, .int .i64 (-1), .int .i64 x5] 3 (0, 0)) ∧ Below w.heap.size w wr) (fun i _ => 6 - (intOf i).toNat)
  case atStart => exact ⟨0, by omega, rfl, hq, hb0⟩
  case round =>
    obtain ⟨j, hj, rfl, hlbq, hb⟩ := hrel
    clear hq hb0 b1
    by_cases hlt : j < 6
    · obtain ⟨x, hx, x0, x1⟩ := HLI.out j hlt
      have hlblt := (Array.getElem?_eq_some_iff.1 hlbq).1
      have hcx : wr.cell? ⟨lb, j, none⟩ = some (.int .i64 x) := (cell_of_row wr lb j _ 3 (0, 0) hlbq).trans hx
      have hSx : ∀ z : World, Below wr.heap.size wr z → z.cell? ⟨lb, j, none⟩ = some (.int .i64 x) := fun z h => (h.cell (p := ⟨lb, j, none⟩) hlblt).trans hcx
      have HSx := Lib.hid hSx
      have HNM := Lib.hid (fun z => name_any a1 z w1.1 w1.2)
      have HLQ := Lib.hid hlbq
      have BW := Lib.hid hb
      have hj6 : (j : Int) < 6 := by omega
      have hj0 : (0 : Int) ≤ (j : Int) := by omega
      clear hSx hlbq hb hx
      go_upto_region 7 with fail
      go_cut [7] (fun v wc => Cut7 wr x v wc)
      case first =>
        refine PrintLast.start_ (n := 9) (S := fun w' => w'.cell? ⟨lb, j, none⟩ = some (.int .i64 x)) (ds := [8]) #[false, false, false, false, false, false, false, false, false] (by kernel_rfl) rfl rfl (hcx) (fun hHeld => ?_)
        refine PrintLast.pure_ (i := 0) (N := some 25) (v := ?_) (a' := ?_) #[true, false, false, false, false, false, false, false, false] rfl rfl (by kernel_rfl) (fun _ _ _ h => h) (Or.inl ⟨by rfl, ?_⟩) ?_ ?_
        rotate_left
        · intro w'
          go_simp
          with_reducible rfl
        rotate_left
        · simp only [Act.put, List.setIfInBounds_toArray, List.set_cons_zero, List.set_cons_succ]
          rfl
        refine PrintLast.pure_ (i := 2) (N := some 27) (v := ?_) (a' := ?_) #[true, false, true, false, false, false, false, false, false] rfl rfl (by kernel_rfl) (fun _ _ _ h => h) (Or.inl ⟨by rfl, ?_⟩) ?_ ?_
        rotate_left
        · intro w'
          go_simp
          with_reducible rfl
        rotate_left
        · simp only [Act.put, List.setIfInBounds_toArray, List.set_cons_zero, List.set_cons_succ]
          rfl
        refine PrintLast.pure_ (i := 3) (N := some 28) (v := ?_) (a' := ?_) #[true, false, true, true, false, false, false, false, false] rfl rfl (by kernel_rfl) (fun _ _ _ h => h) (Or.inl ⟨by rfl, ?_⟩) ?_ ?_
        rotate_left
        · intro w'
          go_simp
          with_reducible rfl
        rotate_left
        · simp only [Act.put, List.setIfInBounds_toArray, List.set_cons_zero, List.set_cons_succ]
          rfl
        refine PrintLast.pure_ (i := 4) (N := some 29) (v := ?_) (a' := ?_) #[true, false, true, true, true, false, false, false, false] rfl rfl (by kernel_rfl) (fun _ _ _ h => h) (Or.inl ⟨by rfl, ?_⟩) ?_ ?_
        rotate_left
        · intro w'
          go_simp
          with_reducible rfl
        rotate_left
        · simp only [Act.put, List.setIfInBounds_toArray, List.set_cons_zero, List.set_cons_succ]
          rfl
        refine PrintLast.take_ (i := 5) (N := some 30) (v := ?_) (a' := ?_) #[true, false, true, true, true, true, false, false, false] rfl rfl (by kernel_rfl) (fun _ _ _ h => h) (Or.inl ⟨by rfl, ?_⟩) hHeld ?_ ?_
        rotate_left
        · intro w' s0
          go_simp
          with_reducible rfl
        rotate_left
        · simp only [Act.put, List.setIfInBounds_toArray, List.set_cons_zero, List.set_cons_succ]
          rfl
        refine PrintLast.two_ (i := 1) (j := 7) (Ni := some 26) (Nj := some 7) #[true, true, true, true, true, true, false, false, false] #[true, false, true, true, true, true, false, true, false] rfl rfl rfl rfl (by kernel_rfl) (by decide) (by decide) (fun K hK => ?_) (fun K hK => ?_)
        · skip
          refine PrintLast.goes_ Try.func25 (by kernel_rfl) rfl #[.int .i64 a1] (by rfl) rfl rfl (by simp only [List.map_toArray, List.map_cons, List.map_nil]; rfl) ?_
          with_reducible refine (HNM.out _).mono ?_
          rintro e u1 ⟨s, rfl, hws, hss, hb1⟩
          have B1 : Below wr.heap.size wr u1 := (Below.refl _ _).drew.trans hb1
          refine ⟨_, rfl, ?_⟩
          refine hK.out _ _ (HSx.out _ B1) (fun hHeld => ?_)
          clear hK K
          refine PrintLast.norm_ (a' := ?_) ?_ ?_
          rotate_left
          · show Act.put _ (some 26) _ = _
            simp only [Act.put, List.setIfInBounds_toArray, List.set_cons_zero, List.set_cons_succ]
            rfl
          refine PrintLast.pure_ (i := 6) (N := some 31) (v := ?_) (a' := ?_) #[true, true, true, true, true, true, true, false, false] rfl rfl (by kernel_rfl) (fun _ _ _ h => h) (Or.inl ⟨by rfl, ?_⟩) ?_ ?_
          rotate_left
          · intro w'
            go_simp
            with_reducible rfl
          rotate_left
          · simp only [Act.put, List.setIfInBounds_toArray, List.set_cons_zero, List.set_cons_succ]
            rfl
          refine PrintLast.one_ (i := 7) (N := some 7) #[true, true, true, true, true, true, true, true, false] rfl rfl (by kernel_rfl) (by decide) (fun K hK => ?_)
          refine PrintLast.value_ (w1 := ?_) (v := ?_) (by rfl) rfl ?_ ?_
          rotate_left 2
          · go_simp
            constructor
            · rfl
            · rfl
          have B2 : Below wr.heap.size wr (u1.alloc (.cells #[.int .i64 0, .string ⟨#[]⟩, .string ⟨#[]⟩, .int .i64 0] 27)) := B1.alloc B1.size _
          refine hK.out _ _ (HSx.out _ B2) (fun hHeld => ?_)
          clear hK K
          refine PrintLast.norm_ (a' := ?_) ?_ ?_
          rotate_left
          · show Act.put _ (some 7) _ = _
            simp only [Act.put, List.setIfInBounds_toArray, List.set_cons_zero, List.set_cons_succ]
            rfl
          refine PrintLast.last_ (i := 8) (N := none) #[true, true, true, true, true, true, true, true, true] rfl rfl (by kernel_rfl) (by decide) (fun K hK => ?_)
          refine PrintLast.skip_ (w1 := ?_) (by rfl) rfl ?_ ?_
          rotate_left
          · go_simp
            rfl
          refine hK.out _ _ ?_
          clear hK K
          refine PrintLast.done_ (by kernel_rfl) ?_
          go_wp2_with fail
          go_meet
          case rel => exact ⟨u1.heap.size, s, rfl, B1.size, heap_alloc_new u1 _, B1.alloc B1.size _, hws, hss⟩
        · skip
          refine PrintLast.value_ (w1 := ?_) (v := ?_) (by rfl) rfl ?_ ?_
          rotate_left 2
          · go_simp
            constructor
            · rfl
            · rfl
          have B1 : Below wr.heap.size wr (wr.alloc (.cells #[.int .i64 0, .string ⟨#[]⟩, .string ⟨#[]⟩, .int .i64 0] 27)).drew := ((Below.refl _ _).alloc (Nat.le_refl _) _).drew
          have hq1 : (wr.alloc (.cells #[.int .i64 0, .string ⟨#[]⟩, .string ⟨#[]⟩, .int .i64 0] 27)).drew.heap[wr.heap.size]? = some (.cells #[.int .i64 0, .string ⟨#[]⟩, .string ⟨#[]⟩, .int .i64 0] 27 (0, 0)) := heap_alloc_new wr _
          have hz1 : wr.heap.size < (wr.alloc (.cells #[.int .i64 0, .string ⟨#[]⟩, .string ⟨#[]⟩, .int .i64 0] 27)).drew.heap.size := by simp
          refine hK.out _ _ (HSx.out _ B1) (fun hHeld => ?_)
          clear hK K
          refine PrintLast.norm_ (a' := ?_) ?_ ?_
          rotate_left
          · show Act.put _ (some 7) _ = _
            simp only [Act.put, List.setIfInBounds_toArray, List.set_cons_zero, List.set_cons_succ]
            rfl
          refine PrintLast.one_ (i := 1) (N := some 26) #[true, true, true, true, true, true, false, true, false] rfl rfl (by kernel_rfl) (by decide) (fun K hK => ?_)
          refine PrintLast.goes_ Try.func25 (by kernel_rfl) rfl #[.int .i64 a1] (by rfl) rfl rfl (by simp only [List.map_toArray, List.map_cons, List.map_nil]; rfl) ?_
          with_reducible refine (HNM.out _).mono ?_
          rintro e u1 ⟨s, rfl, hws, hss, hb1⟩
          have B2 : Below wr.heap.size wr u1 := B1.trans (hb1.mono (Nat.le_of_lt hz1))
          have hq2 := (hb1.block _ hz1).trans hq1
          obtain ⟨f0_, f1_, f2_, f3_⟩ := box4 hq2
          have fz : ∀ o, u1.frozen? ⟨wr.heap.size, o, none⟩ = false := fun o => by simp [World.frozen?, hq2]
          have fz0 := fz 0
          have fz1 := fz 1
          have fz2 := fz 2
          have fz3 := fz 3
          clear fz
          refine ⟨_, rfl, ?_⟩
          refine hK.out _ _ (HSx.out _ B2) (fun hHeld => ?_)
          clear hK K
          refine PrintLast.norm_ (a' := ?_) ?_ ?_
          rotate_left
          · show Act.put _ (some 26) _ = _
            simp only [Act.put, List.setIfInBounds_toArray, List.set_cons_zero, List.set_cons_succ]
            rfl
          refine PrintLast.pure_ (i := 6) (N := some 31) (v := ?_) (a' := ?_) #[true, true, true, true, true, true, true, true, false] rfl rfl (by kernel_rfl) (fun _ _ _ h => h) (Or.inl ⟨by rfl, ?_⟩) ?_ ?_
          rotate_left
          · intro w'
            go_simp
            with_reducible rfl
          rotate_left
          · simp only [Act.put, List.setIfInBounds_toArray, List.set_cons_zero, List.set_cons_succ]
            rfl
          refine PrintLast.last_ (i := 8) (N := none) #[true, true, true, true, true, true, true, true, true] rfl rfl (by kernel_rfl) (by decide) (fun K hK => ?_)
          refine PrintLast.skip_ (w1 := ?_) (by rfl) rfl ?_ ?_
          rotate_left
          · go_simp
            rfl
          refine hK.out _ _ ?_
          clear hK K
          refine PrintLast.done_ (by kernel_rfl) ?_
          go_wp2_with fail
          go_meet
          case rel => exact ⟨wr.heap.size, s, rfl, Nat.le_refl _, put4 hq2 _ _ _ _, put4_below B2 (Nat.le_refl _) _ _ _ _, hws, hss⟩
      case rest =>
        obtain ⟨g, s, rfl, hg, hqg, hbc, hws, hss⟩ := hcut
        have hglt := (Array.getElem?_eq_some_iff.1 hqg).1
        have hR := right_mk (k := 5) (t := ⟨#[]⟩) hws (by omega) (by omega) (by decide) (.inl rfl) (.inr ⟨rfl, x0, x1⟩)
        obtain ⟨L, hL⟩ : ∃ L, L = (rqOfV 5 s ⟨#[]⟩ x).enc := ⟨_, rfl⟩
        have hrd : rqRead L = (rqOfV 5 s ⟨#[]⟩ x, L.length, 0) := by
          have := rqRead_enc hR []
          rw [List.append_nil, ← hL] at this
          exact this
        have hq1 : ∀ z : World, Calls Try.prog 16 #[.agg #[.int .i64 5, .string s, .string ⟨#[]⟩, .int .i64 x]] z (BytesEnd L z) := fun z => by rw [hL]; exact request_any 5 s ⟨#[]⟩ x z (by omega) (by decide)
        have hq2 : ∀ z : World, Calls Try.prog 18 #[.agg #[.int .i64 5, .string s, .string ⟨#[]⟩, .int .i64 x]] z (BytesEnd L z) := fun z => by rw [hL]; exact rreq_any 5 s ⟨#[]⟩ x z (by omega) (by decide)
        have Q1 := Lib.hid hq1
        have Q2 := Lib.hid hq2
        have HRD := Lib.hid hrd
        obtain ⟨g0, g1, g2, g3⟩ := box4 hqg
        have HQG := Lib.hid hqg
        clear hR hL hrd hq1 hq2 hws hqg
        go_wp2_with fail
        refine (Q1.out _).mono ?_
        intro e v5 hE
        obtain ⟨A5, c5, rfl, hs5, b5⟩ := bytes_sl hE
        clear hE
        go_wp2_with fail
        refine (readRequest_any hs5 (Nat.le_refl _)).mono ?_
        rintro e v6 ⟨he, b6⟩
        rw [HRD.out] at he
        have he2 : e = .returned (.tuple #[.agg #[.int .i64 5, .string s, .string ⟨#[]⟩, .int .i64 x], .int .i64 (L.length : Int), .int .i64 0]) := by
          rw [he]; simp only [rqvOf, rqOfV, ba_bl]; rfl
        subst he2
        clear he
        have b56 : Below wc.heap.size wc v6 := b5.trans (b6.mono b5.size)
        have hc6 : Below wr.heap.size wr v6 := hbc.trans (b56.mono hbc.size)
        have hz6 := b56.size
        clear b5 b6 hs5
        go_wp2_with fail
        obtain ⟨W7, hW7⟩ : ∃ W7, W7 = v6.alloc (.cells #[.int .i64 5, .string s, .string ⟨#[]⟩, .int .i64 x] 27) := ⟨_, rfl⟩
        have b7 : Below v6.heap.size v6 W7 := by rw [hW7]; exact (Below.refl _ _).alloc (Nat.le_refl _) _
        have hz7 : v6.heap.size < W7.heap.size := by rw [hW7]; simp
        have hq8 : W7.heap[v6.heap.size]? = some (.cells #[.int .i64 5, .string s, .string ⟨#[]⟩, .int .i64 x] 27 (0, 0)) := by rw [hW7]; exact heap_alloc_new _ _
        have hq9 : W7.heap[g]? = some (.cells #[.int .i64 5, .string s, .string ⟨#[]⟩, .int .i64 x] 27 (0, 0)) := (b7.block _ (by omega)).trans ((b56.block _ hglt).trans HQG.out)
        have hgz : g < W7.heap.size := by omega
        have hS : ∀ z : World, Below W7.heap.size W7 z → z.cell? ⟨g, 0, none⟩ = some (.int .i64 5) ∧ z.cell? ⟨g, 1, none⟩ = some (.string s) ∧ z.cell? ⟨g, 2, none⟩ = some (.string ⟨#[]⟩) ∧ z.cell? ⟨g, 3, none⟩ = some (.int .i64 x) ∧ z.cell? ⟨v6.heap.size, 0, none⟩ = some (.int .i64 5) ∧ z.cell? ⟨v6.heap.size, 1, none⟩ = some (.string s) ∧ z.cell? ⟨v6.heap.size, 2, none⟩ = some (.string ⟨#[]⟩) ∧ z.cell? ⟨v6.heap.size, 3, none⟩ = some (.int .i64 x) := fun z hb => by
          obtain ⟨a0, a1, a2, a3⟩ := box4 ((hb.block _ hgz).trans hq9)
          obtain ⟨d0, d1, d2, d3⟩ := box4 ((hb.block _ hz7).trans hq8)
          exact ⟨a0, a1, a2, a3, d0, d1, d2, d3⟩
        have hw7 : Below wr.heap.size wr W7 := hc6.trans (b7.mono hc6.size)
        have hLB : ∀ z : World, Below W7.heap.size W7 z → z.heap[lb]? = some (.cells #[.int .i64 (y0 - 1099511627776), .int .i64 1099511627776, .int .i64 (-1099511627776), .int .i64 0, .int .i64 (-1), .int .i64 x5] 3 (0, 0)) := fun z hb => (hb.block _ (Nat.lt_of_lt_of_le hlblt hw7.size)).trans ((hw7.block _ hlblt).trans HLQ.out)
        have HS := Lib.hid hS
        have HLB := Lib.hid hLB
        have BB := Lib.hid (BW.out.trans (hw7.mono BW.out.size))
        rw [← hW7]
        clear hW7 b7 hz7 hq8 hq9 hS hw7 hLB b56 hc6 hbc hz6 hgz hglt g0 g1 g2 g3 HQG HRD hcx HSx HNM HLQ BW hlblt hg hss
        have B0 : Below W7.heap.size W7 W7.drew := (Below.refl _ _).drew
        obtain ⟨s0_, s1_, s2_, s3_, s4_, s5_, s6_, s7_⟩ := HS.out _ B0
        refine PrintLast.start_ (n := 16) (S := fun w' => w'.cell? ⟨g, 0, none⟩ = some (.int .i64 5) ∧ w'.cell? ⟨g, 1, none⟩ = some (.string s) ∧ w'.cell? ⟨g, 2, none⟩ = some (.string ⟨#[]⟩) ∧ w'.cell? ⟨g, 3, none⟩ = some (.int .i64 x) ∧ w'.cell? ⟨v6.heap.size, 0, none⟩ = some (.int .i64 5) ∧ w'.cell? ⟨v6.heap.size, 1, none⟩ = some (.string s) ∧ w'.cell? ⟨v6.heap.size, 2, none⟩ = some (.string ⟨#[]⟩) ∧ w'.cell? ⟨v6.heap.size, 3, none⟩ = some (.int .i64 x)) (ds := []) #[false, false, false, false, false, false, false, false, false, false, false, false, false, false, false, false] (by kernel_rfl) rfl rfl ⟨s0_, s1_, s2_, s3_, s4_, s5_, s6_, s7_⟩ (fun hHeld => ?_)
        refine PrintLast.pure_ (i := 0) (N := some 39) (v := ?_) (a' := ?_) #[true, false, false, false, false, false, false, false, false, false, false, false, false, false, false, false] rfl rfl (by kernel_rfl) (fun _ _ _ h => h) (Or.inl ⟨by rfl, ?_⟩) ?_ ?_
        rotate_left
        · intro w'
          go_simp
          with_reducible rfl
        rotate_left
        · simp only [Act.put, List.setIfInBounds_toArray, List.set_cons_zero, List.set_cons_succ]
          rfl
        refine PrintLast.pure_ (i := 1) (N := some 40) (v := ?_) (a' := ?_) #[true, true, false, false, false, false, false, false, false, false, false, false, false, false, false, false] rfl rfl (by kernel_rfl) (fun _ _ _ h => h) (Or.inl ⟨by rfl, ?_⟩) ?_ ?_
        rotate_left
        · intro w'
          go_simp
          with_reducible rfl
        rotate_left
        · simp only [Act.put, List.setIfInBounds_toArray, List.set_cons_zero, List.set_cons_succ]
          rfl
        refine PrintLast.pure_ (i := 2) (N := some 41) (v := ?_) (a' := ?_) #[true, true, true, false, false, false, false, false, false, false, false, false, false, false, false, false] rfl rfl (by kernel_rfl) (fun _ _ _ h => h) (Or.inl ⟨by rfl, ?_⟩) ?_ ?_
        rotate_left
        · intro w'
          go_simp
          with_reducible rfl
        rotate_left
        · simp only [Act.put, List.setIfInBounds_toArray, List.set_cons_zero, List.set_cons_succ]
          rfl
        refine PrintLast.take_ (i := 3) (N := some 42) (v := ?_) (a' := ?_) #[true, true, true, true, false, false, false, false, false, false, false, false, false, false, false, false] rfl rfl (by kernel_rfl) (fun _ _ _ h => h) (Or.inl ⟨by rfl, ?_⟩) hHeld ?_ ?_
        rotate_left
        · rintro w' ⟨s0, s1, s2, s3, s4, s5, s6, s7⟩
          go_simp
          with_reducible rfl
        rotate_left
        · simp only [Act.put, List.setIfInBounds_toArray, List.set_cons_zero, List.set_cons_succ]
          rfl
        refine PrintLast.take_ (i := 4) (N := some 43) (v := ?_) (a' := ?_) #[true, true, true, true, true, false, false, false, false, false, false, false, false, false, false, false] rfl rfl (by kernel_rfl) (fun _ _ _ h => h) (Or.inl ⟨by rfl, ?_⟩) hHeld ?_ ?_
        rotate_left
        · rintro w' ⟨s0, s1, s2, s3, s4, s5, s6, s7⟩
          go_simp
          with_reducible rfl
        rotate_left
        · simp only [Act.put, List.setIfInBounds_toArray, List.set_cons_zero, List.set_cons_succ]
          rfl
        refine PrintLast.pure_ (i := 5) (N := some 44) (v := ?_) (a' := ?_) #[true, true, true, true, true, true, false, false, false, false, false, false, false, false, false, false] rfl rfl (by kernel_rfl) (fun _ _ _ h => h) (Or.inl ⟨by rfl, ?_⟩) ?_ ?_
        rotate_left
        · intro w'
          go_simp
          with_reducible rfl
        rotate_left
        · simp only [Act.put, List.setIfInBounds_toArray, List.set_cons_zero, List.set_cons_succ]
          rfl
        refine PrintLast.pure_ (i := 6) (N := some 45) (v := ?_) (a' := ?_) #[true, true, true, true, true, true, true, false, false, false, false, false, false, false, false, false] rfl rfl (by kernel_rfl) (fun _ _ _ h => h) (Or.inl ⟨by rfl, ?_⟩) ?_ ?_
        rotate_left
        · intro w'
          go_simp
          with_reducible rfl
        rotate_left
        · simp only [Act.put, List.setIfInBounds_toArray, List.set_cons_zero, List.set_cons_succ]
          rfl
        refine PrintLast.pure_ (i := 7) (N := some 46) (v := ?_) (a' := ?_) #[true, true, true, true, true, true, true, true, false, false, false, false, false, false, false, false] rfl rfl (by kernel_rfl) (fun _ _ _ h => h) (Or.inl ⟨by rfl, ?_⟩) ?_ ?_
        rotate_left
        · intro w'
          go_simp
          with_reducible rfl
        rotate_left
        · simp only [Act.put, List.setIfInBounds_toArray, List.set_cons_zero, List.set_cons_succ]
          rfl
        refine PrintLast.take_ (i := 8) (N := some 47) (v := ?_) (a' := ?_) #[true, true, true, true, true, true, true, true, true, false, false, false, false, false, false, false] rfl rfl (by kernel_rfl) (fun _ _ _ h => h) (Or.inl ⟨by rfl, ?_⟩) hHeld ?_ ?_
        rotate_left
        · rintro w' ⟨s0, s1, s2, s3, s4, s5, s6, s7⟩
          go_simp
          with_reducible rfl
        rotate_left
        · simp only [Act.put, List.setIfInBounds_toArray, List.set_cons_zero, List.set_cons_succ]
          rfl
        refine PrintLast.take_ (i := 11) (N := some 50) (v := ?_) (a' := ?_) #[true, true, true, true, true, true, true, true, true, false, false, true, false, false, false, false] rfl rfl (by kernel_rfl) (fun _ _ _ h => h) (Or.inl ⟨by rfl, ?_⟩) hHeld ?_ ?_
        rotate_left
        · rintro w' ⟨s0, s1, s2, s3, s4, s5, s6, s7⟩
          go_simp
          with_reducible rfl
        rotate_left
        · simp only [Act.put, List.setIfInBounds_toArray, List.set_cons_zero, List.set_cons_succ]
          rfl
        refine PrintLast.one_ (i := 9) (N := some 48) #[true, true, true, true, true, true, true, true, true, true, false, true, false, false, false, false] rfl rfl (by kernel_rfl) (by decide) (fun K hK => ?_)
        refine PrintLast.goes_ Try.func16 (by kernel_rfl) rfl #[.agg #[.int .i64 5, .string s, .string ⟨#[]⟩, .int .i64 x]] (by rfl) rfl rfl (by simp only [List.map_toArray, List.map_cons, List.map_nil]; rfl) ?_
        with_reducible refine (Q1.out _).mono ?_
        intro e u1 hE1
        obtain ⟨P1, p1, rfl, hsl1, hb1⟩ := bytes_sl hE1
        clear hE1
        have B1 : Below W7.heap.size W7 u1 := B0.trans (hb1.mono B0.size)
        have cv1 := sl_string hsl1
        refine ⟨_, rfl, ?_⟩
        refine hK.out _ _ (HS.out _ B1) (fun hHeld => ?_)
        clear hK K
        refine PrintLast.norm_ (a' := ?_) ?_ ?_
        rotate_left
        · show Act.put _ (some 48) _ = _
          simp only [Act.put, List.setIfInBounds_toArray, List.set_cons_zero, List.set_cons_succ]
          rfl
        refine PrintLast.two_ (i := 10) (j := 12) (Ni := some 49) (Nj := some 51) #[true, true, true, true, true, true, true, true, true, true, true, true, false, false, false, false] #[true, true, true, true, true, true, true, true, true, true, false, true, true, false, false, false] rfl rfl rfl rfl (by kernel_rfl) (by decide) (by decide) (fun K hK => ?_) (fun K hK => ?_)
        · skip
          refine PrintLast.value_ (w1 := ?_) (v := ?_) (by rfl) rfl ?_ ?_
          rotate_left 2
          · go_simp
            constructor
            · rfl
            · rfl
          refine hK.out _ _ hHeld (fun hHeld => ?_)
          clear hK K
          refine PrintLast.norm_ (a' := ?_) ?_ ?_
          rotate_left
          · show Act.put _ (some 49) _ = _
            simp only [Act.put, List.setIfInBounds_toArray, List.set_cons_zero, List.set_cons_succ]
            rfl
          refine PrintLast.one_ (i := 12) (N := some 51) #[true, true, true, true, true, true, true, true, true, true, true, true, true, false, false, false] rfl rfl (by kernel_rfl) (by decide) (fun K hK => ?_)
          refine PrintLast.goes_ Try.func18 (by kernel_rfl) rfl #[.agg #[.int .i64 5, .string s, .string ⟨#[]⟩, .int .i64 x]] (by rfl) rfl rfl (by simp only [List.map_toArray, List.map_cons, List.map_nil]; rfl) ?_
          with_reducible refine (Q2.out _).mono ?_
          intro e u2 hE2
          obtain ⟨P2, p2, rfl, hsl2, hb2⟩ := bytes_sl hE2
          clear hE2
          have B2 : Below W7.heap.size W7 u2 := B1.trans (hb2.mono B1.size)
          have cv2 := sl_string hsl2
          replace cv1 := sl_string (hsl1.below hb2)
          refine ⟨_, rfl, ?_⟩
          refine hK.out _ _ (HS.out _ B2) (fun hHeld => ?_)
          clear hK K
          refine PrintLast.norm_ (a' := ?_) ?_ ?_
          rotate_left
          · show Act.put _ (some 51) _ = _
            simp only [Act.put, List.setIfInBounds_toArray, List.set_cons_zero, List.set_cons_succ]
            rfl
          refine PrintLast.one_ (i := 13) (N := some 52) #[true, true, true, true, true, true, true, true, true, true, true, true, true, true, false, false] rfl rfl (by kernel_rfl) (by decide) (fun K hK => ?_)
          refine PrintLast.value_ (w1 := ?_) (v := ?_) (by rfl) rfl ?_ ?_
          rotate_left 2
          · go_simp
            constructor
            · rfl
            · rfl
          refine hK.out _ _ hHeld (fun hHeld => ?_)
          clear hK K
          refine PrintLast.norm_ (a' := ?_) ?_ ?_
          rotate_left
          · show Act.put _ (some 52) _ = _
            simp only [Act.put, List.setIfInBounds_toArray, List.set_cons_zero, List.set_cons_succ]
            rfl
          refine PrintLast.pure_ (i := 14) (N := some 53) (v := ?_) (a' := ?_) #[true, true, true, true, true, true, true, true, true, true, true, true, true, true, true, false] rfl rfl (by kernel_rfl) (fun _ _ _ h => h) (Or.inl ⟨by rfl, ?_⟩) ?_ ?_
          rotate_left
          · intro w'
            go_simp
            with_reducible rfl
          rotate_left
          · simp only [Act.put, List.setIfInBounds_toArray, List.set_cons_zero, List.set_cons_succ]
            rfl
          refine PrintLast.pure_ (i := 15) (N := some 54) (v := ?_) (a' := ?_) #[true, true, true, true, true, true, true, true, true, true, true, true, true, true, true, true] rfl rfl (by kernel_rfl) (fun _ _ _ h => h) (Or.inl ⟨by rfl, ?_⟩) ?_ ?_
          rotate_left
          · intro w'
            go_simp
            with_reducible rfl
          rotate_left
          · simp only [Act.put, List.setIfInBounds_toArray, List.set_cons_zero, List.set_cons_succ]
            rfl
          refine PrintLast.done_ (by kernel_rfl) ?_
          go_wp2_with fail
          go_roundw
          case rel => exact ⟨j + 1, by omega, by go_num, HLB.out _ B2, BB.out.trans (B2.mono BB.out.size)⟩
          case measure => simp [intOf]; omega
        · skip
          refine PrintLast.goes_ Try.func18 (by kernel_rfl) rfl #[.agg #[.int .i64 5, .string s, .string ⟨#[]⟩, .int .i64 x]] (by rfl) rfl rfl (by simp only [List.map_toArray, List.map_cons, List.map_nil]; rfl) ?_
          with_reducible refine (Q2.out _).mono ?_
          intro e u2 hE2
          obtain ⟨P2, p2, rfl, hsl2, hb2⟩ := bytes_sl hE2
          clear hE2
          have B2 : Below W7.heap.size W7 u2 := B1.trans (hb2.mono B1.size)
          have cv2 := sl_string hsl2
          replace cv1 := sl_string (hsl1.below hb2)
          refine ⟨_, rfl, ?_⟩
          refine hK.out _ _ (HS.out _ B2) (fun hHeld => ?_)
          clear hK K
          refine PrintLast.norm_ (a' := ?_) ?_ ?_
          rotate_left
          · show Act.put _ (some 51) _ = _
            simp only [Act.put, List.setIfInBounds_toArray, List.set_cons_zero, List.set_cons_succ]
            rfl
          refine PrintLast.two_ (i := 10) (j := 13) (Ni := some 49) (Nj := some 52) #[true, true, true, true, true, true, true, true, true, true, true, true, true, false, false, false] #[true, true, true, true, true, true, true, true, true, true, false, true, true, true, false, false] rfl rfl rfl rfl (by kernel_rfl) (by decide) (by decide) (fun K hK => ?_) (fun K hK => ?_)
          · skip
            refine PrintLast.value_ (w1 := ?_) (v := ?_) (by rfl) rfl ?_ ?_
            rotate_left 2
            · go_simp
              constructor
              · rfl
              · rfl
            refine hK.out _ _ hHeld (fun hHeld => ?_)
            clear hK K
            refine PrintLast.norm_ (a' := ?_) ?_ ?_
            rotate_left
            · show Act.put _ (some 49) _ = _
              simp only [Act.put, List.setIfInBounds_toArray, List.set_cons_zero, List.set_cons_succ]
              rfl
            refine PrintLast.one_ (i := 13) (N := some 52) #[true, true, true, true, true, true, true, true, true, true, true, true, true, true, false, false] rfl rfl (by kernel_rfl) (by decide) (fun K hK => ?_)
            refine PrintLast.value_ (w1 := ?_) (v := ?_) (by rfl) rfl ?_ ?_
            rotate_left 2
            · go_simp
              constructor
              · rfl
              · rfl
            refine hK.out _ _ hHeld (fun hHeld => ?_)
            clear hK K
            refine PrintLast.norm_ (a' := ?_) ?_ ?_
            rotate_left
            · show Act.put _ (some 52) _ = _
              simp only [Act.put, List.setIfInBounds_toArray, List.set_cons_zero, List.set_cons_succ]
              rfl
            refine PrintLast.pure_ (i := 14) (N := some 53) (v := ?_) (a' := ?_) #[true, true, true, true, true, true, true, true, true, true, true, true, true, true, true, false] rfl rfl (by kernel_rfl) (fun _ _ _ h => h) (Or.inl ⟨by rfl, ?_⟩) ?_ ?_
            rotate_left
            · intro w'
              go_simp
              with_reducible rfl
            rotate_left
            · simp only [Act.put, List.setIfInBounds_toArray, List.set_cons_zero, List.set_cons_succ]
              rfl
            refine PrintLast.pure_ (i := 15) (N := some 54) (v := ?_) (a' := ?_) #[true, true, true, true, true, true, true, true, true, true, true, true, true, true, true, true] rfl rfl (by kernel_rfl) (fun _ _ _ h => h) (Or.inl ⟨by rfl, ?_⟩) ?_ ?_
            rotate_left
            · intro w'
              go_simp
              with_reducible rfl
            rotate_left
            · simp only [Act.put, List.setIfInBounds_toArray, List.set_cons_zero, List.set_cons_succ]
              rfl
            refine PrintLast.done_ (by kernel_rfl) ?_
            go_wp2_with fail
            go_roundw
            case rel => exact ⟨j + 1, by omega, by go_num, HLB.out _ B2, BB.out.trans (B2.mono BB.out.size)⟩
            case measure => simp [intOf]; omega
          · skip
            refine PrintLast.value_ (w1 := ?_) (v := ?_) (by rfl) rfl ?_ ?_
            rotate_left 2
            · go_simp
              constructor
              · rfl
              · rfl
            refine hK.out _ _ hHeld (fun hHeld => ?_)
            clear hK K
            refine PrintLast.norm_ (a' := ?_) ?_ ?_
            rotate_left
            · show Act.put _ (some 52) _ = _
              simp only [Act.put, List.setIfInBounds_toArray, List.set_cons_zero, List.set_cons_succ]
              rfl
            refine PrintLast.one_ (i := 10) (N := some 49) #[true, true, true, true, true, true, true, true, true, true, true, true, true, true, false, false] rfl rfl (by kernel_rfl) (by decide) (fun K hK => ?_)
            refine PrintLast.value_ (w1 := ?_) (v := ?_) (by rfl) rfl ?_ ?_
            rotate_left 2
            · go_simp
              constructor
              · rfl
              · rfl
            refine hK.out _ _ hHeld (fun hHeld => ?_)
            clear hK K
            refine PrintLast.norm_ (a' := ?_) ?_ ?_
            rotate_left
            · show Act.put _ (some 49) _ = _
              simp only [Act.put, List.setIfInBounds_toArray, List.set_cons_zero, List.set_cons_succ]
              rfl
            refine PrintLast.pure_ (i := 14) (N := some 53) (v := ?_) (a' := ?_) #[true, true, true, true, true, true, true, true, true, true, true, true, true, true, true, false] rfl rfl (by kernel_rfl) (fun _ _ _ h => h) (Or.inl ⟨by rfl, ?_⟩) ?_ ?_
            rotate_left
            · intro w'
              go_simp
              with_reducible rfl
            rotate_left
            · simp only [Act.put, List.setIfInBounds_toArray, List.set_cons_zero, List.set_cons_succ]
              rfl
            refine PrintLast.pure_ (i := 15) (N := some 54) (v := ?_) (a' := ?_) #[true, true, true, true, true, true, true, true, true, true, true, true, true, true, true, true] rfl rfl (by kernel_rfl) (fun _ _ _ h => h) (Or.inl ⟨by rfl, ?_⟩) ?_ ?_
            rotate_left
            · intro w'
              go_simp
              with_reducible rfl
            rotate_left
            · simp only [Act.put, List.setIfInBounds_toArray, List.set_cons_zero, List.set_cons_succ]
              rfl
            refine PrintLast.done_ (by kernel_rfl) ?_
            go_wp2_with fail
            go_roundw
            case rel => exact ⟨j + 1, by omega, by go_num, HLB.out _ B2, BB.out.trans (B2.mono BB.out.size)⟩
            case measure => simp [intOf]; omega
    · go_wp2_with fail
      go_ret
      exact ⟨rfl, hb⟩

/-! ### THE ROW's STEP: WRITTEN OUT: LEAVE IT -/
set_option maxRecDepth 100000 in
theorem lifted (os : Os) (started : os.Started) (H : Type) (enc : TypeId × Value → H) :
    ReturnsInHanded {} Try.checked os 11 .any (Rows.frameValuesSpec.pre6 enc Try.prog Try.f11 Rows.frameValuesRow.domain false) (Rows.frameValuesSpec.post enc Try.prog Try.f11 false true false false) := by
  refine returnsInHanded_of_change (C := Try.checked) own started (by kernel_rfl) Try.func11
    (ChangeSpec.witness6 (enc := enc) (C := Try.checked) false ⟨#[], #[.int .i64 0, .int .i64 0], []⟩ 8 (by kernel_rfl) (by kernel_rfl) (by kernel_rfl) (by kernel_rfl)) ?_
  intro W base args ds gs before hval0 hW hcnd _
  have hval : ∀ (j : Nat) t v, Try.f11.params[j]? = some t → args[j]? = some v → Value.okWide Try.prog W .any base t v := hval0
  have hW' := hW
  obtain ⟨p, q, hA0, hV, rfl, hfz, hnd⟩ := hW
  have hA : DataW.TrodAll enc Try.prog W 0 (fun _ => true) true Try.f11.params.toList args.toList ds p := hA0
  rw [Try.params11] at hA hval
  obtain ⟨v0, vs0, d0, ds0, p0, q0, hargs, rfl, rfl, h0, r0⟩ := trodAll_cons hA
  obtain ⟨v1, vs1, d1, ds1, p1, q1, rfl, rfl, rfl, h1, r1⟩ := trodAll_cons r0
  obtain ⟨rfl, rfl, rfl⟩ := trodAll_nil r1
  obtain rfl : args = #[v0, v1] := by cases args; simp_all
  obtain ⟨rfl, rfl⟩ := trodVars_none hV
  obtain ⟨a0, rfl, rfl, rfl, w0⟩ := open_int Try.underlying3 (hval 0 3 v0 rfl rfl) h0
  obtain ⟨a1, rfl, rfl, rfl, w1⟩ := open_int Try.underlying3 (hval 1 3 v1 rfl rfl) h1
  clear hA0 hval0
  refine (walk a0 a1 W w0 w1).mono fun e W' ⟨he, bel⟩ => ?_
  subst he
  exact ⟨_, rfl, _, _, _, [], _, [], hW', trodAll_mk1 (shut_bool Try.underlying4 _), (trodAll_cons_mk (shut_int Try.underlying3 w0) (trodAll_cons_mk (shut_int Try.underlying3 w1) trodAll_mk0)), rfl, bel.frame _, fun h => by cases h⟩

theorem over : Rows.frameValuesRow.holds Try.pinned (OpenSpec.ofChange Rows.frameValuesSpec) :=
  OpenClaim.holds_of_wide 11 Try.f11 rfl rfl rfl rfl rfl rfl rfl ⟨rfl, rfl, rfl, rfl, rfl⟩ rfl rfl rfl rfl rfl (by kernel_rfl) Try.func11 (by kernel_rfl)
    (of_decide_eq_true (by kernel_rfl)) (by unfold Func.isWrapper; first | (rw [if_pos (by decide +kernel)]; kernel_rfl) | (rw [if_neg (by decide +kernel)]; exact ⟨rfl, rfl⟩))
    (fun os started H enc _ => lifted os started H enc)

/-- ████ THE STATEMENT ████ -/
theorem proved : Rows.FrameValuesSaid := over
#print axioms proved
end Go.Proofs.Ytifdkkkcecpjoaa.frameValues
