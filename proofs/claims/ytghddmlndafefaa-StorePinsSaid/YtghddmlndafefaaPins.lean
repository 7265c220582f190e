/-
  StorePins: the claim.
-/
import Derived.Test.YtghddmlndafefaaRows
import Derived.WalkKit
import Derived.ProofKit
import Derived.OpenShut
import Derived.ShutString
import Derived.ChangeOld
import Derived.Below
import Derived.Test.YtghddmlndafefaaStN
import Derived.Deep.RegionHeld3
namespace Go.Proofs.Ytghddmlndafefaa.storePins
open Go.ChangeShapes Go.WideShapes Go.ChangeAt Go.RowKit
open Go.ChangeMaps (open_string shut_string)
open Go.Maps
set_option linter.unusedVariables false

theorem own : ownKnob Try.prog.godebug = none := by kernel_rfl
theorem laidOut : laidOutB Try.prog = true := by kernel_rfl

def old_ : ByteArray := ⟨#[111, 108, 100]⟩
def new_ : ByteArray := ⟨#[110, 101, 119]⟩
def pv (gone : Bool) : Wr := ⟨sA, if gone then ⟨#[]⟩ else new_, gone⟩
def pL1 : List Ver := vers [⟨sA, old_, false⟩] 1
def pL2 (gone : Bool) : List Ver := pL1 ++ vers [pv gone] 2
theorem unpin_replicate (m : Nat) : unpin (List.replicate m 1) 1 = List.replicate (m - 1) 1 := by
  cases m with
  | zero => rfl
  | succ m => simp [unpin, List.replicate_succ]
theorem least_replicate (m : Nat) : leastOf (List.replicate m 1) 2 = if m = 0 then 2 else 1 := by
  refine (leastOf_unique ?_ ?_ ?_).symm
  · split <;> omega
  · intro p hp
    obtain ⟨h1, rfl⟩ := List.mem_replicate.1 hp
    simp [h1]
  · by_cases h : m = 0 <;> simp [h]
theorem pclean1 (gone : Bool) : cleanL 1 (pL2 gone) = pL2 gone := by cases gone <;> rfl
theorem pclean2 (gone : Bool) : cleanL 2 (pL2 gone) = if gone then [] else vers [pv false] 2 := by cases gone <;> rfl
theorem psorted (gone : Bool) : Sorted (pL2 gone) := by
  cases gone <;> simp [Sorted, pL2, pL1, vers, pv, Wr.ver]

set_option maxRecDepth 100000 in
set_option maxHeartbeats 3200000 in
theorem walk (a0 : Int) (a1 : Int) (a2 : Bool) (w : World) (w0 : (Lit.int .i64 a0).wf = true) (w1 : (Lit.int .i64 a1).wf = true) :
    Calls Try.prog 14 #[.int .i64 a0, .int .i64 a1, .bool a2] w fun e w' => e = .returned (.bool true) ∧ Below w.heap.size w w' := by
  obtain ⟨hlo, hhi⟩ := wf_bounds w0
  obtain ⟨hlo1, hhi1⟩ := wf_bounds w1
  have hk := known_any w
  have hwi := fun x => within_any a0 4 x (by omega) (by omega) hlo hhi
  have hwj := fun x => within_any a1 6 x (by omega) (by omega) hlo1 hhi1
  have hk0 : 0 ≤ a0 % 4 := Int.emod_nonneg _ (by omega)
  have hk1 : a0 % 4 < 4 := Int.emod_lt_of_pos _ (by omega)
  have hj0 : 0 ≤ a1 % 6 := Int.emod_nonneg _ (by omega)
  have hj1 : a1 % 6 < 6 := Int.emod_lt_of_pos _ (by omega)
  obtain ⟨k, hkk⟩ : ∃ k : Nat, a0 % 4 = k := ⟨(a0 % 4).toNat, by omega⟩
  obtain ⟨j, hjj⟩ : ∃ j : Nat, a1 % 6 = j := ⟨(a1 % 6).toNat, by omega⟩
  rw [hkk] at hwi hk0 hk1
  rw [hjj] at hwj hj0 hj1
  clear hkk hjj w0 w1
  go_enter Try.func14, Try.ntmps14
  go_wp2_with fail
  refine hk.mono ?_
  rintro e v1 ⟨rfl, b1⟩
  go_wp2_with fail
  refine (new_any 100 v1 (by omega)).mono ?_
  rintro e v2 ⟨rfl, hH, b2, -⟩
  have b02 := below_step b1 b2
  clear hk b2
  go_wp2_with fail
  obtain ⟨W2, hW2⟩ : ∃ W2, W2 = v2.alloc (.cells #[.string ⟨#[97]⟩, .string ⟨#[111, 108, 100]⟩, .bool false] 37) := ⟨_, rfl⟩
  have b3 : Below v2.heap.size v2 W2 := by rw [hW2]; exact (Below.refl _ _).alloc (Nat.le_refl _) _
  have hws : WrIs W2 (.slice (some ⟨v2.heap.size, 0, none⟩) 1 1) [⟨sA, old_, false⟩] := by rw [hW2]; exact wrIs_block (ws := [⟨sA, old_, false⟩]) (heap_alloc_new v2 _) 1
  rw [← hW2]
  clear hW2
  have h3 := hH.below b3
  refine (commit_any h3 hws (by simp; decide) (by simp [newSto]) (by simp [newSto])).mono ?_
  rintro e w3 ⟨he, ⟨D3, h4⟩, t3⟩
  obtain rfl : e = .returned (.tuple #[.int .i64 1, .int .i64 0]) := he
  have b4 : Below w.heap.size w w3 := below_turn (below_step b02 b3) t3 (by have := b1.size; rintro k (rfl | rfl) <;> simp [newSto] <;> omega)
  have h5 : Holds w3 v1.heap.size (stoP (newSto v1 100) 1 pL1 (List.replicate 0 1)) D3 (.map []) := h4
  have hb1 := b1.size
  clear hws hH h3 b1 b3 t3 h4 b02
  go_wp2_with fail
  refine (hwi _).mono ?_
  rintro e v3 ⟨rfl, rfl⟩
  clear hwi
  go_wp2_with fail
  refine (hwj _).mono ?_
  rintro e v3 ⟨rfl, rfl⟩
  clear hwj
  go_wp2_with fail
  go_loopw [10] (fun i wr => ∃ (m : Nat) (PD : DataW Value), m ≤ k + 1 ∧ i = .int .i64 m ∧ Holds wr v1.heap.size (stoP (newSto v1 100) 1 pL1 (List.replicate m 1)) D3 PD ∧ Below w.heap.size w wr) (fun i _ => k + 1 - (intOf i).toNat)
  case atStart => exact ⟨0, _, by omega, rfl, h5, b4⟩
  case round =>
    clear h5 b4
    obtain ⟨m, PD, hm, rfl, h5, b4⟩ := hrel
    by_cases hlt : m < k + 1
    · go_wp2_with fail
      refine (pin_any h5 (by simp [stoP]) (by simp [stoP]; omega)).mono ?_
      rintro e w4 ⟨he, ⟨PD', h6⟩, t4⟩
      obtain rfl : e = .returned (.int .i64 1) := he
      have b5 := below_turn b4 t4 (by rintro k rfl; simp [stoP, newSto]; omega)
      have h7 : Holds w4 v1.heap.size (stoP (newSto v1 100) 1 pL1 (List.replicate (m + 1) 1)) D3 PD' := by
        rw [List.replicate_succ']; exact h6
      clear h5 b4 t4 h6
      go_wp2_with fail
      go_roundw
      case rel => exact ⟨m + 1, PD', by omega, by go_num, h7, b5⟩
      case measure => simp [intOf]; omega
    · obtain rfl : m = k + 1 := by omega
      cases a2
      · go_wp2_with fail
        obtain ⟨W2, hW2⟩ : ∃ W2, W2 = (wr.alloc (.cells #[.string ⟨#[97]⟩, .string ⟨#[110, 101, 119]⟩, .bool false] 37)).alloc (.cells #[.string ⟨#[97]⟩, .string ⟨#[110, 101, 119]⟩, .bool false] 37) := ⟨_, rfl⟩
        have b5 : Below wr.heap.size wr W2 := by rw [hW2]; exact ((Below.refl _ _).alloc (Nat.le_refl _) _).alloc (by simp) _
        have hws : WrIs W2 (.slice (some ⟨wr.heap.size + 1, 0, none⟩) 1 1) [pv false] := by
          rw [hW2]
          have := heap_alloc_new (wr.alloc (.cells #[.string ⟨#[97]⟩, .string ⟨#[110, 101, 119]⟩, .bool false] 37)) (.cells #[.string ⟨#[97]⟩, .string ⟨#[110, 101, 119]⟩, .bool false] 37)
          simp only [World.size_alloc] at this
          exact wrIs_block (ws := [pv false]) this 1
        change Calls Try.prog 20 _ ((wr.alloc (.cells #[.string ⟨#[97]⟩, .string ⟨#[110, 101, 119]⟩, .bool false] 37)).alloc (.cells #[.string ⟨#[97]⟩, .string ⟨#[110, 101, 119]⟩, .bool false] 37)) _
        rw [← hW2]
        clear hW2
        refine (commit_any (h5.below b5) hws (by simp [pv]; decide) (by simp [stoP, newSto, pL1, vers]) (by simp [stoP])).mono ?_
        rintro e w4 ⟨he, ⟨D4, h6⟩, t4⟩
        obtain rfl : e = .returned (.tuple #[.int .i64 2, .int .i64 0]) := he
        have b6 : Below w.heap.size w w4 := below_turn (below_step b4 b5) t4 (by rintro k (rfl | rfl) <;> simp [stoP, newSto] <;> omega)
        have h7 : Holds w4 v1.heap.size (stoP (newSto v1 100) 2 (pL2 false) (List.replicate (k + 1 - 0) 1)) D4 PD := h6
        clear hws t4 h5 b5 h6 b4
        go_wp2_with fail
        go_loopw [12] (fun i wr => ∃ (m : Nat) (PD : DataW Value), m ≤ j ∧ i = .int .i64 m ∧ Holds wr v1.heap.size (stoP (newSto v1 100) 2 (pL2 false) (List.replicate (k + 1 - m) 1)) D4 PD ∧ Below w.heap.size w wr) (fun i _ => j - (intOf i).toNat)
        case atStart => exact ⟨0, _, by omega, rfl, h7, b6⟩
        case round =>
          clear h7 b6
          obtain ⟨m, PD, hm, rfl, h5, b4⟩ := hrel
          by_cases hlt : m < j
          · go_wp2_with fail
            refine (unpin_any h5 1 (by omega) (by omega) (by simp [stoP]; omega)).mono ?_
            rintro e w4 ⟨rfl, ⟨PD', h6⟩, t4⟩
            have b5 := below_turn b4 t4 (by rintro k rfl; simp [stoP, newSto]; omega)
            have h7 : Holds w4 v1.heap.size (stoP (newSto v1 100) 2 (pL2 false) (List.replicate (k + 1 - (m + 1)) 1)) D4 PD' := by
              have e : unpin (List.replicate (k + 1 - m) 1) 1 = List.replicate (k + 1 - (m + 1)) 1 := unpin_replicate _
              rw [← e]; exact h6
            clear h5 b4 t4 h6
            go_wp2_with fail
            go_roundw
            case rel => exact ⟨m + 1, PD', by omega, by go_num, h7, b5⟩
            case measure => simp [intOf]; omega
          · obtain rfl : m = j := by omega
            go_wp2_with fail
            have hcl := clean_any h5 (psorted false) (by simp [stoP]) (by intro p hp; have := List.eq_of_mem_replicate hp; omega)
            unfold CleanEnd at hcl
            simp only [stoP, least_replicate] at hcl
            by_cases hjk : m < k + 1
            · have hr : ¬ k + 1 - m = 0 := by omega
              rw [if_neg hr, pclean1] at hcl
              refine hcl.mono ?_
              rintro e w5 ⟨he, ⟨D6, h7⟩, t5⟩
              obtain rfl : e = .returned (.int .i64 0) := he
              have h8 : Holds w5 v1.heap.size (stoP (newSto v1 100) 2 (pL2 false) (List.replicate (k + 1 - m) 1)) D6 PD := h7
              have b6 : Below w.heap.size w w5 := below_turn b4 t5 (by rintro k rfl; simp [newSto]; omega)
              clear h5 b4 t5 h7 hcl
              have hjk' : (m : Int) < 1 + (k : Int) := by omega
              go_wp2_with fail
              refine (now_as h8 2 rfl).mono ?_
              rintro e w6 ⟨rfl, rfl⟩
              go_wp2_with fail
              refine (read_as h8 ⟨#[97]⟩ (size_small (by decide)) 2 ⟨#[110, 101, 119]⟩ true (by rfl)).mono ?_
              rintro e w6 ⟨rfl, rfl⟩
              go_wp2_with fail
              refine (read_as h8 ⟨#[97]⟩ (size_small (by decide)) 1 ⟨#[111, 108, 100]⟩ true (by rfl)).mono ?_
              rintro e w6 ⟨rfl, rfl⟩
              go_wp2_with fail
              refine (count_as h8 2 (by rfl)).mono ?_
              rintro e w6 ⟨rfl, b7⟩
              go_wp2_with fail
              go_ret
              exact ⟨rfl, below_step b6 b7⟩
            · have hr : k + 1 - m = 0 := by omega
              rw [if_pos hr, pclean2] at hcl
              refine hcl.mono ?_
              rintro e w5 ⟨he, ⟨D6, h7⟩, t5⟩
              obtain rfl : e = .returned (.int .i64 1) := he
              have h8 : Holds w5 v1.heap.size (stoP (newSto v1 100) 2 (vers [pv false] 2) (List.replicate (k + 1 - m) 1)) D6 PD := h7
              have b6 : Below w.heap.size w w5 := below_turn b4 t5 (by rintro k rfl; simp [newSto]; omega)
              clear h5 b4 t5 h7 hcl
              have hjk' : ¬ (m : Int) < 1 + (k : Int) := by omega
              go_wp2_with fail
              refine (now_as h8 2 rfl).mono ?_
              rintro e w6 ⟨rfl, rfl⟩
              go_wp2_with fail
              refine (read_as h8 ⟨#[97]⟩ (size_small (by decide)) 2 ⟨#[110, 101, 119]⟩ true (by rfl)).mono ?_
              rintro e w6 ⟨rfl, rfl⟩
              go_wp2_with fail
              refine (count_as h8 1 (by rfl)).mono ?_
              rintro e w6 ⟨rfl, b7⟩
              go_wp2_with fail
              go_ret
              exact ⟨rfl, below_step b6 b7⟩
      · go_wp2_with fail
        obtain ⟨W2, hW2⟩ : ∃ W2, W2 = (wr.alloc (.cells #[.string ⟨#[97]⟩, .string ⟨#[]⟩, .bool true] 37)).alloc (.cells #[.string ⟨#[97]⟩, .string ⟨#[]⟩, .bool true] 37) := ⟨_, rfl⟩
        have b5 : Below wr.heap.size wr W2 := by rw [hW2]; exact ((Below.refl _ _).alloc (Nat.le_refl _) _).alloc (by simp) _
        have hws : WrIs W2 (.slice (some ⟨wr.heap.size + 1, 0, none⟩) 1 1) [pv true] := by
          rw [hW2]
          have := heap_alloc_new (wr.alloc (.cells #[.string ⟨#[97]⟩, .string ⟨#[]⟩, .bool true] 37)) (.cells #[.string ⟨#[97]⟩, .string ⟨#[]⟩, .bool true] 37)
          simp only [World.size_alloc] at this
          exact wrIs_block (ws := [pv true]) this 1
        change Calls Try.prog 20 _ ((wr.alloc (.cells #[.string ⟨#[97]⟩, .string ⟨#[]⟩, .bool true] 37)).alloc (.cells #[.string ⟨#[97]⟩, .string ⟨#[]⟩, .bool true] 37)) _
        rw [← hW2]
        clear hW2
        refine (commit_any (h5.below b5) hws (by simp [pv]; decide) (by simp [stoP, newSto, pL1, vers]) (by simp [stoP])).mono ?_
        rintro e w4 ⟨he, ⟨D4, h6⟩, t4⟩
        obtain rfl : e = .returned (.tuple #[.int .i64 2, .int .i64 0]) := he
        have b6 : Below w.heap.size w w4 := below_turn (below_step b4 b5) t4 (by rintro k (rfl | rfl) <;> simp [stoP, newSto] <;> omega)
        have h7 : Holds w4 v1.heap.size (stoP (newSto v1 100) 2 (pL2 true) (List.replicate (k + 1 - 0) 1)) D4 PD := h6
        clear hws t4 h5 b5 h6 b4
        go_wp2_with fail
        go_loopw [12] (fun i wr => ∃ (m : Nat) (PD : DataW Value), m ≤ j ∧ i = .int .i64 m ∧ Holds wr v1.heap.size (stoP (newSto v1 100) 2 (pL2 true) (List.replicate (k + 1 - m) 1)) D4 PD ∧ Below w.heap.size w wr) (fun i _ => j - (intOf i).toNat)
        case atStart => exact ⟨0, _, by omega, rfl, h7, b6⟩
        case round =>
          clear h7 b6
          obtain ⟨m, PD, hm, rfl, h5, b4⟩ := hrel
          by_cases hlt : m < j
          · go_wp2_with fail
            refine (unpin_any h5 1 (by omega) (by omega) (by simp [stoP]; omega)).mono ?_
            rintro e w4 ⟨rfl, ⟨PD', h6⟩, t4⟩
            have b5 := below_turn b4 t4 (by rintro k rfl; simp [stoP, newSto]; omega)
            have h7 : Holds w4 v1.heap.size (stoP (newSto v1 100) 2 (pL2 true) (List.replicate (k + 1 - (m + 1)) 1)) D4 PD' := by
              have e : unpin (List.replicate (k + 1 - m) 1) 1 = List.replicate (k + 1 - (m + 1)) 1 := unpin_replicate _
              rw [← e]; exact h6
            clear h5 b4 t4 h6
            go_wp2_with fail
            go_roundw
            case rel => exact ⟨m + 1, PD', by omega, by go_num, h7, b5⟩
            case measure => simp [intOf]; omega
          · obtain rfl : m = j := by omega
            go_wp2_with fail
            have hcl := clean_any h5 (psorted true) (by simp [stoP]) (by intro p hp; have := List.eq_of_mem_replicate hp; omega)
            unfold CleanEnd at hcl
            simp only [stoP, least_replicate] at hcl
            by_cases hjk : m < k + 1
            · have hr : ¬ k + 1 - m = 0 := by omega
              rw [if_neg hr, pclean1] at hcl
              refine hcl.mono ?_
              rintro e w5 ⟨he, ⟨D6, h7⟩, t5⟩
              obtain rfl : e = .returned (.int .i64 0) := he
              have h8 : Holds w5 v1.heap.size (stoP (newSto v1 100) 2 (pL2 true) (List.replicate (k + 1 - m) 1)) D6 PD := h7
              have b6 : Below w.heap.size w w5 := below_turn b4 t5 (by rintro k rfl; simp [newSto]; omega)
              clear h5 b4 t5 h7 hcl
              have hjk' : (m : Int) < 1 + (k : Int) := by omega
              go_wp2_with fail
              refine (now_as h8 2 rfl).mono ?_
              rintro e w6 ⟨rfl, rfl⟩
              go_wp2_with fail
              refine (read_as h8 ⟨#[97]⟩ (size_small (by decide)) 2 ⟨#[]⟩ false (by rfl)).mono ?_
              rintro e w6 ⟨rfl, rfl⟩
              go_wp2_with fail
              refine (read_as h8 ⟨#[97]⟩ (size_small (by decide)) 1 ⟨#[111, 108, 100]⟩ true (by rfl)).mono ?_
              rintro e w6 ⟨rfl, rfl⟩
              go_wp2_with fail
              refine (count_as h8 2 (by rfl)).mono ?_
              rintro e w6 ⟨rfl, b7⟩
              go_wp2_with fail
              go_ret
              exact ⟨rfl, below_step b6 b7⟩
            · have hr : k + 1 - m = 0 := by omega
              rw [if_pos hr, pclean2] at hcl
              refine hcl.mono ?_
              rintro e w5 ⟨he, ⟨D6, h7⟩, t5⟩
              obtain rfl : e = .returned (.int .i64 2) := he
              have h8 : Holds w5 v1.heap.size (stoP (newSto v1 100) 2 [] (List.replicate (k + 1 - m) 1)) D6 PD := h7
              have b6 : Below w.heap.size w w5 := below_turn b4 t5 (by rintro k rfl; simp [newSto]; omega)
              clear h5 b4 t5 h7 hcl
              have hjk' : ¬ (m : Int) < 1 + (k : Int) := by omega
              go_wp2_with fail
              refine (now_as h8 2 rfl).mono ?_
              rintro e w6 ⟨rfl, rfl⟩
              go_wp2_with fail
              refine (read_as h8 ⟨#[97]⟩ (size_small (by decide)) 2 ⟨#[]⟩ false (by rfl)).mono ?_
              rintro e w6 ⟨rfl, rfl⟩
              go_wp2_with fail
              refine (count_as h8 0 (by rfl)).mono ?_
              rintro e w6 ⟨rfl, b7⟩
              go_wp2_with fail
              go_ret
              exact ⟨rfl, below_step b6 b7⟩

/-! ### THE ROW's STEP: WRITTEN OUT: LEAVE IT -/
set_option maxRecDepth 100000 in
theorem lifted (os : Os) (started : os.Started) (H : Type) (enc : TypeId × Value → H) :
    ReturnsInHanded {} Try.checked os 14 .any (Rows.storePinsSpec.pre6 enc Try.prog Try.f14 Rows.storePinsRow.domain false) (Rows.storePinsSpec.post enc Try.prog Try.f14 false true false false) := by
  refine returnsInHanded_of_change (C := Try.checked) own started (by kernel_rfl) Try.func14
    (ChangeSpec.witness6 (enc := enc) (C := Try.checked) false ⟨#[], #[.int .i64 0, .int .i64 0, .bool false], []⟩ 8 (by kernel_rfl) (by kernel_rfl) (by kernel_rfl) (by kernel_rfl)) ?_
  intro W base args ds gs before hval0 hW hcnd _
  have hval : ∀ (j : Nat) t v, Try.f14.params[j]? = some t → args[j]? = some v → Value.okWide Try.prog W .any base t v := hval0
  have hW' := hW
  obtain ⟨p, q, hA0, hV, rfl, hfz, hnd⟩ := hW
  have hA : DataW.TrodAll enc Try.prog W 0 (fun _ => true) true Try.f14.params.toList args.toList ds p := hA0
  rw [Try.params14] at hA hval
  obtain ⟨v0, vs0, d0, ds0, p0, q0, hargs, rfl, rfl, h0, r0⟩ := trodAll_cons hA
  obtain ⟨v1, vs1, d1, ds1, p1, q1, rfl, rfl, rfl, h1, r1⟩ := trodAll_cons r0
  obtain ⟨v2, vs2, d2, ds2, p2, q2, rfl, rfl, rfl, h2, r2⟩ := trodAll_cons r1
  obtain ⟨rfl, rfl, rfl⟩ := trodAll_nil r2
  obtain rfl : args = #[v0, v1, v2] := by cases args; simp_all
  obtain ⟨rfl, rfl⟩ := trodVars_none hV
  obtain ⟨a0, rfl, rfl, rfl, w0⟩ := open_int Try.underlying3 (hval 0 3 v0 rfl rfl) h0
  obtain ⟨a1, rfl, rfl, rfl, w1⟩ := open_int Try.underlying3 (hval 1 3 v1 rfl rfl) h1
  obtain ⟨a2, rfl, rfl, rfl⟩ := open_bool Try.underlying4 (hval 2 4 v2 rfl rfl) h2
  clear hA0 hval0
  refine (walk a0 a1 a2 W w0 w1).mono fun e W' ⟨he, bel⟩ => ?_
  subst he
  exact ⟨_, rfl, _, _, _, [], _, [], hW', trodAll_mk1 (shut_bool Try.underlying4 _), (trodAll_cons_mk (shut_int Try.underlying3 w0) (trodAll_cons_mk (shut_int Try.underlying3 w1) (trodAll_cons_mk (shut_bool Try.underlying4 _) trodAll_mk0))), rfl, bel.frame _, fun h => by cases h⟩

theorem over : Rows.storePinsRow.holds Try.pinned (OpenSpec.ofChange Rows.storePinsSpec) :=
  OpenClaim.holds_of_wide 14 Try.f14 rfl rfl rfl rfl rfl rfl rfl ⟨rfl, rfl, rfl, rfl, rfl⟩ rfl rfl rfl rfl rfl (by kernel_rfl) Try.func14 (by kernel_rfl)
    (of_decide_eq_true (by kernel_rfl)) (by unfold Func.isWrapper; first | (rw [if_pos (by decide +kernel)]; kernel_rfl) | (rw [if_neg (by decide +kernel)]; exact ⟨rfl, rfl⟩))
    (fun os started H enc _ => lifted os started H enc)

/-- ████ THE STATEMENT ████ -/
theorem proved : Rows.StorePinsSaid := over
#print axioms proved
end Go.Proofs.Ytghddmlndafefaa.storePins
