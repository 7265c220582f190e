/-
  Numbers that are held in bounds; names; what comes in as bytes.
-/
import Derived.Test.YtifdkkkcecpjoaaFrM
namespace Go.Proofs.Ytifdkkkcecpjoaa
open Go.RowKit
attribute [local go_sem ↓] Go.wp_at_zero Go.wp_at_succ

theorem tmod_neg' {a n : Int} (hn : 0 < n) (h : a < 0) : a.tmod n ≤ 0 ∧ -n < a.tmod n ∧ (a.tmod n = a % n ∨ (a.tmod n < 0 ∧ a.tmod n + n = a % n)) := by
  obtain ⟨b, rfl⟩ : ∃ b : Int, a = -b := ⟨-a, by omega⟩
  have e1 : (-b).tmod n = -(b.tmod n) := Int.neg_tmod b n
  have e2 : b.tmod n = b % n := Int.tmod_eq_emod_of_nonneg (by omega)
  have h3 := Int.emod_nonneg b (show n ≠ 0 by omega)
  have h4 := Int.emod_lt_of_pos b hn
  have h5 := Int.emod_nonneg (-b) (show n ≠ 0 by omega)
  have h6 := Int.emod_lt_of_pos (-b) hn
  have h7 := Int.mul_ediv_add_emod b n
  have h8 := Int.mul_ediv_add_emod (-b) n
  rw [e1, e2]
  refine ⟨by omega, by omega, ?_⟩
  have h9 : n * ((-b) / n + b / n) = -(b % n) - (-b) % n := by rw [Int.mul_add]; omega
  generalize (-b) / n + b / n = q at h9
  have q1 : q ≤ 0 := by
    apply Int.not_lt.1
    intro hq
    have := Int.mul_le_mul_of_nonneg_left (show 1 ≤ q by omega) (show 0 ≤ n by omega)
    omega
  have q2 : -2 < q := by
    apply Int.not_le.1
    intro hq
    have := Int.mul_le_mul_of_nonneg_left hq (show 0 ≤ n by omega)
    omega
  rcases (show q = 0 ∨ q = -1 by omega) with h | h <;> rw [h] at h9 <;> omega

set_option maxHeartbeats 400000 in
theorem within15 (a n : Int) (w : World) (hn : 0 < n) (hb : n ≤ 9223372036854775807) (ha : -9223372036854775808 ≤ a) (ha' : a ≤ 9223372036854775807) :
    Calls Try.prog 15 #[.int .i64 a, .int .i64 n] w fun e w' => e = .returned (.int .i64 (a % n)) ∧ w = w' := by
  by_cases h : 0 ≤ a
  · have h3 : 0 ≤ a % n := Int.emod_nonneg _ (by omega)
    go_enter Try.func15, Try.ntmps15
    go_wp2
    go_ret
    exact ⟨rfl, rfl⟩
  · obtain ⟨h4, h6, hx⟩ := tmod_neg' hn (show a < 0 by omega)
    have h7 := Int.emod_nonneg a (show n ≠ 0 by omega)
    have HX := Lib.hid hx
    clear hx
    go_enter Try.func15, Try.ntmps15
    go_wp2
    · go_ret
      exact ⟨ret_int (by rcases HX.out with h | h <;> omega), rfl⟩
    · go_ret
      exact ⟨ret_int (by rcases HX.out with h | h <;> omega), rfl⟩

set_option maxHeartbeats 400000 in
theorem within27 (a n : Int) (w : World) (hn : 0 < n) (hb : n ≤ 9223372036854775807) (ha : -9223372036854775808 ≤ a) (ha' : a ≤ 9223372036854775807) :
    Calls Try.prog 27 #[.int .i64 a, .int .i64 n] w fun e w' => e = .returned (.int .i64 (a % n)) ∧ w = w' := by
  by_cases h : 0 ≤ a
  · have h3 : 0 ≤ a % n := Int.emod_nonneg _ (by omega)
    go_enter Try.func27, Try.ntmps27
    go_wp2
    go_ret
    exact ⟨rfl, rfl⟩
  · obtain ⟨h4, h6, hx⟩ := tmod_neg' hn (show a < 0 by omega)
    have h7 := Int.emod_nonneg a (show n ≠ 0 by omega)
    have HX := Lib.hid hx
    clear hx
    go_enter Try.func27, Try.ntmps27
    go_wp2
    · go_ret
      exact ⟨ret_int (by rcases HX.out with h | h <;> omega), rfl⟩
    · go_ret
      exact ⟨ret_int (by rcases HX.out with h | h <;> omega), rfl⟩


/-- Bytes that came in. -/
theorem sl_of_row {w : World} {a : Option Addr} {len cap : Nat} {zs : List Int}
    (h : (a = none ∧ len = 0 ∧ cap = 0 ∧ zs = []) ∨ ∃ x, a = some x ∧ len ≤ cap ∧ cap ≤ maxLen ∧ zs.length = cap ∧ (∀ i, i < zs.length → w.cell? (x.add i) = some (.int .u8 (zs.getD i 0))) ∧ ∀ n ∈ zs, (Lit.int .u8 n).wf = true) :
    ∃ l, Sl w w.heap.size a len cap l := by
  rcases h with ⟨rfl, rfl, rfl, rfl⟩ | ⟨x, rfl, h1, h2, h3, h4, h5⟩
  · exact ⟨[], Sl.nil_ _ _⟩
  · refine ⟨(zs.take len).map fun n => UInt8.ofNat n.toNat, by simp; omega, h1, h2, ?_⟩
    refine ⟨by simp [bv]; omega, fun h0 => ⟨x, rfl, ?_, ?_⟩⟩
    · have := h4 0 (by omega)
      have hb := World.block_lt_of_cell? w _ this
      rw [block_of_add] at hb
      exact hb
    · intro j u hu
      simp only [bv, List.map_map, List.getElem?_map, List.getElem?_take, Option.map_eq_some_iff] at hu
      obtain ⟨n, hn, rfl⟩ := hu
      split at hn
      · rename_i hj
        have hjl : j < zs.length := by omega
        rw [h4 j hjl]
        have e : zs.getD j 0 = n := by simp [List.getD, hn]
        rw [e]
        have hw := h5 n (List.mem_of_getElem? hn)
        simp [Lit.wf, IntKind.min, IntKind.max, IntKind.signed, IntKind.bits] at hw
        simp only [Function.comp]
        congr 2
        rw [UInt8.toNat_ofNat']
        omega
      · cases hn

def names : Array Value := #[.string ⟨#[109, 97, 105, 110]⟩, .string ⟨#[97]⟩, .string ⟨#[98, 49]⟩, .string ⟨#[120]⟩, .string ⟨#[108, 105, 98]⟩, .string ⟨#[101, 110, 100]⟩, .string ⟨#[99]⟩, .string ⟨#[100]⟩, .string ⟨#[101]⟩, .string ⟨#[102]⟩, .string ⟨#[98, 97, 115, 101]⟩, .string ⟨#[107]⟩]
def NameEnd (w : World) (e : Ending) (w' : World) : Prop := ∃ s : ByteArray, e = .returned (.string s) ∧ isWord (bl s) = true ∧ s.size ≤ 12 ∧ Below w.heap.size w w'
theorem names_at : ∀ k : Nat, k < 12 → ∃ s : ByteArray, names[k]? = some (.string s) ∧ isWord (bl s) = true ∧ s.size ≤ 12
  | 0, _ => ⟨_, rfl, by decide, by decide⟩
  | 1, _ => ⟨_, rfl, by decide, by decide⟩
  | 2, _ => ⟨_, rfl, by decide, by decide⟩
  | 3, _ => ⟨_, rfl, by decide, by decide⟩
  | 4, _ => ⟨_, rfl, by decide, by decide⟩
  | 5, _ => ⟨_, rfl, by decide, by decide⟩
  | 6, _ => ⟨_, rfl, by decide, by decide⟩
  | 7, _ => ⟨_, rfl, by decide, by decide⟩
  | 8, _ => ⟨_, rfl, by decide, by decide⟩
  | 9, _ => ⟨_, rfl, by decide, by decide⟩
  | 10, _ => ⟨_, rfl, by decide, by decide⟩
  | 11, _ => ⟨_, rfl, by decide, by decide⟩
  | k + 12, h => absurd h (by omega)

set_option maxRecDepth 100000 in
set_option maxHeartbeats 400000 in
theorem name_any (n : Int) (w : World) (h0 : -9223372036854775808 ≤ n) (h1 : n ≤ 9223372036854775807) : Calls Try.prog 25 #[.int .i64 n] w (NameEnd w) := by
  have hk0 := Int.emod_nonneg n (show (12 : Int) ≠ 0 by omega)
  have hk1 := Int.emod_lt_of_pos n (show (0 : Int) < 12 by omega)
  obtain ⟨k, hk⟩ : ∃ k : Nat, n % 12 = (k : Int) := ⟨(n % 12).toNat, by omega⟩
  have hk12 : k < 12 := by omega
  obtain ⟨s, hs, hw, hz⟩ := names_at k hk12
  have hcell : (w.alloc (.cells names 9)).cell? ⟨w.heap.size, k, none⟩ = some (.string s) := (cell_of_row _ w.heap.size k names 9 (0, 0) (heap_alloc_new w _)).trans hs
  have HK := Lib.hid hk
  have HS := Lib.hid hs
  clear hk hs hk0 hk1
  unfold names at hcell
  go_enter Try.func25, Try.ntmps25
  go_wp2_with fail
  refine (within27 n 12 _ (by omega) (by omega) h0 h1).mono ?_
  rintro e w2 ⟨rfl, rfl⟩
  rw [HK.out]
  go_wp2_with fail

  go_ret
  exact ⟨s, rfl, hw, hz, (Below.refl _ _).alloc (Nat.le_refl _) _⟩
end Go.Proofs.Ytifdkkkcecpjoaa
