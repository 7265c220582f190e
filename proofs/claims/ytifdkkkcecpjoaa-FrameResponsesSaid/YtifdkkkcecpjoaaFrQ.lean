/-
  Responses that are drawn by numbers.
-/
import Derived.Test.YtifdkkkcecpjoaaFrN
import Derived.Test.YtifdkkkcecpjoaaWLast
namespace Go.Proofs.Ytifdkkkcecpjoaa
open Go.RowKit Go.Proofs.YtifdkkkcecpjoaaW
attribute [local go_sem ↓] Go.wp_at_zero Go.wp_at_succ
set_option linter.unusedSimpArgs false

def frs : Array Value := #[.string ⟨#[]⟩, .string ⟨#[109, 97, 105, 110]⟩, .string ⟨#[97]⟩, .string ⟨#[116, 119, 101, 108, 118, 101, 95, 98, 121, 116, 101, 115]⟩]
theorem frs_at : ∀ k : Nat, k < 4 → ∃ s : ByteArray, frs[k]? = some (.string s) ∧ ((bl s).isEmpty || isWord (bl s)) = true
  | 0, _ => ⟨_, rfl, by decide⟩
  | 1, _ => ⟨_, rfl, by decide⟩
  | 2, _ => ⟨_, rfl, by decide⟩
  | 3, _ => ⟨_, rfl, by decide⟩
  | k + 4, h => absurd h (by omega)

def GoodD (d : Dg) : Prop := d.right = true ∧ 0 ≤ d.e ∧ d.e ≤ 255
/-- Numbers that came in. -/
def Nums (w : World) (a : Option Addr) (len : Nat) (zs : List Int) : Prop := 0 < len → ∃ x, a = some x ∧ (∀ i, i < len → w.cell? (x.add i) = some (.int .i64 (zs.getD i 0))) ∧ ∀ i, i < len → -9223372036854775808 ≤ zs.getD i 0 ∧ zs.getD i 0 ≤ 9223372036854775807
theorem nums_of_row {w : World} {a : Option Addr} {len cap : Nat} {zs : List Int}
    (h : (a = none ∧ len = 0 ∧ cap = 0 ∧ zs = []) ∨ ∃ x, a = some x ∧ len ≤ cap ∧ cap ≤ maxLen ∧ zs.length = cap ∧ (∀ i, i < zs.length → w.cell? (x.add i) = some (.int .i64 (zs.getD i 0))) ∧ ∀ n ∈ zs, (Lit.int .i64 n).wf = true) :
    Nums w a len zs ∧ len ≤ maxLen := by
  rcases h with ⟨rfl, rfl, rfl, rfl⟩ | ⟨x, rfl, h1, h2, h3, h4, h5⟩
  · exact ⟨fun h => absurd h (by omega), Nat.zero_le _⟩
  · refine ⟨fun _ => ⟨x, rfl, fun i hi => h4 i (by omega), fun i hi => ?_⟩, by omega⟩
    have hl : i < zs.length := by omega
    have e : zs.getD i 0 = zs[i] := by simp [List.getD, hl]
    have hw := h5 zs[i] (List.getElem_mem hl)
    simp [Lit.wf, IntKind.min, IntKind.max, IntKind.signed, IntKind.bits] at hw
    rw [e]; omega
theorem Nums.below {w w' : World} {a : Option Addr} {len : Nat} {zs : List Int} (h : Nums w a len zs) (hb : Below w.heap.size w w') : Nums w' a len zs := fun h0 => by
  obtain ⟨x, e, h1, h2⟩ := h h0
  exact ⟨x, e, fun i hi => (World.cell?_of_block (hb.block _ (World.block_lt_of_cell? w _ (h1 i hi)))).trans (h1 i hi), h2⟩

def RespEnd (t : ByteArray) (iA : Option Addr) (iN iC : Nat) (w : World) (e : Ending) (w' : World) : Prop :=
  ∃ (x : Int) (ds : List Dg) (dA : Option Addr) (dC : Nat), e = .returned (rsv x t iA iN iC dA ds.length dC) ∧ 0 ≤ x ∧ x ≤ 14 ∧ ds.length ≤ 20 ∧ (∀ d ∈ ds, GoodD d) ∧ w'.ownsRow w.heap.size 57 3 (.slice dA ds.length dC) ds.length (dcells ds) ∧ Below w.heap.size w w'

def RInv (w : World) (x : Int) (t : ByteArray) (iA : Option Addr) (iN iC j : Nat) (wr : World) : Prop :=
  ∃ (ds : List Dg) (dv : Value), ds.length = j ∧ (∀ d ∈ ds, GoodD d) ∧ wr.heap[w.heap.size + 1]? = some (.cells #[.int .i64 x, .string t, .slice iA iN iC, dv] 42 (0, 0)) ∧
    wr.heap[w.heap.size]? = some (.cells #[.int .i64 0, .string ⟨#[]⟩, .slice none 0 0, .slice none 0 0] 42 (0, 0)) ∧ wr.ownsRow w.heap.size 57 3 dv j (dcells ds) ∧ Below w.heap.size w wr

theorem good_mk {s : ByteArray} {L E : Nat} (hs : ((bl s).isEmpty || isWord (bl s)) = true) (hL : L < 5001) (hE : E < 15) : GoodD ⟨bl s, (L : Int), (E : Int)⟩ := by
  refine ⟨?_, by simp, by simp; omega⟩
  simp only [Dg.right, hs]
  simp; omega

theorem rinv_push {w wr W w9 : World} {x : Int} {t s : ByteArray} {iA dA : Option Addr} {iN iC j dC L E : Nat} {ds : List Dg} {v : Value} (hown : wr.ownsRow w.heap.size 57 3 (.slice dA j dC) j (dcells ds))
    (hq7 : wr.heap[w.heap.size + 1]? = some (.cells #[.int .i64 x, .string t, .slice iA iN iC, .slice dA j dC] 42 (0, 0))) (hq6 : wr.heap[w.heap.size]? = some (.cells #[.int .i64 0, .string ⟨#[]⟩, .slice none 0 0, .slice none 0 0] 42 (0, 0)))
    (hb : Below w.heap.size w wr) (hgood : ∀ d ∈ ds, GoodD d) (hd : GoodD ⟨bl s, (L : Int), (E : Int)⟩) (hdl : ds.length = j) (hW : Below wr.heap.size wr W) (hg : W.grownBy w9 (Value.slice dA j dC).ownBlock)
    (ho : w9.ownsRow w.heap.size 57 3 v (j + 1) (dcells ds ++ [.string s, .int .i64 (L : Int), .int .i64 (E : Int)])) : RInv w x t iA iN iC (j + 1) (w9.setCell ⟨w.heap.size + 1, 3, none⟩ v) := by
  have hk : ∀ {q : Nat} {cs : Array Value} {ty : TypeId}, wr.heap[q]? = some (.cells cs ty (0, 0)) → 57 ≠ ty → w9.heap[q]? = wr.heap[q]? := fun {q cs ty} hq hne => by
    have hql := (Array.getElem?_eq_some_iff.1 hq).1
    exact (hg.block q (Nat.lt_of_lt_of_le hql hW.size) (fun e => own_blk_ne hown hq hne e.symm)).trans (hW.block q hql)
  have e7 := (hk hq7 (by decide)).trans hq7
  have e6 := (hk hq6 (by decide)).trans hq6
  have hb9 : Below w.heap.size w w9 := (hb.trans (hW.mono hb.size)).grown hg (Nat.le_trans hb.size hW.size) (fun k hk => by
    rcases hown.2 with ⟨e1, _⟩ | ⟨g', cap', cur', e1, hb', _⟩
    · rw [e1] at hk; simp [Value.ownBlock] at hk
    · rw [e1] at hk; simp [Value.ownBlock] at hk; omega)
  refine ⟨ds ++ [⟨bl s, (L : Int), (E : Int)⟩], v, by simp [hdl], ?_, ?_, ?_, ?_, hb9.setCell (p := ⟨w.heap.size + 1, 3, none⟩) (by show w.heap.size ≤ w.heap.size + 1; omega) _⟩
  · intro d hd'
    rcases List.mem_append.1 hd' with h | h
    · exact hgood d h
    · rw [List.mem_singleton.1 h]; exact hd
  · simp [World.setCell, Array.getElem?_modify, e7]
  · exact (Below.heap_setCell w9 ⟨w.heap.size + 1, 3, none⟩ v w.heap.size (fun e => by have e : w.heap.size = w.heap.size + 1 := e; omega)).trans e6
  · have e : dcells (ds ++ [⟨bl s, (L : Int), (E : Int)⟩]) = dcells ds ++ [.string s, .int .i64 (L : Int), .int .i64 (E : Int)] := by
      rw [dcells_append]; simp [dcells, Dg.cells, ba_bl]
    rw [e]
    exact own_keep ho e7 (by decide) (only_setCell (p := ⟨w.heap.size + 1, 3, none⟩) (World.grownBy.refl w9 (some (w.heap.size + 1))) (.inl rfl) v)

set_option maxRecDepth 100000 in
set_option maxHeartbeats 3200000 in
theorem resp_any {w : World} {a : Option Addr} {len cap : Nat} {zs : List Int} (h : Nums w a len zs) (hl : len ≤ maxLen) (t : ByteArray) (iA : Option Addr) (iN iC : Nat) :
    Calls Try.prog 20 #[.slice a len cap, .string t, .slice iA iN iC] w (RespEnd t iA iN iC w) := by
  obtain ⟨i57, hi, hz, hy, hx⟩ := info_parts info57
  unfold maxLen at hl
  obtain ⟨W2, hW2⟩ : ∃ W2, W2 = (w.alloc (.cells #[.int .i64 0, .string ⟨#[]⟩, .slice none 0 0, .slice none 0 0] 42)).alloc (.cells #[.int .i64 ((len : Int) % 15), .string t, .slice iA iN iC, .slice none 0 0] 42) := ⟨_, rfl⟩
  have b2 : Below w.heap.size w W2 := by rw [hW2]; exact ((Below.refl _ _).alloc (Nat.le_refl _) _).alloc (by simp) _
  have h0 : RInv w ((len : Int) % 15) t iA iN iC 0 W2 := by
    refine ⟨[], .slice none 0 0, rfl, (by intro d hd; cases hd), ?_, ?_, World.ownsRow_nil _ _ _ _, b2⟩
    · rw [hW2]
      have := heap_alloc_new (w.alloc (.cells #[.int .i64 0, .string ⟨#[]⟩, .slice none 0 0, .slice none 0 0] 42)) (.cells #[.int .i64 ((len : Int) % 15), .string t, .slice iA iN iC, .slice none 0 0] 42)
      simpa using this
    · rw [hW2]; exact (Below.heap_alloc _ _ _ (by simp)).trans (heap_alloc_new w _)
  have HW2 := Lib.hid hW2
  clear hW2 b2
  have hx0 := Int.emod_nonneg (len : Int) (show (15 : Int) ≠ 0 by omega)
  have hx1 := Int.emod_lt_of_pos (len : Int) (show (0 : Int) < 15 by omega)
  go_enter Try.func20, Try.ntmps20
  go_wp2_with fail
  rw [← HW2.out]
  obtain ⟨x, hxe⟩ : ∃ x, x = (len : Int) % 15 := ⟨_, rfl⟩
  rw [← hxe] at h0 hx0 hx1 ⊢
  clear hxe HW2
  go_wp2_with fail
  go_loopw [8] (fun i wr => ∃ j : Nat, j ≤ len ∧ j ≤ 20 ∧ i = .int .i64 j ∧ RInv w x t iA iN iC j wr) (fun i _ => 20 - (intOf i).toNat)
  case atStart => exact ⟨0, Nat.zero_le _, by omega, rfl, h0⟩
  case round =>
    obtain ⟨j, hj, hj20, rfl, hinv⟩ := hrel
    clear h0
    by_cases hlt : j < len ∧ j < 20
    · obtain ⟨hlt1, hlt2⟩ := hlt
      obtain ⟨ds, dv, hdl, hgood, hq7, hq6, hown, hb⟩ := hinv
      obtain ⟨ad, rfl, hc, hzb⟩ := h (by omega)
      have hdw := World.block_lt_of_cell? w _ (hc j hlt1)
      have hcz := (World.cell?_of_block (hb.block _ hdw)).trans (hc j hlt1)
      obtain ⟨hz0, hz1⟩ := hzb j hlt1
      generalize zs.getD j 0 = z at *
      obtain ⟨dA, dC, rfl⟩ := own_slice hown
      obtain ⟨-, -, -, k3⟩ := box4 hq7
      have HDL := Lib.hid hdl
      have HG := Lib.hid hgood
      have HQ7 := Lib.hid hq7
      have HQ6 := Lib.hid hq6
      clear h hc hzb hdl hgood hq7 hq6
      -- the numbers
      have z40 := Int.emod_nonneg z (show (4 : Int) ≠ 0 by omega)
      have z41 := Int.emod_lt_of_pos z (show (0 : Int) < 4 by omega)
      obtain ⟨k, hk⟩ : ∃ k : Nat, z % 4 = (k : Int) := ⟨(z % 4).toNat, by omega⟩
      obtain ⟨q4, hq4⟩ : ∃ q4 : Int, IntKind.i64.wrap (z.tdiv 4) = q4 := ⟨_, rfl⟩
      obtain ⟨q7, hq7⟩ : ∃ q7 : Int, IntKind.i64.wrap (z.tdiv 7) = q7 := ⟨_, rfl⟩
      have q4b : -9223372036854775808 ≤ q4 ∧ q4 ≤ 9223372036854775807 := by
        rw [← hq4, IntWalk.i64_left]; unfold wrap64; omega
      have q7b : -9223372036854775808 ≤ q7 ∧ q7 ≤ 9223372036854775807 := by
        rw [← hq7, IntWalk.i64_left]; unfold wrap64; omega
      have l0 := Int.emod_nonneg q4 (show (5001 : Int) ≠ 0 by omega)
      have l1 := Int.emod_lt_of_pos q4 (show (0 : Int) < 5001 by omega)
      obtain ⟨L, hL⟩ : ∃ L : Nat, q4 % 5001 = (L : Int) := ⟨(q4 % 5001).toNat, by omega⟩
      have m0 := Int.emod_nonneg q7 (show (15 : Int) ≠ 0 by omega)
      have m1 := Int.emod_lt_of_pos q7 (show (0 : Int) < 15 by omega)
      obtain ⟨E, hE⟩ : ∃ E : Nat, q7 % 15 = (E : Int) := ⟨(q7 % 15).toNat, by omega⟩
      have hk4 : k < 4 := by omega
      have hL5 : L < 5001 := by omega
      have hE15 : E < 15 := by omega
      obtain ⟨s, hs, hsg⟩ := frs_at k hk4
      have hvl : ([.string ⟨#[]⟩, .string ⟨#[109, 97, 105, 110]⟩, .string ⟨#[97]⟩, .string ⟨#[116, 119, 101, 108, 118, 101, 95, 98, 121, 116, 101, 115]⟩] : List Value)[k]? = some (.string s) := by simpa [frs] using hs
      have hgi : ([.string ⟨#[]⟩, .string ⟨#[109, 97, 105, 110]⟩, .string ⟨#[97]⟩, .string ⟨#[116, 119, 101, 108, 118, 101, 95, 98, 121, 116, 101, 115]⟩] : List Value)[k]'(by simp; omega) = .string s := (List.getElem?_eq_some_iff.1 hvl).2
      have hcf : (wr.alloc (.cells frs 9)).cell? ⟨wr.heap.size, k, none⟩ = some (.string s) := (cell_of_row _ wr.heap.size k frs 9 (0, 0) (heap_alloc_new wr _)).trans hs
      have HK := Lib.hid hk
      have HL := Lib.hid hL
      have HE := Lib.hid hE
      have hk4' : (k : Int) < 4 := by omega
      have hk0' : (0 : Int) ≤ (k : Int) := by omega
      have hjl' : (j : Int) < (len : Int) := by omega
      have hrs := hb.size
      have hr7 : w.heap.size + 1 < wr.heap.size := by
        rcases Nat.lt_or_ge (w.heap.size + 1) wr.heap.size with hh | hh
        · exact hh
        · have := HQ7.out; rw [Array.getElem?_eq_none hh] at this; cases this
      have hdb := (World.block_lt_of_cell? wr _ hcz)
      have g4 : ∀ W, Calls Try.prog 15 #[.int .i64 z, .int .i64 4] W fun e w' => e = .returned (.int .i64 (k : Int)) ∧ W = w' := fun W => by
        have := within15 z 4 W (by omega) (by omega) hz0 hz1
        rw [HK.out] at this; exact this
      have g5 : ∀ W, Calls Try.prog 15 #[.int .i64 q4, .int .i64 5001] W fun e w' => e = .returned (.int .i64 (L : Int)) ∧ W = w' := fun W => by
        have := within15 q4 5001 W (by omega) (by omega) q4b.1 q4b.2
        rw [HL.out] at this; exact this
      have g7 : ∀ W, Calls Try.prog 15 #[.int .i64 q7, .int .i64 15] W fun e w' => e = .returned (.int .i64 (E : Int)) ∧ W = w' := fun W => by
        have := within15 q7 15 W (by omega) (by omega) q7b.1 q7b.2
        rw [HE.out] at this; exact this
      have G4 := Lib.hid g4
      have G5 := Lib.hid g5
      have G7 := Lib.hid g7
      clear hk hL hE z40 z41 l0 l1 m0 m1 hvl hs g4 g5 g7 q4b q7b
      unfold frs at hcf
      have hdj : ds.length ≤ 20 := by have := HDL.out; omega
      have hjd : dC = dC := rfl
      have hownB : (((wr.alloc (.cells #[.string ⟨#[]⟩, .string ⟨#[109, 97, 105, 110]⟩, .string ⟨#[97]⟩, .string ⟨#[116, 119, 101, 108, 118, 101, 95, 98, 121, 116, 101, 115]⟩] 9)).alloc (.cells #[.string s, .int .i64 (L : Int), .int .i64 (E : Int)] 57)).drew).ownsRow w.heap.size 57 3 (.slice dA j dC) j (dcells ds) := ((hown.alloc _).alloc _).drew
      have hnewb : (((wr.alloc (.cells #[.string ⟨#[]⟩, .string ⟨#[109, 97, 105, 110]⟩, .string ⟨#[97]⟩, .string ⟨#[116, 119, 101, 108, 118, 101, 95, 98, 121, 116, 101, 115]⟩] 9)).alloc (.cells #[.string s, .int .i64 (L : Int), .int .i64 (E : Int)] 57)).drew).heap[wr.heap.size + 1]? = some (.cells #[.string s, .int .i64 (L : Int), .int .i64 (E : Int)] 57 (0, 0)) := by
        have := heap_alloc_new (wr.alloc (.cells #[.string ⟨#[]⟩, .string ⟨#[109, 97, 105, 110]⟩, .string ⟨#[97]⟩, .string ⟨#[116, 119, 101, 108, 118, 101, 95, 98, 121, 116, 101, 115]⟩] 9)) (.cells #[.string s, .int .i64 (L : Int), .int .i64 (E : Int)] 57)
        rw [show (wr.alloc (.cells #[.string ⟨#[]⟩, .string ⟨#[109, 97, 105, 110]⟩, .string ⟨#[97]⟩, .string ⟨#[116, 119, 101, 108, 118, 101, 95, 98, 121, 116, 101, 115]⟩] 9)).heap.size = wr.heap.size + 1 by simp] at this
        exact this
      have hSB : ((wr.alloc (.cells #[.string ⟨#[]⟩, .string ⟨#[109, 97, 105, 110]⟩, .string ⟨#[97]⟩, .string ⟨#[116, 119, 101, 108, 118, 101, 95, 98, 121, 116, 101, 115]⟩] 9)).drew).cell? (ad.add j) = some (.int .i64 z) ∧ ((wr.alloc (.cells #[.string ⟨#[]⟩, .string ⟨#[109, 97, 105, 110]⟩, .string ⟨#[97]⟩, .string ⟨#[116, 119, 101, 108, 118, 101, 95, 98, 121, 116, 101, 115]⟩] 9)).drew).cell? ⟨w.heap.size + 1, 3, none⟩ = some (.slice dA j dC) :=
        ⟨(World.cell?_of_block (Below.heap_alloc wr (.cells #[.string ⟨#[]⟩, .string ⟨#[109, 97, 105, 110]⟩, .string ⟨#[97]⟩, .string ⟨#[116, 119, 101, 108, 118, 101, 95, 98, 121, 116, 101, 115]⟩] 9) _ hdb)).trans hcz, (World.cell?_of_block (a := ⟨w.heap.size + 1, 3, none⟩) (Below.heap_alloc wr (.cells #[.string ⟨#[]⟩, .string ⟨#[109, 97, 105, 110]⟩, .string ⟨#[97]⟩, .string ⟨#[116, 119, 101, 108, 118, 101, 95, 98, 121, 116, 101, 115]⟩] 9) _ hr7)).trans k3⟩
      have hSC : (((wr.alloc (.cells #[.string ⟨#[]⟩, .string ⟨#[109, 97, 105, 110]⟩, .string ⟨#[97]⟩, .string ⟨#[116, 119, 101, 108, 118, 101, 95, 98, 121, 116, 101, 115]⟩] 9)).alloc (.cells #[.string s, .int .i64 (L : Int), .int .i64 (E : Int)] 57)).drew).cell? (ad.add j) = some (.int .i64 z) ∧ (((wr.alloc (.cells #[.string ⟨#[]⟩, .string ⟨#[109, 97, 105, 110]⟩, .string ⟨#[97]⟩, .string ⟨#[116, 119, 101, 108, 118, 101, 95, 98, 121, 116, 101, 115]⟩] 9)).alloc (.cells #[.string s, .int .i64 (L : Int), .int .i64 (E : Int)] 57)).drew).cell? ⟨w.heap.size + 1, 3, none⟩ = some (.slice dA j dC) :=
        ⟨(World.cell?_of_block (Below.heap_alloc (wr.alloc (.cells #[.string ⟨#[]⟩, .string ⟨#[109, 97, 105, 110]⟩, .string ⟨#[97]⟩, .string ⟨#[116, 119, 101, 108, 118, 101, 95, 98, 121, 116, 101, 115]⟩] 9)) (.cells #[.string s, .int .i64 (L : Int), .int .i64 (E : Int)] 57) _ (by simp; omega))).trans hSB.1, (World.cell?_of_block (a := ⟨w.heap.size + 1, 3, none⟩) (Below.heap_alloc (wr.alloc (.cells #[.string ⟨#[]⟩, .string ⟨#[109, 97, 105, 110]⟩, .string ⟨#[97]⟩, .string ⟨#[116, 119, 101, 108, 118, 101, 95, 98, 121, 116, 101, 115]⟩] 9)) (.cells #[.string s, .int .i64 (L : Int), .int .i64 (E : Int)] 57) _ (by simp; omega))).trans hSB.2⟩
      have hbs : w.heap.size ≤ (((wr.alloc (.cells #[.string ⟨#[]⟩, .string ⟨#[109, 97, 105, 110]⟩, .string ⟨#[97]⟩, .string ⟨#[116, 119, 101, 108, 118, 101, 95, 98, 121, 116, 101, 115]⟩] 9)).alloc (.cells #[.string s, .int .i64 (L : Int), .int .i64 (E : Int)] 57)).drew).heap.size := by simp; omega
      have hFIN : ∀ (g9 cap9 : Nat) (w9 : World), (((wr.alloc (.cells #[.string ⟨#[]⟩, .string ⟨#[109, 97, 105, 110]⟩, .string ⟨#[97]⟩, .string ⟨#[116, 119, 101, 108, 118, 101, 95, 98, 121, 116, 101, 115]⟩] 9)).alloc (.cells #[.string s, .int .i64 (L : Int), .int .i64 (E : Int)] 57)).drew).grownBy w9 (Value.slice dA j dC).ownBlock → w9.ownsRow w.heap.size 57 3 (.slice (some ⟨g9, 0, none⟩) (j + 1) cap9) (j + 1) (dcells ds ++ [.string s, .int .i64 (L : Int), .int .i64 (E : Int)]) →
          Hid (RInv w x t iA iN iC (j + 1) (w9.setCell ⟨w.heap.size + 1, 3, none⟩ (.slice (some ⟨g9, 0, none⟩) (j + 1) cap9))) := fun g9 cap9 w9 hg ho =>
        rinv_push hown HQ7.out HQ6.out hb HG.out (good_mk hsg hL5 hE15) HDL.out ((((Below.refl _ _).alloc (Nat.le_refl _) _).alloc (by simp) _).drew) hg ho
      have hGB : ∀ w9 : World, (((wr.alloc (.cells #[.string ⟨#[]⟩, .string ⟨#[109, 97, 105, 110]⟩, .string ⟨#[97]⟩, .string ⟨#[116, 119, 101, 108, 118, 101, 95, 98, 121, 116, 101, 115]⟩] 9)).alloc (.cells #[.string s, .int .i64 (L : Int), .int .i64 (E : Int)] 57)).drew).grownBy w9 (Value.slice dA j dC).ownBlock → w9.cell? (ad.add j) = some (.int .i64 z) ∧ w9.cell? ⟨w.heap.size + 1, 3, none⟩ = some (.slice dA j dC) ∧ w9.heap[w.heap.size + 1]? = some (.cells #[.int .i64 x, .string t, .slice iA iN iC, .slice dA j dC] 42 (0, 0)) := fun w9 hg => by
        have e7 : w9.heap[w.heap.size + 1]? = some (.cells #[.int .i64 x, .string t, .slice iA iN iC, .slice dA j dC] 42 (0, 0)) := by
          refine (hg.block _ (by simp; omega) (fun e => own_blk_ne hown HQ7.out (by decide) e.symm)).trans ?_
          exact (Below.heap_alloc _ _ _ (by simp; omega)).trans ((Below.heap_alloc _ _ _ hr7).trans HQ7.out)
        refine ⟨?_, (box4 e7).2.2.2, e7⟩
        refine (World.cell?_of_block (hg.block _ (by simp; omega) (fun e => ?_))).trans hSC.1
        rcases hown.2 with ⟨e1, _⟩ | ⟨g', cap', cur', e1, hb', _⟩
        · rw [e1] at e; simp [Value.ownBlock] at e
        · rw [e1] at e; simp [Value.ownBlock] at e; omega
      have HOWN := Lib.hid hownB
      have HNB := Lib.hid hnewb
      have HSB := Lib.hid hSB
      have HSC := Lib.hid hSC
      have HBS := Lib.hid hbs
      have HFIN := Lib.hid hFIN
      have HGB := Lib.hid hGB
      clear hownB hnewb hSB hSC hbs hFIN hGB hjd hown hb hsg
      go_wp2_with fail
      refine PrintLast.start_ (n := 27) (S := fun w' => w'.cell? (ad.add j) = some (.int .i64 z) ∧ w'.cell? ⟨w.heap.size + 1, 3, none⟩ = some (.slice dA j dC)) (ds := [26]) #[false, false, false, false, false, false, false, false, false, false, false, false, false, false, false, false, false, false, false, false, false, false, false, false, false, false, false] (by kernel_rfl) rfl rfl ⟨hcz, k3⟩ (fun hHeld => ?_)
      refine PrintLast.pure_ (i := 0) (N := some 25) (v := ?_) (a' := ?_) #[true, false, false, false, false, false, false, false, false, false, false, false, false, false, false, false, false, false, false, false, false, false, false, false, false, false, false] rfl rfl (by kernel_rfl) (fun _ _ _ h => h) (Or.inl ⟨by rfl, ?_⟩) ?_ ?_
      rotate_left
      · intro w'
        go_simp
        with_reducible rfl
      rotate_left
      · simp only [Act.put, List.setIfInBounds_toArray, List.set_cons_zero, List.set_cons_succ]
        rfl
      refine PrintLast.pure_ (i := 3) (N := some 28) (v := ?_) (a' := ?_) #[true, false, false, true, false, false, false, false, false, false, false, false, false, false, false, false, false, false, false, false, false, false, false, false, false, false, false] rfl rfl (by kernel_rfl) (fun _ _ _ h => h) (Or.inl ⟨by rfl, ?_⟩) ?_ ?_
      rotate_left
      · intro w'
        go_simp
        with_reducible rfl
      rotate_left
      · simp only [Act.put, List.setIfInBounds_toArray, List.set_cons_zero, List.set_cons_succ]
        rfl
      refine PrintLast.pure_ (i := 4) (N := some 29) (v := ?_) (a' := ?_) #[true, false, false, true, true, false, false, false, false, false, false, false, false, false, false, false, false, false, false, false, false, false, false, false, false, false, false] rfl rfl (by kernel_rfl) (fun _ _ _ h => h) (Or.inl ⟨by rfl, ?_⟩) ?_ ?_
      rotate_left
      · intro w'
        go_simp
        with_reducible rfl
      rotate_left
      · simp only [Act.put, List.setIfInBounds_toArray, List.set_cons_zero, List.set_cons_succ]
        rfl
      refine PrintLast.pure_ (i := 5) (N := some 30) (v := ?_) (a' := ?_) #[true, false, false, true, true, true, false, false, false, false, false, false, false, false, false, false, false, false, false, false, false, false, false, false, false, false, false] rfl rfl (by kernel_rfl) (fun _ _ _ h => h) (Or.inl ⟨by rfl, ?_⟩) ?_ ?_
      rotate_left
      · intro w'
        go_simp
        with_reducible rfl
      rotate_left
      · simp only [Act.put, List.setIfInBounds_toArray, List.set_cons_zero, List.set_cons_succ]
        rfl
      refine PrintLast.pure_ (i := 10) (N := some 35) (v := ?_) (a' := ?_) #[true, false, false, true, true, true, false, false, false, false, true, false, false, false, false, false, false, false, false, false, false, false, false, false, false, false, false] rfl rfl (by kernel_rfl) (fun _ _ _ h => h) (Or.inl ⟨by rfl, ?_⟩) ?_ ?_
      rotate_left
      · intro w'
        go_simp
        with_reducible rfl
      rotate_left
      · simp only [Act.put, List.setIfInBounds_toArray, List.set_cons_zero, List.set_cons_succ]
        rfl
      refine PrintLast.pure_ (i := 11) (N := some 36) (v := ?_) (a' := ?_) #[true, false, false, true, true, true, false, false, false, false, true, true, false, false, false, false, false, false, false, false, false, false, false, false, false, false, false] rfl rfl (by kernel_rfl) (fun _ _ _ h => h) (Or.inl ⟨by rfl, ?_⟩) ?_ ?_
      rotate_left
      · intro w'
        go_simp
        with_reducible rfl
      rotate_left
      · simp only [Act.put, List.setIfInBounds_toArray, List.set_cons_zero, List.set_cons_succ]
        rfl
      refine PrintLast.pure_ (i := 12) (N := some 37) (v := ?_) (a' := ?_) #[true, false, false, true, true, true, false, false, false, false, true, true, true, false, false, false, false, false, false, false, false, false, false, false, false, false, false] rfl rfl (by kernel_rfl) (fun _ _ _ h => h) (Or.inl ⟨by rfl, ?_⟩) ?_ ?_
      rotate_left
      · intro w'
        go_simp
        with_reducible rfl
      rotate_left
      · simp only [Act.put, List.setIfInBounds_toArray, List.set_cons_zero, List.set_cons_succ]
        rfl
      refine PrintLast.pure_ (i := 16) (N := some 41) (v := ?_) (a' := ?_) #[true, false, false, true, true, true, false, false, false, false, true, true, true, false, false, false, true, false, false, false, false, false, false, false, false, false, false] rfl rfl (by kernel_rfl) (fun _ _ _ h => h) (Or.inl ⟨by rfl, ?_⟩) ?_ ?_
      rotate_left
      · intro w'
        go_simp
        with_reducible rfl
      rotate_left
      · simp only [Act.put, List.setIfInBounds_toArray, List.set_cons_zero, List.set_cons_succ]
        rfl
      refine PrintLast.pure_ (i := 17) (N := some 42) (v := ?_) (a' := ?_) #[true, false, false, true, true, true, false, false, false, false, true, true, true, false, false, false, true, true, false, false, false, false, false, false, false, false, false] rfl rfl (by kernel_rfl) (fun _ _ _ h => h) (Or.inl ⟨by rfl, ?_⟩) ?_ ?_
      rotate_left
      · intro w'
        go_simp
        with_reducible rfl
      rotate_left
      · simp only [Act.put, List.setIfInBounds_toArray, List.set_cons_zero, List.set_cons_succ]
        rfl
      refine PrintLast.pure_ (i := 18) (N := some 43) (v := ?_) (a' := ?_) #[true, false, false, true, true, true, false, false, false, false, true, true, true, false, false, false, true, true, true, false, false, false, false, false, false, false, false] rfl rfl (by kernel_rfl) (fun _ _ _ h => h) (Or.inl ⟨by rfl, ?_⟩) ?_ ?_
      rotate_left
      · intro w'
        go_simp
        with_reducible rfl
      rotate_left
      · simp only [Act.put, List.setIfInBounds_toArray, List.set_cons_zero, List.set_cons_succ]
        rfl
      refine PrintLast.take_ (i := 1) (N := some 26) (v := ?_) (a' := ?_) #[true, true, false, true, true, true, false, false, false, false, true, true, true, false, false, false, true, true, true, false, false, false, false, false, false, false, false] rfl rfl (by kernel_rfl) (fun _ _ _ h => h) (Or.inl ⟨by rfl, ?_⟩) hHeld ?_ ?_
      rotate_left
      · rintro w' ⟨s0, s1⟩
        go_simp
        with_reducible rfl
      rotate_left
      · simp only [Act.put, List.setIfInBounds_toArray, List.set_cons_zero, List.set_cons_succ]
        rfl
      refine PrintLast.take_ (i := 6) (N := some 31) (v := ?_) (a' := ?_) #[true, true, false, true, true, true, true, false, false, false, true, true, true, false, false, false, true, true, true, false, false, false, false, false, false, false, false] rfl rfl (by kernel_rfl) (fun _ _ _ h => h) (Or.inl ⟨by rfl, ?_⟩) hHeld ?_ ?_
      rotate_left
      · rintro w' ⟨s0, s1⟩
        go_simp
        with_reducible rfl
      rotate_left
      · simp only [Act.put, List.setIfInBounds_toArray, List.set_cons_zero, List.set_cons_succ]
        rfl
      refine PrintLast.take_ (i := 13) (N := some 38) (v := ?_) (a' := ?_) #[true, true, false, true, true, true, true, false, false, false, true, true, true, true, false, false, true, true, true, false, false, false, false, false, false, false, false] rfl rfl (by kernel_rfl) (fun _ _ _ h => h) (Or.inl ⟨by rfl, ?_⟩) hHeld ?_ ?_
      rotate_left
      · rintro w' ⟨s0, s1⟩
        go_simp
        with_reducible rfl
      rotate_left
      · simp only [Act.put, List.setIfInBounds_toArray, List.set_cons_zero, List.set_cons_succ]
        rfl
      refine PrintLast.pure_ (i := 14) (N := some 39) (v := ?_) (a' := ?_) #[true, true, false, true, true, true, true, false, false, false, true, true, true, true, true, false, true, true, true, false, false, false, false, false, false, false, false] rfl rfl (by kernel_rfl) (fun _ _ _ h => h) (Or.inl ⟨by rfl, ?_⟩) ?_ ?_
      rotate_left
      · intro w'
        go_simp
        with_reducible rfl
      rotate_left
      · simp only [Act.put, List.setIfInBounds_toArray, List.set_cons_zero, List.set_cons_succ]
        rfl
      refine PrintLast.take_ (i := 19) (N := some 44) (v := ?_) (a' := ?_) #[true, true, false, true, true, true, true, false, false, false, true, true, true, true, true, false, true, true, true, true, false, false, false, false, false, false, false] rfl rfl (by kernel_rfl) (fun _ _ _ h => h) (Or.inl ⟨by rfl, ?_⟩) hHeld ?_ ?_
      rotate_left
      · rintro w' ⟨s0, s1⟩
        go_simp
        with_reducible rfl
      rotate_left
      · simp only [Act.put, List.setIfInBounds_toArray, List.set_cons_zero, List.set_cons_succ]
        rfl
      refine PrintLast.pure_ (i := 20) (N := some 45) (v := ?_) (a' := ?_) #[true, true, false, true, true, true, true, false, false, false, true, true, true, true, true, false, true, true, true, true, true, false, false, false, false, false, false] rfl rfl (by kernel_rfl) (fun _ _ _ h => h) (Or.inl ⟨by rfl, ?_⟩) ?_ ?_
      rotate_left
      · intro w'
        go_simp
        with_reducible rfl
      rotate_left
      · simp only [Act.put, List.setIfInBounds_toArray, List.set_cons_zero, List.set_cons_succ]
        rfl
      refine PrintLast.two_ (i := 2) (j := 7) (Ni := some 27) (Nj := some 32) #[true, true, true, true, true, true, true, false, false, false, true, true, true, true, true, false, true, true, true, true, true, false, false, false, false, false, false] #[true, true, false, true, true, true, true, true, false, false, true, true, true, true, true, false, true, true, true, true, true, false, false, false, false, false, false] rfl rfl rfl rfl (by kernel_rfl) (by decide) (by decide) (fun K hK => ?_) (fun K hK => ?_)
      · skip
        refine PrintLast.value_ (w1 := ?_) (v := ?_) (by rfl) rfl ?_ ?_
        rotate_left 2
        · go_simp
          constructor
          · rfl
          · rfl
        refine hK.out _ _ HSB.out (fun hHeld => ?_)
        clear hK K
        refine PrintLast.norm_ (a' := ?_) ?_ ?_
        rotate_left
        · show Act.put _ (some 27) _ = _
          simp only [Act.put, List.setIfInBounds_toArray, List.set_cons_zero, List.set_cons_succ]
          rfl
        refine PrintLast.one_ (i := 7) (N := some 32) #[true, true, true, true, true, true, true, true, false, false, true, true, true, true, true, false, true, true, true, true, true, false, false, false, false, false, false] rfl rfl (by kernel_rfl) (by decide) (fun K hK => ?_)
        refine PrintLast.goes_ Try.func15 (by kernel_rfl) rfl #[.int .i64 z, .int .i64 4] (by rfl) rfl rfl (by simp only [List.map_toArray, List.map_cons, List.map_nil]; rfl) ?_
        with_reducible refine (G4.out _).mono ?_
        rintro e w5 ⟨rfl, rfl⟩
        refine ⟨_, rfl, ?_⟩
        refine hK.out _ _ hHeld (fun hHeld => ?_)
        clear hK K
        refine PrintLast.norm_ (a' := ?_) ?_ ?_
        rotate_left
        · show Act.put _ (some 32) _ = _
          simp only [Act.put, List.setIfInBounds_toArray, List.set_cons_zero, List.set_cons_succ]
          rfl
        refine PrintLast.pure_ (i := 8) (N := some 33) (v := ?_) (a' := ?_) #[true, true, true, true, true, true, true, true, true, false, true, true, true, true, true, false, true, true, true, true, true, false, false, false, false, false, false] rfl rfl (by kernel_rfl) (fun _ _ _ h => h) (Or.inl ⟨by rfl, ?_⟩) ?_ ?_
        rotate_left
        · intro w'
          go_simp
          with_reducible rfl
        rotate_left
        · simp only [Act.put, List.setIfInBounds_toArray, List.set_cons_zero, List.set_cons_succ]
          rfl
        refine PrintLast.two_ (i := 9) (j := 15) (Ni := some 34) (Nj := some 40) #[true, true, true, true, true, true, true, true, true, true, true, true, true, true, true, false, true, true, true, true, true, false, false, false, false, false, false] #[true, true, true, true, true, true, true, true, true, false, true, true, true, true, true, true, true, true, true, true, true, false, false, false, false, false, false] rfl rfl rfl rfl (by kernel_rfl) (by decide) (by decide) (fun K hK => ?_) (fun K hK => ?_)
        · skip
          refine PrintLast.value_ (w1 := ?_) (v := ?_) (by rfl) rfl ?_ ?_
          rotate_left 2
          · go_simp
            constructor
            · rfl
            · rfl
          refine hK.out _ _ hHeld (fun hHeld => ?_)
          clear hK K
          refine PrintLast.norm_ (a' := ?_) ?_ ?_
          rotate_left
          · show Act.put _ (some 34) _ = _
            simp only [Act.put, List.setIfInBounds_toArray, List.set_cons_zero, List.set_cons_succ]
            rfl
          refine PrintLast.one_ (i := 15) (N := some 40) #[true, true, true, true, true, true, true, true, true, true, true, true, true, true, true, true, true, true, true, true, true, false, false, false, false, false, false] rfl rfl (by kernel_rfl) (by decide) (fun K hK => ?_)
          refine PrintLast.goes_ Try.func15 (by kernel_rfl) rfl #[.int .i64 q4, .int .i64 5001] (by rfl) rfl rfl (by simp only [List.map_toArray, List.map_cons, List.map_nil]; rfl) ?_
          with_reducible refine (G5.out _).mono ?_
          rintro e w5 ⟨rfl, rfl⟩
          refine ⟨_, rfl, ?_⟩
          refine hK.out _ _ hHeld (fun hHeld => ?_)
          clear hK K
          refine PrintLast.norm_ (a' := ?_) ?_ ?_
          rotate_left
          · show Act.put _ (some 40) _ = _
            simp only [Act.put, List.setIfInBounds_toArray, List.set_cons_zero, List.set_cons_succ]
            rfl
          refine PrintLast.one_ (i := 21) (N := some 46) #[true, true, true, true, true, true, true, true, true, true, true, true, true, true, true, true, true, true, true, true, true, true, false, false, false, false, false] rfl rfl (by kernel_rfl) (by decide) (fun K hK => ?_)
          refine PrintLast.goes_ Try.func15 (by kernel_rfl) rfl #[.int .i64 q7, .int .i64 15] (by rfl) rfl rfl (by simp only [List.map_toArray, List.map_cons, List.map_nil]; rfl) ?_
          with_reducible refine (G7.out _).mono ?_
          rintro e w5 ⟨rfl, rfl⟩
          refine ⟨_, rfl, ?_⟩
          refine hK.out _ _ hHeld (fun hHeld => ?_)
          clear hK K
          refine PrintLast.norm_ (a' := ?_) ?_ ?_
          rotate_left
          · show Act.put _ (some 46) _ = _
            simp only [Act.put, List.setIfInBounds_toArray, List.set_cons_zero, List.set_cons_succ]
            rfl
          refine PrintLast.pure_ (i := 22) (N := some 47) (v := ?_) (a' := ?_) #[true, true, true, true, true, true, true, true, true, true, true, true, true, true, true, true, true, true, true, true, true, true, true, false, false, false, false] rfl rfl (by kernel_rfl) (fun _ _ _ h => h) (Or.inl ⟨by rfl, ?_⟩) ?_ ?_
          rotate_left
          · intro w'
            go_simp
            with_reducible rfl
          rotate_left
          · simp only [Act.put, List.setIfInBounds_toArray, List.set_cons_zero, List.set_cons_succ]
            rfl
          refine PrintLast.one_ (i := 23) (N := some 48) #[true, true, true, true, true, true, true, true, true, true, true, true, true, true, true, true, true, true, true, true, true, true, true, true, false, false, false] rfl rfl (by kernel_rfl) (by decide) (fun K hK => ?_)
          refine PrintLast.value_ (w1 := ?_) (v := ?_) (by rfl) rfl ?_ ?_
          rotate_left 2
          · go_simp
            constructor
            · rfl
            · rfl
          refine hK.out _ _ HSC.out (fun hHeld => ?_)
          clear hK K
          refine PrintLast.norm_ (a' := ?_) ?_ ?_
          rotate_left
          · show Act.put _ (some 48) _ = _
            simp only [Act.put, List.setIfInBounds_toArray, List.set_cons_zero, List.set_cons_succ]
            rfl
          refine PrintLast.one_ (i := 24) (N := some 49) #[true, true, true, true, true, true, true, true, true, true, true, true, true, true, true, true, true, true, true, true, true, true, true, true, true, false, false] rfl rfl (by kernel_rfl) (by decide) (fun K hK => ?_)
          refine step_append_lies _ (by rfl) _ _ _ (by rfl) w.heap.size 57 i57 _ 3 32 Try.underlying40 hi hz hy hx rfl (by omega) _ _ _ (by rfl) HOWN.out ⟨wr.heap.size + 1, 0, none⟩ 1 1 [.string s, .int .i64 (L : Int), .int .i64 (E : Int)] (by rfl) (by rfl) (World.news_of_block (cs := #[.string s, .int .i64 (L : Int), .int .i64 (E : Int)]) (t := 57) (fr := (0, 0)) HNB.out) (by simp [Value.oneCell']) (by omega) (by unfold maxLen; omega) (by omega) HBS.out _ rfl ?_
          intro g9 cap9 w9 hown9 hgrow9 _ _
          have hF9 := HGB.out w9 hgrow9
          have f9 : w9.frozen? ⟨w.heap.size + 1, 3, none⟩ = false := by have := hF9.2.2; simp [World.frozen?, this]
          refine hK.out _ _ ⟨hF9.1, hF9.2.1⟩ (fun hHeld => ?_)
          clear hK K
          refine PrintLast.norm_ (a' := ?_) ?_ ?_
          rotate_left
          · show Act.put _ (some 49) _ = _
            simp only [Act.put, List.setIfInBounds_toArray, List.set_cons_zero, List.set_cons_succ]
            rfl
          refine PrintLast.pure_ (i := 25) (N := some 50) (v := ?_) (a' := ?_) #[true, true, true, true, true, true, true, true, true, true, true, true, true, true, true, true, true, true, true, true, true, true, true, true, true, true, false] rfl rfl (by kernel_rfl) (fun _ _ _ h => h) (Or.inl ⟨by rfl, ?_⟩) ?_ ?_
          rotate_left
          · intro w'
            go_simp
            with_reducible rfl
          rotate_left
          · simp only [Act.put, List.setIfInBounds_toArray, List.set_cons_zero, List.set_cons_succ]
            rfl
          refine PrintLast.last_ (i := 26) (N := none) #[true, true, true, true, true, true, true, true, true, true, true, true, true, true, true, true, true, true, true, true, true, true, true, true, true, true, true] rfl rfl (by kernel_rfl) (by decide) (fun K hK => ?_)
          refine PrintLast.skip_ (w1 := ?_) (by rfl) rfl ?_ ?_
          rotate_left
          · go_simp
            rfl
          refine hK.out _ _ ?_
          clear hK K
          refine PrintLast.done_ (by kernel_rfl) ?_
          have HF := HFIN.out g9 cap9 w9 hgrow9 hown9
          clear hown9 hgrow9 hF9 f9 hHeld
          go_wp2_with fail
          go_roundw
          case rel => exact ⟨j + 1, by omega, by omega, by go_num, HF.out⟩
          case measure => simp [intOf]; omega
        · skip
          refine PrintLast.goes_ Try.func15 (by kernel_rfl) rfl #[.int .i64 q4, .int .i64 5001] (by rfl) rfl rfl (by simp only [List.map_toArray, List.map_cons, List.map_nil]; rfl) ?_
          with_reducible refine (G5.out _).mono ?_
          rintro e w5 ⟨rfl, rfl⟩
          refine ⟨_, rfl, ?_⟩
          refine hK.out _ _ hHeld (fun hHeld => ?_)
          clear hK K
          refine PrintLast.norm_ (a' := ?_) ?_ ?_
          rotate_left
          · show Act.put _ (some 40) _ = _
            simp only [Act.put, List.setIfInBounds_toArray, List.set_cons_zero, List.set_cons_succ]
            rfl
          refine PrintLast.two_ (i := 9) (j := 21) (Ni := some 34) (Nj := some 46) #[true, true, true, true, true, true, true, true, true, true, true, true, true, true, true, true, true, true, true, true, true, false, false, false, false, false, false] #[true, true, true, true, true, true, true, true, true, false, true, true, true, true, true, true, true, true, true, true, true, true, false, false, false, false, false] rfl rfl rfl rfl (by kernel_rfl) (by decide) (by decide) (fun K hK => ?_) (fun K hK => ?_)
          · skip
            refine PrintLast.value_ (w1 := ?_) (v := ?_) (by rfl) rfl ?_ ?_
            rotate_left 2
            · go_simp
              constructor
              · rfl
              · rfl
            refine hK.out _ _ hHeld (fun hHeld => ?_)
            clear hK K
            refine PrintLast.norm_ (a' := ?_) ?_ ?_
            rotate_left
            · show Act.put _ (some 34) _ = _
              simp only [Act.put, List.setIfInBounds_toArray, List.set_cons_zero, List.set_cons_succ]
              rfl
            refine PrintLast.one_ (i := 21) (N := some 46) #[true, true, true, true, true, true, true, true, true, true, true, true, true, true, true, true, true, true, true, true, true, true, false, false, false, false, false] rfl rfl (by kernel_rfl) (by decide) (fun K hK => ?_)
            refine PrintLast.goes_ Try.func15 (by kernel_rfl) rfl #[.int .i64 q7, .int .i64 15] (by rfl) rfl rfl (by simp only [List.map_toArray, List.map_cons, List.map_nil]; rfl) ?_
            with_reducible refine (G7.out _).mono ?_
            rintro e w5 ⟨rfl, rfl⟩
            refine ⟨_, rfl, ?_⟩
            refine hK.out _ _ hHeld (fun hHeld => ?_)
            clear hK K
            refine PrintLast.norm_ (a' := ?_) ?_ ?_
            rotate_left
            · show Act.put _ (some 46) _ = _
              simp only [Act.put, List.setIfInBounds_toArray, List.set_cons_zero, List.set_cons_succ]
              rfl
            refine PrintLast.pure_ (i := 22) (N := some 47) (v := ?_) (a' := ?_) #[true, true, true, true, true, true, true, true, true, true, true, true, true, true, true, true, true, true, true, true, true, true, true, false, false, false, false] rfl rfl (by kernel_rfl) (fun _ _ _ h => h) (Or.inl ⟨by rfl, ?_⟩) ?_ ?_
            rotate_left
            · intro w'
              go_simp
              with_reducible rfl
            rotate_left
            · simp only [Act.put, List.setIfInBounds_toArray, List.set_cons_zero, List.set_cons_succ]
              rfl
            refine PrintLast.one_ (i := 23) (N := some 48) #[true, true, true, true, true, true, true, true, true, true, true, true, true, true, true, true, true, true, true, true, true, true, true, true, false, false, false] rfl rfl (by kernel_rfl) (by decide) (fun K hK => ?_)
            refine PrintLast.value_ (w1 := ?_) (v := ?_) (by rfl) rfl ?_ ?_
            rotate_left 2
            · go_simp
              constructor
              · rfl
              · rfl
            refine hK.out _ _ HSC.out (fun hHeld => ?_)
            clear hK K
            refine PrintLast.norm_ (a' := ?_) ?_ ?_
            rotate_left
            · show Act.put _ (some 48) _ = _
              simp only [Act.put, List.setIfInBounds_toArray, List.set_cons_zero, List.set_cons_succ]
              rfl
            refine PrintLast.one_ (i := 24) (N := some 49) #[true, true, true, true, true, true, true, true, true, true, true, true, true, true, true, true, true, true, true, true, true, true, true, true, true, false, false] rfl rfl (by kernel_rfl) (by decide) (fun K hK => ?_)
            refine step_append_lies _ (by rfl) _ _ _ (by rfl) w.heap.size 57 i57 _ 3 32 Try.underlying40 hi hz hy hx rfl (by omega) _ _ _ (by rfl) HOWN.out ⟨wr.heap.size + 1, 0, none⟩ 1 1 [.string s, .int .i64 (L : Int), .int .i64 (E : Int)] (by rfl) (by rfl) (World.news_of_block (cs := #[.string s, .int .i64 (L : Int), .int .i64 (E : Int)]) (t := 57) (fr := (0, 0)) HNB.out) (by simp [Value.oneCell']) (by omega) (by unfold maxLen; omega) (by omega) HBS.out _ rfl ?_
            intro g9 cap9 w9 hown9 hgrow9 _ _
            have hF9 := HGB.out w9 hgrow9
            have f9 : w9.frozen? ⟨w.heap.size + 1, 3, none⟩ = false := by have := hF9.2.2; simp [World.frozen?, this]
            refine hK.out _ _ ⟨hF9.1, hF9.2.1⟩ (fun hHeld => ?_)
            clear hK K
            refine PrintLast.norm_ (a' := ?_) ?_ ?_
            rotate_left
            · show Act.put _ (some 49) _ = _
              simp only [Act.put, List.setIfInBounds_toArray, List.set_cons_zero, List.set_cons_succ]
              rfl
            refine PrintLast.pure_ (i := 25) (N := some 50) (v := ?_) (a' := ?_) #[true, true, true, true, true, true, true, true, true, true, true, true, true, true, true, true, true, true, true, true, true, true, true, true, true, true, false] rfl rfl (by kernel_rfl) (fun _ _ _ h => h) (Or.inl ⟨by rfl, ?_⟩) ?_ ?_
            rotate_left
            · intro w'
              go_simp
              with_reducible rfl
            rotate_left
            · simp only [Act.put, List.setIfInBounds_toArray, List.set_cons_zero, List.set_cons_succ]
              rfl
            refine PrintLast.last_ (i := 26) (N := none) #[true, true, true, true, true, true, true, true, true, true, true, true, true, true, true, true, true, true, true, true, true, true, true, true, true, true, true] rfl rfl (by kernel_rfl) (by decide) (fun K hK => ?_)
            refine PrintLast.skip_ (w1 := ?_) (by rfl) rfl ?_ ?_
            rotate_left
            · go_simp
              rfl
            refine hK.out _ _ ?_
            clear hK K
            refine PrintLast.done_ (by kernel_rfl) ?_
            have HF := HFIN.out g9 cap9 w9 hgrow9 hown9
            clear hown9 hgrow9 hF9 f9 hHeld
            go_wp2_with fail
            go_roundw
            case rel => exact ⟨j + 1, by omega, by omega, by go_num, HF.out⟩
            case measure => simp [intOf]; omega
          · skip
            refine PrintLast.goes_ Try.func15 (by kernel_rfl) rfl #[.int .i64 q7, .int .i64 15] (by rfl) rfl rfl (by simp only [List.map_toArray, List.map_cons, List.map_nil]; rfl) ?_
            with_reducible refine (G7.out _).mono ?_
            rintro e w5 ⟨rfl, rfl⟩
            refine ⟨_, rfl, ?_⟩
            refine hK.out _ _ hHeld (fun hHeld => ?_)
            clear hK K
            refine PrintLast.norm_ (a' := ?_) ?_ ?_
            rotate_left
            · show Act.put _ (some 46) _ = _
              simp only [Act.put, List.setIfInBounds_toArray, List.set_cons_zero, List.set_cons_succ]
              rfl
            refine PrintLast.one_ (i := 9) (N := some 34) #[true, true, true, true, true, true, true, true, true, true, true, true, true, true, true, true, true, true, true, true, true, true, false, false, false, false, false] rfl rfl (by kernel_rfl) (by decide) (fun K hK => ?_)
            refine PrintLast.value_ (w1 := ?_) (v := ?_) (by rfl) rfl ?_ ?_
            rotate_left 2
            · go_simp
              constructor
              · rfl
              · rfl
            refine hK.out _ _ hHeld (fun hHeld => ?_)
            clear hK K
            refine PrintLast.norm_ (a' := ?_) ?_ ?_
            rotate_left
            · show Act.put _ (some 34) _ = _
              simp only [Act.put, List.setIfInBounds_toArray, List.set_cons_zero, List.set_cons_succ]
              rfl
            refine PrintLast.pure_ (i := 22) (N := some 47) (v := ?_) (a' := ?_) #[true, true, true, true, true, true, true, true, true, true, true, true, true, true, true, true, true, true, true, true, true, true, true, false, false, false, false] rfl rfl (by kernel_rfl) (fun _ _ _ h => h) (Or.inl ⟨by rfl, ?_⟩) ?_ ?_
            rotate_left
            · intro w'
              go_simp
              with_reducible rfl
            rotate_left
            · simp only [Act.put, List.setIfInBounds_toArray, List.set_cons_zero, List.set_cons_succ]
              rfl
            refine PrintLast.one_ (i := 23) (N := some 48) #[true, true, true, true, true, true, true, true, true, true, true, true, true, true, true, true, true, true, true, true, true, true, true, true, false, false, false] rfl rfl (by kernel_rfl) (by decide) (fun K hK => ?_)
            refine PrintLast.value_ (w1 := ?_) (v := ?_) (by rfl) rfl ?_ ?_
            rotate_left 2
            · go_simp
              constructor
              · rfl
              · rfl
            refine hK.out _ _ HSC.out (fun hHeld => ?_)
            clear hK K
            refine PrintLast.norm_ (a' := ?_) ?_ ?_
            rotate_left
            · show Act.put _ (some 48) _ = _
              simp only [Act.put, List.setIfInBounds_toArray, List.set_cons_zero, List.set_cons_succ]
              rfl
            refine PrintLast.one_ (i := 24) (N := some 49) #[true, true, true, true, true, true, true, true, true, true, true, true, true, true, true, true, true, true, true, true, true, true, true, true, true, false, false] rfl rfl (by kernel_rfl) (by decide) (fun K hK => ?_)
            refine step_append_lies _ (by rfl) _ _ _ (by rfl) w.heap.size 57 i57 _ 3 32 Try.underlying40 hi hz hy hx rfl (by omega) _ _ _ (by rfl) HOWN.out ⟨wr.heap.size + 1, 0, none⟩ 1 1 [.string s, .int .i64 (L : Int), .int .i64 (E : Int)] (by rfl) (by rfl) (World.news_of_block (cs := #[.string s, .int .i64 (L : Int), .int .i64 (E : Int)]) (t := 57) (fr := (0, 0)) HNB.out) (by simp [Value.oneCell']) (by omega) (by unfold maxLen; omega) (by omega) HBS.out _ rfl ?_
            intro g9 cap9 w9 hown9 hgrow9 _ _
            have hF9 := HGB.out w9 hgrow9
            have f9 : w9.frozen? ⟨w.heap.size + 1, 3, none⟩ = false := by have := hF9.2.2; simp [World.frozen?, this]
            refine hK.out _ _ ⟨hF9.1, hF9.2.1⟩ (fun hHeld => ?_)
            clear hK K
            refine PrintLast.norm_ (a' := ?_) ?_ ?_
            rotate_left
            · show Act.put _ (some 49) _ = _
              simp only [Act.put, List.setIfInBounds_toArray, List.set_cons_zero, List.set_cons_succ]
              rfl
            refine PrintLast.pure_ (i := 25) (N := some 50) (v := ?_) (a' := ?_) #[true, true, true, true, true, true, true, true, true, true, true, true, true, true, true, true, true, true, true, true, true, true, true, true, true, true, false] rfl rfl (by kernel_rfl) (fun _ _ _ h => h) (Or.inl ⟨by rfl, ?_⟩) ?_ ?_
            rotate_left
            · intro w'
              go_simp
              with_reducible rfl
            rotate_left
            · simp only [Act.put, List.setIfInBounds_toArray, List.set_cons_zero, List.set_cons_succ]
              rfl
            refine PrintLast.last_ (i := 26) (N := none) #[true, true, true, true, true, true, true, true, true, true, true, true, true, true, true, true, true, true, true, true, true, true, true, true, true, true, true] rfl rfl (by kernel_rfl) (by decide) (fun K hK => ?_)
            refine PrintLast.skip_ (w1 := ?_) (by rfl) rfl ?_ ?_
            rotate_left
            · go_simp
              rfl
            refine hK.out _ _ ?_
            clear hK K
            refine PrintLast.done_ (by kernel_rfl) ?_
            have HF := HFIN.out g9 cap9 w9 hgrow9 hown9
            clear hown9 hgrow9 hF9 f9 hHeld
            go_wp2_with fail
            go_roundw
            case rel => exact ⟨j + 1, by omega, by omega, by go_num, HF.out⟩
            case measure => simp [intOf]; omega
      · skip
        refine PrintLast.goes_ Try.func15 (by kernel_rfl) rfl #[.int .i64 z, .int .i64 4] (by rfl) rfl rfl (by simp only [List.map_toArray, List.map_cons, List.map_nil]; rfl) ?_
        with_reducible refine (G4.out _).mono ?_
        rintro e w5 ⟨rfl, rfl⟩
        refine ⟨_, rfl, ?_⟩
        refine hK.out _ _ hHeld (fun hHeld => ?_)
        clear hK K
        refine PrintLast.norm_ (a' := ?_) ?_ ?_
        rotate_left
        · show Act.put _ (some 32) _ = _
          simp only [Act.put, List.setIfInBounds_toArray, List.set_cons_zero, List.set_cons_succ]
          rfl
        refine PrintLast.two_ (i := 2) (j := 15) (Ni := some 27) (Nj := some 40) #[true, true, true, true, true, true, true, true, false, false, true, true, true, true, true, false, true, true, true, true, true, false, false, false, false, false, false] #[true, true, false, true, true, true, true, true, false, false, true, true, true, true, true, true, true, true, true, true, true, false, false, false, false, false, false] rfl rfl rfl rfl (by kernel_rfl) (by decide) (by decide) (fun K hK => ?_) (fun K hK => ?_)
        · skip
          refine PrintLast.value_ (w1 := ?_) (v := ?_) (by rfl) rfl ?_ ?_
          rotate_left 2
          · go_simp
            constructor
            · rfl
            · rfl
          refine hK.out _ _ HSB.out (fun hHeld => ?_)
          clear hK K
          refine PrintLast.norm_ (a' := ?_) ?_ ?_
          rotate_left
          · show Act.put _ (some 27) _ = _
            simp only [Act.put, List.setIfInBounds_toArray, List.set_cons_zero, List.set_cons_succ]
            rfl
          refine PrintLast.pure_ (i := 8) (N := some 33) (v := ?_) (a' := ?_) #[true, true, true, true, true, true, true, true, true, false, true, true, true, true, true, false, true, true, true, true, true, false, false, false, false, false, false] rfl rfl (by kernel_rfl) (fun _ _ _ h => h) (Or.inl ⟨by rfl, ?_⟩) ?_ ?_
          rotate_left
          · intro w'
            go_simp
            with_reducible rfl
          rotate_left
          · simp only [Act.put, List.setIfInBounds_toArray, List.set_cons_zero, List.set_cons_succ]
            rfl
          refine PrintLast.two_ (i := 9) (j := 15) (Ni := some 34) (Nj := some 40) #[true, true, true, true, true, true, true, true, true, true, true, true, true, true, true, false, true, true, true, true, true, false, false, false, false, false, false] #[true, true, true, true, true, true, true, true, true, false, true, true, true, true, true, true, true, true, true, true, true, false, false, false, false, false, false] rfl rfl rfl rfl (by kernel_rfl) (by decide) (by decide) (fun K hK => ?_) (fun K hK => ?_)
          · skip
            refine PrintLast.value_ (w1 := ?_) (v := ?_) (by rfl) rfl ?_ ?_
            rotate_left 2
            · go_simp
              constructor
              · rfl
              · rfl
            refine hK.out _ _ hHeld (fun hHeld => ?_)
            clear hK K
            refine PrintLast.norm_ (a' := ?_) ?_ ?_
            rotate_left
            · show Act.put _ (some 34) _ = _
              simp only [Act.put, List.setIfInBounds_toArray, List.set_cons_zero, List.set_cons_succ]
              rfl
            refine PrintLast.one_ (i := 15) (N := some 40) #[true, true, true, true, true, true, true, true, true, true, true, true, true, true, true, true, true, true, true, true, true, false, false, false, false, false, false] rfl rfl (by kernel_rfl) (by decide) (fun K hK => ?_)
            refine PrintLast.goes_ Try.func15 (by kernel_rfl) rfl #[.int .i64 q4, .int .i64 5001] (by rfl) rfl rfl (by simp only [List.map_toArray, List.map_cons, List.map_nil]; rfl) ?_
            with_reducible refine (G5.out _).mono ?_
            rintro e w5 ⟨rfl, rfl⟩
            refine ⟨_, rfl, ?_⟩
            refine hK.out _ _ hHeld (fun hHeld => ?_)
            clear hK K
            refine PrintLast.norm_ (a' := ?_) ?_ ?_
            rotate_left
            · show Act.put _ (some 40) _ = _
              simp only [Act.put, List.setIfInBounds_toArray, List.set_cons_zero, List.set_cons_succ]
              rfl
            refine PrintLast.one_ (i := 21) (N := some 46) #[true, true, true, true, true, true, true, true, true, true, true, true, true, true, true, true, true, true, true, true, true, true, false, false, false, false, false] rfl rfl (by kernel_rfl) (by decide) (fun K hK => ?_)
            refine PrintLast.goes_ Try.func15 (by kernel_rfl) rfl #[.int .i64 q7, .int .i64 15] (by rfl) rfl rfl (by simp only [List.map_toArray, List.map_cons, List.map_nil]; rfl) ?_
            with_reducible refine (G7.out _).mono ?_
            rintro e w5 ⟨rfl, rfl⟩
            refine ⟨_, rfl, ?_⟩
            refine hK.out _ _ hHeld (fun hHeld => ?_)
            clear hK K
            refine PrintLast.norm_ (a' := ?_) ?_ ?_
            rotate_left
            · show Act.put _ (some 46) _ = _
              simp only [Act.put, List.setIfInBounds_toArray, List.set_cons_zero, List.set_cons_succ]
              rfl
            refine PrintLast.pure_ (i := 22) (N := some 47) (v := ?_) (a' := ?_) #[true, true, true, true, true, true, true, true, true, true, true, true, true, true, true, true, true, true, true, true, true, true, true, false, false, false, false] rfl rfl (by kernel_rfl) (fun _ _ _ h => h) (Or.inl ⟨by rfl, ?_⟩) ?_ ?_
            rotate_left
            · intro w'
              go_simp
              with_reducible rfl
            rotate_left
            · simp only [Act.put, List.setIfInBounds_toArray, List.set_cons_zero, List.set_cons_succ]
              rfl
            refine PrintLast.one_ (i := 23) (N := some 48) #[true, true, true, true, true, true, true, true, true, true, true, true, true, true, true, true, true, true, true, true, true, true, true, true, false, false, false] rfl rfl (by kernel_rfl) (by decide) (fun K hK => ?_)
            refine PrintLast.value_ (w1 := ?_) (v := ?_) (by rfl) rfl ?_ ?_
            rotate_left 2
            · go_simp
              constructor
              · rfl
              · rfl
            refine hK.out _ _ HSC.out (fun hHeld => ?_)
            clear hK K
            refine PrintLast.norm_ (a' := ?_) ?_ ?_
            rotate_left
            · show Act.put _ (some 48) _ = _
              simp only [Act.put, List.setIfInBounds_toArray, List.set_cons_zero, List.set_cons_succ]
              rfl
            refine PrintLast.one_ (i := 24) (N := some 49) #[true, true, true, true, true, true, true, true, true, true, true, true, true, true, true, true, true, true, true, true, true, true, true, true, true, false, false] rfl rfl (by kernel_rfl) (by decide) (fun K hK => ?_)
            refine step_append_lies _ (by rfl) _ _ _ (by rfl) w.heap.size 57 i57 _ 3 32 Try.underlying40 hi hz hy hx rfl (by omega) _ _ _ (by rfl) HOWN.out ⟨wr.heap.size + 1, 0, none⟩ 1 1 [.string s, .int .i64 (L : Int), .int .i64 (E : Int)] (by rfl) (by rfl) (World.news_of_block (cs := #[.string s, .int .i64 (L : Int), .int .i64 (E : Int)]) (t := 57) (fr := (0, 0)) HNB.out) (by simp [Value.oneCell']) (by omega) (by unfold maxLen; omega) (by omega) HBS.out _ rfl ?_
            intro g9 cap9 w9 hown9 hgrow9 _ _
            have hF9 := HGB.out w9 hgrow9
            have f9 : w9.frozen? ⟨w.heap.size + 1, 3, none⟩ = false := by have := hF9.2.2; simp [World.frozen?, this]
            refine hK.out _ _ ⟨hF9.1, hF9.2.1⟩ (fun hHeld => ?_)
            clear hK K
            refine PrintLast.norm_ (a' := ?_) ?_ ?_
            rotate_left
            · show Act.put _ (some 49) _ = _
              simp only [Act.put, List.setIfInBounds_toArray, List.set_cons_zero, List.set_cons_succ]
              rfl
            refine PrintLast.pure_ (i := 25) (N := some 50) (v := ?_) (a' := ?_) #[true, true, true, true, true, true, true, true, true, true, true, true, true, true, true, true, true, true, true, true, true, true, true, true, true, true, false] rfl rfl (by kernel_rfl) (fun _ _ _ h => h) (Or.inl ⟨by rfl, ?_⟩) ?_ ?_
            rotate_left
            · intro w'
              go_simp
              with_reducible rfl
            rotate_left
            · simp only [Act.put, List.setIfInBounds_toArray, List.set_cons_zero, List.set_cons_succ]
              rfl
            refine PrintLast.last_ (i := 26) (N := none) #[true, true, true, true, true, true, true, true, true, true, true, true, true, true, true, true, true, true, true, true, true, true, true, true, true, true, true] rfl rfl (by kernel_rfl) (by decide) (fun K hK => ?_)
            refine PrintLast.skip_ (w1 := ?_) (by rfl) rfl ?_ ?_
            rotate_left
            · go_simp
              rfl
            refine hK.out _ _ ?_
            clear hK K
            refine PrintLast.done_ (by kernel_rfl) ?_
            have HF := HFIN.out g9 cap9 w9 hgrow9 hown9
            clear hown9 hgrow9 hF9 f9 hHeld
            go_wp2_with fail
            go_roundw
            case rel => exact ⟨j + 1, by omega, by omega, by go_num, HF.out⟩
            case measure => simp [intOf]; omega
          · skip
            refine PrintLast.goes_ Try.func15 (by kernel_rfl) rfl #[.int .i64 q4, .int .i64 5001] (by rfl) rfl rfl (by simp only [List.map_toArray, List.map_cons, List.map_nil]; rfl) ?_
            with_reducible refine (G5.out _).mono ?_
            rintro e w5 ⟨rfl, rfl⟩
            refine ⟨_, rfl, ?_⟩
            refine hK.out _ _ hHeld (fun hHeld => ?_)
            clear hK K
            refine PrintLast.norm_ (a' := ?_) ?_ ?_
            rotate_left
            · show Act.put _ (some 40) _ = _
              simp only [Act.put, List.setIfInBounds_toArray, List.set_cons_zero, List.set_cons_succ]
              rfl
            refine PrintLast.two_ (i := 9) (j := 21) (Ni := some 34) (Nj := some 46) #[true, true, true, true, true, true, true, true, true, true, true, true, true, true, true, true, true, true, true, true, true, false, false, false, false, false, false] #[true, true, true, true, true, true, true, true, true, false, true, true, true, true, true, true, true, true, true, true, true, true, false, false, false, false, false] rfl rfl rfl rfl (by kernel_rfl) (by decide) (by decide) (fun K hK => ?_) (fun K hK => ?_)
            · skip
              refine PrintLast.value_ (w1 := ?_) (v := ?_) (by rfl) rfl ?_ ?_
              rotate_left 2
              · go_simp
                constructor
                · rfl
                · rfl
              refine hK.out _ _ hHeld (fun hHeld => ?_)
              clear hK K
              refine PrintLast.norm_ (a' := ?_) ?_ ?_
              rotate_left
              · show Act.put _ (some 34) _ = _
                simp only [Act.put, List.setIfInBounds_toArray, List.set_cons_zero, List.set_cons_succ]
                rfl
              refine PrintLast.one_ (i := 21) (N := some 46) #[true, true, true, true, true, true, true, true, true, true, true, true, true, true, true, true, true, true, true, true, true, true, false, false, false, false, false] rfl rfl (by kernel_rfl) (by decide) (fun K hK => ?_)
              refine PrintLast.goes_ Try.func15 (by kernel_rfl) rfl #[.int .i64 q7, .int .i64 15] (by rfl) rfl rfl (by simp only [List.map_toArray, List.map_cons, List.map_nil]; rfl) ?_
              with_reducible refine (G7.out _).mono ?_
              rintro e w5 ⟨rfl, rfl⟩
              refine ⟨_, rfl, ?_⟩
              refine hK.out _ _ hHeld (fun hHeld => ?_)
              clear hK K
              refine PrintLast.norm_ (a' := ?_) ?_ ?_
              rotate_left
              · show Act.put _ (some 46) _ = _
                simp only [Act.put, List.setIfInBounds_toArray, List.set_cons_zero, List.set_cons_succ]
                rfl
              refine PrintLast.pure_ (i := 22) (N := some 47) (v := ?_) (a' := ?_) #[true, true, true, true, true, true, true, true, true, true, true, true, true, true, true, true, true, true, true, true, true, true, true, false, false, false, false] rfl rfl (by kernel_rfl) (fun _ _ _ h => h) (Or.inl ⟨by rfl, ?_⟩) ?_ ?_
              rotate_left
              · intro w'
                go_simp
                with_reducible rfl
              rotate_left
              · simp only [Act.put, List.setIfInBounds_toArray, List.set_cons_zero, List.set_cons_succ]
                rfl
              refine PrintLast.one_ (i := 23) (N := some 48) #[true, true, true, true, true, true, true, true, true, true, true, true, true, true, true, true, true, true, true, true, true, true, true, true, false, false, false] rfl rfl (by kernel_rfl) (by decide) (fun K hK => ?_)
              refine PrintLast.value_ (w1 := ?_) (v := ?_) (by rfl) rfl ?_ ?_
              rotate_left 2
              · go_simp
                constructor
                · rfl
                · rfl
              refine hK.out _ _ HSC.out (fun hHeld => ?_)
              clear hK K
              refine PrintLast.norm_ (a' := ?_) ?_ ?_
              rotate_left
              · show Act.put _ (some 48) _ = _
                simp only [Act.put, List.setIfInBounds_toArray, List.set_cons_zero, List.set_cons_succ]
                rfl
              refine PrintLast.one_ (i := 24) (N := some 49) #[true, true, true, true, true, true, true, true, true, true, true, true, true, true, true, true, true, true, true, true, true, true, true, true, true, false, false] rfl rfl (by kernel_rfl) (by decide) (fun K hK => ?_)
              refine step_append_lies _ (by rfl) _ _ _ (by rfl) w.heap.size 57 i57 _ 3 32 Try.underlying40 hi hz hy hx rfl (by omega) _ _ _ (by rfl) HOWN.out ⟨wr.heap.size + 1, 0, none⟩ 1 1 [.string s, .int .i64 (L : Int), .int .i64 (E : Int)] (by rfl) (by rfl) (World.news_of_block (cs := #[.string s, .int .i64 (L : Int), .int .i64 (E : Int)]) (t := 57) (fr := (0, 0)) HNB.out) (by simp [Value.oneCell']) (by omega) (by unfold maxLen; omega) (by omega) HBS.out _ rfl ?_
              intro g9 cap9 w9 hown9 hgrow9 _ _
              have hF9 := HGB.out w9 hgrow9
              have f9 : w9.frozen? ⟨w.heap.size + 1, 3, none⟩ = false := by have := hF9.2.2; simp [World.frozen?, this]
              refine hK.out _ _ ⟨hF9.1, hF9.2.1⟩ (fun hHeld => ?_)
              clear hK K
              refine PrintLast.norm_ (a' := ?_) ?_ ?_
              rotate_left
              · show Act.put _ (some 49) _ = _
                simp only [Act.put, List.setIfInBounds_toArray, List.set_cons_zero, List.set_cons_succ]
                rfl
              refine PrintLast.pure_ (i := 25) (N := some 50) (v := ?_) (a' := ?_) #[true, true, true, true, true, true, true, true, true, true, true, true, true, true, true, true, true, true, true, true, true, true, true, true, true, true, false] rfl rfl (by kernel_rfl) (fun _ _ _ h => h) (Or.inl ⟨by rfl, ?_⟩) ?_ ?_
              rotate_left
              · intro w'
                go_simp
                with_reducible rfl
              rotate_left
              · simp only [Act.put, List.setIfInBounds_toArray, List.set_cons_zero, List.set_cons_succ]
                rfl
              refine PrintLast.last_ (i := 26) (N := none) #[true, true, true, true, true, true, true, true, true, true, true, true, true, true, true, true, true, true, true, true, true, true, true, true, true, true, true] rfl rfl (by kernel_rfl) (by decide) (fun K hK => ?_)
              refine PrintLast.skip_ (w1 := ?_) (by rfl) rfl ?_ ?_
              rotate_left
              · go_simp
                rfl
              refine hK.out _ _ ?_
              clear hK K
              refine PrintLast.done_ (by kernel_rfl) ?_
              have HF := HFIN.out g9 cap9 w9 hgrow9 hown9
              clear hown9 hgrow9 hF9 f9 hHeld
              go_wp2_with fail
              go_roundw
              case rel => exact ⟨j + 1, by omega, by omega, by go_num, HF.out⟩
              case measure => simp [intOf]; omega
            · skip
              refine PrintLast.goes_ Try.func15 (by kernel_rfl) rfl #[.int .i64 q7, .int .i64 15] (by rfl) rfl rfl (by simp only [List.map_toArray, List.map_cons, List.map_nil]; rfl) ?_
              with_reducible refine (G7.out _).mono ?_
              rintro e w5 ⟨rfl, rfl⟩
              refine ⟨_, rfl, ?_⟩
              refine hK.out _ _ hHeld (fun hHeld => ?_)
              clear hK K
              refine PrintLast.norm_ (a' := ?_) ?_ ?_
              rotate_left
              · show Act.put _ (some 46) _ = _
                simp only [Act.put, List.setIfInBounds_toArray, List.set_cons_zero, List.set_cons_succ]
                rfl
              refine PrintLast.one_ (i := 9) (N := some 34) #[true, true, true, true, true, true, true, true, true, true, true, true, true, true, true, true, true, true, true, true, true, true, false, false, false, false, false] rfl rfl (by kernel_rfl) (by decide) (fun K hK => ?_)
              refine PrintLast.value_ (w1 := ?_) (v := ?_) (by rfl) rfl ?_ ?_
              rotate_left 2
              · go_simp
                constructor
                · rfl
                · rfl
              refine hK.out _ _ hHeld (fun hHeld => ?_)
              clear hK K
              refine PrintLast.norm_ (a' := ?_) ?_ ?_
              rotate_left
              · show Act.put _ (some 34) _ = _
                simp only [Act.put, List.setIfInBounds_toArray, List.set_cons_zero, List.set_cons_succ]
                rfl
              refine PrintLast.pure_ (i := 22) (N := some 47) (v := ?_) (a' := ?_) #[true, true, true, true, true, true, true, true, true, true, true, true, true, true, true, true, true, true, true, true, true, true, true, false, false, false, false] rfl rfl (by kernel_rfl) (fun _ _ _ h => h) (Or.inl ⟨by rfl, ?_⟩) ?_ ?_
              rotate_left
              · intro w'
                go_simp
                with_reducible rfl
              rotate_left
              · simp only [Act.put, List.setIfInBounds_toArray, List.set_cons_zero, List.set_cons_succ]
                rfl
              refine PrintLast.one_ (i := 23) (N := some 48) #[true, true, true, true, true, true, true, true, true, true, true, true, true, true, true, true, true, true, true, true, true, true, true, true, false, false, false] rfl rfl (by kernel_rfl) (by decide) (fun K hK => ?_)
              refine PrintLast.value_ (w1 := ?_) (v := ?_) (by rfl) rfl ?_ ?_
              rotate_left 2
              · go_simp
                constructor
                · rfl
                · rfl
              refine hK.out _ _ HSC.out (fun hHeld => ?_)
              clear hK K
              refine PrintLast.norm_ (a' := ?_) ?_ ?_
              rotate_left
              · show Act.put _ (some 48) _ = _
                simp only [Act.put, List.setIfInBounds_toArray, List.set_cons_zero, List.set_cons_succ]
                rfl
              refine PrintLast.one_ (i := 24) (N := some 49) #[true, true, true, true, true, true, true, true, true, true, true, true, true, true, true, true, true, true, true, true, true, true, true, true, true, false, false] rfl rfl (by kernel_rfl) (by decide) (fun K hK => ?_)
              refine step_append_lies _ (by rfl) _ _ _ (by rfl) w.heap.size 57 i57 _ 3 32 Try.underlying40 hi hz hy hx rfl (by omega) _ _ _ (by rfl) HOWN.out ⟨wr.heap.size + 1, 0, none⟩ 1 1 [.string s, .int .i64 (L : Int), .int .i64 (E : Int)] (by rfl) (by rfl) (World.news_of_block (cs := #[.string s, .int .i64 (L : Int), .int .i64 (E : Int)]) (t := 57) (fr := (0, 0)) HNB.out) (by simp [Value.oneCell']) (by omega) (by unfold maxLen; omega) (by omega) HBS.out _ rfl ?_
              intro g9 cap9 w9 hown9 hgrow9 _ _
              have hF9 := HGB.out w9 hgrow9
              have f9 : w9.frozen? ⟨w.heap.size + 1, 3, none⟩ = false := by have := hF9.2.2; simp [World.frozen?, this]
              refine hK.out _ _ ⟨hF9.1, hF9.2.1⟩ (fun hHeld => ?_)
              clear hK K
              refine PrintLast.norm_ (a' := ?_) ?_ ?_
              rotate_left
              · show Act.put _ (some 49) _ = _
                simp only [Act.put, List.setIfInBounds_toArray, List.set_cons_zero, List.set_cons_succ]
                rfl
              refine PrintLast.pure_ (i := 25) (N := some 50) (v := ?_) (a' := ?_) #[true, true, true, true, true, true, true, true, true, true, true, true, true, true, true, true, true, true, true, true, true, true, true, true, true, true, false] rfl rfl (by kernel_rfl) (fun _ _ _ h => h) (Or.inl ⟨by rfl, ?_⟩) ?_ ?_
              rotate_left
              · intro w'
                go_simp
                with_reducible rfl
              rotate_left
              · simp only [Act.put, List.setIfInBounds_toArray, List.set_cons_zero, List.set_cons_succ]
                rfl
              refine PrintLast.last_ (i := 26) (N := none) #[true, true, true, true, true, true, true, true, true, true, true, true, true, true, true, true, true, true, true, true, true, true, true, true, true, true, true] rfl rfl (by kernel_rfl) (by decide) (fun K hK => ?_)
              refine PrintLast.skip_ (w1 := ?_) (by rfl) rfl ?_ ?_
              rotate_left
              · go_simp
                rfl
              refine hK.out _ _ ?_
              clear hK K
              refine PrintLast.done_ (by kernel_rfl) ?_
              have HF := HFIN.out g9 cap9 w9 hgrow9 hown9
              clear hown9 hgrow9 hF9 f9 hHeld
              go_wp2_with fail
              go_roundw
              case rel => exact ⟨j + 1, by omega, by omega, by go_num, HF.out⟩
              case measure => simp [intOf]; omega
        · skip
          refine PrintLast.goes_ Try.func15 (by kernel_rfl) rfl #[.int .i64 q4, .int .i64 5001] (by rfl) rfl rfl (by simp only [List.map_toArray, List.map_cons, List.map_nil]; rfl) ?_
          with_reducible refine (G5.out _).mono ?_
          rintro e w5 ⟨rfl, rfl⟩
          refine ⟨_, rfl, ?_⟩
          refine hK.out _ _ hHeld (fun hHeld => ?_)
          clear hK K
          refine PrintLast.norm_ (a' := ?_) ?_ ?_
          rotate_left
          · show Act.put _ (some 40) _ = _
            simp only [Act.put, List.setIfInBounds_toArray, List.set_cons_zero, List.set_cons_succ]
            rfl
          refine PrintLast.two_ (i := 2) (j := 21) (Ni := some 27) (Nj := some 46) #[true, true, true, true, true, true, true, true, false, false, true, true, true, true, true, true, true, true, true, true, true, false, false, false, false, false, false] #[true, true, false, true, true, true, true, true, false, false, true, true, true, true, true, true, true, true, true, true, true, true, false, false, false, false, false] rfl rfl rfl rfl (by kernel_rfl) (by decide) (by decide) (fun K hK => ?_) (fun K hK => ?_)
          · skip
            refine PrintLast.value_ (w1 := ?_) (v := ?_) (by rfl) rfl ?_ ?_
            rotate_left 2
            · go_simp
              constructor
              · rfl
              · rfl
            refine hK.out _ _ HSB.out (fun hHeld => ?_)
            clear hK K
            refine PrintLast.norm_ (a' := ?_) ?_ ?_
            rotate_left
            · show Act.put _ (some 27) _ = _
              simp only [Act.put, List.setIfInBounds_toArray, List.set_cons_zero, List.set_cons_succ]
              rfl
            refine PrintLast.pure_ (i := 8) (N := some 33) (v := ?_) (a' := ?_) #[true, true, true, true, true, true, true, true, true, false, true, true, true, true, true, true, true, true, true, true, true, false, false, false, false, false, false] rfl rfl (by kernel_rfl) (fun _ _ _ h => h) (Or.inl ⟨by rfl, ?_⟩) ?_ ?_
            rotate_left
            · intro w'
              go_simp
              with_reducible rfl
            rotate_left
            · simp only [Act.put, List.setIfInBounds_toArray, List.set_cons_zero, List.set_cons_succ]
              rfl
            refine PrintLast.two_ (i := 9) (j := 21) (Ni := some 34) (Nj := some 46) #[true, true, true, true, true, true, true, true, true, true, true, true, true, true, true, true, true, true, true, true, true, false, false, false, false, false, false] #[true, true, true, true, true, true, true, true, true, false, true, true, true, true, true, true, true, true, true, true, true, true, false, false, false, false, false] rfl rfl rfl rfl (by kernel_rfl) (by decide) (by decide) (fun K hK => ?_) (fun K hK => ?_)
            · skip
              refine PrintLast.value_ (w1 := ?_) (v := ?_) (by rfl) rfl ?_ ?_
              rotate_left 2
              · go_simp
                constructor
                · rfl
                · rfl
              refine hK.out _ _ hHeld (fun hHeld => ?_)
              clear hK K
              refine PrintLast.norm_ (a' := ?_) ?_ ?_
              rotate_left
              · show Act.put _ (some 34) _ = _
                simp only [Act.put, List.setIfInBounds_toArray, List.set_cons_zero, List.set_cons_succ]
                rfl
              refine PrintLast.one_ (i := 21) (N := some 46) #[true, true, true, true, true, true, true, true, true, true, true, true, true, true, true, true, true, true, true, true, true, true, false, false, false, false, false] rfl rfl (by kernel_rfl) (by decide) (fun K hK => ?_)
              refine PrintLast.goes_ Try.func15 (by kernel_rfl) rfl #[.int .i64 q7, .int .i64 15] (by rfl) rfl rfl (by simp only [List.map_toArray, List.map_cons, List.map_nil]; rfl) ?_
              with_reducible refine (G7.out _).mono ?_
              rintro e w5 ⟨rfl, rfl⟩
              refine ⟨_, rfl, ?_⟩
              refine hK.out _ _ hHeld (fun hHeld => ?_)
              clear hK K
              refine PrintLast.norm_ (a' := ?_) ?_ ?_
              rotate_left
              · show Act.put _ (some 46) _ = _
                simp only [Act.put, List.setIfInBounds_toArray, List.set_cons_zero, List.set_cons_succ]
                rfl
              refine PrintLast.pure_ (i := 22) (N := some 47) (v := ?_) (a' := ?_) #[true, true, true, true, true, true, true, true, true, true, true, true, true, true, true, true, true, true, true, true, true, true, true, false, false, false, false] rfl rfl (by kernel_rfl) (fun _ _ _ h => h) (Or.inl ⟨by rfl, ?_⟩) ?_ ?_
              rotate_left
              · intro w'
                go_simp
                with_reducible rfl
              rotate_left
              · simp only [Act.put, List.setIfInBounds_toArray, List.set_cons_zero, List.set_cons_succ]
                rfl
              refine PrintLast.one_ (i := 23) (N := some 48) #[true, true, true, true, true, true, true, true, true, true, true, true, true, true, true, true, true, true, true, true, true, true, true, true, false, false, false] rfl rfl (by kernel_rfl) (by decide) (fun K hK => ?_)
              refine PrintLast.value_ (w1 := ?_) (v := ?_) (by rfl) rfl ?_ ?_
              rotate_left 2
              · go_simp
                constructor
                · rfl
                · rfl
              refine hK.out _ _ HSC.out (fun hHeld => ?_)
              clear hK K
              refine PrintLast.norm_ (a' := ?_) ?_ ?_
              rotate_left
              · show Act.put _ (some 48) _ = _
                simp only [Act.put, List.setIfInBounds_toArray, List.set_cons_zero, List.set_cons_succ]
                rfl
              refine PrintLast.one_ (i := 24) (N := some 49) #[true, true, true, true, true, true, true, true, true, true, true, true, true, true, true, true, true, true, true, true, true, true, true, true, true, false, false] rfl rfl (by kernel_rfl) (by decide) (fun K hK => ?_)
              refine step_append_lies _ (by rfl) _ _ _ (by rfl) w.heap.size 57 i57 _ 3 32 Try.underlying40 hi hz hy hx rfl (by omega) _ _ _ (by rfl) HOWN.out ⟨wr.heap.size + 1, 0, none⟩ 1 1 [.string s, .int .i64 (L : Int), .int .i64 (E : Int)] (by rfl) (by rfl) (World.news_of_block (cs := #[.string s, .int .i64 (L : Int), .int .i64 (E : Int)]) (t := 57) (fr := (0, 0)) HNB.out) (by simp [Value.oneCell']) (by omega) (by unfold maxLen; omega) (by omega) HBS.out _ rfl ?_
              intro g9 cap9 w9 hown9 hgrow9 _ _
              have hF9 := HGB.out w9 hgrow9
              have f9 : w9.frozen? ⟨w.heap.size + 1, 3, none⟩ = false := by have := hF9.2.2; simp [World.frozen?, this]
              refine hK.out _ _ ⟨hF9.1, hF9.2.1⟩ (fun hHeld => ?_)
              clear hK K
              refine PrintLast.norm_ (a' := ?_) ?_ ?_
              rotate_left
              · show Act.put _ (some 49) _ = _
                simp only [Act.put, List.setIfInBounds_toArray, List.set_cons_zero, List.set_cons_succ]
                rfl
              refine PrintLast.pure_ (i := 25) (N := some 50) (v := ?_) (a' := ?_) #[true, true, true, true, true, true, true, true, true, true, true, true, true, true, true, true, true, true, true, true, true, true, true, true, true, true, false] rfl rfl (by kernel_rfl) (fun _ _ _ h => h) (Or.inl ⟨by rfl, ?_⟩) ?_ ?_
              rotate_left
              · intro w'
                go_simp
                with_reducible rfl
              rotate_left
              · simp only [Act.put, List.setIfInBounds_toArray, List.set_cons_zero, List.set_cons_succ]
                rfl
              refine PrintLast.last_ (i := 26) (N := none) #[true, true, true, true, true, true, true, true, true, true, true, true, true, true, true, true, true, true, true, true, true, true, true, true, true, true, true] rfl rfl (by kernel_rfl) (by decide) (fun K hK => ?_)
              refine PrintLast.skip_ (w1 := ?_) (by rfl) rfl ?_ ?_
              rotate_left
              · go_simp
                rfl
              refine hK.out _ _ ?_
              clear hK K
              refine PrintLast.done_ (by kernel_rfl) ?_
              have HF := HFIN.out g9 cap9 w9 hgrow9 hown9
              clear hown9 hgrow9 hF9 f9 hHeld
              go_wp2_with fail
              go_roundw
              case rel => exact ⟨j + 1, by omega, by omega, by go_num, HF.out⟩
              case measure => simp [intOf]; omega
            · skip
              refine PrintLast.goes_ Try.func15 (by kernel_rfl) rfl #[.int .i64 q7, .int .i64 15] (by rfl) rfl rfl (by simp only [List.map_toArray, List.map_cons, List.map_nil]; rfl) ?_
              with_reducible refine (G7.out _).mono ?_
              rintro e w5 ⟨rfl, rfl⟩
              refine ⟨_, rfl, ?_⟩
              refine hK.out _ _ hHeld (fun hHeld => ?_)
              clear hK K
              refine PrintLast.norm_ (a' := ?_) ?_ ?_
              rotate_left
              · show Act.put _ (some 46) _ = _
                simp only [Act.put, List.setIfInBounds_toArray, List.set_cons_zero, List.set_cons_succ]
                rfl
              refine PrintLast.one_ (i := 9) (N := some 34) #[true, true, true, true, true, true, true, true, true, true, true, true, true, true, true, true, true, true, true, true, true, true, false, false, false, false, false] rfl rfl (by kernel_rfl) (by decide) (fun K hK => ?_)
              refine PrintLast.value_ (w1 := ?_) (v := ?_) (by rfl) rfl ?_ ?_
              rotate_left 2
              · go_simp
                constructor
                · rfl
                · rfl
              refine hK.out _ _ hHeld (fun hHeld => ?_)
              clear hK K
              refine PrintLast.norm_ (a' := ?_) ?_ ?_
              rotate_left
              · show Act.put _ (some 34) _ = _
                simp only [Act.put, List.setIfInBounds_toArray, List.set_cons_zero, List.set_cons_succ]
                rfl
              refine PrintLast.pure_ (i := 22) (N := some 47) (v := ?_) (a' := ?_) #[true, true, true, true, true, true, true, true, true, true, true, true, true, true, true, true, true, true, true, true, true, true, true, false, false, false, false] rfl rfl (by kernel_rfl) (fun _ _ _ h => h) (Or.inl ⟨by rfl, ?_⟩) ?_ ?_
              rotate_left
              · intro w'
                go_simp
                with_reducible rfl
              rotate_left
              · simp only [Act.put, List.setIfInBounds_toArray, List.set_cons_zero, List.set_cons_succ]
                rfl
              refine PrintLast.one_ (i := 23) (N := some 48) #[true, true, true, true, true, true, true, true, true, true, true, true, true, true, true, true, true, true, true, true, true, true, true, true, false, false, false] rfl rfl (by kernel_rfl) (by decide) (fun K hK => ?_)
              refine PrintLast.value_ (w1 := ?_) (v := ?_) (by rfl) rfl ?_ ?_
              rotate_left 2
              · go_simp
                constructor
                · rfl
                · rfl
              refine hK.out _ _ HSC.out (fun hHeld => ?_)
              clear hK K
              refine PrintLast.norm_ (a' := ?_) ?_ ?_
              rotate_left
              · show Act.put _ (some 48) _ = _
                simp only [Act.put, List.setIfInBounds_toArray, List.set_cons_zero, List.set_cons_succ]
                rfl
              refine PrintLast.one_ (i := 24) (N := some 49) #[true, true, true, true, true, true, true, true, true, true, true, true, true, true, true, true, true, true, true, true, true, true, true, true, true, false, false] rfl rfl (by kernel_rfl) (by decide) (fun K hK => ?_)
              refine step_append_lies _ (by rfl) _ _ _ (by rfl) w.heap.size 57 i57 _ 3 32 Try.underlying40 hi hz hy hx rfl (by omega) _ _ _ (by rfl) HOWN.out ⟨wr.heap.size + 1, 0, none⟩ 1 1 [.string s, .int .i64 (L : Int), .int .i64 (E : Int)] (by rfl) (by rfl) (World.news_of_block (cs := #[.string s, .int .i64 (L : Int), .int .i64 (E : Int)]) (t := 57) (fr := (0, 0)) HNB.out) (by simp [Value.oneCell']) (by omega) (by unfold maxLen; omega) (by omega) HBS.out _ rfl ?_
              intro g9 cap9 w9 hown9 hgrow9 _ _
              have hF9 := HGB.out w9 hgrow9
              have f9 : w9.frozen? ⟨w.heap.size + 1, 3, none⟩ = false := by have := hF9.2.2; simp [World.frozen?, this]
              refine hK.out _ _ ⟨hF9.1, hF9.2.1⟩ (fun hHeld => ?_)
              clear hK K
              refine PrintLast.norm_ (a' := ?_) ?_ ?_
              rotate_left
              · show Act.put _ (some 49) _ = _
                simp only [Act.put, List.setIfInBounds_toArray, List.set_cons_zero, List.set_cons_succ]
                rfl
              refine PrintLast.pure_ (i := 25) (N := some 50) (v := ?_) (a' := ?_) #[true, true, true, true, true, true, true, true, true, true, true, true, true, true, true, true, true, true, true, true, true, true, true, true, true, true, false] rfl rfl (by kernel_rfl) (fun _ _ _ h => h) (Or.inl ⟨by rfl, ?_⟩) ?_ ?_
              rotate_left
              · intro w'
                go_simp
                with_reducible rfl
              rotate_left
              · simp only [Act.put, List.setIfInBounds_toArray, List.set_cons_zero, List.set_cons_succ]
                rfl
              refine PrintLast.last_ (i := 26) (N := none) #[true, true, true, true, true, true, true, true, true, true, true, true, true, true, true, true, true, true, true, true, true, true, true, true, true, true, true] rfl rfl (by kernel_rfl) (by decide) (fun K hK => ?_)
              refine PrintLast.skip_ (w1 := ?_) (by rfl) rfl ?_ ?_
              rotate_left
              · go_simp
                rfl
              refine hK.out _ _ ?_
              clear hK K
              refine PrintLast.done_ (by kernel_rfl) ?_
              have HF := HFIN.out g9 cap9 w9 hgrow9 hown9
              clear hown9 hgrow9 hF9 f9 hHeld
              go_wp2_with fail
              go_roundw
              case rel => exact ⟨j + 1, by omega, by omega, by go_num, HF.out⟩
              case measure => simp [intOf]; omega
          · skip
            refine PrintLast.goes_ Try.func15 (by kernel_rfl) rfl #[.int .i64 q7, .int .i64 15] (by rfl) rfl rfl (by simp only [List.map_toArray, List.map_cons, List.map_nil]; rfl) ?_
            with_reducible refine (G7.out _).mono ?_
            rintro e w5 ⟨rfl, rfl⟩
            refine ⟨_, rfl, ?_⟩
            refine hK.out _ _ hHeld (fun hHeld => ?_)
            clear hK K
            refine PrintLast.norm_ (a' := ?_) ?_ ?_
            rotate_left
            · show Act.put _ (some 46) _ = _
              simp only [Act.put, List.setIfInBounds_toArray, List.set_cons_zero, List.set_cons_succ]
              rfl
            refine PrintLast.one_ (i := 2) (N := some 27) #[true, true, true, true, true, true, true, true, false, false, true, true, true, true, true, true, true, true, true, true, true, true, false, false, false, false, false] rfl rfl (by kernel_rfl) (by decide) (fun K hK => ?_)
            refine PrintLast.value_ (w1 := ?_) (v := ?_) (by rfl) rfl ?_ ?_
            rotate_left 2
            · go_simp
              constructor
              · rfl
              · rfl
            refine hK.out _ _ HSB.out (fun hHeld => ?_)
            clear hK K
            refine PrintLast.norm_ (a' := ?_) ?_ ?_
            rotate_left
            · show Act.put _ (some 27) _ = _
              simp only [Act.put, List.setIfInBounds_toArray, List.set_cons_zero, List.set_cons_succ]
              rfl
            refine PrintLast.pure_ (i := 8) (N := some 33) (v := ?_) (a' := ?_) #[true, true, true, true, true, true, true, true, true, false, true, true, true, true, true, true, true, true, true, true, true, true, false, false, false, false, false] rfl rfl (by kernel_rfl) (fun _ _ _ h => h) (Or.inl ⟨by rfl, ?_⟩) ?_ ?_
            rotate_left
            · intro w'
              go_simp
              with_reducible rfl
            rotate_left
            · simp only [Act.put, List.setIfInBounds_toArray, List.set_cons_zero, List.set_cons_succ]
              rfl
            refine PrintLast.one_ (i := 9) (N := some 34) #[true, true, true, true, true, true, true, true, true, true, true, true, true, true, true, true, true, true, true, true, true, true, false, false, false, false, false] rfl rfl (by kernel_rfl) (by decide) (fun K hK => ?_)
            refine PrintLast.value_ (w1 := ?_) (v := ?_) (by rfl) rfl ?_ ?_
            rotate_left 2
            · go_simp
              constructor
              · rfl
              · rfl
            refine hK.out _ _ hHeld (fun hHeld => ?_)
            clear hK K
            refine PrintLast.norm_ (a' := ?_) ?_ ?_
            rotate_left
            · show Act.put _ (some 34) _ = _
              simp only [Act.put, List.setIfInBounds_toArray, List.set_cons_zero, List.set_cons_succ]
              rfl
            refine PrintLast.pure_ (i := 22) (N := some 47) (v := ?_) (a' := ?_) #[true, true, true, true, true, true, true, true, true, true, true, true, true, true, true, true, true, true, true, true, true, true, true, false, false, false, false] rfl rfl (by kernel_rfl) (fun _ _ _ h => h) (Or.inl ⟨by rfl, ?_⟩) ?_ ?_
            rotate_left
            · intro w'
              go_simp
              with_reducible rfl
            rotate_left
            · simp only [Act.put, List.setIfInBounds_toArray, List.set_cons_zero, List.set_cons_succ]
              rfl
            refine PrintLast.one_ (i := 23) (N := some 48) #[true, true, true, true, true, true, true, true, true, true, true, true, true, true, true, true, true, true, true, true, true, true, true, true, false, false, false] rfl rfl (by kernel_rfl) (by decide) (fun K hK => ?_)
            refine PrintLast.value_ (w1 := ?_) (v := ?_) (by rfl) rfl ?_ ?_
            rotate_left 2
            · go_simp
              constructor
              · rfl
              · rfl
            refine hK.out _ _ HSC.out (fun hHeld => ?_)
            clear hK K
            refine PrintLast.norm_ (a' := ?_) ?_ ?_
            rotate_left
            · show Act.put _ (some 48) _ = _
              simp only [Act.put, List.setIfInBounds_toArray, List.set_cons_zero, List.set_cons_succ]
              rfl
            refine PrintLast.one_ (i := 24) (N := some 49) #[true, true, true, true, true, true, true, true, true, true, true, true, true, true, true, true, true, true, true, true, true, true, true, true, true, false, false] rfl rfl (by kernel_rfl) (by decide) (fun K hK => ?_)
            refine step_append_lies _ (by rfl) _ _ _ (by rfl) w.heap.size 57 i57 _ 3 32 Try.underlying40 hi hz hy hx rfl (by omega) _ _ _ (by rfl) HOWN.out ⟨wr.heap.size + 1, 0, none⟩ 1 1 [.string s, .int .i64 (L : Int), .int .i64 (E : Int)] (by rfl) (by rfl) (World.news_of_block (cs := #[.string s, .int .i64 (L : Int), .int .i64 (E : Int)]) (t := 57) (fr := (0, 0)) HNB.out) (by simp [Value.oneCell']) (by omega) (by unfold maxLen; omega) (by omega) HBS.out _ rfl ?_
            intro g9 cap9 w9 hown9 hgrow9 _ _
            have hF9 := HGB.out w9 hgrow9
            have f9 : w9.frozen? ⟨w.heap.size + 1, 3, none⟩ = false := by have := hF9.2.2; simp [World.frozen?, this]
            refine hK.out _ _ ⟨hF9.1, hF9.2.1⟩ (fun hHeld => ?_)
            clear hK K
            refine PrintLast.norm_ (a' := ?_) ?_ ?_
            rotate_left
            · show Act.put _ (some 49) _ = _
              simp only [Act.put, List.setIfInBounds_toArray, List.set_cons_zero, List.set_cons_succ]
              rfl
            refine PrintLast.pure_ (i := 25) (N := some 50) (v := ?_) (a' := ?_) #[true, true, true, true, true, true, true, true, true, true, true, true, true, true, true, true, true, true, true, true, true, true, true, true, true, true, false] rfl rfl (by kernel_rfl) (fun _ _ _ h => h) (Or.inl ⟨by rfl, ?_⟩) ?_ ?_
            rotate_left
            · intro w'
              go_simp
              with_reducible rfl
            rotate_left
            · simp only [Act.put, List.setIfInBounds_toArray, List.set_cons_zero, List.set_cons_succ]
              rfl
            refine PrintLast.last_ (i := 26) (N := none) #[true, true, true, true, true, true, true, true, true, true, true, true, true, true, true, true, true, true, true, true, true, true, true, true, true, true, true] rfl rfl (by kernel_rfl) (by decide) (fun K hK => ?_)
            refine PrintLast.skip_ (w1 := ?_) (by rfl) rfl ?_ ?_
            rotate_left
            · go_simp
              rfl
            refine hK.out _ _ ?_
            clear hK K
            refine PrintLast.done_ (by kernel_rfl) ?_
            have HF := HFIN.out g9 cap9 w9 hgrow9 hown9
            clear hown9 hgrow9 hF9 f9 hHeld
            go_wp2_with fail
            go_roundw
            case rel => exact ⟨j + 1, by omega, by omega, by go_num, HF.out⟩
            case measure => simp [intOf]; omega
    · obtain ⟨ds, dv, hdl, hgood, hq7, hq6, hown, hb⟩ := hinv
      obtain ⟨dA, dC, rfl⟩ := own_slice hown
      obtain ⟨k0, k1, k2, k3⟩ := box4 hq7
      obtain ⟨m0, m1, m2, m3⟩ := box4 hq6
      have fz : ∀ o, wr.frozen? ⟨w.heap.size, o, none⟩ = false := fun o => by simp [World.frozen?, hq6]
      have fz0 := fz 0
      have fz1 := fz 1
      have fz2 := fz 2
      have fz3 := fz 3
      have HDL := Lib.hid hdl
      have hj0 : j ≤ 20 := hj20
      have HX := Lib.hid (And.intro hq7 hq6)
      clear fz hdl hq7 hq6 h
      have hor : (len : Int) ≤ (j : Int) ∨ ((j : Int) < (len : Int) ∧ (20 : Int) ≤ (j : Int)) := by omega
      clear hlt hj hj20
      rcases hor with h1 | ⟨h1, h2⟩
      all_goals
        go_wp2_with fail
        obtain ⟨q0, q1, q2, q3⟩ := box4 (put4 HX.out.2 (.int .i64 x) (.string t) (.slice iA iN iC) (.slice dA j dC))
        refine bodyPost_ret (v := rsv x t iA iN iC dA j dC) (by simp [results, Try.results20, go_sem, q0, q1, q2, q3]; rfl) rfl ?_
        have e := HDL.out
        subst e
        exact ⟨x, ds, dA, dC, rfl, hx0, by omega, hj0, hgood, own_keep hown HX.out.2 (by decide) (put4_only (World.grownBy.refl wr (some w.heap.size)) _ _ _ _), put4_below hb (Nat.le_refl _) _ _ _ _⟩
end Go.Proofs.Ytifdkkkcecpjoaa
