/-
  The statements' own helper 'writes': one to three writes of a number, twice: for the store and for the reference.
-/
import Derived.Test.YtghddmlndafefaaStE
namespace Go.Proofs.Ytghddmlndafefaa
open Go.RowKit Go.Maps

theorem info37 : (Try.prog.info? 37).map (fun i => (i.zero, i.size, i.bytes)) = some (some (.agg #[.string ⟨#[]⟩, .string ⟨#[]⟩, .bool false]), 3, 40) := by kernel_rfl
theorem info66 : (Try.prog.info? 66).map (fun i => (i.zero, i.size, i.bytes)) = some (some (.agg #[.string ⟨#[]⟩, .string ⟨#[]⟩, .bool false]), 3, 40) := by kernel_rfl

theorem within_same (a n : Int) (w : World) (hn : 0 < n) (hb : n ≤ 9223372036854775807) (ha : -9223372036854775808 ≤ a) (ha' : a ≤ 9223372036854775807) :
    Calls Try.prog 18 #[.int .i64 a, .int .i64 n] w fun e w' => e = .returned (.int .i64 (a % n)) ∧ w' = w := (within_any a n w hn hb ha ha').mono fun _ _ ⟨a, b⟩ => ⟨a, b.symm⟩

def letter (k : Nat) : ByteArray := ({ data := #[97, 98, 99, 100, 101] } : ByteArray).extract k (k + 1)
def vletter (k : Nat) : ByteArray := ({ data := #[118, 119, 120, 121, 122] } : ByteArray).extract k (k + 1)
def wrAt (n j : Nat) : Wr := ⟨letter ((n / 3 + j) % 5), if n / (41 + j) % 4 = 0 then ⟨#[]⟩ else vletter (n / (17 + j) % 5), decide (n / (41 + j) % 4 = 0)⟩
def wrs (n j : Nat) : List Wr := (List.range j).map (wrAt n)
theorem wrs_succ (n j : Nat) : wrs n (j + 1) = wrs n j ++ [wrAt n j] := by simp [wrs, List.range_succ]
theorem wrs_length (n j : Nat) : (wrs n j).length = j := by simp [wrs]
def Wr.cells (x : Wr) : List Value := [.string x.key, .string x.val, .bool x.gone]
def wcells (l : List Wr) : List Value := l.flatMap Wr.cells
theorem wcells_append (a b : List Wr) : wcells (a ++ b) = wcells a ++ wcells b := by simp [wcells]
theorem wcells_get : ∀ (l : List Wr) (i j : Nat) (v : Wr), l[i]? = some v → j < 3 → (wcells l)[i * 3 + j]? = v.cells[j]?
  | [], i, j, v, h, _ => by simp at h
  | u :: l, 0, j, v, h, hj => by
    simp at h; subst h
    show (u.cells ++ wcells l)[0 * 3 + j]? = _
    rw [List.getElem?_append_left (by simp [Wr.cells]; omega)]; simp
  | u :: l, i + 1, j, v, h, hj => by
    show (u.cells ++ wcells l)[(i + 1) * 3 + j]? = _
    rw [List.getElem?_append_right (by simp [Wr.cells]; omega)]
    rw [show (i + 1) * 3 + j - u.cells.length = i * 3 + j by simp [Wr.cells]; omega]
    exact wcells_get l i j v (by simpa using h) hj

theorem wrIs_of_owns {w : World} {base : Nat} {v : Value} {l : List Wr} (h : w.ownsRow base 37 3 v l.length (wcells l)) : WrIs w v l := by
  have h' := h
  rcases h.2 with ⟨rfl, hn⟩ | ⟨g, cap, cur, rfl, _⟩
  · exact .inl ⟨rfl, List.eq_nil_of_length_eq_zero hn⟩
  · refine .inr ⟨g, 0, cap, rfl, fun i u hu => ?_⟩
    have hi : i < l.length := (List.getElem?_eq_some_iff.1 hu).1
    have c := fun j (hj : j < 3) => (h'.cellAt (i * 3 + j) (by omega)).trans (wcells_get l i j u hu hj)
    simp only [Nat.zero_add]
    exact ⟨c 0 (by omega), c 1 (by omega), c 2 (by omega)⟩

/-- A row of one element type is kept while a row of another is written. -/
theorem ownsRow_beside {w w' : World} {base base' : Nat} {e e' : TypeId} {size size' n n' : Nat} {v u : Value} {xs ys : List Value} (h : w.ownsRow base e size v n xs) (hu : w.ownsRow base' e' size' u n' ys) (he : e ≠ e') (hg : w.grownBy w' u.ownBlock) : w'.ownsRow base e size v n xs := by
  refine ownsRow_of_blocks h (fun k cur hk => hg.block k (Array.getElem?_eq_some_iff.1 hk).1 (fun hku => ?_))
  rcases hu.2 with ⟨rfl, _⟩ | ⟨g, cap, cur', rfl, _, hb, _⟩
  · simp [Value.ownBlock] at hku
  · simp [Value.ownBlock] at hku
    subst hku
    rw [hk] at hb
    simp at hb
    exact he hb.2

def WritesEnd (n : Nat) (w : World) (e : Ending) (w' : World) : Prop := ∃ va vb, e = .returned (.tuple #[va, vb]) ∧
  w'.ownsRow w.heap.size 37 3 va (wrs n (n % 3 + 1)).length (wcells (wrs n (n % 3 + 1))) ∧ w'.ownsRow w.heap.size 66 3 vb (wrs n (n % 3 + 1)).length (wcells (wrs n (n % 3 + 1))) ∧ Below w.heap.size w w'

/-- One round's two appends. -/
theorem writes_step {n j B : Nat} {w1 w2 : World} {vb va' vb' : Value} {e : List Value} (he : e = (wrAt n j).cells)
    (ha' : w1.ownsRow B 37 3 va' (j + 1) (wcells (wrs n j) ++ e)) (hb' : w2.ownsRow B 66 3 vb' (j + 1) (wcells (wrs n j) ++ e)) (hg : w1.grownBy w2 vb.ownBlock) (hvb : w1.ownsRow B 66 3 vb j (wcells (wrs n j))) :
    w2.ownsRow B 37 3 va' (j + 1) (wcells (wrs n (j + 1))) ∧ w2.ownsRow B 66 3 vb' (j + 1) (wcells (wrs n (j + 1))) := by
  have e1 : wcells (wrs n (j + 1)) = wcells (wrs n j) ++ e := by rw [wrs_succ, wcells_append, he]; simp [wcells]
  rw [e1]
  exact ⟨ownsRow_beside ha' hvb (by decide) hg, hb'⟩

set_option maxRecDepth 100000 in
set_option maxHeartbeats 1600000 in
theorem writes_any (n : Nat) (hn : n ≤ 2000000000) (w : World) : Calls Try.prog 17 #[.int .i64 n] w (WritesEnd n w) := by
  obtain ⟨i0, hi0, hz0, hz1, hz2⟩ := info_parts info37
  obtain ⟨i1, hi1, hy0, hy1, hy2⟩ := info_parts info66
  have hwi := fun (a : Nat) (w : World) (h : a ≤ 2000000000) => within_any (a : Int) 3 w (by omega) (by omega) (by omega) (by omega)
  go_enter Try.func17, Try.ntmps17
  go_wp2_with fail
  go_loopw [4, 5, 6] (fun va vb i wr => ∃ (j : Nat) , j ≤ n % 3 + 1 ∧ i = .int .i64 j ∧ wr.ownsRow w.heap.size 37 3 va j (wcells (wrs n j)) ∧ wr.ownsRow w.heap.size 66 3 vb j (wcells (wrs n j)) ∧ Below w.heap.size w wr) (fun _ _ i _ => 4 - (intOf i).toNat)
  case atStart => exact ⟨0, by omega, rfl, World.ownsRow_nil _ _ _ _, World.ownsRow_nil _ _ _ _, Below.refl _ _⟩
  case round =>
    obtain ⟨j, hj, rfl, hoa, hob, hb⟩ := hrel
    by_cases hlt : j ≤ n % 3
    · have hj3 : (j : Int) ≤ (n : Int) % 3 := by omega
      have q1 : 0 ≤ (n : Int) / 3 + j := by omega
      have q2 : 0 ≤ (n : Int) / (17 + j) := Int.ediv_nonneg (by omega) (by omega)
      have q2' : (n : Int) / (17 + j) ≤ n := Int.ediv_le_self _ (by omega)
      have q3 : 0 ≤ (n : Int) / (41 + j) := Int.ediv_nonneg (by omega) (by omega)
      have q3' : (n : Int) / (41 + j) ≤ n := Int.ediv_le_self _ (by omega)
      have q4 : ((n : Int) / 3 + j) % 5 < 5 := Int.emod_lt_of_pos _ (by omega)
      have q5 : 0 ≤ ((n : Int) / 3 + j) % 5 := Int.emod_nonneg _ (by omega)
      have q6 : (n : Int) / (17 + j) % 5 < 5 := Int.emod_lt_of_pos _ (by omega)
      have q7 : 0 ≤ (n : Int) / (17 + j) % 5 := Int.emod_nonneg _ (by omega)
      go_wp2_with (go_at_call 18; refine (hwi n _ (by omega)).mono ?_; rintro e w' ⟨rfl, rfl⟩)
      have w1 : IntKind.i64.wrap (17 + (j : Int)) = 17 + (j : Int) := IntWalk.i64_in _ (by omega)
      have w2 : IntKind.i64.wrap ((n : Int).tdiv (17 + (j : Int))) = (n : Int) / (17 + (j : Int)) := IntWalk.i64_quo _ _ (by omega)
      have w3 : IntKind.i64.wrap ((n : Int) / (17 + (j : Int)) % 5 + 1) = (n : Int) / (17 + (j : Int)) % 5 + 1 := IntWalk.i64_in _ (by omega)
      have w4 : (n : Int) / (17 + (j : Int)) % 5 + 1 ≤ 5 := by omega
      have w5 : ((n : Int) / (17 + (j : Int)) % 5).toNat = n / (17 + j) % 5 := by rw [show (n : Int) / (17 + (j : Int)) % 5 = ((n / (17 + j) % 5 : Nat) : Int) by simp]; rfl
      have w6 : ((n : Int) / (17 + (j : Int)) % 5 + 1).toNat = n / (17 + j) % 5 + 1 := by omega
      go_quiet ((go_at_call 18; exact Calls.quiet_of_same (within_same _ 5 _ (by omega) (by omega) (by omega) (by omega))))
      clear w1 w2 w3 w4 w5 w6
      have hoa' : (wr.drewN nq).ownsRow w.heap.size 37 3 u4 j (wcells (wrs n j)) := hoa
      have hob' : (wr.drewN nq).ownsRow w.heap.size 66 3 u5 j (wcells (wrs n j)) := hob
      have hb' : Below w.heap.size w (wr.drewN nq) := ⟨hb.os, hb.tape, hb.output, hb.size, hb.block⟩
      clear hoa hob hb
      revert hoa' hob' hb'
      generalize wr.drewN nq = W
      intro hoa' hob' hb'
      by_cases hg : n / (41 + j) % 4 = 0
      · have hg' : ((n : Int) / (41 + (j : Int)) % 4 == 0) = true := by
          have : (n : Int) / (41 + (j : Int)) % 4 = ((n / (41 + j) % 4 : Nat) : Int) := by simp
          rw [this, hg]; rfl
        go_wp2_with (first
          | (go_at_call 18; refine (within_any _ 4 _ (by omega) (by omega) (by omega) (by omega)).mono ?_; rintro e w' ⟨rfl, rfl⟩)
          | (at_builtin; refine wpList_append_own _ rfl (.tmp 47) (.tmp 52) 27 rfl w.heap.size 37 i0 _ 3 40 Try.underlying27 hi0 hz0 hz1 hz2 rfl (by decide) _ j _ rfl (hoa'.alloc _) ⟨W.heap.size, 0, none⟩ 1 1 [.string (letter ((n / 3 + j) % 5)), .string ⟨#[]⟩, .bool true] rfl rfl (World.news_of_block (cs := #[.string (letter ((n / 3 + j) % 5)), .string ⟨#[]⟩, .bool true]) (t := 37) (fr := (0, 0)) (heap_alloc_new W _)) (by simp [Value.oneCell']) (by unfold maxLen; omega) (by omega) (by have := hb'.size; simp; omega) ?_; intro va' w1 hown1 hgrow1 _; have hob1 := ownsRow_beside (hob'.alloc _) (hoa'.alloc _) (by decide) hgrow1)
          | (at_builtin; refine wpList_append_own _ rfl (.tmp 54) (.tmp 59) 28 rfl w.heap.size 66 i1 _ 3 40 Try.underlying28 hi1 hy0 hy1 hy2 rfl (by decide) _ j _ rfl (hob1.alloc _) ⟨w1.heap.size, 0, none⟩ 1 1 [.string (letter ((n / 3 + j) % 5)), .string ⟨#[]⟩, .bool true] rfl rfl (World.news_of_block (cs := #[.string (letter ((n / 3 + j) % 5)), .string ⟨#[]⟩, .bool true]) (t := 66) (fr := (0, 0)) (heap_alloc_new w1 _)) (by simp [Value.oneCell']) (by unfold maxLen; omega) (by omega) (by have := hb'.size; have := hgrow1.size; simp at *; omega) ?_; intro vb' w2 hown2 hgrow2 _))
        obtain ⟨r1, r2⟩ := writes_step (e := [.string (letter ((n / 3 + j) % 5)), .string ⟨#[]⟩, .bool true]) (by simp [wrAt, Wr.cells, hg]) (hown1.alloc _) hown2 hgrow2 (hob1.alloc _)
        have hb1 := (hb'.alloc hb'.size _).grown hgrow1 (by have := hb'.size; simp; omega) (fun k hk => (hoa'.lt k hk).1)
        have hb2 := (hb1.alloc hb1.size _).grown hgrow2 (by have := hb1.size; simp; omega) (fun k hk => (hob1.lt k hk).1)
        clear hown1 hown2 hgrow1 hgrow2 hob1 hb1
        go_wp2
        go_roundw
        case rel => exact ⟨j + 1, by omega, by go_num, r1, r2, hb2⟩
        case measure => simp [intOf]; omega
      · have hg' : ((n : Int) / (41 + (j : Int)) % 4 == 0) = false := by
          have : (n : Int) / (41 + (j : Int)) % 4 = ((n / (41 + j) % 4 : Nat) : Int) := by simp
          rw [this]; simpa using (by omega : ((n / (41 + j) % 4 : Nat) : Int) ≠ 0)
        go_wp2_with (first
          | (go_at_call 18; refine (within_any _ 4 _ (by omega) (by omega) (by omega) (by omega)).mono ?_; rintro e w' ⟨rfl, rfl⟩)
          | (at_builtin; refine wpList_append_own _ rfl (.tmp 47) (.tmp 52) 27 rfl w.heap.size 37 i0 _ 3 40 Try.underlying27 hi0 hz0 hz1 hz2 rfl (by decide) _ j _ rfl (hoa'.alloc _) ⟨W.heap.size, 0, none⟩ 1 1 [.string (letter ((n / 3 + j) % 5)), .string (vletter (n / (17 + j) % 5)), .bool false] rfl rfl (World.news_of_block (cs := #[.string (letter ((n / 3 + j) % 5)), .string (vletter (n / (17 + j) % 5)), .bool false]) (t := 37) (fr := (0, 0)) (heap_alloc_new W _)) (by simp [Value.oneCell']) (by unfold maxLen; omega) (by omega) (by have := hb'.size; simp; omega) ?_; intro va' w1 hown1 hgrow1 _; have hob1 := ownsRow_beside (hob'.alloc _) (hoa'.alloc _) (by decide) hgrow1)
          | (at_builtin; refine wpList_append_own _ rfl (.tmp 54) (.tmp 59) 28 rfl w.heap.size 66 i1 _ 3 40 Try.underlying28 hi1 hy0 hy1 hy2 rfl (by decide) _ j _ rfl (hob1.alloc _) ⟨w1.heap.size, 0, none⟩ 1 1 [.string (letter ((n / 3 + j) % 5)), .string (vletter (n / (17 + j) % 5)), .bool false] rfl rfl (World.news_of_block (cs := #[.string (letter ((n / 3 + j) % 5)), .string (vletter (n / (17 + j) % 5)), .bool false]) (t := 66) (fr := (0, 0)) (heap_alloc_new w1 _)) (by simp [Value.oneCell']) (by unfold maxLen; omega) (by omega) (by have := hb'.size; have := hgrow1.size; simp at *; omega) ?_; intro vb' w2 hown2 hgrow2 _))
        obtain ⟨r1, r2⟩ := writes_step (e := [.string (letter ((n / 3 + j) % 5)), .string (vletter (n / (17 + j) % 5)), .bool false]) (by simp [wrAt, Wr.cells, hg]) (hown1.alloc _) hown2 hgrow2 (hob1.alloc _)
        have hb1 := (hb'.alloc hb'.size _).grown hgrow1 (by have := hb'.size; simp; omega) (fun k hk => (hoa'.lt k hk).1)
        have hb2 := (hb1.alloc hb1.size _).grown hgrow2 (by have := hb1.size; simp; omega) (fun k hk => (hob1.lt k hk).1)
        clear hown1 hown2 hgrow1 hgrow2 hob1 hb1
        go_wp2
        go_roundw
        case rel => exact ⟨j + 1, by omega, by go_num, r1, r2, hb2⟩
        case measure => simp [intOf]; omega
    · obtain rfl : j = n % 3 + 1 := by omega
      have hj3 : (n : Int) % 3 < ((n % 3 + 1 : Nat) : Int) := by omega
      go_wp2_with (go_at_call 18; refine (hwi n _ (by omega)).mono ?_; rintro e w' ⟨rfl, rfl⟩)
      go_ret2
      exact ⟨_, _, rfl, by rw [wrs_length]; exact hoa, by rw [wrs_length]; exact hob, hb⟩
end Go.Proofs.Ytghddmlndafefaa
