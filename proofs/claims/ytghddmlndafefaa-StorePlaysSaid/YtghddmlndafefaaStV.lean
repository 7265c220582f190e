/-
  The reference's store: Clean.
-/
import Derived.Test.YtghddmlndafefaaStU
namespace Go.Proofs.Ytghddmlndafefaa
open Go.RowKit Go.Maps Go.Proofs.YtghddmlndafefaaW
attribute [local go_sem ↓] Go.wp_at_zero Go.wp_at_succ
set_option linter.unusedSimpArgs false
theorem nIx_append (key : ByteArray) (at_ : Int) : ∀ (a b : List Ver) (i : Nat) (d : Int), nIx key at_ i (a ++ b) d = nIx key at_ (i + a.length) b (nIx key at_ i a d)
  | [], b, i, d => rfl
  | u :: a, b, i, d => by
    show nIx key at_ (i + 1) (a ++ b) _ = _
    rw [nIx_append key at_ a b (i + 1)]
    rw [show i + 1 + a.length = i + (u :: a).length by simp; omega]
    rfl
theorem nIx_none (key : ByteArray) (at_ : Int) : ∀ (l : List Ver) (i : Nat) (d : Int), (∀ u ∈ l, ¬ (u.key = key ∧ (u.at_ : Int) ≤ at_)) → nIx key at_ i l d = d
  | [], _, _, _ => rfl
  | u :: l, i, d, h => by
    show nIx key at_ (i + 1) l _ = _
    rw [if_neg (h u (by simp)), nIx_none key at_ l (i + 1) d (fun v hv => h v (by simp [hv]))]
theorem nIx_some (key : ByteArray) (at_ : Int) : ∀ (l : List Ver) (i : Nat) (d : Int), (∃ u ∈ l, u.key = key ∧ (u.at_ : Int) ≤ at_) → (i : Int) ≤ nIx key at_ i l d
  | [], _, _, h => by obtain ⟨u, hu, _⟩ := h; simp at hu
  | u :: l, i, d, h => by
    show _ ≤ nIx key at_ (i + 1) l _
    by_cases hl : ∃ v ∈ l, v.key = key ∧ (v.at_ : Int) ≤ at_
    · have := nIx_some key at_ l (i + 1) (if u.key = key ∧ (u.at_ : Int) ≤ at_ then i else d) hl
      omega
    · rw [nIx_none key at_ l (i + 1) _ (fun v hv hx => hl ⟨v, hv, hx⟩)]
      obtain ⟨v, hv, hx⟩ := h
      rcases List.mem_cons.1 hv with rfl | hv
      · rw [if_pos hx]; exact Int.le_refl _
      · exact absurd ⟨v, hv, hx⟩ hl
/-- The reference's test of a version is the plain one. -/
theorem rtest {L : List Ver} {j low : Nat} {u : Ver} (hu : L[j]? = some u) :
    (¬ u.at_ ≤ low → dropIt (fun _ => true) low u (L.drop (j + 1)) = false) ∧
    (u.at_ ≤ low → nOfL L u.key (low : Int) = (j : Int) → dropIt (fun _ => true) low u (L.drop (j + 1)) = u.gone) ∧
    (u.at_ ≤ low → nOfL L u.key (low : Int) ≠ (j : Int) → dropIt (fun _ => true) low u (L.drop (j + 1)) = true) := by
  have hj : j < L.length := (List.getElem?_eq_some_iff.1 hu).1
  refine ⟨fun h => by simp [dropIt, h], fun h hn => ?_, fun h hn => ?_⟩
  all_goals
    have hs : L = L.take j ++ u :: L.drop (j + 1) := by
      have h1 := (List.take_append_drop j L).symm
      rw [List.drop_eq_getElem_cons hj, (List.getElem?_eq_some_iff.1 hu).2] at h1
      exact h1
    have hl : (L.take j).length = j := by simp; omega
    unfold nOfL at hn
    rw [hs, nIx_append, hl] at hn
    simp only [nIx, Nat.zero_add] at hn
    rw [if_pos (show True ∧ (u.at_ : Int) ≤ (low : Int) from ⟨trivial, by omega⟩)] at hn
  · have ha : (L.drop (j + 1)).any (fun v => decide (v.key = u.key) && decide (v.at_ ≤ low)) = false := by
      rw [List.any_eq_false]
      intro v hv hc
      simp at hc
      have := nIx_some u.key (low : Int) (L.drop (j + 1)) (j + 1) (j : Int) ⟨v, hv, hc.1, by omega⟩
      omega
    simp [dropIt, h, ha]
  · have ha : (L.drop (j + 1)).any (fun v => decide (v.key = u.key) && decide (v.at_ ≤ low)) = true := by
      rw [List.any_eq_true]
      refine Classical.byContradiction fun hc => hn ?_
      refine nIx_none _ _ _ _ _ fun v hv hx => hc ⟨v, hv, ?_⟩
      simp [hx.1]
      omega
    simp [dropIt, h, ha]
/-- What is kept of what is left of a row. -/
def leftOf (low : Nat) (L : List Ver) (j : Nat) : List Ver := keepL (fun _ => true) low (L.drop j)
theorem leftOf_step {L : List Ver} {j low : Nat} {u : Ver} (hu : L[j]? = some u) : leftOf low L j = if dropIt (fun _ => true) low u (L.drop (j + 1)) = true then leftOf low L (j + 1) else u :: leftOf low L (j + 1) := by
  have hj : j < L.length := (List.getElem?_eq_some_iff.1 hu).1
  unfold leftOf
  rw [List.drop_eq_getElem_cons hj, (List.getElem?_eq_some_iff.1 hu).2]
  rfl
theorem least_take {pins : List Nat} {now j p : Nat} (h : pins[j]? = some p) : leastOf (pins.take (j + 1)) now = Nat.min (leastOf (pins.take j) now) p := by
  unfold leastOf
  rw [List.take_add_one, h]
  simp
def RCleanEnd (base : Nat) (r : Rto) (low : Nat) (w : World) (e : Ending) (w' : World) : Prop :=
  e = .returned (.int .i64 ((r.L.length - (cleanL low r.L).length : Nat) : Int)) ∧ RHolds w' base { r with L := cleanL low r.L } ∧ RT base w w'
set_option maxRecDepth 100000 in
set_option maxHeartbeats 1600000 in
theorem rclean_any {w : World} {base : Nat} {r : Rto} (h : RHolds w base r) (hL : r.L.length ≤ 10000) (hp : r.pins.length ≤ 10000) (low : Nat) (hlow : leastOf r.pins r.now = low) :
    Calls Try.prog 30 #[.pointer (some ⟨r.rb, 0, none⟩)] w (RCleanEnd base r low w) := by
  have HLOW := Lib.hid hlow
  clear hlow
  obtain ⟨i82, hi, hz, hy, hx⟩ := info_parts info82'
  have HR := Lib.hid h
  obtain ⟨vv, pv, h⟩ := h
  obtain ⟨c0, c1, c2, c3⟩ := h.cell
  obtain ⟨a2, k2, rfl⟩ := slice_of_owns h.vrow
  obtain ⟨a3, k3, rfl⟩ := slice_of_owns h.prow
  have HH := Lib.hid h
  have hrlt := h.lt
  clear h c0
  go_enter Try.func30, Try.ntmps30
  go_wp2
  go_loop [3, 4] (fun l i => ∃ j : Nat, j ≤ r.pins.length ∧ l = .int .i64 (leastOf (r.pins.take j) r.now : Nat) ∧ i = .int .i64 j) (fun _ i => r.pins.length - (intOf i).toNat)
  case atStart => exact ⟨0, Nat.zero_le _, rfl, rfl⟩
  case round =>
    obtain ⟨j, hj, rfl, rfl⟩ := hrel
    by_cases hlt : j < r.pins.length
    · have h := HH.out
      obtain ⟨p, hu⟩ : ∃ p, r.pins[j]? = some p := ⟨r.pins[j], List.getElem?_eq_getElem hlt⟩
      obtain ⟨g, k3', e3, hgl⟩ := h.prow.form (by omega)
      obtain ⟨rfl, rfl⟩ : a3 = some ⟨g, 0, none⟩ ∧ k3 = k3' := by simpa using e3
      have hcell : w.cell? ⟨g, j, none⟩ = some (.int .i64 (p : Int)) := (h.prow.cellAt (g := g) j (by omega)).trans (pin_get _ _ _ hu)
      have HT := Lib.hid (least_take (now := r.now) hu)
      have hmn : min (leastOf (r.pins.take j) r.now : Int) (p : Int) = ((leastOf (r.pins.take (j + 1)) r.now : Nat) : Int) := by
        rw [HT.out]
        show _ = ((if leastOf (r.pins.take j) r.now ≤ p then leastOf (r.pins.take j) r.now else p : Nat) : Int)
        split <;> omega
      have HMN := Lib.hid hmn
      clear hmn h hu hgl e3
      go_wp2
      go_round
      case rel => exact ⟨j + 1, by omega, by rw [HMN.out], by go_num⟩
      case measure => simp [intOf]; omega
    · obtain rfl : j = r.pins.length := by omega
      have hlow : leastOf (r.pins.take r.pins.length) r.now = low := by rw [List.take_length]; exact HLOW.out
      rw [hlow]
      have hle : low ≤ r.now := by rw [← HLOW.out]; exact (leastOf_le r.pins r.now).1
      clear hlow
      go_wp2
      have h0 : World.ownsRow w w.heap.size 82 4 (.slice none 0 0) 0 [] := World.ownsRow_nil _ _ _ _
      go_loopw [5, 6] (fun kv i wr => ∃ (j : Nat) (K : List Ver), j ≤ r.L.length ∧ i = .int .i64 j ∧ wr.ownsRow w.heap.size 82 4 kv K.length (cellsOf K) ∧ Hid (K ++ leftOf low r.L j = cleanL low r.L) ∧ K.length ≤ j ∧ Below w.heap.size w wr) (fun _ i _ => r.L.length - (intOf i).toNat)
      case atStart => exact ⟨0, [], Nat.zero_le _, rfl, h0, Lib.hid rfl, Nat.le_refl _, Below.refl _ _⟩
      case round =>
        clear h0
        obtain ⟨j, K, hj, rfl, hown, HK, hKj, hb⟩ := hrel
        have c2r := (hb.cell (p := ⟨r.rb, 2, none⟩) hrlt).trans c2
        by_cases hlt : j < r.L.length
        · have h := HH.out.below hb
          obtain ⟨g, c', e, hc⟩ := h.at_cells (by omega)
          obtain ⟨rfl, rfl⟩ : a2 = some ⟨g, 0, none⟩ ∧ k2 = c' := by simpa using e
          obtain ⟨u, hu⟩ : ∃ u, r.L[j]? = some u := ⟨r.L[j], List.getElem?_eq_getElem hlt⟩
          obtain ⟨k0, k1, kk2, kk3⟩ := hc j u hu
          have hn := fun x (hx : Below w.heap.size w x) => rnewest_any (HR.out.below hx) u.key (low : Int) hL
          obtain ⟨T1, T2, T3⟩ := rtest (low := low) hu
          have HS := Lib.hid (leftOf_step (low := low) hu)
          have hcells : cellsOf [u] = [.string u.key, .string u.val, .bool u.gone, .int .i64 u.at_] := by simp [cellsOf, Ver.cells]
          clear h hc hu e
          generalize u.gone = gv at *
          obtain ⟨ak, ck, rfl⟩ := slice_of_owns hown
          have hbn : Below w.heap.size w (wr.alloc (.cells #[.string u.key, .string u.val, .bool gv, .int .i64 u.at_] 82)) := hb.alloc hb.size _
          have hbn2 := hbn.alloc hbn.size (.cells #[.string u.key, .string u.val, .bool gv, .int .i64 u.at_] 82)
          have hsz := hb.size
          have hkeep : ∀ w9, ((wr.alloc (.cells #[.string u.key, .string u.val, .bool gv, .int .i64 u.at_] 82)).alloc (.cells #[.string u.key, .string u.val, .bool gv, .int .i64 u.at_] 82)).grownBy w9 (Value.slice ak K.length ck).ownBlock → Below w.heap.size w w9 := fun w9 hg => hbn2.grown hg hbn2.size (fun k hk => (hown.lt k hk).1)
          have HKP := Lib.hid hkeep
          have HN := Lib.hid (hn _ hbn)
          clear hkeep hn
          have hcells : cellsOf (K ++ [u]) = cellsOf K ++ [.string u.key, .string u.val, .bool gv, .int .i64 u.at_] := by rw [cellsOf_append, hcells]
          by_cases hat : u.at_ ≤ low
          · go_wp2_with fail
            refine HN.out.mono ?_
            rintro e w' ⟨rfl, rfl⟩
            by_cases hq : nOfL r.L u.key (low : Int) = (j : Int)
            · have hq1 : (nOfL r.L u.key (low : Int) == (j : Int)) = true := by simpa using hq
              have hd := T2 hat hq
              generalize nOfL r.L u.key (low : Int) = q at *
              cases gv
              · skip
                have HK2 : Hid ((K ++ [u]) ++ leftOf low r.L (j + 1) = cleanL low r.L) := by
                  have h1 := HK.out
                  rw [HS.out, hd] at h1
                  exact Lib.hid (by simpa using h1)
                clear hd T1 T2 T3 HS HN
                go_wp2_with (at_builtin; refine wpList_append_own _ rfl (.tmp 67) (.tmp 69) 53 rfl w.heap.size 82 i82 _ 4 48 Try.underlying53 hi hz hy hx rfl (by decide) _ K.length _ rfl ((hown.alloc _).alloc _) ⟨wr.heap.size + 1, 0, none⟩ 1 1 [.string u.key, .string u.val, .bool false, .int .i64 u.at_] rfl rfl (World.news_of_block (cs := #[.string u.key, .string u.val, .bool false, .int .i64 u.at_]) (t := 82) (fr := (0, 0)) (by simpa using heap_alloc_new (wr.alloc (.cells #[.string u.key, .string u.val, .bool false, .int .i64 u.at_] 82)) (.cells #[.string u.key, .string u.val, .bool false, .int .i64 u.at_] 82))) (by simp [Value.oneCell']) (by unfold maxLen; omega) (by omega) (by simp; omega) ?_; intro v9 w9 hown9 hgrow9 _)
                have hB9 := HKP.out _ hgrow9
                rw [← hcells] at hown9
                clear hgrow9 HKP hbn hbn2 hb hown
                go_wp2
                go_roundw
                case rel => exact ⟨j + 1, K ++ [u], by omega, by go_num, by simpa using hown9, HK2, by simp; omega, hB9⟩
                case measure => simp [intOf]; omega
              · skip
                have HK2 : Hid (K ++ leftOf low r.L (j + 1) = cleanL low r.L) := by
                  have h1 := HK.out
                  rw [HS.out, hd] at h1
                  exact Lib.hid (by simpa using h1)
                clear hd T1 T2 T3 HS HN HKP hbn2
                go_wp2_with fail
                go_roundw
                case rel => exact ⟨j + 1, K, by omega, by go_num, hown.alloc _, HK2, by omega, hbn⟩
                case measure => simp [intOf]; omega
            · have hq1 : (nOfL r.L u.key (low : Int) == (j : Int)) = false := by simpa using hq
              have hd := T3 hat hq
              generalize nOfL r.L u.key (low : Int) = q at *
              have HK2 : Hid (K ++ leftOf low r.L (j + 1) = cleanL low r.L) := by
                have h1 := HK.out
                rw [HS.out, hd] at h1
                exact Lib.hid (by simpa using h1)
              clear hd T1 T2 T3 HS HN HKP hbn2
              go_wp2_with fail
              go_roundw
              case rel => exact ⟨j + 1, K, by omega, by go_num, hown.alloc _, HK2, by omega, hbn⟩
              case measure => simp [intOf]; omega
          · have hd := T1 hat
            have HK2 : Hid ((K ++ [u]) ++ leftOf low r.L (j + 1) = cleanL low r.L) := by
              have h1 := HK.out
              rw [HS.out, hd] at h1
              exact Lib.hid (by simpa using h1)
            clear hd T1 T2 T3 HS HN
            go_wp2_with (at_builtin; refine wpList_append_own _ rfl (.tmp 67) (.tmp 69) 53 rfl w.heap.size 82 i82 _ 4 48 Try.underlying53 hi hz hy hx rfl (by decide) _ K.length _ rfl ((hown.alloc _).alloc _) ⟨wr.heap.size + 1, 0, none⟩ 1 1 [.string u.key, .string u.val, .bool gv, .int .i64 u.at_] rfl rfl (World.news_of_block (cs := #[.string u.key, .string u.val, .bool gv, .int .i64 u.at_]) (t := 82) (fr := (0, 0)) (by simpa using heap_alloc_new (wr.alloc (.cells #[.string u.key, .string u.val, .bool gv, .int .i64 u.at_] 82)) (.cells #[.string u.key, .string u.val, .bool gv, .int .i64 u.at_] 82))) (by simp [Value.oneCell']) (by unfold maxLen; omega) (by omega) (by simp; omega) ?_; intro v9 w9 hown9 hgrow9 _)
            have hB9 := HKP.out _ hgrow9
            rw [← hcells] at hown9
            clear hgrow9 HKP hbn hbn2 hb hown
            go_wp2
            go_roundw
            case rel => exact ⟨j + 1, K ++ [u], by omega, by go_num, by simpa using hown9, HK2, by simp; omega, hB9⟩
            case measure => simp [intOf]; omega
        · obtain rfl : j = r.L.length := by omega
          have hK2 : K = cleanL low r.L := by
            have h1 := HK.out
            unfold leftOf at h1
            rw [List.drop_length] at h1
            simpa [keepL] using h1
          subst hK2
          have hle2 := clean_length low r.L
          have hbase : w.heap.size ≤ w.heap.size := Nat.le_refl _
          have hfin : ∀ u : Value, wr.ownsRow w.heap.size 82 4 u (cleanL low r.L).length (cellsOf (cleanL low r.L)) → Hid (RHolds (wr.setCell ⟨r.rb, 2, none⟩ u) base { r with L := cleanL low r.L } ∧ RT base w (wr.setCell ⟨r.rb, 2, none⟩ u)) := fun u ho => by
            have h := HH.out
            have := h.setV (L' := cleanL low r.L) (u := u) (w9 := wr) ⟨hb.os, hb.tape, hb.output, hb.size, fun k hk _ => hb.block k hk⟩ (ownsRow_base ho (by have := h.hrb; omega))
            exact Lib.hid ⟨⟨_, _, this.1⟩, this.2⟩
          have HFIN := hfin _ hown
          have hfr : wr.frozen? ⟨r.rb, 2, none⟩ = false := (HH.out.below hb).free 2
          obtain ⟨ak, ck, rfl⟩ := slice_of_owns hown
          clear hfin
          go_wp2_with fail
          go_ret
          exact ⟨by first | rfl | exact ret_int (by omega), HFIN.out⟩
end Go.Proofs.Ytghddmlndafefaa
