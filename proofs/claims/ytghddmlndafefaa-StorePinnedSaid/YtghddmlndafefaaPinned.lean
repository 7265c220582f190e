/-
  StorePinned: the claim.
-/
import Derived.Test.YtghddmlndafefaaRows
import Derived.WalkKit
import Derived.ProofKit
import Derived.OpenShut
import Derived.ShutString
import Derived.ChangeOld
import Derived.Below
import Derived.Test.YtghddmlndafefaaStR
import Derived.Deep.RegionHeld3
import Derived.Deep.DeepCutAuto
namespace Go.Proofs.Ytghddmlndafefaa.storePinned
open Go.ChangeShapes Go.WideShapes Go.ChangeAt Go.RowKit
open Go.ChangeMaps (open_string shut_string)
open Go.Maps
set_option linter.unusedVariables false

theorem own : ownKnob Try.prog.godebug = none := by kernel_rfl
theorem laidOut : laidOutB Try.prog = true := by kernel_rfl

/-- WHAT THE WALK IS TOLD OF A SLICE OF INTEGERS THAT CAME IN: it is nil; or it leads to a row of 'cap' cells, the numbers 'zs' (the first 'len' are its elements, the rest its spare room), each fitting its kind. -/
def IsRow (k : IntKind) (w : World) (a : Option Addr) (len cap : Nat) (zs : List Int) : Prop :=
  (a = none ∧ len = 0 ∧ cap = 0 ∧ zs = []) ∨
  ∃ x, a = some x ∧ len ≤ cap ∧ cap ≤ maxLen ∧ zs.length = cap ∧ (∀ i, i < zs.length → w.cell? (x.add i) = some (.int k (zs.getD i 0))) ∧ ∀ n ∈ zs, (Lit.int k n).wf = true

open Go.RowKit
theorem info9' : (Try.prog.info? 9).map (fun i => (i.zero, i.size, i.bytes)) = some (some (.string ⟨#[]⟩), 1, 16) := by kernel_rfl
theorem info4' : (Try.prog.info? 4).map (fun i => (i.zero, i.size, i.bytes)) = some (some (.bool false), 1, 1) := by kernel_rfl
/-- A store whose reads at one stamp are remembered. -/
def PinSt (s0 : Sto) (base j : Nat) (done : Prop) (w wr : World) (s7 s8 s9 : Value) : Prop :=
  ∃ (n : Nat) (L : List Ver) (pins : List Nat) (p m : Nat) (D PD : DataW Value), n ≤ j ∧ L.length ≤ 3 * j ∧ Sorted L ∧ Holds wr base (stoP s0 n L pins) D PD ∧ Below w.heap.size w wr ∧ s7 = .int .i64 p ∧
    wr.ownsRow w.heap.size 9 1 s8 m (rdVs L p m) ∧ wr.ownsRow w.heap.size 4 1 s9 m (rdBs L p m) ∧ ((m = 0 ∧ pins = [] ∧ p = 0 ∧ ¬ done) ∨ (m = 5 ∧ pins = [p] ∧ p ≤ n ∧ done))
theorem PinSt.mono {s0 : Sto} {base j j' : Nat} {done done' : Prop} {w wr : World} {s7 s8 s9 : Value} (h : PinSt s0 base j done w wr s7 s8 s9) (hj : j ≤ j') (hd : done ↔ done') : PinSt s0 base j' done' w wr s7 s8 s9 := by
  obtain ⟨n, L, pins, p, m, D, PD, h1, h2, h3, h4, h5, h6, h7, h8, h9⟩ := h
  exact ⟨n, L, pins, p, m, D, PD, by omega, by omega, h3, h4, h5, h6, h7, h8, by rw [← hd]; exact h9⟩

set_option maxRecDepth 100000 in
set_option maxHeartbeats 1600000 in
theorem walk (a0 : Option Addr) (len0 cap0 : Nat) (z0 : List Int) (a1 : Int) (w : World) (w0 : IsRow .i64 w a0 len0 cap0 z0) (w1 : (Lit.int .i64 a1).wf = true) :
    Calls Try.prog 8 #[.slice a0 len0 cap0, .int .i64 a1] w fun e w' => e = .returned (.bool true) ∧ Below w.heap.size w w' := by
  have hk := known_any w
  obtain ⟨hr1, hr2⟩ := wf_bounds w1
  have hl0 : len0 ≤ maxLen := by
    rcases row_open w0 with rfl | ⟨_, _, _, h, _⟩
    · exact Nat.zero_le _
    · exact h
  have HO := Lib.hid (row_open w0)
  obtain ⟨k, nn, hk0, hwn, hwa⟩ := within_len a1 len0 hl0 hr1 hr2
  unfold maxLen at hl0
  clear w0 w1
  go_enter Try.func8, Try.ntmps8
  go_wp2_with fail
  refine hk.mono ?_
  rintro e v1 ⟨rfl, b1⟩
  go_wp2_with fail
  refine (new_any 10000 v1 (by omega)).mono ?_
  rintro e v2 ⟨rfl, hH, b2, -⟩
  have b02 := below_step b1 b2
  have hb1 := b1.size
  clear hk b2 b1
  go_wp2_with fail
  refine (hwa _).mono ?_
  rintro e v2' ⟨rfl, rfl⟩
  clear hwa
  go_wp2_with fail
  have h0 : PinSt (newSto v1 10000) v1.heap.size 0 (k < 0) w v2 (.int .i64 0) (.slice none 0 0) (.slice none 0 0) :=
    ⟨0, [], [], 0, 0, _, _, by omega, by simp, sorted_nil, hH, b02, rfl, World.ownsRow_nil _ _ _ _, World.ownsRow_nil _ _ _ _, .inl ⟨rfl, rfl, rfl, by omega⟩⟩
  obtain ⟨i9, hi9, hz9, hy9, hx9⟩ := info_parts info9'
  obtain ⟨i4, hi4, hz4, hy4, hx4⟩ := info_parts info4'
  have hbs : ∀ q, Bs (newSto v1 10000) q → w.heap.size ≤ q := by
    rintro q (rfl | rfl | rfl) <;> simp [newSto] <;> omega
  clear hH b02 hwn
  go_loopg [7, 8, 9, 10] 50 (fun g s7 s8 s9 s10 wr => ∃ j : Nat, j ≤ 50 ∧ g = 50 - j ∧ s10 = .int .i64 j ∧ PinSt (newSto v1 10000) v1.heap.size j (k < j) w wr s7 s8 s9)
  case atStart => exact ⟨0, by omega, rfl, rfl, h0⟩
  case round =>
    obtain ⟨j, hj50, rfl, rfl, hP⟩ := hrel
    clear h0
    by_cases hlt : j ≤ len0 ∧ j < 50
    · obtain ⟨hlt1, hlt2⟩ := hlt
      go_upto_if 41 with fail
      go_cut [7, 8, 9] (fun s7 s8 s9 wc => PinSt (newSto v1 10000) v1.heap.size j (k ≤ j) w wc s7 s8 s9)
      case first =>
        by_cases hjk : j = k
        · subst hjk
          obtain ⟨n, L, pins, p, m, D, PD, hnj, hLj, hS, hH, hb, rfl, r8, r9, hor⟩ := hP
          obtain ⟨rfl, rfl, rfl, -⟩ := hor.resolve_right (fun h => by omega)
          clear hor
          go_wp2_with fail
          refine (pin_any hH (by show n ≤ 1000000; omega) (by show 0 ≤ 1000000; omega)).mono ?_
          rintro e w4 ⟨he, ⟨PD', h6⟩, t4⟩
          obtain rfl : e = .returned (.int .i64 n) := he
          have hH6 : Holds w4 v1.heap.size (stoP (newSto v1 10000) n L [n]) D PD' := h6
          have q8 : w4.ownsRow w.heap.size 9 1 _ 0 (rdVs L n 0) := hH.row r8 (by decide) t4.pb
          have q9 : w4.ownsRow w.heap.size 4 1 _ 0 (rdBs L n 0) := hH.row r9 (by decide) t4.pb
          have b4 : Below w.heap.size w w4 := below_turn hb t4 (fun q hq => hbs q (.inr (.inl hq)))
          clear h6 t4 hH r8 r9 hb hlt2
          go_wp2_with fail
          go_loopw [8, 9, 11] (fun s8 s9 i wq => ∃ q : Nat, q ≤ 5 ∧ i = .int .i64 q ∧ Holds wq v1.heap.size (stoP (newSto v1 10000) n L [n]) D PD' ∧ wq.ownsRow w.heap.size 9 1 s8 q (rdVs L n q) ∧ wq.ownsRow w.heap.size 4 1 s9 q (rdBs L n q) ∧ Below w.heap.size w wq) (fun _ _ i _ => 5 - (intOf i).toNat)
          case atStart => exact ⟨0, by omega, rfl, hH6, q8, q9, b4⟩
          case round =>
            clear hH6 q8 q9 b4
            obtain ⟨q, hq5, rfl, hH, r8, r9, hb⟩ := hrel
            by_cases hq : q < 5
            · go_wp2_with fail
              refine (read_as hH (letter q) (letter_size q) (n : Int) _ _ (rd_pair L n q)).mono ?_
              rintro e wr' ⟨rfl, rfl⟩
              go_wp2_with (first
                | (at_builtin; refine wpList_append_own _ rfl (.tmp 58) (.tmp 60) 46 rfl w.heap.size 9 i9 _ 1 16 Try.underlying46 hi9 hz9 hy9 hx9 rfl (by decide) _ q _ rfl (r8.alloc _) ⟨wr.heap.size, 0, none⟩ 1 1 [.string (rdV L n q)] rfl rfl (World.news_of_block (cs := #[.string (rdV L n q)]) (t := 9) (fr := (0, 0)) (heap_alloc_new wr _)) (by simp [Value.oneCell']) (by unfold maxLen; omega) (by omega) (by have := hb.size; simp; omega) ?_; intro va' w5 hown1 hgrow1 _; have hob1 := ownsRow_beside (r9.alloc _) (r8.alloc _) (by decide) hgrow1)
                | (at_builtin; refine wpList_append_own _ rfl (.tmp 62) (.tmp 64) 47 rfl w.heap.size 4 i4 _ 1 1 Try.underlying47 hi4 hz4 hy4 hx4 rfl (by decide) _ q _ rfl (hob1.alloc _) ⟨w5.heap.size, 0, none⟩ 1 1 [.bool (rdB L n q)] rfl rfl (World.news_of_block (cs := #[.bool (rdB L n q)]) (t := 4) (fr := (0, 0)) (heap_alloc_new w5 _)) (by simp [Value.oneCell']) (by unfold maxLen; omega) (by omega) (by have h1 := hb.size; have h2 := hgrow1.size; simp only [World.size_alloc] at h2 ⊢; omega) ?_; intro vb' w6 hown2 hgrow2 _))
              have g8 := ownsRow_beside (hown1.alloc (.cells #[.bool (rdB L n q)] 4)) (hob1.alloc (.cells #[.bool (rdB L n q)] 4)) (by decide) hgrow2
              have H0 := hH.below ((Below.refl _ _).alloc (Nat.le_refl _) (.cells #[.string (rdV L n q)] 9))
              have H1 := H0.grown (r8.alloc (.cells #[.string (rdV L n q)] 9)) (by decide) (by decide) hgrow1
              have H2 := H1.below ((Below.refl _ _).alloc (Nat.le_refl _) (.cells #[.bool (rdB L n q)] 4))
              have H3 := H2.grown (hob1.alloc (.cells #[.bool (rdB L n q)] 4)) (by decide) (by decide) hgrow2
              have hb5 := (hb.alloc hb.size (.cells #[.string (rdV L n q)] 9)).grown hgrow1 (by have := hb.size; simp only [World.size_alloc]; omega) (fun k hk => (r8.lt k hk).1)
              have hb6 := (hb5.alloc hb5.size (.cells #[.bool (rdB L n q)] 4)).grown hgrow2 (by have := hb5.size; simp only [World.size_alloc]; omega) (fun k hk => (hob1.lt k hk).1)
              rw [← rdVs_succ] at g8
              rw [← rdBs_succ] at hown2
              clear hown1 hgrow1 hgrow2 hob1 H0 H1 H2 hb5 hb r8 r9 hH
              go_wp2
              go_roundw
              case rel => exact ⟨q + 1, by omega, by go_num, H3, g8, hown2, hb6⟩
              case measure => simp [intOf]; omega
            · obtain rfl : q = 5 := by omega
              go_wp2_with fail
              go_meet
              case rel => exact ⟨n, L, [n], n, 5, D, PD', hnj, hLj, hS, hH, hb, rfl, r8, r9, .inr ⟨rfl, rfl, Nat.le_refl _, Nat.le_refl _⟩⟩
        · go_wp2_with fail
          go_meet
          case rel => exact hP.mono (Nat.le_refl _) (by omega)
      case rest =>
        clear hP
        go_upto_if 69 with fail
        go_cut [7, 8, 9] (fun s7 s8 s9 wc => PinSt (newSto v1 10000) v1.heap.size (j + 1) (k < j + 1) w wc s7 s8 s9)
        case first =>
          by_cases hjl : j < len0
          · obtain ⟨n, L, pins, p, m, D, PD, hnj, hLj, hS, hH, hb, rfl, r8, r9, hor⟩ := hcut
            obtain ⟨b, off, rfl, -, hbw, hcell⟩ := HO.out.resolve_left (by omega)
            obtain ⟨hc, hz1, hz2⟩ := hcell j hjl
            clear hcell
            have hpn : p ≤ n := by rcases hor with ⟨_, _, h, _⟩ | ⟨_, _, h, _⟩ <;> omega
            have hpl : m = 0 ∨ leastOf pins (n + 1) ≤ p := by
              rcases hor with ⟨h, _⟩ | ⟨_, h, _⟩
              · exact .inl h
              · exact .inr ((leastOf_le pins (n + 1)).2 p (by rw [h]; simp))
            have hpm : ∀ x ∈ pins, x ≤ 1000000 := by
              rcases hor with ⟨_, h, _⟩ | ⟨_, h, h2, _⟩
              · rw [h]; simp
              · rw [h]; intro x hx; simp at hx; omega
            have hor' : (m = 0 ∧ pins = [] ∧ p = 0 ∧ ¬ k < j + 1) ∨ (m = 5 ∧ pins = [p] ∧ p ≤ n + 1 ∧ k < j + 1) := by
              rcases hor with ⟨h1, h2, h3, h4⟩ | ⟨h1, h2, h3, h4⟩
              · exact .inl ⟨h1, h2, h3, by omega⟩
              · exact .inr ⟨h1, h2, by omega, by omega⟩
            clear hor
            have HOR := Lib.hid hor'
            clear hor'
            have hcr := (hb.cell (p := ⟨b, off + j, none⟩) hbw).trans hc
            have hwi := fun x => within_any (z0.getD j 0) 1073741824 x (by omega) (by omega) hz1 hz2
            have hw3 := fun x => within_any (z0.getD j 0) 3 x (by omega) (by omega) hz1 hz2
            have hwr := writes_wn (z0.getD j 0)
            generalize (z0.getD j 0 % 1073741824).toNat = zk at *
            generalize z0.getD j 0 % 1073741824 = zm at *
            generalize z0.getD j 0 % 3 = z3 at *
            generalize z0.getD j 0 = z at *
            go_wp2_with fail
            refine (hwi _).mono ?_
            rintro e wr' ⟨rfl, rfl⟩
            clear hwi
            go_wp2_with fail
            refine (hwr _).mono ?_
            rintro e w3 ⟨va, vb, rfl, hws, b3⟩
            have hH3 := hH.below b3
            have hb3 := below_step hb b3
            have q8 := ownsRow_below r8 b3
            have q9 := ownsRow_below r9 b3
            have hwl := wn_length_le zk
            have hwk := wn_key_size (m := zk)
            generalize wn zk = ws at *
            clear hwr hb b3 hH r8 r9 hcr
            go_wp2_with fail
            refine (commit_any hH3 hws hwk (by show L.length + ws.length ≤ 10000; omega) (by show n ≤ 1000000; omega)).mono ?_
            rintro e w5 ⟨he, ⟨D5, h5⟩, t5⟩
            obtain rfl : e = .returned (.tuple #[.int .i64 ((n : Int) + 1), .int .i64 0]) := he
            have hH5 : Holds w5 v1.heap.size (stoP (newSto v1 10000) (n + 1) (L ++ vers ws (n + 1)) pins) D5 PD := h5
            have hS5 : Sorted (L ++ vers ws (n + 1)) := sorted_snoc hS hH3.stamps ws
            have hl5 : (L ++ vers ws (n + 1)).length = L.length + ws.length := by simp [vers]
            have hb5 := below_turn hb3 t5 (fun q hq => hbs q (hq.elim .inl (fun h => .inr (.inr h))))
            have e5 := rd_more L ws hpn m
            have r8 := hH3.row q8 (by decide) t5.sk
            have r9 := hH3.row q9 (by decide) t5.sk
            rw [← e5.1] at r8
            rw [← e5.2] at r9
            clear hws hH3 hb3 q8 q9 t5 h5 hS e5
            generalize L ++ vers ws (n + 1) = L5 at *
            obtain ⟨bcr, hbcr⟩ : ∃ y, y = w5.cell? ⟨b, off + j, none⟩ := ⟨_, rfl⟩
            have hcr5 : w5.cell? ⟨b, off + j, none⟩ = some (.int .i64 z) := (hb5.cell (p := ⟨b, off + j, none⟩) hbw).trans hc
            clear hbcr bcr
            go_wp2_with fail
            refine (hw3 _).mono ?_
            rintro e w5' ⟨rfl, rfl⟩
            clear hw3
            by_cases h3 : z3 = 0
            · subst h3
              go_wp2_with fail
              refine (clean_any hH5 hS5 (by show n + 1 ≤ 1000000; omega) hpm).mono ?_
              rintro e w7 ⟨he, ⟨D7, h7⟩, t7⟩
              subst he
              have hH7 : Holds w7 v1.heap.size (stoP (newSto v1 10000) (n + 1) (cleanL (leastOf pins (n + 1)) L5) pins) D7 PD := h7
              have hb7 := below_turn hb5 t7 (fun q hq => hbs q (.inr (.inr hq)))
              have hL7 := clean_length (leastOf pins (n + 1)) L5
              have hS7 := sorted_clean hS5 (leastOf pins (n + 1))
              have g8 := hH5.row r8 (by decide) t7.kb
              have g9 := hH5.row r9 (by decide) t7.kb
              have e7 : rdVs (cleanL (leastOf pins (n + 1)) L5) p m = rdVs L5 p m ∧ rdBs (cleanL (leastOf pins (n + 1)) L5) p m = rdBs L5 p m := by
                rcases hpl with rfl | h
                · exact ⟨rfl, rfl⟩
                · exact rd_clean hS5 h m
              rw [← e7.1] at g8
              rw [← e7.2] at g9
              clear hH5 hS5 hb5 r8 r9 t7 h7 e7
              go_wp2_with fail
              go_meet
              case rel => exact ⟨n + 1, _, pins, p, m, D7, PD, by omega, by omega, hS7, hH7, hb7, rfl, g8, g9, HOR.out⟩
            · go_wp2_with fail
              go_meet
              case rel => exact ⟨n + 1, _, pins, p, m, D5, PD, by omega, by omega, hS5, hH5, hb5, rfl, r8, r9, HOR.out⟩
          · go_wp2_with fail
            go_meet
            case rel => exact hcut.mono (by omega) (by omega)
        case rest =>
          obtain ⟨n, L, pins, p, m, D, PD, hnj, hLj, hS, hH, hb, rfl, r8, r9, hor⟩ := hcut
          have hm5 : m ≤ 5 := by rcases hor with ⟨h, _⟩ | ⟨h, _⟩ <;> omega
          have HOR := Lib.hid hor
          clear hor
          obtain ⟨a8, c8, rfl⟩ := slice_of_owns r8
          obtain ⟨a9, c9, rfl⟩ := slice_of_owns r9
          go_wp2_with fail
          go_loop [16] (fun i => ∃ q : Nat, q ≤ m ∧ i = .int .i64 q) (fun i => m - (intOf i).toNat)
          case atStart => exact ⟨0, by omega, rfl⟩
          case round =>
            obtain ⟨q, hqm, rfl⟩ := hrel
            by_cases hq : q < m
            · obtain ⟨g8, rfl⟩ : ∃ g, a8 = some ⟨g, 0, none⟩ := by
                rcases r8.2 with ⟨_, h0⟩ | ⟨g, _, _, e, _⟩
                · omega
                · exact ⟨g, by simp at e; exact e.1⟩
              obtain ⟨g9, rfl⟩ : ∃ g, a9 = some ⟨g, 0, none⟩ := by
                rcases r9.2 with ⟨_, h0⟩ | ⟨g, _, _, e, _⟩
                · omega
                · exact ⟨g, by simp at e; exact e.1⟩
              have k8 : wc.cell? ⟨g8, q, none⟩ = some (.string (rdV L p q)) := (r8.cellAt q (by omega)).trans (rdVs_get L p m q hq)
              have k9 : wc.cell? ⟨g9, q, none⟩ = some (.bool (rdB L p q)) := (r9.cellAt q (by omega)).trans (rdBs_get L p m q hq)
              go_wp2_with fail
              refine (read_as hH (letter q) (letter_size q) (p : Int) _ _ (rd_pair L p q)).mono ?_
              rintro e wr' ⟨rfl, rfl⟩
              go_wp2_with fail
              all_goals
                go_round
                case rel => exact ⟨q + 1, by omega, by go_num⟩
                case measure => simp [intOf]; omega
            · obtain rfl : q = m := by omega
              go_wp2_with fail
              go_roundg (50 - (j + 1))
              case measure => omega
              case rel => exact ⟨j + 1, by omega, rfl, by go_num, n, L, pins, p, q, D, PD, hnj, hLj, hS, hH, hb, rfl, r8, r9, HOR.out⟩
    · by_cases h1 : j ≤ len0
      · have h2 : ¬ j < 50 := by omega
        go_wp2_with fail
        go_ret
        obtain ⟨_, _, _, _, _, _, _, _, _, _, _, hb, _⟩ := hP
        exact ⟨rfl, hb⟩
      · go_wp2_with fail
        go_ret
        obtain ⟨_, _, _, _, _, _, _, _, _, _, _, hb, _⟩ := hP
        exact ⟨rfl, hb⟩

/-! ### THE ROW's STEP: WRITTEN OUT: LEAVE IT -/
set_option maxRecDepth 100000 in
theorem lifted (os : Os) (started : os.Started) (H : Type) (enc : TypeId × Value → H) :
    ReturnsInHanded {} Try.checked os 8 .any (Rows.storePinnedSpec.pre6 enc Try.prog Try.f8 Rows.storePinnedRow.domain false) (Rows.storePinnedSpec.post enc Try.prog Try.f8 false true false false) := by
  refine returnsInHanded_of_change (C := Try.checked) own started (by kernel_rfl) Try.func8
    (ChangeSpec.witness6 (enc := enc) (C := Try.checked) false ⟨#[], #[.slice none 0 0, .int .i64 0], []⟩ 8 (by kernel_rfl) (by kernel_rfl) (by kernel_rfl) (by kernel_rfl)) ?_
  intro W base args ds gs before hval0 hW hcnd _
  have hval : ∀ (j : Nat) t v, Try.f8.params[j]? = some t → args[j]? = some v → Value.okWide Try.prog W .any base t v := hval0
  have hW' := hW
  obtain ⟨p, q, hA0, hV, rfl, hfz, hnd⟩ := hW
  have hA : DataW.TrodAll enc Try.prog W 0 (fun _ => true) true Try.f8.params.toList args.toList ds p := hA0
  rw [Try.params8] at hA hval
  obtain ⟨v0, vs0, d0, ds0, p0, q0, hargs, rfl, rfl, h0, r0⟩ := trodAll_cons hA
  obtain ⟨v1, vs1, d1, ds1, p1, q1, rfl, rfl, rfl, h1, r1⟩ := trodAll_cons r0
  obtain ⟨rfl, rfl, rfl⟩ := trodAll_nil r1
  obtain rfl : args = #[v0, v1] := by cases args; simp_all
  obtain ⟨rfl, rfl⟩ := trodVars_none hV
  obtain ⟨a0, len0, cap0, rfl⟩ := okWide_slice Try.underlying22 (hval 0 22 v0 rfl rfl)
  have k0 := h0
  have lt0 : ∀ x ∈ p0, x.block < W.heap.size := by obtain ⟨m, hm⟩ := k0; exact DataW.trod_lt m _ _ _ hm
  obtain ⟨z0, w0⟩ : ∃ zs, IsRow .i64 W a0 len0 cap0 zs := by
    obtain ⟨fuel, hf⟩ := h0
    rcases open_ints Try.underlying22 Try.underlying3 (by kernel_rfl) hf with ⟨hcs, _⟩ | ⟨x, l, c, zs, hcs, _, hl, hm, hz, _, hcell, hwz⟩
    · simp [Value.cells] at hcs
      obtain ⟨rfl, rfl, rfl⟩ := hcs
      exact ⟨[], .inl ⟨rfl, rfl, rfl, rfl⟩⟩
    · simp [Value.cells] at hcs
      obtain ⟨rfl, rfl, rfl⟩ := hcs
      exact ⟨zs, .inr ⟨_, rfl, hl, hm, by simpa using hz, hcell, hwz⟩⟩
  obtain ⟨a1, rfl, rfl, rfl, w1⟩ := open_int Try.underlying3 (hval 1 3 v1 rfl rfl) h1
  clear hA0 hval0
  refine (walk a0 len0 cap0 z0 a1 W w0 w1).mono fun e W' ⟨he, bel⟩ => ?_
  subst he
  exact ⟨_, rfl, _, _, _, [], _, [], hW', trodAll_mk1 (shut_bool Try.underlying4 _), (trodAll_cons_mk (Below.trod laidOut (by kernel_rfl) (of_decide_eq_true (by kernel_rfl)) k0 bel lt0) (trodAll_cons_mk (shut_int Try.underlying3 w1) trodAll_mk0)), rfl, bel.frame _, fun h => by cases h⟩

theorem over : Rows.storePinnedRow.holds Try.pinned (OpenSpec.ofChange Rows.storePinnedSpec) :=
  OpenClaim.holds_of_wide 8 Try.f8 rfl rfl rfl rfl rfl rfl rfl ⟨rfl, rfl, rfl, rfl, rfl⟩ rfl rfl rfl rfl rfl (by kernel_rfl) Try.func8 (by kernel_rfl)
    (of_decide_eq_true (by kernel_rfl)) (by unfold Func.isWrapper; first | (rw [if_pos (by decide +kernel)]; kernel_rfl) | (rw [if_neg (by decide +kernel)]; exact ⟨rfl, rfl⟩))
    (fun os started H enc _ => lifted os started H enc)

/-- ████ THE STATEMENT ████ -/
theorem proved : Rows.StorePinnedSaid := over
#print axioms proved
end Go.Proofs.Ytghddmlndafefaa.storePinned
