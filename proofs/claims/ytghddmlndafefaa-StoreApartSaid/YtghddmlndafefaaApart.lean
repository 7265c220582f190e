/-
  Two stores do not touch one another: StoreApart answers true at every input. No conditions.
-/
import Derived.Test.YtghddmlndafefaaRows
import Derived.WalkKit
import Derived.ProofKit
import Derived.OpenShut
import Derived.ShutString
import Derived.ChangeOld
import Derived.Below
import Derived.Test.YtghddmlndafefaaStY
import Derived.Deep.DeepCutAuto
namespace Go.Proofs.Ytghddmlndafefaa.storeApart
open Go.ChangeShapes Go.WideShapes Go.ChangeAt Go.RowKit
open Go.ChangeMaps (open_string shut_string)
open Go.Maps
set_option linter.unusedVariables false

theorem own : ownKnob Try.prog.godebug = none := by kernel_rfl
theorem laidOut : laidOutB Try.prog = true := by kernel_rfl

/-- WHAT THE WALK IS TOLD OF A SLICE OF INTEGERS THAT CAME IN: it is nil; or it leads to a row of 'cap' cells, the numbers 'zs' (the first 'len' are its elements, the rest its spare room), each fitting its kind. -/
def IsRow (k : IntKind) (w : World) (a : Option Addr) (len cap : Nat) (zs : List Int) : Prop :=
  (a = none ∧ len = 0 ∧ cap = 0 ∧ zs = []) ∨
  ∃ x, a = some x ∧ len ≤ cap ∧ cap ≤ maxLen ∧ zs.length = cap ∧ (∀ i, i < zs.length → w.cell? (x.add i) = some (.int k (zs.getD i 0))) ∧ ∀ n ∈ zs, (Lit.int k n).wf = true

open Go.RowKit
/-- Another store, whatever it holds. -/
def OSt (o0 : Sto) (base m : Nat) (w : World) : Prop := ∃ n L pins D PD, Holds w base (stoP o0 n L pins) D PD ∧ Sorted L ∧ pins.length ≤ m ∧ (∀ p ∈ pins, p ≤ n) ∧ n ≤ m
section
variable {o0 s0 : Sto} {r0 : Rto} {base base' rbase n m m' : Nat} {L : List Ver} {pins : List Nat} {w w' : World}
theorem OSt.below (h : OSt o0 base m w) (hb : Below w.heap.size w w') : OSt o0 base m w' := by
  obtain ⟨n, L, pins, D, PD, hH, h⟩ := h
  exact ⟨n, L, pins, D, PD, hH.below hb, h⟩
theorem OSt.more (h : OSt o0 base m w) (hm : m ≤ m') : OSt o0 base m' w := by
  obtain ⟨n, L, pins, D, PD, hH, h1, h2, h3, h4⟩ := h
  exact ⟨n, L, pins, D, PD, hH, h1, by omega, h3, by omega⟩
theorem OSt.rturn (h : OSt o0 base m w) (hT : RT rbase w w') : OSt o0 base m w' := by
  obtain ⟨n, L, pins, D, PD, hH, h⟩ := h
  exact ⟨n, L, pins, D, PD, hH.rturn hT, h⟩
theorem OSt.sturn (h : OSt o0 base m w) (hP : Pr s0 r0 base' rbase n m' L pins w) (hne : ∀ q, Bs o0 q → ¬ Bs s0 q) (hT : Turn (Bs s0) w w') : OSt o0 base m w' := by
  obtain ⟨n', L', pins', D, PD, hH, h⟩ := h
  obtain ⟨D', PD', hs⟩ := hP.pair.s
  exact ⟨n', L', pins', D, PD, hH.other hs hne hT, h⟩
theorem prTurn (hP : Pr s0 r0 base' rbase n m' L pins w) (h : OSt o0 base m w) (hne : ∀ q, Bs s0 q → ¬ Bs o0 q) (hT : Turn (Bs o0) w w') : Pr s0 r0 base' rbase n m' L pins w' := by
  obtain ⟨n', L', pins', D, PD, hH, h⟩ := h
  obtain ⟨⟨⟨D', PD', hs⟩, hr⟩, h1, h2, h3, h4, h5⟩ := hP
  exact ⟨⟨⟨D', PD', hs.other hH hne hT⟩, hr.turn hH hT⟩, h1, h2, h3, h4, h5⟩
def OEnd (o0 : Sto) (base m : Nat) (w : World) (e : Ending) (w' : World) : Prop := (∃ v, e = .returned v) ∧ OSt o0 base m w' ∧ Turn (Bs o0) w w'
theorem OSt.commit (h : OSt o0 base m w) {v : Value} {ws : List Wr} (hw : WrIs w v ws) (hk : ∀ x ∈ ws, x.key.size ≤ maxLen) (hl : ws.length ≤ 3) (hm : m ≤ 1000) :
    Calls Try.prog 20 #[.pointer (some ⟨o0.sb, 0, none⟩), v] w (OEnd o0 base (m + 1) w) := by
  obtain ⟨n, L, pins, D, PD, hH, hs, hp, hpn, hn⟩ := h
  by_cases hf : L.length + ws.length ≤ o0.lim
  · refine (commit_any hH hw hk hf (by show n ≤ 1000000; omega)).mono ?_
    rintro e w' ⟨he, ⟨D', hH'⟩, hT⟩
    exact ⟨⟨_, he⟩, ⟨n + 1, L ++ vers ws (n + 1), pins, D', PD, hH', sorted_snoc hs hH.stamps ws, by omega, fun p h => by have := hpn p h; omega, by omega⟩, hT.sk⟩
  · refine (commit_no hH hw (by omega) (by show o0.lim < L.length + ws.length; omega)).mono ?_
    rintro e w' ⟨he, hb⟩
    exact ⟨⟨_, he⟩, ⟨n, L, pins, D, PD, hH.below hb, hs, by omega, hpn, by omega⟩, Turn.of_below hb⟩
theorem OSt.clean (h : OSt o0 base m w) (hm : m ≤ 1000) : Calls Try.prog 24 #[.pointer (some ⟨o0.sb, 0, none⟩)] w (OEnd o0 base m w) := by
  obtain ⟨n, L, pins, D, PD, hH, hs, hp, hpn, hn⟩ := h
  refine (clean_any hH hs (by show n ≤ 1000000; omega) (fun p h => by have := hpn p h; omega)).mono ?_
  rintro e w' ⟨he, ⟨D', hH'⟩, hT⟩
  exact ⟨⟨_, he⟩, ⟨n, _, pins, D', PD, hH', sorted_clean hs _, hp, hpn, hn⟩, hT.kb⟩
theorem OSt.pin (h : OSt o0 base m w) (hm : m ≤ 1000) : Calls Try.prog 25 #[.pointer (some ⟨o0.sb, 0, none⟩)] w (OEnd o0 base (m + 1) w) := by
  obtain ⟨n, L, pins, D, PD, hH, hs, hp, hpn, hn⟩ := h
  refine (pin_any hH (by show n ≤ 1000000; omega) (by show pins.length ≤ 1000000; omega)).mono ?_
  rintro e w' ⟨he, ⟨PD', hH'⟩, hT⟩
  exact ⟨⟨_, he⟩, ⟨n, L, pins ++ [n], D, PD', hH', hs, by simp; omega, fun p h => by rcases List.mem_append.1 h with h | h; exact hpn p h; simp at h; omega, by omega⟩, hT.pb⟩
end
set_option maxRecDepth 100000 in
set_option maxHeartbeats 3200000 in
theorem walk (a0 : Option Addr) (len0 cap0 : Nat) (z0 : List Int) (a1 : Option Addr) (len1 cap1 : Nat) (z1 : List Int) (w : World) (w0 : IsRow .i64 w a0 len0 cap0 z0) (w1 : IsRow .i64 w a1 len1 cap1 z1) :
    Calls Try.prog 11 #[.slice a0 len0 cap0, .slice a1 len1 cap1] w fun e w' => e = .returned (.bool true) ∧ Below w.heap.size w w' := by
  have hk := known_any w
  have hl0 : len0 ≤ maxLen := by
    rcases row_open w0 with rfl | ⟨_, _, _, h, _⟩
    · exact Nat.zero_le _
    · exact h
  have hl1 : len1 ≤ maxLen := by
    rcases row_open w1 with rfl | ⟨_, _, _, h, _⟩
    · exact Nat.zero_le _
    · exact h
  have HO0 := Lib.hid (row_open w0)
  have HO1 := Lib.hid (row_open w1)
  unfold maxLen at hl0 hl1
  clear w0 w1
  go_enter Try.func11, Try.ntmps11
  go_wp2_with fail
  refine hk.mono ?_
  rintro e v1 ⟨rfl, b1⟩
  go_wp2_with fail
  refine (new_any 1000 v1 (by omega)).mono ?_
  rintro e v2 ⟨rfl, hH, b2, hs2⟩
  have HS2 := Lib.hid hs2
  clear hs2
  go_wp2_with fail
  refine (rnew_any 1000 v2).mono ?_
  rintro e v3 ⟨rfl, hR, b3, hs3⟩
  have HS3 := Lib.hid hs3
  clear hs3
  go_wp2_with fail
  refine (new_any 5 v3 (by omega)).mono ?_
  rintro e v4 ⟨rfl, hO, b4, hs4⟩
  have HS4 := Lib.hid hs4
  clear hs4
  have hs2 := HS2.out
  have hs3 := HS3.out
  have hs4 := HS4.out
  clear HS2 HS3 HS4
  have hb0 : Below w.heap.size w v4 := below_step (below_step (below_step b1 b2) b3) b4
  have hsz1 := b1.size
  have hp0 : Pr (newSto v1 1000) (newRto v2 1000) v1.heap.size v2.heap.size 0 0 [] [] v4 := Pr.new ((hH.below b3).below b4) (hR.below b4) rfl rfl rfl rfl rfl rfl
  have ho0 : OSt (newSto v3 5) v3.heap.size 0 v4 := ⟨0, [], [], _, _, hO, sorted_nil, by simp, by simp, by omega⟩
  have hbs : ∀ q, Bs (newSto v1 1000) q → w.heap.size ≤ q := by
    rintro q (rfl | rfl | rfl) <;> simp [newSto] <;> omega
  have hbo : ∀ q, Bs (newSto v3 5) q → w.heap.size ≤ q := by
    rintro q (rfl | rfl | rfl) <;> simp [newSto] <;> omega
  have hne : ∀ q, Bs (newSto v1 1000) q → ¬ Bs (newSto v3 5) q := by
    rintro q h1 h2
    simp only [Bs, newSto] at h1 h2
    omega
  have hne' : ∀ q, Bs (newSto v3 5) q → ¬ Bs (newSto v1 1000) q := fun q h1 h2 => hne q h2 h1
  have hrb : w.heap.size ≤ v2.heap.size := by omega
  clear hk b1 b2 b3 b4 hH hR hO hs2 hs3 hs4
  go_wp2_with fail
  go_loopw [8] (fun i wr => ∃ (n j : Nat) (L : List Ver) (pins : List Nat), j ≤ 40 ∧ i = .int .i64 j ∧ Pr (newSto v1 1000) (newRto v2 1000) v1.heap.size v2.heap.size n j L pins wr ∧ OSt (newSto v3 5) v3.heap.size (2 * j) wr ∧ Below w.heap.size w wr) (fun i _ => 40 - (intOf i).toNat)
  case atStart => exact ⟨0, 0, [], [], by omega, rfl, hp0, ho0, hb0⟩
  case round =>
    clear hp0 ho0 hb0
    obtain ⟨n, j, L, pins, hj, rfl, hP, hO, hb⟩ := hrel
    by_cases hlt : j < len0 ∧ j < 40
    · obtain ⟨hlt0, hlt1⟩ := hlt
      obtain ⟨b, off, rfl, -, hbw, hcell⟩ := HO0.out.resolve_left (by omega)
      obtain ⟨hc, hz1, hz2⟩ := hcell j hlt0
      clear hcell
      have hcr := (hb.cell (p := ⟨b, off + j, none⟩) hbw).trans hc
      have hwi := fun x => within_any (z0.getD j 0) 1073741824 x (by omega) (by omega) hz1 hz2
      have hm0 : 0 ≤ z0.getD j 0 % 1073741824 := Int.emod_nonneg _ (by omega)
      have hm1 : z0.getD j 0 % 1073741824 < 1073741824 := Int.emod_lt_of_pos _ (by omega)
      obtain ⟨zn, hzn⟩ : ∃ zn : Nat, z0.getD j 0 % 1073741824 = zn := ⟨(z0.getD j 0 % 1073741824).toNat, by omega⟩
      rw [hzn] at hwi hm0 hm1
      have hwr := fun x => writes_both zn (by omega) x
      generalize z0.getD j 0 = z at *
      clear hzn hc hm0 hm1
      go_wp2_with fail
      refine (hwi _).mono ?_
      rintro e wr' ⟨rfl, rfl⟩
      go_wp2_with fail
      refine (hwr _).mono ?_
      rintro e v5 ⟨va, vb, rfl, hwa, hwb, b5⟩
      have hwl := wn_length_le zn
      have hwk := wn_key_size (m := zn)
      generalize wn zn = ws at *
      have hP5 := hP.below b5
      have hO5 := hO.below b5
      have hb5 := below_step hb b5
      have hst := hP5.stamps
      have hPl := hP5.len
      have hPp := hP5.plen
      have hPn := hP5.now
      have hPq := hP5.pins
      have hPs := hP5.sorted
      clear hwi hwr b5 hb hP hO
      go_wp2_with fail
      refine (hP5.scommit hwa hwb hwk (by show L.length + ws.length ≤ 1000; omega) (by omega)).mono ?_
      rintro e v6 ⟨rfl, hH6, hw6, t6⟩
      have hO6 := hO5.sturn hP5 hne' t6
      have hb6 := below_turn hb5 t6 hbs
      clear t6 hwa hwb hP5 hb5 hO5
      go_wp2_with fail
      refine (hH6.rcommit (m := j) hw6 (by show L.length + ws.length ≤ 1000; omega) (by show 1000 ≤ 10000; omega) (by omega) hPn hPl hwl hPp hPq hPs hst).mono ?_
      rintro e v7 ⟨rfl, hP7, t7⟩
      have hO7 := hO6.rturn t7
      have hb7 := below_rt hb6 t7 hrb
      clear hH6 hw6 hb6 t7 hO6 hst hPl hPp hPn hPq hPs hwk hwl hcr
      generalize L ++ vers ws (n + 1) = L7 at *
      by_cases hl : j < len1
      · obtain ⟨b', off', rfl, -, hbw', hcell'⟩ := HO1.out.resolve_left (by omega)
        obtain ⟨hc', hy1, hy2⟩ := hcell' j hl
        clear hcell'
        have hcr' := (hb7.cell (p := ⟨b', off' + j, none⟩) hbw').trans hc'
        have hwi := fun x => within_any (z1.getD j 0) 1073741824 x (by omega) (by omega) hy1 hy2
        have hm0 : 0 ≤ z1.getD j 0 % 1073741824 := Int.emod_nonneg _ (by omega)
        have hm1 : z1.getD j 0 % 1073741824 < 1073741824 := Int.emod_lt_of_pos _ (by omega)
        obtain ⟨yn, hyn⟩ : ∃ zn : Nat, z1.getD j 0 % 1073741824 = zn := ⟨(z1.getD j 0 % 1073741824).toNat, by omega⟩
        rw [hyn] at hwi hm0 hm1
        have hwr := fun x => writes_both yn (by omega) x
        generalize z1.getD j 0 = y at *
        clear hyn hc' hm0 hm1
        go_wp2_with fail
        refine (hwi _).mono ?_
        rintro e wr' ⟨rfl, rfl⟩
        go_wp2_with fail
        refine (hwr _).mono ?_
        rintro e v8 ⟨va', vb', rfl, hwa, -, b8⟩
        have hwl := wn_length_le yn
        have hwk := wn_key_size (m := yn)
        generalize wn yn = us at *
        have hP8 := hP7.below b8
        have hO8 := hO7.below b8
        have hb8 := below_step hb7 b8
        clear hwi hwr b8 hb7 hP7 hO7 hcr'
        go_wp2_with fail
        refine (hO8.commit hwa hwk hwl (by omega)).mono ?_
        rintro e v9 ⟨⟨r9, rfl⟩, hO9, t9⟩
        have hP9 := prTurn hP8 hO8 hne t9
        have hb9 := below_turn hb8 t9 hbo
        clear hwa hwk hwl t9 hP8 hO8 hb8
        go_wp2_with fail
        refine (hO9.clean (by omega)).mono ?_
        rintro e v10 ⟨⟨r10, rfl⟩, hO10, t10⟩
        have hP10 := prTurn hP9 hO9 hne t10
        have hb10 := below_turn hb9 t10 hbo
        clear t10 hP9 hO9 hb9
        go_wp2_with fail
        refine (hO10.pin (by omega)).mono ?_
        rintro e v11 ⟨⟨r11, rfl⟩, hO11, t11⟩
        have hP11 := prTurn hP10 hO10 hne t11
        have hb11 := below_turn hb10 t11 hbo
        clear t11 hP10 hO10 hb10
        go_wp2_with fail
        go_roundw
        case rel => exact ⟨n + 1, j + 1, L7, pins, by omega, by go_num, hP11, hO11.more (by omega), hb11⟩
        case measure => simp [intOf]; omega
      · go_wp2_with fail
        go_roundw
        case rel => exact ⟨n + 1, j + 1, L7, pins, by omega, by go_num, hP7, hO7.more (by omega), hb7⟩
        case measure => simp [intOf]; omega
    · have hend : (j < len0 ∧ ¬ j < 40) ∨ ¬ j < len0 := by omega
      have hPl := hP.len
      have hPn := hP.now
      clear hlt hO
      rcases hend with ⟨h1, h2⟩ | h1
      all_goals
        go_wp2_with fail
        refine (same_any hP.pair 0 (by omega) (by omega) (by omega) (by omega)).mono ?_
        rintro e v5 ⟨rfl, b5⟩
        go_wp2_with fail
        go_ret
        exact ⟨rfl, below_step hb b5⟩

/-! ### THE ROW's STEP: WRITTEN OUT: LEAVE IT -/
set_option maxRecDepth 100000 in
theorem lifted (os : Os) (started : os.Started) (H : Type) (enc : TypeId × Value → H) :
    ReturnsInHanded {} Try.checked os 11 .any (Rows.storeApartSpec.pre6 enc Try.prog Try.f11 Rows.storeApartRow.domain false) (Rows.storeApartSpec.post enc Try.prog Try.f11 false true false false) := by
  refine returnsInHanded_of_change (C := Try.checked) own started (by kernel_rfl) Try.func11
    (ChangeSpec.witness6 (enc := enc) (C := Try.checked) false ⟨#[], #[.slice none 0 0, .slice none 0 0], []⟩ 8 (by kernel_rfl) (by kernel_rfl) (by kernel_rfl) (by kernel_rfl)) ?_
  intro W base args ds gs before hval0 hW hcnd _
  have hval : ∀ (j : Nat) t v, Try.f11.params[j]? = some t → args[j]? = some v → Value.okWide Try.prog W .any base t v := hval0
  have hW' := hW
  obtain ⟨p, q, hA0, hV, rfl, hfz, hnd⟩ := hW
  have hA : DataW.TrodAll enc Try.prog W 0 (fun _ => true) true Try.f11.params.toList args.toList ds p := hA0
  rw [Try.params11] at hA hval
  obtain ⟨v0, vs0, d0, ds0, p0, q0, hargs, rfl, rfl, h0, r0⟩ := trodAll_cons hA
  obtain ⟨v1, vs1, d1, ds1, p1, q1, rfl, rfl, rfl, h1, r1⟩ := trodAll_cons r0
  obtain ⟨rfl, rfl, rfl⟩ := trodAll_nil r1
  obtain rfl : args = #[v0, v1] := by cases args; simp_all
  obtain ⟨rfl, rfl⟩ := trodVars_none hV
  obtain ⟨a0, len0, cap0, rfl⟩ := okWide_slice Try.underlying22 (hval 0 22 v0 rfl rfl)
  have k0 := h0
  have lt0 : ∀ x ∈ p0, x.block < W.heap.size := by obtain ⟨m, hm⟩ := k0; exact DataW.trod_lt m _ _ _ hm
  obtain ⟨z0, w0⟩ : ∃ zs, IsRow .i64 W a0 len0 cap0 zs := by
    obtain ⟨fuel, hf⟩ := h0
    rcases open_ints Try.underlying22 Try.underlying3 (by kernel_rfl) hf with ⟨hcs, _⟩ | ⟨x, l, c, zs, hcs, _, hl, hm, hz, _, hcell, hwz⟩
    · simp [Value.cells] at hcs
      obtain ⟨rfl, rfl, rfl⟩ := hcs
      exact ⟨[], .inl ⟨rfl, rfl, rfl, rfl⟩⟩
    · simp [Value.cells] at hcs
      obtain ⟨rfl, rfl, rfl⟩ := hcs
      exact ⟨zs, .inr ⟨_, rfl, hl, hm, by simpa using hz, hcell, hwz⟩⟩
  obtain ⟨a1, len1, cap1, rfl⟩ := okWide_slice Try.underlying22 (hval 1 22 v1 rfl rfl)
  have k1 := h1
  have lt1 : ∀ x ∈ p1, x.block < W.heap.size := by obtain ⟨m, hm⟩ := k1; exact DataW.trod_lt m _ _ _ hm
  obtain ⟨z1, w1⟩ : ∃ zs, IsRow .i64 W a1 len1 cap1 zs := by
    obtain ⟨fuel, hf⟩ := h1
    rcases open_ints Try.underlying22 Try.underlying3 (by kernel_rfl) hf with ⟨hcs, _⟩ | ⟨x, l, c, zs, hcs, _, hl, hm, hz, _, hcell, hwz⟩
    · simp [Value.cells] at hcs
      obtain ⟨rfl, rfl, rfl⟩ := hcs
      exact ⟨[], .inl ⟨rfl, rfl, rfl, rfl⟩⟩
    · simp [Value.cells] at hcs
      obtain ⟨rfl, rfl, rfl⟩ := hcs
      exact ⟨zs, .inr ⟨_, rfl, hl, hm, by simpa using hz, hcell, hwz⟩⟩
  clear hA0 hval0
  refine (walk a0 len0 cap0 z0 a1 len1 cap1 z1 W w0 w1).mono fun e W' ⟨he, bel⟩ => ?_
  subst he
  exact ⟨_, rfl, _, _, _, [], _, [], hW', trodAll_mk1 (shut_bool Try.underlying4 _), (trodAll_cons_mk (Below.trod laidOut (by kernel_rfl) (of_decide_eq_true (by kernel_rfl)) k0 bel lt0) (trodAll_cons_mk (Below.trod laidOut (by kernel_rfl) (of_decide_eq_true (by kernel_rfl)) k1 bel lt1) trodAll_mk0)), rfl, bel.frame _, fun h => by cases h⟩

theorem over : Rows.storeApartRow.holds Try.pinned (OpenSpec.ofChange Rows.storeApartSpec) :=
  OpenClaim.holds_of_wide 11 Try.f11 rfl rfl rfl rfl rfl rfl rfl ⟨rfl, rfl, rfl, rfl, rfl⟩ rfl rfl rfl rfl rfl (by kernel_rfl) Try.func11 (by kernel_rfl)
    (of_decide_eq_true (by kernel_rfl)) (by unfold Func.isWrapper; first | (rw [if_pos (by decide +kernel)]; kernel_rfl) | (rw [if_neg (by decide +kernel)]; exact ⟨rfl, rfl⟩))
    (fun os started H enc _ => lifted os started H enc)

/-- ████ THE STATEMENT ████ -/
theorem proved : Rows.StoreApartSaid := over
#print axioms proved
end Go.Proofs.Ytghddmlndafefaa.storeApart
