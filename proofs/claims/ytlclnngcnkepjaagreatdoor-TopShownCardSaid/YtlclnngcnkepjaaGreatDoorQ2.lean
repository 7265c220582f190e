/- A part of the proof of the law of TopAcross: AeI, AeJ, AeK, AeL, AeM, AeN, AeO, AeOa and others. -/
import Derived.Test.YtlclnngcnkepjaaGreatDoorQ1
import Derived.Laws.BytesString
namespace Go.Ae
open Go

section
variable {P : Program} {σ : Sg} {gs : Nat} {ν : Nu} {h : AH} {w : World} {ρ : Operand → Option AV} {r : Operand → Value}

theorem agg?_row {t : TypeId} (ha : agg? P t = some true) : ∃ d, P.underlying t = some d ∧ d.isRow = true := by
  unfold agg? at ha
  split at ha
  · rename_i fs hu; exact ⟨_, hu, rfl⟩
  · rename_i n e hu; exact ⟨_, hu, rfl⟩
  · simp at ha
  · cases ha

theorem loadT_rel (x : hrel σ gs ν h w) {t : TypeId} {n o : Nat} {v : AV} {e : NE} (hl : loadT P t h n o = some v) (he : ν[n]? = some e) :
    ∃ c, vrel σ ν v c ∧ (loadVar t ⟨e.b, o, none⟩).run P w = .ok c w := by
  unfold loadT at hl
  split at hl
  · rename_i ha
    split at hl
    · rename_i k hk
      split at hl
      · rename_i l hc
        simp at hl
        subst hl
        obtain ⟨cs, h1, h2, h3⟩ := loadC_rel x hc he
        obtain ⟨d, hu, hd⟩ := agg?_row ha
        obtain ⟨i, hi, hs⟩ := szOf_info hk
        exact ⟨_, ⟨cs, h1, rfl⟩, run_loadVar_mid w e.b o t cs d h3 hu hd (by simp [hi, hs, h2])⟩
      · cases hl
    · cases hl
  · rename_i ha
    split at hl
    · rename_i y r' hc
      simp at hl
      subst hl
      obtain ⟨cs, h1, h2, h3⟩ := loadC_rel x hc he
      obtain ⟨c, cs', h4, _, rfl⟩ := h1
      refine ⟨c, h4, ?_⟩
      have h5 := run_isAgg ha w
      have h6 := h3 0 c rfl
      simp only [Nat.add_zero] at h6
      simp [loadVar, h5, h6]
    · cases hl
  · cases hl

theorem run_loadAt {t : TypeId} {a : Addr} {c : Value} (hr : (loadVar t a).run P w = .ok c w) : (Instr.loadAt t (.pointer (some a))).run P w = .ok c w := by
  simp [Instr.loadAt, Instr.sureAddr, hr]

/-! ### Maps -/

theorem mapAt_rel {t kt e : TypeId} (hm : mapAt P t = some (kt, e)) : P.underlying t = some (.map kt e) ∧ ((∃ q, P.underlying kt = some (.int q)) ∨ P.underlying kt = some .string) := by
  unfold mapAt at hm
  split at hm
  · rename_i k el hu
    split at hm
    · rename_i q hq; simp at hm; obtain ⟨rfl, rfl⟩ := hm; exact ⟨hu, .inl ⟨q, hq⟩⟩
    · rename_i hq; simp at hm; obtain ⟨rfl, rfl⟩ := hm; exact ⟨hu, .inr hq⟩
    · cases hm
  · cases hm

theorem run_checkKey {kt : TypeId} {c : Value} (hk : (∃ q, P.underlying kt = some (.int q)) ∨ P.underlying kt = some .string) (b : Bool) (n : Nat) (w : World) :
    (Instr.checkKey b (n + 1) kt c).run P w = .ok () w := by
  rcases hk with ⟨q, hk⟩ | hk <;> simp [Instr.checkKey, run_underlying hk]

/-- A key of the map's own kind. -/
theorem same_rel {kt : TypeId} {d : TypeDesc} {k y : AV} {c cy : Value} {b : Bool} (hu : P.underlying kt = some d) (hok : keyOk P k kt = true) (hk : vrel σ ν k c) (hy : vrel σ ν y cy)
    (hs : same k y = some b) : Instr.sameNow d c cy = some b := by
  unfold keyOk at hok
  rw [hu] at hok
  unfold same at hs
  split at hs
  · rename_i q a q' a'
    rw [show c = _ from hk, show cy = _ from hy]
    cases hq : q == q' with
    | false => rw [hq] at hs; simp at hs
    | true =>
      rw [hq] at hs
      simp only [cond_true, Option.some.injEq] at hs
      have : q = q' := by simpa using hq
      subst this
      split at hok
      · rename_i d1 _ hd _
        simp at hd
        subst hd
        simp [Instr.sameNow, hs]
      · rename_i hd hs'; cases hs'
      · cases hok
  · rename_i a a'
    rw [show c = _ from hk, show cy = _ from hy]
    simp at hs
    split at hok
    · rename_i hs'; cases hs'
    · rename_i d1 hd _
      simp at hd
      subst hd
      simp only [Instr.sameNow, Option.some.injEq]
      rw [← hs]
      show (a.toArray == a'.toArray) = (a == a')
      simp
    · cases hok
  · cases hs

/-- What a search finds. -/
def frel (σ : Sg) (ν : Nu) (es : List AE) (i : Nat) : Option (Nat × AV) → Option (Nat × Value) → Prop
  | none, c => c = none
  | some (j, v), c => ∃ d, c = some (j, d) ∧ vrel σ ν v d ∧ i ≤ j ∧ ∃ e, es[j - i]? = some e ∧ e.val = v

theorem findK_rel {kt : TypeId} {d : TypeDesc} {k : AV} {c : Value} (hu : P.underlying kt = some d) (hok : keyOk P k kt = true) (hk : vrel σ ν k c) :
    ∀ {es : List AE} {cs : List MapEntry} {i : Nat} {f : Option (Nat × AV)}, erels σ ν es cs → findK k es i = some f → ∃ f', Instr.findNow d c cs i = some f' ∧ frel σ ν es i f f'
  | [], _, i, f, he, hf => by
    rw [show _ = [] from he]
    simp [findK] at hf
    subst hf
    exact ⟨none, rfl, rfl⟩
  | e :: es, _, i, f, ⟨ce, cs, h1, h2, hcs⟩, hf => by
    subst hcs
    simp only [findK] at hf
    split at hf
    · rename_i hs
      simp at hf
      subst hf
      have := same_rel hu hok hk h1.1 hs
      exact ⟨some (i, ce.val), by simp [Instr.findNow, this], _, rfl, h1.2.1, Nat.le_refl _, e, by simp, rfl⟩
    · rename_i hs
      have := same_rel hu hok hk h1.1 hs
      obtain ⟨f', g1, g2⟩ := findK_rel hu hok hk h2 hf
      refine ⟨f', by simp [Instr.findNow, this, g1], ?_⟩
      cases f with
      | none => exact g2
      | some p =>
        obtain ⟨j, v⟩ := p
        obtain ⟨d', k1, k2, k3, e', k4, k5⟩ := g2
        refine ⟨d', k1, k2, by omega, e', ?_, k5⟩
        rw [show j - i = (j - (i + 1)) + 1 by omega]
        simpa using k4
    · cases hf

theorem run_findKey {kt : TypeId} {d : TypeDesc} {c : Value} {cs : List MapEntry} {f : Option (Nat × Value)} (hu : P.underlying kt = some d) (hf : Instr.findNow d c cs 0 = some f) (w : World) :
    (Instr.findKey kt c cs).run P w = .ok f w := by
  simp [Instr.findKey, run_underlying hu, hf]

theorem hrel.map (x : hrel σ gs ν h w) {n cl : Nat} {es : List AE} {e : NE} (hn : h.get n = some (.m es cl)) (he : ν[n]? = some e) :
    ∃ a, w.heap[e.b]? = some (.map a cl) ∧ erels σ ν es a.toList := by
  obtain ⟨e', o, h1, h2, h3⟩ := x.dom n _ hn
  rw [he] at h1
  cases h1
  cases o <;> simp only [brel] at h3
  obtain ⟨rfl, h3⟩ := h3
  exact ⟨_, h2, h3⟩

theorem run_getMap {b cl : Nat} {a : Array MapEntry} (hw : w.heap[b]? = some (.map a cl)) : (getObj b).run P w = .ok (.map a cl) w := by
  simp [getObj, Sem.run, hw]

theorem erels_length : ∀ {es : List AE} {cs : List MapEntry}, erels σ ν es cs → cs.length = es.length
  | [], _, h => by rw [show _ = [] from h]; rfl
  | _ :: _, _, ⟨_, _, _, h2, e⟩ => by rw [e]; simp [erels_length h2]

theorem okV_rel {ok b : Bool} {v : AV} {c : Value} (hv : vrel σ ν v c) : vrel σ ν (okV ok v b) (if ok then .tuple #[c, .bool b] else c) := by
  cases ok
  · exact hv
  · exact ⟨[c, .bool b], ⟨c, _, hv, ⟨_, _, rfl, rfl, rfl⟩, rfl⟩, rfl⟩

theorem mapEs_rel (x : hrel σ gs ν h w) {m : AV} {c : Value} {es : List AE} (hm : vrel σ ν m c) (he : mapEs h m = some es) :
    ∃ (a : Array MapEntry), erels σ ν es a.toList ∧ ((c = .map none ∧ a = #[]) ∨ ∃ b cl, c = .map (some b) ∧ w.heap[b]? = some (.map a cl)) := by
  unfold mapEs at he
  split at he
  · simp at he; subst he; exact ⟨#[], rfl, .inl ⟨hm, rfl⟩⟩
  · rename_i n
    split at he
    · rename_i es' cl hn
      simp at he
      subst he
      obtain ⟨e, h1, rfl⟩ := hm
      obtain ⟨a, h2, h3⟩ := x.map hn h1
      exact ⟨a, h3, .inr ⟨_, _, rfl, h2⟩⟩
    · cases he
  · cases he

theorem look_rel (x : hrel σ gs ν h w) {t : TypeId} {m k v : AV} {ok : Bool} {cm ck : Value} (hm : vrel σ ν m cm) (hk : vrel σ ν k ck) (hl : look P t h m k ok = some v) :
    ∃ c, vrel σ ν v c ∧ (Instr.lookup t cm ck ok).run P w = .ok c w := by
  unfold look at hl
  cases hma : mapAt P t with
  | none => rw [hma] at hl; simp [look1] at hl
  | some kt =>
    obtain ⟨kt, el⟩ := kt
    rw [hma] at hl
    obtain ⟨hu, hkt⟩ := mapAt_rel hma
    simp only [look1] at hl
    cases hok : keyOk P k kt with
    | false => rw [hok] at hl; simp at hl
    | true =>
      rw [hok] at hl
      simp only [cond_true] at hl
      have hchk := fun b => run_checkKey (P := P) (c := ck) hkt b 9999 w
      obtain ⟨d, hd⟩ : ∃ d, P.underlying kt = some d := by rcases hkt with ⟨q, hq⟩ | hq <;> exact ⟨_, hq⟩
      cases he : mapEs h m with
      | none => rw [he] at hl; simp [findO, look2] at hl
      | some es =>
        rw [he] at hl
        simp only [findO] at hl
        obtain ⟨a, hes, hc⟩ := mapEs_rel x hm he
        cases hf : findK k es 0 with
        | none => rw [hf] at hl; simp [look2] at hl
        | some f =>
          rw [hf] at hl
          obtain ⟨f', g1, g2⟩ := findK_rel hd hok hk hes hf
          have hf0 := run_findKey (P := P) hd g1 w
          cases f with
          | some p =>
            obtain ⟨j, u⟩ := p
            simp only [look2, Option.some.injEq] at hl
            subst hl
            obtain ⟨d', rfl, g3, _⟩ := g2
            refine ⟨_, okV_rel g3, ?_⟩
            rcases hc with ⟨rfl, rfl⟩ | ⟨b, cl, rfl, hw⟩
            · simp [Instr.findNow] at g1
            · have hg := run_getMap (P := P) hw
              simp [Instr.lookup, run_underlying hu, hg, hchk, hf0]
          | none =>
            rw [show f' = none from g2] at hf0
            cases hz : zeroOf P el with
            | none => rw [hz] at hl; simp [look2, okZ] at hl
            | some z =>
              rw [hz] at hl
              simp only [look2, okZ, Option.some.injEq] at hl
              subst hl
              obtain ⟨zv, h1, h2⟩ := run_zeroValue hz
              refine ⟨_, okV_rel (ofVal_rel h1), ?_⟩
              rcases hc with ⟨rfl, rfl⟩ | ⟨b, cl, rfl, hw⟩
              · simp only at hf0
                simp [Instr.lookup, run_underlying hu, hchk, hf0, h2 w]
              · have hg := run_getMap (P := P) hw
                simp [Instr.lookup, run_underlying hu, hg, hchk, hf0, h2 w]

/-! ### The rest -/

theorem bytesL_rel : ∀ {l : List AV} {s : List UInt8} {cs : List Value}, bytesL l = some s → vrels σ ν l cs →
    ∃ ns : List Int, cs = ns.map (Value.int .u8) ∧ s = ns.map (fun n => UInt8.ofNat n.toNat)
  | [], _, _, hb, hc => by
    simp [bytesL] at hb
    subst hb
    rw [show _ = [] from hc]
    exact ⟨[], rfl, rfl⟩
  | x :: l, s, _, hb, ⟨c, cs, h1, h2, e⟩ => by
    unfold bytesL at hb
    split at hb
    · simp_all
    · rename_i n l' hx
      simp only [List.cons.injEq] at hx
      obtain ⟨rfl, rfl⟩ := hx
      split at hb
      · rename_i s' hs
        simp at hb
        subst hb
        obtain ⟨ns, rfl, rfl⟩ := bytesL_rel hs h2
        exact ⟨n :: ns, by rw [e, show c = _ from h1]; rfl, rfl⟩
      · cases hb
    · cases hb

theorem foldl_push : ∀ (ns : List Int) (s : ByteArray), ns.foldl (fun r n => r.push (UInt8.ofNat n.toNat)) s = ⟨(s.data.toList ++ ns.map fun n => UInt8.ofNat n.toNat).toArray⟩
  | [], s => by simp
  | n :: ns, s => by
    simp only [List.foldl_cons, foldl_push ns, List.map_cons]
    congr 1
    simp

theorem run_loadCells_at {b o : Nat} {cs : List Value} (hc : w.rangeAt b o cs) : (loadCells ⟨b, o, none⟩ cs.length).run P w = .ok cs.toArray w :=
  run_loadCells_list (P := P) w ⟨b, o, none⟩ cs (fun j v hv => by rw [Addr.add_mid]; exact hc j v hv)

theorem conv_rd_rel (x : hrel σ gs ν h w) {s d : TypeId} {a v : AV} {h' : AH} {c : Value} (hd : P.underlying d = some .string) (ha : vrel σ ν a c) (hc : conv P s d h a = some (v, h')) :
    h' = h ∧ ∃ c', vrel σ ν v c' ∧ (Go.convert s d c).run P w = .ok c' w := by
  have empty : ∀ {el l cap a0}, P.underlying s = some (.slice el) → P.underlying el = some (.int .u8) → l = 0 →
      (Go.convert s d (.slice (some a0) l cap)).run P w = .ok (.string ⟨#[]⟩) w := by
    intro el l cap a0 hs he hl
    subst hl
    rw [run_convert_bytes_string w s d el _ _ _ hs he hd, run_bytesToString (P := P) w a0 0 cap [] (by simp [loadCells, loadCellsFrom])]
    rfl
  have row : ∀ {el n o len cap e l s'}, P.underlying s = some (.slice el) → P.underlying el = some (.int .u8) → ν[n]? = some e → loadC h n o len = some l → bytesL l = some s' →
      (Go.convert s d (.slice (some ⟨e.b, o, none⟩) len cap)).run P w = .ok (.string ⟨s'.toArray⟩) w := by
    intro el n o len cap e l s' hs he hn hl hb
    obtain ⟨cs, h1, h2, h3⟩ := loadC_rel x hl hn
    obtain ⟨ns, h4, h5⟩ := bytesL_rel hb h1
    have h6 := run_loadCells_at (P := P) h3
    rw [h2, h4] at h6
    rw [run_convert_bytes_string w s d el _ _ _ hs he hd, run_bytesToString (P := P) w ⟨e.b, o, none⟩ len cap ns h6, foldl_push]
    subst h5
    simp
  unfold conv at hc
  split at hc
  · split at hc
    · rename_i v' hp
      simp at hc
      obtain ⟨rfl, rfl⟩ := hc
      obtain ⟨c', h1, h2⟩ := pureV_run (σ := σ) (ν := ν) hp
      exact ⟨rfl, c', h1, by rw [show c = _ from ha]; exact h2 w⟩
    · cases hc
  · split at hc
    · rename_i v' hp
      simp at hc
      obtain ⟨rfl, rfl⟩ := hc
      obtain ⟨c', h1, h2⟩ := pureV_run (σ := σ) (ν := ν) hp
      exact ⟨rfl, c', h1, by rw [show c = _ from ha]; exact h2 w⟩
    · cases hc
  · split at hc
    · rename_i hs hd'
      simp at hc
      obtain ⟨rfl, rfl⟩ := hc
      refine ⟨rfl, _, ha, ?_⟩
      rw [show c = _ from ha]
      simp [Go.convert, run_underlying hs, run_underlying hd']
    · cases hc
  · split at hc
    · rename_i el hs hd'
      split at hc
      · rename_i he
        simp at hc
        obtain ⟨rfl, rfl⟩ := hc
        refine ⟨rfl, _, rfl, ?_⟩
        rw [show c = _ from ha, run_convert_bytes_string w s d el _ _ _ hs he hd]
        rfl
      · cases hc
    · cases hc
  · split at hc
    · rename_i el hs hd'
      split at hc
      · rename_i he
        split at hc
        · rename_i l hl
          split at hc
          · rename_i s' hb
            simp at hc
            obtain ⟨rfl, rfl⟩ := hc
            obtain ⟨e, hn, rfl⟩ := ha
            exact ⟨rfl, _, rfl, row hs he hn hl hb⟩
          · cases hc
        · cases hc
      · cases hc
    · cases hc
  · split at hc
    · rename_i el hs hd'
      split at hc
      · rename_i he
        split at hc
        · rename_i l hl
          split at hc
          · rename_i s' hb
            simp at hc
            obtain ⟨rfl, rfl⟩ := hc
            obtain ⟨e, hn, _, rfl⟩ := ha
            exact ⟨rfl, _, rfl, row hs he hn hl hb⟩
          · cases hc
        · cases hc
      · cases hc
    · cases hc
  · split at hc
    · rename_i el hs hd'
      split at hc
      · rename_i he
        simp at hc
        obtain ⟨rfl, rfl⟩ := hc
        obtain ⟨e, hn, rfl⟩ := ha
        exact ⟨rfl, _, rfl, empty hs he rfl⟩
      · cases hc
    · cases hc
  · cases hc

theorem findBorn_rel : ∀ {es : List AE} {cs : List MapEntry} {b : Nat} {e : AE}, findBorn b es = some e → erels σ ν es cs → ∃ c, cs.find? (fun x => x.born == b) = some c ∧ erel σ ν e c
  | [], _, _, _, hf, _ => by simp [findBorn] at hf
  | x :: es, _, b, e, hf, ⟨c, cs, h1, h2, hc⟩ => by
    simp only [findBorn] at hf
    subst hc
    cases hb : x.born == b with
    | true =>
      rw [hb] at hf
      simp at hf
      subst hf
      exact ⟨c, by simp [h1.2.2, hb], h1⟩
    | false =>
      rw [hb] at hf
      simp at hf
      obtain ⟨c', g1, g2⟩ := findBorn_rel hf h2
      exact ⟨c', by simp [h1.2.2, hb, g1], g2⟩

theorem entA_rel (x : hrel σ gs ν h w) {a v : AV} {c : Value} (ha : vrel σ ν a c) (hv : entA h a = some v) : ∃ c', vrel σ ν v c' ∧ (Instr.entry c).run P w = .ok c' w := by
  unfold entA at hv
  split at hv
  · rename_i n
    split at hv
    · rename_i m s1 b st hn
      split at hv
      · rename_i es cl hm
        cases hb : cl == st with
        | false => rw [hb] at hv; simp at hv
        | true =>
          rw [hb] at hv
          simp only [cond_true] at hv
          split at hv
          · rename_i e hf
            simp at hv
            subst hv
            obtain ⟨e1, h1, rfl⟩ := ha
            obtain ⟨e1', o, g1, g2, g3⟩ := x.dom n _ hn
            rw [h1] at g1
            cases g1
            cases o <;> simp only [brel] at g3
            rename_i m' since' seen' st'
            obtain ⟨⟨e2, k1, rfl⟩, rfl, k2, rfl⟩ := g3
            obtain ⟨arr, k3, k4⟩ := x.map hm k1
            obtain ⟨ce, k5, k6⟩ := findBorn_rel hf k4
            refine ⟨_, ⟨[ce.key, ce.val], ⟨_, _, k6.1, ⟨_, _, k6.2.1, rfl, rfl⟩, rfl⟩, rfl⟩, ?_⟩
            have hg1 : (getObj e1.b).run P w = .ok (.mapIter (some e2.b) since' seen' st') w := by simp [getObj, Sem.run, g2]
            have hg2 := run_getMap (P := P) k3
            have hcl : cl = st' := by simpa using hb
            have hback : seen'.back? = some b := by
              rw [← Array.getLast?_toList, k2]; rfl
            have hfind : arr.find? (fun x => x.born == b) = some ce := by rw [← Array.find?_toList]; exact k5
            simp [Instr.entry, hg1, hg2, hback, hcl, hfind]
          · cases hv
      · cases hv
    · cases hv
  · cases hv

end
end Go.Ae
namespace Go.Ae
open Go

section
variable {P : Program} {σ : Sg} {gs : Nat} {ν : Nu} {h : AH} {w : World} {ρ : Operand → Option AV} {r : Operand → Value}

theorem op_rd {o : Oper} {h' : AH} {v : AV} (x : hrel σ gs ν h w) (hk : kind P o = .rd) (hρ : Rho σ ν ρ r) (hop : opD P ρ h o.op = some (.v v h')) :
    h' = h ∧ ∃ c, vrel σ ν v c ∧ (execOp r o).run P w = .ok (.value c) w := by
  obtain ⟨dst, op, type, pos, after, guard⟩ := o
  cases op <;> simp only [kind] at hk <;> (try (simp at hk; done)) <;> simp only [opD] at hop <;> simp only [execOp]
  case binOp bo ty a b yt =>
    cases hx : ρ a with
    | none => rw [hx] at hop; simp [oBin] at hop
    | some a' =>
      cases hy : ρ b with
      | none => rw [hx, hy] at hop; simp [oBin] at hop
      | some b' =>
        rw [hx, hy] at hop
        obtain ⟨h1, rfl⟩ := o1_some hop
        obtain ⟨c, h2, h3⟩ := binA_rel (hρ a a' hx) (hρ b b' hy) h1 a b
        refine ⟨rfl, c, h2, ?_⟩
        have := h3 w
        simp only [Sem.run_bind] at this ⊢
        rw [this]
        rfl
  case convert s d a =>
    cases hx : ρ a with
    | none => rw [hx] at hop; simp [oConv] at hop
    | some a' =>
      rw [hx] at hop
      simp only [oConv] at hop
      have hd : P.underlying d = some .string := by
        split at hk
        · assumption
        · cases hk
        · cases hk
      cases hc : conv P s d h a' with
      | none => rw [hc] at hop; simp [o2] at hop
      | some y =>
        obtain ⟨v', h1⟩ := y
        rw [hc] at hop
        simp [o2] at hop
        obtain ⟨rfl, rfl⟩ := hop
        obtain ⟨rfl, c, g1, g2⟩ := conv_rd_rel x hd (hρ a a' hx) hc
        exact ⟨rfl, c, g1, by simp [g2]⟩
  case load t a =>
    cases hx : asP (ρ a) with
    | none => rw [hx] at hop; simp [oLoad] at hop
    | some y =>
      rw [hx] at hop
      simp only [oLoad] at hop
      obtain ⟨h1, rfl⟩ := o1_some hop
      obtain ⟨e, he, hr⟩ := asP_rel hρ hx
      obtain ⟨c, g1, g2⟩ := loadT_rel x h1 he
      refine ⟨rfl, c, g1, ?_⟩
      have := run_loadAt g2
      rw [hr]
      simp [this]
  case lookup t a b ok =>
    cases hx : ρ a with
    | none => rw [hx] at hop; simp [oLook] at hop
    | some a' =>
      cases hy : ρ b with
      | none => rw [hx, hy] at hop; simp [oLook] at hop
      | some b' =>
        rw [hx, hy] at hop
        obtain ⟨h1, rfl⟩ := o1_some hop
        obtain ⟨c, h2, h3⟩ := look_rel x (hρ a a' hx) (hρ b b' hy) h1
        exact ⟨rfl, c, h2, by simp [h3]⟩
  case entry a =>
    cases hx : ρ a with
    | none => rw [hx] at hop; simp [oEnt] at hop
    | some a' =>
      rw [hx] at hop
      obtain ⟨h1, rfl⟩ := o1_some hop
      obtain ⟨c, h2, h3⟩ := entA_rel (P := P) x (hρ a a' hx) h1
      exact ⟨rfl, c, h2, by simp [h3]⟩
  case call c =>
    obtain ⟨callee, args, ats⟩ := c
    cases callee <;> simp only at hk <;> (try (cases hk; done))
    rename_i b
    simp only [oCall] at hop
    cases ha : evs ρ args.toList with
    | none => rw [ha] at hop; simp [oBu] at hop
    | some vs =>
      rw [ha] at hop
      simp only [oBu] at hop
      have hc := evs_rel hρ ha
      have harr : (args.map r) = (args.toList.map r).toArray := by rw [← List.map_toArray]
      generalize hcs : args.toList.map r = cs at hc harr
      cases b <;> simp only [kindB] at hk <;> (try (cases hk; done))
      case len =>
        simp only [builtinA] at hop
        split at hop
        · rename_i t y ht
          obtain ⟨c1, _, g1, g2, rfl⟩ := hc
          rw [show _ = [] from g2] at harr
          have hlen : ∀ n : Nat, v = .i .i64 n → (Builtin.len_ ats type #[c1]).run P w = .ok (goInt n) w → h' = h → h' = h ∧ ∃ c, vrel σ ν v c ∧
              (do let d ← resolve r { callee := .builtin .len, args := args, argTypes := ats } type; invoke d.target d.args).run P w = .ok (.value c) w := by
            intro n hv hr he
            refine ⟨he, goInt n, by rw [hv]; rfl, ?_⟩
            simp [resolve, invoke, builtin, harr, hr]
          rw [ht] at hk
          simp only at hk
          split at hop
          · rename_i l hu; simp [hu] at hk
          · rename_i el hu; simp [hu] at hk
          · rename_i k e hu
            simp at hop
            obtain ⟨rfl, rfl⟩ := hop
            refine hlen 0 rfl ?_ rfl
            rw [show c1 = _ from g1]
            simp [Builtin.len_, ht, run_underlying hu]
          · rename_i k e n hu
            split at hop
            · rename_i es cl hn
              simp at hop
              obtain ⟨rfl, rfl⟩ := hop
              obtain ⟨e1, he, rfl⟩ := g1
              obtain ⟨a, hw, hes⟩ := x.map hn he
              have hg := run_getMap (P := P) hw
              refine hlen _ rfl ?_ rfl
              have hsz : a.size = es.length := by have := erels_length hes; simpa using this
              simp [Builtin.len_, ht, run_underlying hu, hg, hsz]
            · cases hop
          · cases hop
        · cases hop

/-! ### Writes -/

/-- What an operation does. -/
def OpOk (P : Program) (σ : Sg) (gs : Nat) (ν : Nu) (h : AH) (w : World) (r : Operand → Value) (o : Oper) : R → Prop
  | .v v h' => ∃ c w' ν', (execOp r o).run P w = .ok (.value c) w' ∧ Ext ν h w ν' h' w' ∧ hrel σ gs ν' h' w' ∧ vrel σ ν' v c
  | .sk h' => ∃ w' ν', (execOp r o).run P w = .ok .skip w' ∧ Ext ν h w ν' h' w' ∧ hrel σ gs ν' h' w'
  | .call f args => ∃ cs, vrels σ ν args cs ∧ (execOp r o).run P w = (callFunc f cs.toArray).run P w
  | .df f args => ∃ d fv cap cs, (execOp r o).run P w = .ok (.defer d) w ∧ d.target = .fn fv cap ∧ vrels σ ν args cs ∧ invoke d.target d.args = callFunc f cs.toArray

theorem notFrozen {n : Nat} : ∀ o, o < n → ¬ ((0, 0).1 ≤ o ∧ o < (0, 0).2) := fun o _ => by simp

theorem brel_cells {e : NE} {cs : List AV} {a : Array Value} {t : TypeId} (hc : vrels σ ν cs a.toList) : brel σ ν e (.c cs 0) (.cells a t) :=
  ⟨a.toList, [], by simp, hc, fun _ => rfl, fun h => absurd rfl h, notFrozen⟩

theorem vrels_repl {z : List AV} {cz : List Value} (hz : vrels σ ν z cz) : ∀ n, vrels σ ν (repl n z) (List.replicate n cz).flatten
  | 0 => rfl
  | n + 1 => by
    rw [List.replicate_succ, List.flatten_cons]
    exact vrels_append hz (vrels_repl hz n)

theorem range_mod (z : Array Value) (n : Nat) : ((Array.range (n * z.size)).map (z[· % z.size]!)).toList = (List.replicate n z.toList).flatten := by
  induction n with
  | zero => simp
  | succ n ih =>
    rw [List.replicate_succ', List.flatten_append]
    simp only [List.flatten_cons, List.flatten_nil, List.append_nil, ← ih]
    rcases Nat.eq_zero_or_pos z.size with h0 | hpos
    · have : z.toList = [] := List.eq_nil_of_length_eq_zero (by simpa using h0)
      simp [h0, this]
    · apply List.ext_getElem
      · simp [Nat.add_mul]
      · intro i h1 h2
        simp only [Array.toList_map, Array.toList_range, List.getElem_map, List.getElem_range]
        by_cases hi : i < n * z.size
        · rw [List.getElem_append_left (by simpa using hi)]
          simp
        · rw [List.getElem_append_right (by simpa using hi)]
          have hlt : i - n * z.size < z.size := by
            simp [Nat.add_mul] at h1; omega
          have hm : i % z.size = i - n * z.size := by
            conv => lhs; rw [show i = (i - n * z.size) + n * z.size by omega]
            rw [Nat.add_mul_mod_self_right, Nat.mod_eq_of_lt hlt]
          simp [hm, hlt]

theorem dense_rel {k : Nat} (hk : 0 < k) : ∀ {vs : List (Nat × AV)} {ps : List (Nat × Value)} {i n : Nat} {l : List AV} {a : Array Value}, dense k i vs = some l → prels σ ν vs ps → a.size = n * k → i + vs.length = n →
    ∃ a' m, Instr.fill (fun j => some (j * k, k)) a ps = some a' ∧ a'.toList = a.toList.take (i * k) ++ m ∧ vrels σ ν l m
  | [], ps, i, n, l, a, hd, hp, ha, hn => by
    simp [dense] at hd
    subst hd
    rw [show ps = [] from hp]
    refine ⟨a, [], rfl, ?_, rfl⟩
    simp at hn
    subst hn
    rw [List.take_of_length_le (by simp [ha])]
    simp
  | x :: vs, ps, i, n, l, a, hd, ⟨c, ps', h1, h2, e⟩, ha, hn => by
    subst e
    simp only [dense] at hd
    cases hb : Nat.beq x.1 i with
    | false => rw [hb] at hd; simp at hd
    | true =>
      cases hb2 : Nat.beq x.2.cells.length k with
      | false => rw [hb, hb2] at hd; simp at hd
      | true =>
        rw [hb, hb2] at hd
        simp only [Bool.and_self, cond_true] at hd
        split at hd
        · rename_i l' hl
          simp at hd
          subst hd
          have hi := Nat.eq_of_beq_eq_true hb
          have hlen := Nat.eq_of_beq_eq_true hb2
          have hx := vrel_cells h1
          have hcl : c.cells.size = k := by have := vrels_length hx; rw [hlen] at this; simpa using this
          have hfit : i * k + k ≤ a.size := by
            rw [ha, ← Nat.succ_mul]
            apply Nat.mul_le_mul_right
            simp at hn
            omega
          have hfold := foldl_zipIdx c.cells.toList 0 (i * k) a (by simp [hcl]; exact hfit)
          have hf' : (c.cells.zipIdx.foldl (fun cs (x : Value × Nat) => cs.setIfInBounds (i * k + x.2) x.1) a).toList = a.toList.take (i * k) ++ c.cells.toList ++ a.toList.drop (i * k + k) := by
            rw [← Array.foldl_toList, Array.toList_zipIdx, hfold]
            simp [hcl]
          have hsz : (c.cells.zipIdx.foldl (fun cs (x : Value × Nat) => cs.setIfInBounds (i * k + x.2) x.1) a).size = n * k := by
            rw [← Array.length_toList, hf']
            simp [hcl]
            omega
          obtain ⟨a', m, g1, g2, g3⟩ := dense_rel hk hl h2 hsz (by simp at hn; omega)
          refine ⟨a', c.cells.toList ++ m, ?_, ?_, vrels_append hx g3⟩
          · simp only [Instr.fill, hi]
            rw [if_neg (by simp [hcl]; omega)]
            exact g1
          · have hs : i.succ * k = i * k + k := Nat.succ_mul i k
            rw [g2, hf', hs]
            have hl1 : (a.toList.take (i * k) ++ c.cells.toList).length = i * k + k := by
              simp [hcl]
              omega
            rw [List.take_append_of_le_length (by omega), List.take_of_length_le (by omega)]
            simp
        · cases hd

theorem fillR_rel {k : Nat} (hk : 0 < k) : ∀ {parts : List (Nat × AV)} {ps : List (Nat × Value)} {cs l : List AV} {a : Array Value},
    fillR k cs parts = some l → prels σ ν parts ps → vrels σ ν cs a.toList → ∃ a', Instr.fill (fun j => some (j * k, k)) a ps = some a' ∧ vrels σ ν l a'.toList
  | [], ps, cs, l, a, h, hp, hc => by
    simp [fillR] at h
    subst h
    rw [show ps = [] from hp]
    exact ⟨a, rfl, hc⟩
  | (i, v) :: parts, ps, cs, l, a, h, ⟨c, ps', h1, h2, e⟩, hc => by
    subst e
    simp only [fillR] at h
    cases hb : Nat.beq v.cells.length k with
    | false => rw [hb] at h; simp at h
    | true =>
      rw [hb] at h
      simp only [cond_true] at h
      split at h
      · rename_i cs' hp
        have hlen := Nat.eq_of_beq_eq_true hb
        obtain ⟨g1, g2, g3⟩ := fill_one hp hc h1 (.inl (by omega))
        obtain ⟨a', k1, k2⟩ := fillR_rel hk h h2 g3
        refine ⟨a', ?_, k2⟩
        simp only [Instr.fill]
        rw [if_neg (by simp [g2, hlen]; rw [g2, hlen] at g1; exact g1)]
        exact k1
      · cases h

theorem fillD_rel {k len : Nat} (hk : 0 < k) {vs : List (Nat × AV)} {ps : List (Nat × Value)} {z l : List AV} {a : Array Value} (hf : fillD k len z vs = some l) (hp : prels σ ν vs ps)
    (ha : a.size = len * k) (hz : vrels σ ν (repl len z) a.toList) : ∃ a', Instr.fill (fun j => some (j * k, k)) a ps = some a' ∧ vrels σ ν l a'.toList := by
  unfold fillD at hf
  cases hb : Nat.beq vs.length len with
  | false => rw [hb] at hf; exact fillR_rel hk hf hp hz
  | true =>
    rw [hb] at hf
    simp only [cond_true] at hf
    split at hf
    · rename_i l' hd
      cases hf
      obtain ⟨a', m, g1, g2, g3⟩ := dense_rel hk hd hp ha (by have := Nat.eq_of_beq_eq_true hb; omega)
      refine ⟨a', g1, ?_⟩
      rw [g2]
      simpa using g3
    · exact fillR_rel hk hf hp hz

end
end Go.Ae
namespace Go.Ae
open Go

section
variable {P : Program} {σ : Sg} {gs : Nat} {ν : Nu} {h : AH} {w : World} {ρ : Operand → Option AV} {r : Operand → Value}

theorem wrap_nat {n : Nat} (hn : n < 9223372036854775808) : IntKind.i64.wrap (n : Int) = n := by
  simp [IntKind.wrap, IntKind.bits, IntKind.signed]
  split <;> omega

def nameAt (w : World) : NE := ⟨w.heap.size, 0, 0, []⟩

/-- A new closed row. -/
theorem row_ok (x : hrel σ gs ν h w) {cs : List AV} {a : Array Value} {t : TypeId} (hc : vrels σ ν cs a.toList) :
    hrel σ gs (ν ++ [nameAt w]) (h.alloc (.c cs 0)) (w.alloc (.cells a t)) ∧
      Ext ν h w (ν ++ [nameAt w]) (h.alloc (.c cs 0)) (w.alloc (.cells a t)) ∧ (ν ++ [nameAt w])[h.nx]? = some (nameAt w) := by
  obtain ⟨h1, h2⟩ := x.alloc (e := nameAt w) (b := .c cs 0) (o := .cells a t) (w' := (w.alloc (.cells a t))) rfl rfl (brel_mono [nameAt w] (brel_cells hc))
  exact ⟨h1, h2, by rw [← x.len]; simp⟩

theorem run_newRow (t : TypeId) (a : Array Value) (w : World) : (Go.newRow t a).run P w = .ok ⟨w.heap.size, 0, none⟩ (w.alloc (.cells a t)) := by
  simp [Go.newRow]

theorem alloc_ok (x : hrel σ gs ν h w) {o : Oper} {e : TypeId} (ho : o.op = .alloc e) {R' : R} (hop : oAlloc h (zeroOf P e) = some R') : OpOk P σ gs ν h w r o R' := by
  cases hz : zeroOf P e with
  | none => rw [hz] at hop; simp [oAlloc] at hop
  | some z =>
    rw [hz] at hop
    simp [oAlloc] at hop
    subst hop
    obtain ⟨zv, h1, h2⟩ := run_zeroValue hz
    have hc := vrel_cells (ofVal_rel (σ := σ) (ν := ν) h1)
    obtain ⟨g1, g2, g3⟩ := row_ok (t := e) x hc
    refine ⟨_, _, _, ?_, g2, g1, ⟨_, g3, rfl⟩⟩
    simp [execOp, ho, Instr.alloc, h2 w, newVar, run_newRow, nameAt]

theorem box_ok (x : hrel σ gs ν h w) (hρ : Rho σ ν ρ r) {o : Oper} {e : TypeId} {y : Operand} (ho : o.op = .box e y) {R' : R} (hop : oBox h (ρ y) = some R') : OpOk P σ gs ν h w r o R' := by
  cases hz : ρ y with
  | none => rw [hz] at hop; simp [oBox] at hop
  | some z =>
    rw [hz] at hop
    simp only [oBox] at hop
    cases hall : z.cells.all AV.one with
    | false => rw [hall] at hop; simp at hop
    | true =>
      rw [hall] at hop
      simp at hop
      subst hop
      have hc := vrel_cells (hρ y z hz)
      obtain ⟨g1, g2, g3⟩ := row_ok (t := e) x hc
      refine ⟨_, _, _, ?_, g2, g1, ⟨_, g3, rfl⟩⟩
      simp [execOp, ho, Instr.box, newVar, run_newRow, nameAt]

theorem sliceEl_rel {t e : TypeId} (hs : sliceEl P t = some e) : P.underlying t = some (.slice e) := by
  unfold sliceEl at hs
  split at hs
  · simp at hs; subst hs; assumption
  · cases hs

theorem repl_rel {z : AV} {zv : Value} {k : Nat} (hz : vrel σ ν z zv) (hk : z.cells.length = k) (_hpos : 0 < k) (n : Nat) :
    zv.cells.size = k ∧ vrels σ ν (repl n z.cells) ((Array.range (n * k)).map (zv.cells[· % zv.cells.size]!)).toList := by
  have hc := vrel_cells hz
  have hsz : zv.cells.size = k := by have := vrels_length hc; rw [hk] at this; simpa using this
  refine ⟨hsz, ?_⟩
  have := range_mod zv.cells n
  rw [hsz] at this ⊢
  rw [this]
  exact vrels_repl hc n

/-- What a row literal does, in any world. -/
theorem row_run (hρ : Rho σ ν ρ r) {o : Oper} {t : TypeId} {len : Nat} {ps : Array (Nat × Operand)} (ho : o.op = .buildSlice t len ps) {cs : List AV} (hop : rowC P ρ t len ps = some cs) :
    ∃ a' e, vrels σ ν cs a'.toList ∧ ∀ w, (execOp r o).run P w = .ok (.value (.slice (some ⟨w.heap.size, 0, none⟩) len len)) (w.alloc (.cells a' e)) := by
  unfold rowC at hop
  split at hop
  · rename_i e he
    have hu := sliceEl_rel he
    cases hk : szOf P e with
    | none => rw [hk] at hop; simp [rowC1] at hop
    | some k =>
      cases hz : zeroOf P e with
      | none => rw [hk, hz] at hop; simp [rowC1] at hop
      | some z =>
        cases hv : evp ρ ps.toList with
        | none => rw [hk, hz, hv] at hop; simp [rowC1] at hop
        | some vs =>
          rw [hk, hz, hv] at hop
          simp only [rowC1] at hop
          cases hb : (Nat.blt 0 k && Nat.ble (Nat.mul len k) 10000 && Nat.beq z.cells.length k) with
          | false => rw [hb] at hop; simp at hop
          | true =>
            rw [hb] at hop
            simp only [cond_true] at hop
            simp only [Bool.and_eq_true, Nat.ble_eq, Nat.beq_eq] at hb
            obtain ⟨⟨b1, b2⟩, b3⟩ := hb
            have hpos : 0 < k := by simp [Nat.blt] at b1; omega
            have b2' : len * k ≤ 10000 := b2
            obtain ⟨zv, h1, h2⟩ := run_zeroValue hz
            obtain ⟨g1, g2⟩ := repl_rel (σ := σ) (ν := ν) (ofVal_rel h1) b3 hpos len
            have hp := evp_rel hρ hv
            obtain ⟨a', k1, k2⟩ := fillD_rel hpos hop hp (a := (Array.range (len * k)).map (zv.cells[· % zv.cells.size]!)) (by simp) g2
            refine ⟨a', e, k2, fun w => ?_⟩
            have hsz := run_sizeOf hk w
            have hps : (ps.map fun (i, y) => (i, r y)).toList = ps.toList.map fun y => (y.1, r y.2) := by simp
            have hnot : ¬ (16777216 < len * k) := by omega
            by_cases h0 : len * k = 0
            · have hl0 : len = 0 := by
                rcases Nat.mul_eq_zero.1 h0 with e0 | e0
                · exact e0
                · omega
              subst hl0
              have e1 : ∀ f : Nat → Value, Array.map f (Array.range 0) = #[] := fun f => by apply Array.ext'; simp
              rw [Nat.zero_mul, e1] at k1
              simp [execOp, ho, Instr.buildSlice, run_underlying hu, hsz]
              rw [e1, k1]
              simp [run_newRow]
            · simp [execOp, ho, Instr.buildSlice, run_underlying hu, hsz, hnot, h0, h2 w]
              rw [k1]
              simp [run_newRow]
  · cases hop

theorem rowOp_ok (x : hrel σ gs ν h w) (hρ : Rho σ ν ρ r) {o : Oper} {t : TypeId} {len : Nat} {ps : Array (Nat × Operand)} (ho : o.op = .buildSlice t len ps) {R' : R} (hop : oRow P ρ h t len ps = some R') :
    OpOk P σ gs ν h w r o R' := by
  unfold oRow at hop
  cases hf : rowC P ρ t len ps with
  | none => rw [hf] at hop; simp [newRow] at hop
  | some cs =>
    rw [hf] at hop
    simp only [newRow] at hop
    cases hall : cs.all AV.one with
    | false => rw [hall] at hop; simp at hop
    | true =>
      rw [hall] at hop
      simp only [cond_true, Option.some.injEq] at hop
      subst hop
      obtain ⟨a', e, k2, hrun⟩ := row_run hρ ho hf
      obtain ⟨m1, m2, m3⟩ := row_ok (t := e) x k2
      exact ⟨_, _, _, by simpa [nameAt] using hrun w, m2, m1, ⟨_, m3, rfl⟩⟩

theorem mkMap_ok (x : hrel σ gs ν h w) {o : Oper} {t : TypeId} {y : Option Operand} (ho : o.op = .makeMap t y) {R' : R} (hop : oMkMap h y = some R') : OpOk P σ gs ν h w r o R' := by
  cases y with
  | some _ => simp [oMkMap] at hop
  | none =>
    simp [oMkMap] at hop
    subst hop
    obtain ⟨g1, g2⟩ := x.alloc (e := nameAt w) (b := .m [] 0) (o := .map #[] 0) (w' := (w.alloc (.map #[] 0))) rfl rfl ⟨rfl, rfl⟩
    refine ⟨_, _, _, ?_, g2, g1, ⟨nameAt w, by rw [← x.len]; simp, rfl⟩⟩
    simp [execOp, ho, Instr.makeMap, nameAt]

theorem mkSl_ok (x : hrel σ gs ν h w) (hρ : Rho σ ν ρ r) {o : Oper} {t : TypeId} {a b : Operand} (ho : o.op = .makeSlice t a b) {R' : R} (hop : oMkSl P h t (ρ a) (ρ b) = some R') : OpOk P σ gs ν h w r o R' := by
  cases ha : ρ a with
  | none => rw [ha] at hop; simp [oMkSl] at hop
  | some va =>
    cases hb : ρ b with
    | none => rw [ha, hb] at hop; simp [oMkSl] at hop
    | some vb =>
      rw [ha, hb] at hop
      simp only [oMkSl] at hop
      unfold makeSl at hop
      split at hop
      · rename_i e hu
        split at hop
        · rename_i l c k bt z hl hc hk hbt hz
          cases hq : (Nat.ble l c && Nat.ble c 1000000 && Nat.ble bt 1000 && Nat.blt 0 k && z.cells.length == k) with
          | false => rw [hq] at hop; simp [o2] at hop
          | true =>
            rw [hq] at hop
            simp only [cond_true, o2, Option.some.injEq] at hop
            subst hop
            simp only [Bool.and_eq_true, Nat.ble_eq, beq_iff_eq] at hq
            obtain ⟨⟨⟨⟨q1, q2⟩, q3⟩, q4⟩, q5⟩ := hq
            have hpos : 0 < k := by simp [Nat.blt] at q4; omega
            obtain ⟨kl, hrl⟩ := natOf_rel hl (hρ a va ha)
            obtain ⟨kc, hrc⟩ := natOf_rel hc (hρ b vb hb)
            obtain ⟨zv, h1, h2⟩ := run_zeroValue hz
            obtain ⟨g1, g2⟩ := repl_rel (σ := σ) (ν := ν) (ofVal_rel h1) q5 hpos c
            obtain ⟨m1, m2, m3⟩ := row_ok (t := e) x g2
            refine ⟨_, _, _, ?_, m2, m1, ⟨_, m3, rfl⟩⟩
            obtain ⟨i, hi, hib⟩ := bytesOf_info hbt
            have hsz := run_sizeOf hk w
            have w1 := wrap_nat (n := l) (by omega)
            have w2 := wrap_nat (n := c) (by omega)
            have hmul : bt * c ≤ 1000 * 1000000 := Nat.mul_le_mul q3 q2
            have t1 : ¬ ((281474976710656 : Int) < (bt : Int) * (c : Int)) := by
              have h5 : ((bt * c : Nat) : Int) ≤ ((1000000000 : Nat) : Int) := Int.ofNat_le.2 hmul
              rw [Int.natCast_mul] at h5
              omega
            have t3 : ¬ ((c : Int) < (l : Int)) := by omega
            have hbi : (i.bytes : Int) = bt := by rw [hib]
            simp only [execOp, ho, Instr.makeSlice, Sem.run_bind, run_underlying hu, Result.andThen_ok, hrl, hrc, asInt, asIntOf, Sem.run_pure, typeInfo, run_program, hi]
            have t4 : ¬ ((l : Int) < 0) := by omega
            have t5 : ¬ ((c : Int) < 0) := by omega
            have e1 : ∀ f : Nat → Value, Array.map f (Array.range 0) = #[] := fun f => by apply Array.ext'; simp
            simp [w1, w2, hbi, t1, t3, t4, t5, hsz]
            by_cases h0 : c = 0
            · subst h0
              simp [nameAt, e1]
              simp [run_newRow]
            · have hk0 : ¬ (k = 0) := by omega
              simp [h2 w, run_newRow, nameAt]
              intro h9
              rcases Nat.mul_eq_zero.1 h9 with e9 | e9 <;> omega
        · simp [o2] at hop
      · simp [o2] at hop

theorem store_ok (x : hrel σ gs ν h w) (hρ : Rho σ ν ρ r) {o : Oper} {t : TypeId} {a b : Operand} (ho : o.op = .store t a b) {R' : R} (hop : oStore P h t (asP (ρ a)) (ρ b) = some R') : OpOk P σ gs ν h w r o R' := by
  cases ha : asP (ρ a) with
  | none => rw [ha] at hop; simp [oStore] at hop
  | some y =>
    cases hb : ρ b with
    | none => rw [ha, hb] at hop; simp [oStore] at hop
    | some v =>
      rw [ha, hb] at hop
      simp only [oStore] at hop
      cases hs : storeT P t h y.1 y.2 v with
      | none => rw [hs] at hop; simp [o3] at hop
      | some h' =>
        rw [hs] at hop
        simp [o3] at hop
        subst hop
        unfold storeT at hs
        split at hs
        · rename_i k hk
          cases hq : v.cells.length == k with
          | false => rw [hq] at hs; simp at hs
          | true =>
            rw [hq] at hs
            simp only [cond_true] at hs
            obtain ⟨e, he, hr⟩ := asP_rel hρ ha
            have hc := vrel_cells (hρ b v hb)
            obtain ⟨g1, g2, g3, g4⟩ := storeC_rel x hs he hc
            refine ⟨_, _, ?_, g4, g3⟩
            have hlen : (r b).cells.size = k := by
              have := vrels_length hc
              rw [beq_iff_eq.1 hq] at this
              simpa using this
            have hsz := run_sizeOf hk w
            have hst := run_storeCells_cells (P := P) e.b y.2 (r b).cells.toList 0 w (fun j hj => by simpa using (g1 j hj).1) (fun j hj => by simpa using (g1 j hj).2) g2
            simp only [Nat.add_zero] at hst
            simp only [execOp, ho, hr, Instr.storeAt, Instr.sureAddr, Sem.run_bind, Sem.run_pure, Result.andThen_ok, storeVar, hsz, hlen]
            simp [hst]
        · cases hs

end
end Go.Ae
namespace Go.Ae
open Go

section
variable {P : Program} {σ : Sg} {gs : Nat} {ν : Nu} {h : AH} {w : World} {ρ : Operand → Option AV} {r : Operand → Value}

/-- A found key is the key that was sought. -/
theorem findK_at {k : AV} : ∀ {es : List AE} {i j : Nat} {v : AV}, findK k es i = some (some (j, v)) → i ≤ j ∧ ∃ e, es[j - i]? = some e ∧ e.val = v ∧ same k e.key = some true
  | [], _, _, _, hf => by simp [findK] at hf
  | e :: es, i, j, v, hf => by
    simp only [findK] at hf
    split at hf
    · rename_i hs
      simp at hf
      obtain ⟨rfl, rfl⟩ := hf
      exact ⟨Nat.le_refl _, e, by simp, rfl, hs⟩
    · obtain ⟨h1, e', h2, h3⟩ := findK_at hf
      refine ⟨by omega, e', ?_, h3⟩
      rw [show j - i = (j - (i + 1)) + 1 by omega]
      simpa using h2
    · cases hf

theorem same_eq {k y : AV} {c cy : Value} (hk : vrel σ ν k c) (hy : vrel σ ν y cy) (hs : same k y = some true) : cy = c ∧ Instr.sameBits 10000 c c = true := by
  unfold same at hs
  split at hs
  · rename_i q a q' a'
    rw [show c = _ from hk, show cy = _ from hy]
    cases hq : q == q' with
    | false => rw [hq] at hs; simp at hs
    | true =>
      rw [hq] at hs
      simp at hs hq
      subst hs hq
      exact ⟨rfl, by simp [Instr.sameBits]⟩
  · rename_i a a'
    rw [show c = _ from hk, show cy = _ from hy]
    simp at hs
    subst hs
    refine ⟨rfl, ?_⟩
    simp only [Instr.sameBits]
    show (a.toArray == a.toArray) = true
    simp
  · cases hs

theorem run_keyStays {c : Value} (hb : Instr.sameBits 10000 c c = true) (w : World) : (Instr.keyThatStays c c).run P w = .ok c w := by
  simp [Instr.keyThatStays, hb]

theorem erels_get : ∀ {es : List AE} {cs : List MapEntry} {i : Nat} {e : AE}, erels σ ν es cs → es[i]? = some e → ∃ c, cs[i]? = some c ∧ erel σ ν e c
  | [], _, _, _, _, h => by simp at h
  | _ :: _, _, 0, _, ⟨c, cs, h1, h2, e⟩, h => by simp at h; subst h e; exact ⟨c, rfl, h1⟩
  | _ :: _, _, i + 1, _, ⟨c, cs, h1, h2, e⟩, h => by
    subst e
    obtain ⟨c', g1, g2⟩ := erels_get h2 (by simpa using h)
    exact ⟨c', by simpa using g1, g2⟩

theorem erels_push {es : List AE} {cs : List MapEntry} {e : AE} {c : MapEntry} : erels σ ν es cs → erel σ ν e c → erels σ ν (es ++ [e]) (cs ++ [c]) := by
  intro h1 h2
  induction es generalizing cs with
  | nil => rw [show cs = [] from h1]; exact ⟨c, [], h2, rfl, rfl⟩
  | cons x es ih => obtain ⟨c', cs', g1, g2, rfl⟩ := h1; exact ⟨c', _, g1, ih g2, rfl⟩

theorem erels_modify {f : MapEntry → MapEntry} {v : AV} : ∀ {es : List AE} {cs : List MapEntry} {i : Nat}, erels σ ν es cs →
    (∀ e c, es[i]? = some e → cs[i]? = some c → erel σ ν e c → erel σ ν { e with val := v } (f c)) → erels σ ν (setAt v i es) (cs.modify i f)
  | [], _, i, h, _ => by rw [show _ = [] from h]; cases i <;> simp [setAt, erels]
  | x :: es, _, 0, ⟨c, cs, h1, h2, e⟩, hf => by subst e; exact ⟨f c, cs, hf x c rfl rfl h1, h2, rfl⟩
  | x :: es, _, i + 1, ⟨c, cs, h1, h2, e⟩, hf => by
    subst e
    exact ⟨c, _, h1, erels_modify h2 (fun e c' he hc => hf e c' (by simpa using he) (by simpa using hc)), rfl⟩

theorem erels_same {f : MapEntry → MapEntry} : ∀ {es : List AE} {cs : List MapEntry} {i : Nat}, erels σ ν es cs →
    (∀ e c, es[i]? = some e → cs[i]? = some c → erel σ ν e c → erel σ ν e (f c)) → erels σ ν es (cs.modify i f)
  | [], _, i, h, _ => by rw [show _ = [] from h]; cases i <;> simp [erels]
  | x :: es, _, 0, ⟨c, cs, h1, h2, e⟩, hf => by subst e; exact ⟨f c, cs, hf x c rfl rfl h1, h2, rfl⟩
  | x :: es, _, i + 1, ⟨c, cs, h1, h2, e⟩, hf => by
    subst e
    exact ⟨c, _, h1, erels_same h2 (fun e c' he hc => hf e c' (by simpa using he) (by simpa using hc)), rfl⟩

theorem erels_erase : ∀ {es : List AE} {cs : List MapEntry} {i : Nat}, erels σ ν es cs → erels σ ν (eraseAt i es) (cs.eraseIdx i)
  | [], _, i, h => by rw [show _ = [] from h]; cases i <;> simp [eraseAt, erels]
  | x :: es, _, 0, ⟨c, cs, h1, h2, e⟩ => by subst e; exact h2
  | x :: es, _, i + 1, ⟨c, cs, h1, h2, e⟩ => by subst e; exact ⟨c, _, h1, erels_erase h2, rfl⟩

/-- A map in its block is another one. -/
def putMap (w : World) (b : Nat) (a : Array MapEntry) (cl : Nat) : World := { w with heap := w.heap.setIfInBounds b (.map a cl) }

theorem run_setMap {b cl cl' : Nat} {a a' : Array MapEntry} (hw : w.heap[b]? = some (.map a cl)) : (setObj b (.map a' cl')).run P w = .ok () (putMap w b a' cl') := by
  simp [setObj, Sem.run, hw, putMap]

theorem Chg_set {b : Nat} {o o' : Obj} (hw : w.heap[b]? = some o) (hm : ∀ (a : Array Value) (t : TypeId) (fr : Nat × Nat), o ≠ .cells a t fr := by intro _ _ _ h; cases h) : Chg w { w with heap := w.heap.setIfInBounds b o' } b o' := by
  have hlt := (Array.getElem?_eq_some_iff.1 hw).1
  exact ⟨by simp, by simp [hlt], fun c hc => by simp [Ne.symm hc], Keeps.set_map hw hm⟩

theorem putMap_ok (x : hrel σ gs ν h w) {n cl cl' : Nat} {es es' : List AE} {a a' : Array MapEntry} {e : NE} (hn : h.get n = some (.m es cl)) (he : ν[n]? = some e) (hw : w.heap[e.b]? = some (.map a cl))
    (hr : erels σ ν es' a'.toList) : hrel σ gs ν (h.upd n (.m es' cl')) (putMap w e.b a' cl') ∧ Ext ν h w ν (h.upd n (.m es' cl')) (putMap w e.b a' cl') :=
  x.upd hn he (Chg_set hw) ⟨rfl, hr⟩

theorem mapDesc {kt : TypeId} (hkt : (∃ q, P.underlying kt = some (.int q)) ∨ P.underlying kt = some .string) : ∃ d, P.underlying kt = some d := by
  rcases hkt with ⟨q, hq⟩ | hq <;> exact ⟨_, hq⟩

theorem mapUp_rel (x : hrel σ gs ν h w) {t : TypeId} {m k v : AV} {h' : AH} {cm ck cv : Value} (hm : vrel σ ν m cm) (hk : vrel σ ν k ck) (hv : vrel σ ν v cv) (hu : mapUp P t h m k v = some h') :
    ∃ w', (Instr.mapUpdate t cm ck cv).run P w = .ok () w' ∧ Ext ν h w ν h' w' ∧ hrel σ gs ν h' w' := by
  unfold mapUp at hu
  split at hu
  · rename_i kt el n hma
    obtain ⟨hut, hkt⟩ := mapAt_rel hma
    cases hok : keyOk P k kt with
    | false => rw [hok] at hu; simp at hu
    | true =>
      rw [hok] at hu
      simp only [cond_true] at hu
      obtain ⟨e, he, rfl⟩ := hm
      obtain ⟨d, hd⟩ := mapDesc hkt
      have hchk := fun b => run_checkKey (P := P) (c := ck) hkt b 9999 w
      split at hu
      · rename_i es cl hn
        obtain ⟨a, hw, hes⟩ := x.map hn he
        have hg := run_getMap (P := P) hw
        split at hu
        · rename_i i u hf
          simp at hu
          subst hu
          obtain ⟨_, e1, k1, k2, k3⟩ := findK_at hf
          simp only [Nat.sub_zero] at k1
          obtain ⟨c1, k4, k5⟩ := erels_get hes k1
          obtain ⟨hck, hbits⟩ := same_eq hk k5.1 k3
          obtain ⟨f', g1, d', rfl, g2, _⟩ := findK_rel hd hok hk hes hf
          have hf0 := run_findKey (P := P) hd g1 w
          have hst := run_keyStays (P := P) hbits w
          have hai : a[i]? = some c1 := by rw [← Array.getElem?_toList]; exact k4
          obtain ⟨m1, m2⟩ := putMap_ok x (cl' := cl) (a' := a.modify i fun e => { e with key := ck, val := cv }) hn he hw (es' := setAt v i es) (by
            rw [Array.toList_modify]
            exact erels_modify hes fun e2 c2 _ hc2 hr2 => ⟨by rw [k4] at hc2; cases hc2; rw [← hck]; exact hr2.1, hv, hr2.2.2⟩)
          refine ⟨_, ?_, m2, m1⟩
          have hset := run_setMap (P := P) (a' := a.modify i fun e => { e with key := ck, val := cv }) (cl' := cl) hw
          simp [Instr.mapUpdate, run_underlying hut, hg, hchk, hf0, hai, hck, hst, hset]
        · rename_i hf
          simp at hu
          subst hu
          obtain ⟨f', g1, g2⟩ := findK_rel hd hok hk hes hf
          rw [show f' = none from g2] at g1
          have hf0 := run_findKey (P := P) hd g1 w
          obtain ⟨m1, m2⟩ := putMap_ok x (cl' := cl + 1) (a' := a.push { key := ck, val := cv, born := cl }) hn he hw (es' := es ++ [⟨k, v, cl⟩]) (by
            rw [Array.toList_push]
            exact erels_push hes ⟨hk, hv, rfl⟩)
          refine ⟨_, ?_, m2, m1⟩
          have hset := run_setMap (P := P) (a' := a.push { key := ck, val := cv, born := cl }) (cl' := cl + 1) hw
          simp [Instr.mapUpdate, run_underlying hut, hg, hchk, hf0, hset]
        · cases hu
      · cases hu
  · cases hu

theorem bornAt_get {es : List AE} {i : Nat} {e : AE} (he : es[i]? = some e) : bornAt es i = e.born := by
  unfold bornAt
  split
  · rename_i e' r hd
    have := congrArg (·[0]?) hd
    simp [he] at this
    rw [this]
  · rename_i hd
    have := congrArg (·[0]?) hd
    simp [he] at this

theorem mapEn_rel (x : hrel σ gs ν h w) {t : TypeId} {m k v : AV} {h' : AH} {cm ck : Value} (hm : vrel σ ν m cm) (hk : vrel σ ν k ck) (hu : mapEn P t h m k = some (v, h')) :
    ∃ c w', (Instr.mapEntry t cm ck).run P w = .ok c w' ∧ Ext ν h w ν h' w' ∧ hrel σ gs ν h' w' ∧ vrel σ ν v c := by
  unfold mapEn at hu
  split at hu
  · rename_i kt el n hma
    obtain ⟨hut, hkt⟩ := mapAt_rel hma
    cases hok : keyOk P k kt with
    | false => rw [hok] at hu; simp at hu
    | true =>
      rw [hok] at hu
      simp only [cond_true] at hu
      obtain ⟨e, he, rfl⟩ := hm
      obtain ⟨d, hd⟩ := mapDesc hkt
      have hchk := fun b => run_checkKey (P := P) (c := ck) hkt b 9999 w
      split at hu
      · rename_i es cl hn
        obtain ⟨a, hw, hes⟩ := x.map hn he
        have hg := run_getMap (P := P) hw
        split at hu
        · rename_i i u hf
          simp at hu
          obtain ⟨rfl, rfl⟩ := hu
          obtain ⟨_, e1, k1, k2, k3⟩ := findK_at hf
          simp only [Nat.sub_zero] at k1
          obtain ⟨c1, k4, k5⟩ := erels_get hes k1
          obtain ⟨hck, hbits⟩ := same_eq hk k5.1 k3
          obtain ⟨f', g1, d', rfl, g2, _⟩ := findK_rel hd hok hk hes hf
          have hf0 := run_findKey (P := P) hd g1 w
          have hst := run_keyStays (P := P) hbits w
          have hai : a[i]? = some c1 := by rw [← Array.getElem?_toList]; exact k4
          have hset := run_setMap (P := P) (a' := a.modify i fun e => { e with key := ck }) (cl' := cl) hw
          have hchg := Chg_set (o' := .map (a.modify i fun e => { e with key := ck }) cl) hw
          have hsame : erels σ ν es (a.modify i fun e => { e with key := ck }).toList := by
            rw [Array.toList_modify]
            exact erels_same hes fun e2 c2 _ hc2 hr2 => ⟨by rw [k4] at hc2; cases hc2; rw [← hck]; exact hr2.1, hr2.2⟩
          have hb : bornAt es i = c1.born := by rw [bornAt_get k1, k5.2.2]
          refine ⟨.tuple #[d', goInt c1.born], putMap w e.b (a.modify i fun e => { e with key := ck }) cl, ?_, ?_, ?_, ⟨_, ⟨_, _, g2, ⟨_, _, rfl, rfl, rfl⟩, rfl⟩, by rw [hb]; rfl⟩⟩
          · simp [Instr.mapEntry, run_underlying hut, hg, hchk, hf0, hai, hck, hst, hset]
          · refine ⟨⟨[], by simp⟩, Nat.le_of_eq hchg.sz.symm, fun c hc hi => ⟨hi, hchg.off c fun e0 => hi ⟨n, _, e, hn, he, e0.symm⟩⟩, hchg.kp⟩
          · refine ⟨x.len, fun m y hy => ?_, x.inj, x.gl⟩
            by_cases hmn : m = n
            · subst hmn
              rw [hn] at hy
              cases hy
              exact ⟨e, _, he, hchg.at_, rfl, hsame⟩
            · obtain ⟨e', o', h1, h2, h3⟩ := x.dom m y hy
              exact ⟨e', o', h1, by rw [← h2]; exact hchg.off _ fun e0 => hmn (x.inj m n e' e y _ hy hn h1 he e0), h3⟩
        · rename_i hf
          split at hu
          · rename_i z hz
            simp at hu
            obtain ⟨rfl, rfl⟩ := hu
            obtain ⟨f', g1, g2⟩ := findK_rel hd hok hk hes hf
            rw [show f' = none from g2] at g1
            have hf0 := run_findKey (P := P) hd g1 w
            obtain ⟨zv, z1, z2⟩ := run_zeroValue hz
            have hzv := ofVal_rel (σ := σ) (ν := ν) z1
            obtain ⟨m1, m2⟩ := putMap_ok x (cl' := cl + 1) (a' := a.push { key := ck, val := zv, born := cl }) hn he hw (es' := es ++ [⟨k, z, cl⟩]) (by
              rw [Array.toList_push]
              exact erels_push hes ⟨hk, hzv, rfl⟩)
            refine ⟨.tuple #[zv, goInt cl], _, ?_, m2, m1, ⟨_, ⟨_, _, hzv, ⟨_, _, rfl, rfl, rfl⟩, rfl⟩, rfl⟩⟩
            have hset := run_setMap (P := P) (a' := a.push { key := ck, val := zv, born := cl }) (cl' := cl + 1) hw
            simp [Instr.mapEntry, run_underlying hut, hg, hchk, hf0, z2 w, hset]
          · cases hu
        · cases hu
      · cases hu
  · cases hu

theorem setBorn_rel {v : AV} {cv : Value} (hv : vrel σ ν v cv) : ∀ {es es' : List AE} {cs : List MapEntry} {b : Nat}, setBorn v b es = some es' → erels σ ν es cs →
    ∃ i, cs.findIdx? (fun e => (e.born : Int) == (b : Int)) = some i ∧ erels σ ν es' (cs.modify i fun e => { e with val := cv })
  | [], _, _, _, h, _ => by simp [setBorn] at h
  | e :: es, es', _, b, h, ⟨c, cs, h1, h2, hc⟩ => by
    subst hc
    simp only [setBorn] at h
    cases hb : e.born == b with
    | true =>
      rw [hb] at h
      simp at h
      subst h
      have : e.born = b := by simpa using hb
      exact ⟨0, by simp [List.findIdx?_cons, h1.2.2, this], ⟨{ c with val := cv }, cs, ⟨h1.1, hv, h1.2.2⟩, h2, rfl⟩⟩
    | false =>
      rw [hb] at h
      simp at h
      split at h
      · rename_i l hl
        simp at h
        subst h
        obtain ⟨i, g1, g2⟩ := setBorn_rel hv hl h2
        have hne : ¬ (e.born = b) := by simpa using hb
        refine ⟨i + 1, ?_, ⟨c, _, h1, g2, rfl⟩⟩
        have : ¬ ((c.born : Int) = (b : Int)) := by rw [h1.2.2]; omega
        simp [List.findIdx?_cons, this, g1]
      · cases h

theorem entSt_rel (x : hrel σ gs ν h w) {t : TypeId} {m st v : AV} {h' : AH} {cm cs cv : Value} (hm : vrel σ ν m cm) (hs : vrel σ ν st cs) (hv : vrel σ ν v cv) (hu : entSt h m st v = some h') :
    ∃ w', (Instr.entryStore t cm cs cv).run P w = .ok () w' ∧ Ext ν h w ν h' w' ∧ hrel σ gs ν h' w' := by
  unfold entSt at hu
  split at hu
  · rename_i n q b
    split at hu
    · rename_i es cl hn
      split at hu
      · rename_i l hl
        simp at hu
        subst hu
        obtain ⟨e, he, rfl⟩ := hm
        obtain ⟨a, hw, hes⟩ := x.map hn he
        obtain ⟨i, g1, g2⟩ := setBorn_rel hv hl hes
        have hg := run_getMap (P := P) hw
        have hfi : a.findIdx? (fun e => (e.born : Int) == (b : Int)) = some i := by
          clear hg hw hes g2
          rcases a with ⟨al⟩
          simpa using g1
        obtain ⟨m1, m2⟩ := putMap_ok x (cl' := cl) (a' := a.modify i fun e => { e with val := cv }) hn he hw (by rw [Array.toList_modify]; exact g2)
        refine ⟨_, ?_, m2, m1⟩
        have hset := run_setMap (P := P) (a' := a.modify i fun e => { e with val := cv }) (cl' := cl) hw
        rw [show cs = .int q (b : Int) from hs]
        simp only [Instr.entryStore, Sem.run_bind, hg, Result.andThen_ok, asInt, asIntOf, Sem.run_pure, hfi, hset]
      · cases hu
    · cases hu
  · cases hu

theorem mapDel_rel (x : hrel σ gs ν h w) {t ty : TypeId} {ats : Array TypeId} {m k : AV} {h' : AH} {cm ck : Value} (ht : ats[0]? = some t) (hm : vrel σ ν m cm) (hk : vrel σ ν k ck) (hu : mapDel P t h m k = some h') :
    ∃ w', (Builtin.delete_ ats ty #[cm, ck]).run P w = .ok (.tuple #[]) w' ∧ Ext ν h w ν h' w' ∧ hrel σ gs ν h' w' := by
  unfold mapDel at hu
  split at hu
  · rename_i kt el n hma
    obtain ⟨hut, hkt⟩ := mapAt_rel hma
    cases hok : keyOk P k kt with
    | false => rw [hok] at hu; simp at hu
    | true =>
      rw [hok] at hu
      simp only [cond_true] at hu
      obtain ⟨e, he, rfl⟩ := hm
      obtain ⟨d, hd⟩ := mapDesc hkt
      have hchk := fun b => run_checkKey (P := P) (c := ck) hkt b 9999 w
      split at hu
      · rename_i es cl hn
        obtain ⟨a, hw, hes⟩ := x.map hn he
        have hg := run_getMap (P := P) hw
        split at hu
        · rename_i i u hf
          simp at hu
          subst hu
          obtain ⟨f', g1, d', rfl, g2, _⟩ := findK_rel hd hok hk hes hf
          have hf0 := run_findKey (P := P) hd g1 w
          obtain ⟨m1, m2⟩ := putMap_ok x (cl' := cl) (a' := a.eraseIdxIfInBounds i) hn he hw (es' := eraseAt i es) (by
            rw [Array.toList_eraseIdxIfInBounds]
            exact erels_erase hes)
          refine ⟨_, ?_, m2, m1⟩
          have hset := run_setMap (P := P) (a' := a.eraseIdxIfInBounds i) (cl' := cl) hw
          simp [Builtin.delete_, ht, run_underlying hut, hg, hchk, hf0, hset]
        · rename_i hf
          simp at hu
          subst hu
          obtain ⟨f', g1, g2⟩ := findK_rel hd hok hk hes hf
          rw [show f' = none from g2] at g1
          have hf0 := run_findKey (P := P) hd g1 w
          have hset := run_setMap (P := P) (a' := a) (cl' := cl) hw
          have hchg := Chg_set (o' := .map a cl) hw
          have hself : putMap w e.b a cl = w := by
            unfold putMap
            have : w.heap.setIfInBounds e.b (.map a cl) = w.heap := by
              apply Array.ext_getElem?
              intro i
              by_cases hi : e.b = i
              · subst hi; rw [hchg.at_, hw]
              · exact hchg.off i (Ne.symm hi)
            rw [this]
          refine ⟨w, ?_, Ext.refl _ _ _, x⟩
          simp [Builtin.delete_, ht, run_underlying hut, hg, hchk, hf0, hset, hself]
        · cases hu
      · cases hu
  · cases hu

end
end Go.Ae
namespace Go.Ae
open Go

section
variable {P : Program} {σ : Sg} {gs : Nat} {ν : Nu} {h : AH} {w : World} {ρ : Operand → Option AV} {r : Operand → Value}

theorem hrel.del (x : hrel σ gs ν h w) (m : Nat) : hrel σ gs ν (h.del m) w ∧ Ext ν h w ν (h.del m) w := by
  have live : ∀ n y, (h.del m).get n = some y → h.get n = some y := by
    intro n y hn
    rw [AH.get_del] at hn
    split at hn
    · cases hn
    · exact hn
  exact ⟨⟨x.len, fun n y hn => x.dom n y (live n y hn), fun n n' e e' b b' h1 h2 => x.inj n n' e e' b b' (live _ _ h1) (live _ _ h2), x.gl⟩,
    ⟨⟨[], by simp⟩, Nat.le_refl _, fun c _ hi => ⟨fun ⟨n, y, e, h1, h2, h3⟩ => hi ⟨n, y, e, live n y h1, h2, h3⟩, rfl⟩, Keeps.refl w⟩⟩

/-! ### Appends -/

/-- What is appended: its length, its cells. -/
theorem appended_rel (x : hrel σ gs ν h w) {k n : Nat} {y : AV} {cy : Value} {new : List AV} (hy : vrel σ ν y cy) (ha : appended k h y = some (n, new)) :
    ∃ news, vrels σ ν new news ∧ news.length = n * k ∧ (∀ w', (Builtin.lenOf cy).run P w' = .ok n w') ∧ ∀ w', w'.heap = w.heap → (Builtin.firstCells k n cy).run P w' = .ok news.toArray w' := by
  have row : ∀ {m o len cap e}, ν[m]? = some e → loadC h m o (len * k) = some new → ∃ news, vrels σ ν new news ∧ news.length = len * k ∧ (∀ w', (Builtin.lenOf (.slice (some ⟨e.b, o, none⟩) len cap)).run P w' = .ok len w') ∧
      ∀ w', w'.heap = w.heap → (Builtin.firstCells k len (.slice (some ⟨e.b, o, none⟩) len cap)).run P w' = .ok news.toArray w' := by
    intro m o len cap e he hl
    obtain ⟨cs, h1, h2, h3⟩ := loadC_rel x hl he
    refine ⟨cs, h1, h2, fun w' => rfl, fun w' hw => ?_⟩
    simp only [Builtin.firstCells]
    rw [← h2]
    exact run_loadCells_at (w := w') (fun j v hj => by have := h3 j v hj; simpa [World.cell?, hw] using this)
  unfold appended at ha
  split at ha
  · rename_i l
    cases hk : Nat.beq k 1 with
    | false => rw [hk] at ha; simp at ha
    | true =>
      rw [hk] at ha
      simp only [cond_true, Option.some.injEq, Prod.mk.injEq] at ha
      obtain ⟨rfl, rfl⟩ := ha
      have := Nat.eq_of_beq_eq_true hk
      subst this
      rw [show cy = _ from hy]
      refine ⟨l.map fun b => .int .u8 b.toNat, ?_, by simp, fun w' => by simp [Builtin.lenOf, ByteArray.size], fun w' _ => ?_⟩
      · clear hy row
        induction l with
        | nil => rfl
        | cons b l ih => exact ⟨_, _, rfl, ih, rfl⟩
      · simp only [Builtin.firstCells, Sem.run_pure]
        congr 1
        rw [extract_mk _ _ _ (Nat.zero_le _)]
        apply Array.ext'
        simp
  · simp at ha
    obtain ⟨rfl, rfl⟩ := ha
    rw [show cy = _ from hy]
    exact ⟨[], rfl, by simp, fun w' => rfl, fun w' _ => rfl⟩
  · simp at ha
    obtain ⟨rfl, rfl⟩ := ha
    obtain ⟨e, he, rfl⟩ := hy
    refine ⟨[], rfl, by simp, fun w' => rfl, fun w' _ => ?_⟩
    simp [Builtin.firstCells, loadCells, loadCellsFrom]
  · rename_i m o len cap
    cases hl : loadC h m o (len * k) with
    | none => rw [hl] at ha; simp [withN] at ha
    | some l =>
      rw [hl] at ha
      simp [withN] at ha
      obtain ⟨rfl, rfl⟩ := ha
      obtain ⟨e, he, rfl⟩ := hy
      exact row he hl
  · rename_i m o ee len
    cases hl : loadC h m o (len * k) with
    | none => rw [hl] at ha; simp [withN] at ha
    | some l =>
      rw [hl] at ha
      simp [withN] at ha
      obtain ⟨rfl, rfl⟩ := ha
      obtain ⟨e, he, _, rfl⟩ := hy
      exact row he hl
  · cases ha

/-- What is known of an append's types. -/
structure App (P : Program) (ats : Array TypeId) (st e : TypeId) (i : TypeInfo) (zv : Value) (k : Nat) : Prop where
  at0 : ats[0]? = some st
  at1 : ∃ xt, ats[1]? = some xt ∧ (P.underlying xt = some .string ∨ ∃ e, P.underlying xt = some (.slice e))
  under : P.underlying st = some (.slice e)
  info : P.info? e = some i
  zero : i.zero = some zv
  size : i.size = k
  pos : 0 < k
  bytes : 0 < i.bytes ∧ i.bytes ≤ 1000
  zsize : zv.cells.size = k

variable {ats : Array TypeId} {st e ty : TypeId} {i : TypeInfo} {zv : Value} {k : Nat}

theorem run_append_in (A : App P ats st e i zv k) {base : Option Addr} {len cap n : Nat} {cy : Value} {news : List Value} {w' : World} (hn : ∀ w', (Builtin.lenOf cy).run P w' = .ok n w')
    (hnew : (Builtin.firstCells k n cy).run P w = .ok news.toArray w) (hfit : len + n ≤ cap)
    (hst : match base with | some a => (storeCells (a.add (len * k)) news).run P w = .ok () w' | none => w' = w) :
    (Builtin.append_ ats ty #[.slice base len cap, cy]).run P w = .ok (.slice base (len + n) cap) w' := by
  obtain ⟨xt, h1, h2⟩ := A.at1
  have hsz : (sizeOf e).run P w = .ok k w := by simp [sizeOf, typeInfo, A.info, A.size]
  cases base with
  | none =>
    have hst' : w' = w := hst
    rw [hst']
    rcases h2 with h2 | ⟨e2, h2⟩ <;>
      simp [Builtin.append_, A.at0, h1, run_underlying A.under, run_underlying h2, hsz, hn w, hfit, hnew]
  | some a =>
    rcases h2 with h2 | ⟨e2, h2⟩ <;>
      simp [Builtin.append_, A.at0, h1, run_underlying A.under, run_underlying h2, hsz, hn w, hfit, hnew, hst]

set_option maxHeartbeats 1000000 in
theorem run_append_out (A : App P ats st e i zv k) {base : Option Addr} {len cap n : Nat} {cy : Value} {olds news : List Value} (hn : ∀ w', (Builtin.lenOf cy).run P w' = .ok n w')
    (hold : (Builtin.firstCells k len (.slice base len cap)).run P w.drew = .ok olds.toArray w.drew) (hnew : (Builtin.firstCells k n cy).run P w.drew = .ok news.toArray w.drew)
    (hfit : cap < len + n) (hroom : len + n ≤ 1000000000) :
    (Builtin.append_ ats ty #[.slice base len cap, cy]).run P w = .ok (.slice (some ⟨w.heap.size, 0, none⟩) (len + n) (grownCap w (len + n) cap e))
      (w.drew.alloc (.cells (olds.toArray ++ news.toArray ++ Builtin.zeroCells zv.cells (grownCap w (len + n) cap e - (len + n))) e)) := by
  obtain ⟨xt, h1, h2⟩ := A.at1
  have hsz : (sizeOf e).run P w = .ok k w := by simp [sizeOf, typeInfo, A.info, A.size]
  have hnf : ¬ (len + n ≤ cap) := by omega
  have hb0 : ¬ (i.bytes = 0) := by have := A.bytes.1; omega
  have hmul : (len + n) * i.bytes ≤ 1000000000 * 1000 := Nat.mul_le_mul hroom A.bytes.2
  have h48 : ¬ (281474976710656 < Builtin.nextslicecap (len + n) cap * i.bytes) := by
    have := growslice_fits hfit (show (len + n) * i.bytes ≤ 140737488355328 by omega)
    omega
  rcases h2 with h2 | ⟨e2, h2⟩ <;>
    simp [Builtin.append_, A.at0, h1, run_underlying A.under, run_underlying h2, hsz, hn w, hnf, typeInfo, A.info, hb0, h48, Question.forced, hold, hnew, zeroValue, A.zero, run_newRow, grownCap] <;>
    (congr 2; apply Array.ext'; simp)

/-- A new open row. -/
theorem open_ok (x : hrel σ gs ν h w) {cs : List AV} {a : Array Value} {t : TypeId} {l ext : List Value} {cap len : Nat} (ha : a.toList = l ++ ext) (hc : vrels σ ν cs l) (hsz : a.size = cap * k) (hk : 0 < k)
    (hle : len ≤ cap) : ∃ ν', hrel σ gs ν' (h.alloc (.c cs k)) (w.drew.alloc (.cells a t)) ∧ Ext ν h w ν' (h.alloc (.c cs k)) (w.drew.alloc (.cells a t)) ∧
      vrel σ ν' (.so h.nx 0 0 len) (.slice (some ⟨w.heap.size, 0, none⟩) len cap) := by
  let e' : NE := ⟨w.heap.size, cap, 0, []⟩
  obtain ⟨h1, h2⟩ := x.alloc (e := e') (b := .c cs k) (o := .cells a t) (w' := w.drew.alloc (.cells a t)) rfl rfl
    ⟨l, ext, ha, vrels_mono [e'] cs l hc, fun h0 => absurd h0 (by omega), fun _ => hsz, notFrozen⟩
  exact ⟨_, h1, h2, e', by rw [← x.len]; simp, by simpa [e'] using hle, rfl⟩

theorem zeroCells_len (z : Array Value) (n : Nat) : (Builtin.zeroCells z n).size = n * z.size := size_zeroCells z n

theorem grown_ok (x : hrel σ gs ν h w) (A : App P ats st e i zv k) {base : Option Addr} {len cap n : Nat} {cy : Value} {olds news : List Value} {old new : List AV} {v' : AV} {h' : AH}
    (hn : ∀ w', (Builtin.lenOf cy).run P w' = .ok n w') (hold : (Builtin.firstCells k len (.slice base len cap)).run P w.drew = .ok olds.toArray w.drew)
    (hnew : (Builtin.firstCells k n cy).run P w.drew = .ok news.toArray w.drew) (ho : vrels σ ν old olds) (hne : vrels σ ν new news) (hol : olds.length = len * k) (hnl : news.length = n * k)
    (hfit : cap < len + n) (hg : grown k h (len + n) (old ++ new) = some (v', h')) :
    ∃ c w' ν', (Builtin.append_ ats ty #[.slice base len cap, cy]).run P w = .ok c w' ∧ Ext ν h w ν' h' w' ∧ hrel σ gs ν' h' w' ∧ vrel σ ν' v' c := by
  unfold grown at hg
  cases hr : Nat.ble (len + n) room with
  | false => rw [hr] at hg; simp at hg
  | true =>
    rw [hr] at hg
    simp only [cond_true, Option.some.injEq, Prod.mk.injEq] at hg
    obtain ⟨rfl, rfl⟩ := hg
    have hroom : len + n ≤ 1000000000 := Nat.le_of_ble_eq_true hr
    have hrun := run_append_out (ty := ty) A hn hold hnew hfit hroom
    have hge := grownCap_ge w (len + n) cap e
    obtain ⟨ν', g1, g2, g3⟩ := open_ok (t := e) (k := k) (cap := grownCap w (len + n) cap e) (len := len + n) x
      (a := olds.toArray ++ news.toArray ++ Builtin.zeroCells zv.cells (grownCap w (len + n) cap e - (len + n))) (l := olds ++ news) (ext := (Builtin.zeroCells zv.cells (grownCap w (len + n) cap e - (len + n))).toList)
      (by simp) (vrels_append ho hne) (by
        simp only [Array.size_append, List.size_toArray, zeroCells_len, A.zsize, hol, hnl, ← Nat.add_mul]
        congr 1
        omega) A.pos hge
    exact ⟨_, _, ν', hrun, g2, g1, g3⟩

set_option maxHeartbeats 1000000 in
theorem appendA_rel (x : hrel σ gs ν h w) {s y v' : AV} {cs cy : Value} {h' : AH} {xt : TypeId} (h0 : ats[0]? = some st) (h1 : ats[1]? = some xt) (hpl : plainTy P xt = true) (hs : vrel σ ν s cs) (hy : vrel σ ν y cy)
    (ha : appendA P st h s y = some (v', h')) : ∃ c w' ν', (Builtin.append_ ats ty #[cs, cy]).run P w = .ok c w' ∧ Ext ν h w ν' h' w' ∧ hrel σ gs ν' h' w' ∧ vrel σ ν' v' c := by
  unfold appendA at ha
  cases he : sliceEl P st with
  | none => rw [he] at ha; simp [appE] at ha
  | some e =>
    rw [he] at ha
    simp only [appE] at ha
    have hu := sliceEl_rel he
    cases hk : szOf P e with
    | none => rw [hk] at ha; simp [app1] at ha
    | some k =>
      cases hbt : bytesOf P e with
      | none => rw [hk, hbt] at ha; simp [app1] at ha
      | some bt =>
        cases hz : zeroOf P e with
        | none => rw [hk, hbt, hz] at ha; simp [app1] at ha
        | some z =>
          rw [hk, hbt, hz] at ha
          simp only [app1] at ha
          cases hok : okSz k bt z with
          | false => rw [hok] at ha; simp at ha
          | true =>
            rw [hok] at ha
            simp only [cond_true] at ha
            simp only [okSz, Bool.and_eq_true, Nat.ble_eq, Nat.beq_eq, Nat.blt] at hok
            obtain ⟨⟨⟨o1', o2'⟩, o3'⟩, o4'⟩ := hok
            obtain ⟨i, zv, i1, i2, i3⟩ := zeroOf_info hz
            obtain ⟨i', j1, j2⟩ := szOf_info hk
            obtain ⟨i'', k1, k2⟩ := bytesOf_info hbt
            rw [i1] at j1 k1
            cases j1
            cases k1
            have hzv := vrel_cells (ofVal_rel (σ := σ) (ν := ν) i3)
            have hxt : P.underlying xt = some .string ∨ ∃ e, P.underlying xt = some (.slice e) := by
              unfold plainTy at hpl
              split at hpl
              · exact .inl (by assumption)
              · exact .inr ⟨_, by assumption⟩
              · cases hpl
            have A : App P ats st e i zv k := ⟨h0, ⟨xt, h1, hxt⟩, hu, i1, i2, j2, by omega, ⟨by omega, by omega⟩, by have := vrels_length hzv; rw [o4'] at this; simpa using this⟩
            cases hap : appended k h y with
            | none => rw [hap] at ha; simp [app2] at ha
            | some p =>
              obtain ⟨n, new⟩ := p
              rw [hap] at ha
              simp only [app2] at ha
              cases hall : new.all AV.one with
              | false => rw [hall] at ha; simp at ha
              | true =>
                rw [hall] at ha
                simp only [cond_true] at ha
                obtain ⟨news, n1, n2, n3, n4⟩ := appended_rel (P := P) x hy hap
                have ndrew : (Builtin.firstCells k n cy).run P w.drew = .ok news.toArray w.drew := n4 w.drew rfl
                cases hn0 : Nat.beq n 0 with
                | true =>
                  rw [hn0] at ha
                  simp only [cond_true] at ha
                  have hn := Nat.eq_of_beq_eq_true hn0
                  subst hn
                  have hnil : news = [] := List.eq_nil_of_length_eq_zero (by simpa using n2)
                  subst hnil
                  have fin : ∀ {base len cap}, cs = .slice base len cap → len ≤ cap → v' = s → h' = h → ∃ c w' ν', (Builtin.append_ ats ty #[cs, cy]).run P w = .ok c w' ∧ Ext ν h w ν' h' w' ∧ hrel σ gs ν' h' w' ∧ vrel σ ν' v' c := by
                    intro base len cap hcs hle e1 e2
                    subst e1 e2 hcs
                    refine ⟨_, w, ν, run_append_in (ty := ty) A n3 (n4 w rfl) (by simpa using hle) ?_, Ext.refl _ _ _, x, hs⟩
                    cases base <;> rfl
                  unfold app0 at ha
                  split at ha
                  · simp at ha; exact fin hs (Nat.le_refl _) ha.1.symm ha.2.symm
                  · simp at ha; obtain ⟨e1, he1, hcs⟩ := hs; exact fin hcs (Nat.zero_le _) ha.1.symm ha.2.symm
                  · rename_i m o len cap
                    cases hle : Nat.ble len cap with
                    | false => rw [hle] at ha; simp at ha
                    | true =>
                      rw [hle] at ha
                      simp at ha
                      obtain ⟨e1, he1, hcs⟩ := hs
                      exact fin hcs (Nat.le_of_ble_eq_true hle) ha.1.symm ha.2.symm
                  · simp at ha; obtain ⟨e1, he1, hle, hcs⟩ := hs; exact fin hcs (by omega) ha.1.symm ha.2.symm
                  · cases ha
                | false =>
                  rw [hn0] at ha
                  simp only [cond_false] at ha
                  have hn := Nat.ne_of_beq_eq_false hn0
                  unfold app3 at ha
                  split at ha
                  · rw [show cs = _ from hs]
                    exact grown_ok (old := []) (olds := []) (len := 0) (cap := 0) x A n3 (by simp [Builtin.firstCells]) ndrew rfl n1 (by simp) n2 (by omega) (by simpa using ha)
                  · rename_i zz m
                    cases zz with
                    | false => simp at ha
                    | true =>
                      simp only [cond_true] at ha
                      obtain ⟨e1, he1, rfl⟩ := hs
                      exact grown_ok (old := []) (olds := []) (len := 0) (cap := 0) x A n3 (by simp [Builtin.firstCells, loadCells, loadCellsFrom]) ndrew rfl n1 (by simp) n2 (by omega) (by simpa using ha)
                  · rename_i m o len cap
                    obtain ⟨e1, he1, rfl⟩ := hs
                    cases hle : Nat.ble (len + n) cap with
                    | true =>
                      rw [hle] at ha
                      simp only [cond_true] at ha
                      cases hst : storeC h m (o + len * k) new with
                      | none => rw [hst] at ha; simp [stored] at ha
                      | some h2 =>
                        rw [hst] at ha
                        simp [stored] at ha
                        obtain ⟨rfl, rfl⟩ := ha
                        obtain ⟨g1, g2, g3, g4⟩ := storeC_rel x hst he1 n1
                        have hst := run_storeCells_cells (P := P) e1.b (o + len * k) news 0 w (fun j hj => by simpa using (g1 j hj).1) (fun j hj => by simpa using (g1 j hj).2) g2
                        simp only [Nat.add_zero] at hst
                        refine ⟨_, _, ν, run_append_in (ty := ty) A n3 (n4 w rfl) (Nat.le_of_ble_eq_true hle) ?_, g4, g3, ⟨e1, he1, rfl⟩⟩
                        simp only
                        rw [add_mul]
                        exact hst
                    | false =>
                      rw [hle] at ha
                      simp only [cond_false] at ha
                      cases hl : loadC h m o (len * k) with
                      | none => rw [hl] at ha; simp [grown1] at ha
                      | some old =>
                        rw [hl] at ha
                        simp only [grown1] at ha
                        obtain ⟨olds, l1, l2, l3⟩ := loadC_rel x hl he1
                        have hlt : cap < len + n := by
                          have : ¬ (len + n ≤ cap) := fun e => by rw [Nat.ble_eq_true_of_le e] at hle; cases hle
                          omega
                        have hold : (Builtin.firstCells k len (.slice (some ⟨e1.b, o, none⟩) len cap)).run P w.drew = .ok olds.toArray w.drew := by
                          simp only [Builtin.firstCells]
                          rw [← l2]
                          exact run_loadCells_at (w := w.drew) l3
                        exact grown_ok x A n3 hold ndrew l1 n1 l2 n2 hlt ha
                  · rename_i m o ee len
                    cases ho : Nat.beq o 0 with
                    | false => rw [ho] at ha; simp at ha
                    | true =>
                      cases hee : Nat.beq ee 0 with
                      | false => rw [ho, hee] at ha; simp at ha
                      | true =>
                        rw [ho, hee] at ha
                        simp only [Bool.and_self, cond_true] at ha
                        have ho' := Nat.eq_of_beq_eq_true ho
                        have hee' := Nat.eq_of_beq_eq_true hee
                        subst ho' hee'
                        obtain ⟨e1, he1, hek, rfl⟩ := hs
                        unfold grown2 at ha
                        split at ha
                        · rename_i cs' wd hm
                          cases hw1 : Nat.beq wd k with
                          | false => rw [hw1] at ha; simp at ha
                          | true =>
                            cases hw2 : Nat.beq cs'.length (len * k) with
                            | false => rw [hw1, hw2] at ha; simp at ha
                            | true =>
                              rw [hw1, hw2] at ha
                              simp only [Bool.and_self, cond_true] at ha
                              have hwd := Nat.eq_of_beq_eq_true hw1
                              have hcl := Nat.eq_of_beq_eq_true hw2
                              subst hwd
                              obtain ⟨a, t, fr, c1, l0, ext, c2, c3, c4, c5, c6⟩ := x.cells hm he1
                              have hl0 : l0.length = len * wd := by rw [vrels_length c3, hcl]
                              have hasz : a.size = e1.k * wd := c5 (by have := A.pos; omega)
                              by_cases hfit : len + n ≤ e1.k
                              · -- there is room
                                have hle2 : (len + n) * wd ≤ a.size := by rw [hasz]; exact Nat.mul_le_mul_right _ hfit
                                have hle3 : len * wd + news.length ≤ a.size := by rw [n2, ← Nat.add_mul]; exact hle2
                                obtain ⟨a', d1, d2⟩ := Chg_setCells news (len * wd) w e1.b a t fr c1 hle3
                                let e' : NE := ⟨e1.b, e1.k, 0, []⟩
                                have hgr : grown wd (h.del m) (len + n) (cs' ++ new) = some (v', h') := ha
                                unfold grown at hgr
                                cases hr : Nat.ble (len + n) room with
                                | false => rw [hr] at hgr; simp at hgr
                                | true =>
                                  rw [hr] at hgr
                                  simp only [cond_true, Option.some.injEq, Prod.mk.injEq] at hgr
                                  obtain ⟨rfl, rfl⟩ := hgr
                                  have hlen' : a'.size = a.size := by
                                    rw [← Array.length_toList, d2]
                                    simp
                                    omega
                                  obtain ⟨m1, m2⟩ := x.move (e' := e') (b := .c (cs' ++ new) wd) hm he1 rfl d1
                                    ⟨l0 ++ news, a.toList.drop (len * wd + news.length), by
                                      rw [d2, c2, List.take_append_of_le_length (by omega), List.take_of_length_le (by omega)], vrels_mono [e'] _ _ (vrels_append c3 n1),
                                      fun e0 => absurd e0 (by have := A.pos; omega), fun _ => by rw [hlen', hasz], fun j hj => c6 j (by omega)⟩
                                  refine ⟨.slice (some ⟨e1.b, 0, none⟩) (len + n) (e1.k - 0), _, _, run_append_in (ty := ty) A n3 (n4 w rfl) (by simpa using hfit) ?_, m2, m1, ⟨e', by simp only [AH.nx_del]; rw [← x.len]; simp, by simpa [e'] using hfit, rfl⟩⟩
                                  simp only
                                  rw [add_mul, Nat.zero_add]
                                  have hth : ∀ j, j < news.length → (w.cell? ⟨e1.b, len * wd + j, none⟩).isSome = true ∧ w.frozen? ⟨e1.b, len * wd + j, none⟩ = false := fun j hj => by
                                    have hlt : len * wd + j < a.size := by omega
                                    refine ⟨by simp [World.cell?, c1, hlt], ?_⟩
                                    have := c6 (len * wd + j) hlt
                                    simp only [World.frozen?, c1]
                                    simpa using this
                                  have hst := run_storeCells_cells (P := P) e1.b (len * wd) news 0 w (fun j hj => by simpa using (hth j hj).1) (fun j hj => by simpa using (hth j hj).2) (vrels_all_one n1 hall)
                                  simpa using hst
                              · -- there is none
                                obtain ⟨x1, x2⟩ := x.del m
                                have hold : (Builtin.firstCells wd len (.slice (some ⟨e1.b, 0, none⟩) len (e1.k - 0))).run P w.drew = .ok l0.toArray w.drew := by
                                  simp only [Builtin.firstCells]
                                  rw [← hl0]
                                  refine run_loadCells_at (w := w.drew) fun j v hj => ?_
                                  have : a[j]? = some v := by
                                    rw [← Array.getElem?_toList, c2, List.getElem?_append_left (List.getElem?_eq_some_iff.1 hj).1]
                                    exact hj
                                  have c1' : w.drew.heap[e1.b]? = some (.cells a t fr) := c1
                                  simp [World.cell?, c1', this]
                                obtain ⟨c, w', ν', q1, q2, q3, q4⟩ := grown_ok (ty := ty) x1 A n3 hold ndrew c3 n1 hl0 n2 (by omega) ha
                                exact ⟨c, w', ν', q1, x2.trans q2, q3, q4⟩
                        · cases ha
                  · cases ha

end
end Go.Ae
namespace Go.Ae
open Go

section
variable {P : Program} {σ : Sg} {gs : Nat} {ν : Nu} {h : AH} {w : World} {ρ : Operand → Option AV} {r : Operand → Value}

theorem obj_ok (x : hrel σ gs ν h w) {b : AB} {o : Obj} (hb : ∀ ν', brel σ ν' (nameAt w) b o) : hrel σ gs (ν ++ [nameAt w]) (h.alloc b) (w.alloc o) ∧ Ext ν h w (ν ++ [nameAt w]) (h.alloc b) (w.alloc o) ∧
    vrel σ (ν ++ [nameAt w]) (.p h.nx 0) (.pointer (some ⟨w.heap.size, 0, none⟩)) := by
  obtain ⟨h1, h2⟩ := x.alloc (e := nameAt w) (b := b) (o := o) (w' := w.alloc o) rfl rfl (hb _)
  exact ⟨h1, h2, nameAt w, by rw [← x.len]; simp, rfl⟩

theorem range_rel (x : hrel σ gs ν h w) {t : TypeId} {a v : AV} {c : Value} {h' : AH} (ha : vrel σ ν a c) (hr : rangeA P t h a = some (v, h')) :
    ∃ c' w' ν', (Instr.range t c).run P w = .ok c' w' ∧ Ext ν h w ν' h' w' ∧ hrel σ gs ν' h' w' ∧ vrel σ ν' v c' := by
  unfold rangeA at hr
  split at hr
  · rename_i l hu
    simp at hr
    obtain ⟨rfl, rfl⟩ := hr
    rw [show c = _ from ha]
    obtain ⟨h1, h2, h3⟩ := obj_ok x (b := .si l 0) (o := .stringIter ⟨l.toArray⟩ 0) (fun _ => ⟨rfl, rfl⟩)
    exact ⟨_, _, _, by simp [Instr.range, run_underlying hu], h2, h1, h3⟩
  · rename_i k e hu
    simp at hr
    obtain ⟨rfl, rfl⟩ := hr
    rw [show c = _ from ha]
    obtain ⟨h1, h2, h3⟩ := obj_ok x (b := .mi none 0 [] 0) (o := .mapIter none 0 #[] 0) (fun _ => ⟨rfl, rfl, rfl, rfl⟩)
    exact ⟨_, _, _, by simp [Instr.range, run_underlying hu], h2, h1, h3⟩
  · rename_i k e n hu
    split at hr
    · rename_i es cl hn
      simp at hr
      obtain ⟨rfl, rfl⟩ := hr
      obtain ⟨e1, he, rfl⟩ := ha
      obtain ⟨arr, hw, _⟩ := x.map hn he
      have hg := run_getMap (P := P) hw
      obtain ⟨h1, h2⟩ := x.alloc (e := nameAt w) (b := .mi (some n) cl [] cl) (o := .mapIter (some e1.b) cl #[] cl) (w' := w.alloc (.mapIter (some e1.b) cl #[] cl)) rfl rfl
        ⟨⟨e1, pre_get he, rfl⟩, rfl, rfl, rfl⟩
      exact ⟨_, _, _, by simp [Instr.range, run_underlying hu, hg, nameAt], h2, h1, nameAt w, by rw [← x.len]; simp, rfl⟩
    · cases hr
  · cases hr

theorem leftL_rel {seen : List Nat} {arr : Array Nat} (hs : arr.toList = seen) : ∀ {es : List AE} {cs : List MapEntry}, erels σ ν es cs → erels σ ν (leftL seen es) (cs.filter fun e => !arr.contains e.born)
  | [], _, h => by rw [show _ = [] from h]; rfl
  | x :: es, _, ⟨c, cs, h1, h2, e⟩ => by
    subst e
    have ih := leftL_rel hs h2
    have hc : arr.contains c.born = seen.contains x.born := by rw [h1.2.2, ← hs]; simp
    simp only [leftL]
    cases hb : seen.contains x.born with
    | true => simp only [cond_true, List.filter_cons, hc, hb]; exact ih
    | false => simp only [cond_false, List.filter_cons, hc, hb]; exact ⟨c, _, h1, ih, rfl⟩

theorem erels_nil {cs : List MapEntry} (h : erels σ ν [] cs) : cs = [] := h

theorem iter_ok (x : hrel σ gs ν h w) {n : Nat} {old b : AB} {e : NE} {o o' : Obj} (hn : h.get n = some old) (he : ν[n]? = some e) (hw : w.heap[e.b]? = some o) (hb : brel σ ν e b o') (hm : ∀ (a : Array Value) (t : TypeId) (fr : Nat × Nat), o ≠ .cells a t fr := by intro _ _ _ h; cases h) :
    hrel σ gs ν (h.upd n b) { w with heap := w.heap.setIfInBounds e.b o' } ∧ Ext ν h w ν (h.upd n b) { w with heap := w.heap.setIfInBounds e.b o' } :=
  x.upd hn he (Chg_set hw hm) hb

theorem decode_ascii {l : List UInt8} {pos : Nat} {b : UInt8} (hb : l[pos]? = some b) (h : b.toNat < 128) : Utf8.decode ⟨l.toArray⟩ pos = (b.toNat, 1) := by
  have h0 : ((ByteArray.mk l.toArray).get! (pos + 0)) = b := by
    simp [ByteArray.get!, hb]
  unfold Utf8.decode
  simp only [h0]
  rw [if_pos (by simpa using h)]

theorem next_rel (x : hrel σ gs ν h w) {a v : AV} {c : Value} {h' : AH} {str : Bool} {ty : TypeId} (ha : vrel σ ν a c) (hr : nextA h a str = some (v, h')) :
    ∃ c' w', (Instr.next c str ty).run P w = .ok c' w' ∧ Ext ν h w ν h' w' ∧ hrel σ gs ν h' w' ∧ vrel σ ν v c' := by
  have over : vrel σ ν (.tu [.b false]) (.tuple #[.bool false]) := ⟨[.bool false], ⟨_, _, rfl, rfl, rfl⟩, rfl⟩
  unfold nextA at hr
  split at hr
  · rename_i n
    obtain ⟨e, he, rfl⟩ := ha
    split at hr
    · rename_i l pos hn
      obtain ⟨e', o, h1, h2, h3⟩ := x.dom n _ hn
      rw [he] at h1
      cases h1
      cases o <;> simp only [brel] at h3
      obtain ⟨rfl, rfl⟩ := h3
      rename_i pos
      have hg : (getObj e.b).run P w = .ok (.stringIter ⟨l.toArray⟩ pos) w := by simp [getObj, Sem.run, h2]
      have hsz : (ByteArray.mk l.toArray).size = l.length := by simp [ByteArray.size]
      split at hr
      · rename_i hd
        simp at hr
        obtain ⟨rfl, rfl⟩ := hr
        have : ¬ (pos < l.length) := by
          have := List.drop_eq_nil_iff.1 hd
          omega
        exact ⟨_, w, by simp [Instr.next, hg, hsz, this], Ext.refl _ _ _, x, over⟩
      · rename_i b rest hd
        have hb : l[pos]? = some b := by have := congrArg (·[0]?) hd; simpa using this
        cases hlt : Nat.blt b.toNat 128 with
        | false => rw [hlt] at hr; simp at hr
        | true =>
          rw [hlt] at hr
          simp only [cond_true, Option.some.injEq, Prod.mk.injEq] at hr
          obtain ⟨rfl, rfl⟩ := hr
          have hlt' : b.toNat < 128 := by simp [Nat.blt] at hlt; omega
          have hpos : pos < l.length := (List.getElem?_eq_some_iff.1 hb).1
          have hdec := decode_ascii hb hlt'
          obtain ⟨m1, m2⟩ := iter_ok x (b := .si l (pos + 1)) (o' := .stringIter ⟨l.toArray⟩ (pos + 1)) hn he h2 ⟨rfl, rfl⟩
          refine ⟨_, _, ?_, m2, m1, ⟨[.bool true, goInt pos, .int .i32 b.toNat], ⟨_, _, rfl, ⟨_, _, rfl, ⟨_, _, rfl, rfl, rfl⟩, rfl⟩, rfl⟩, rfl⟩⟩
          have hset : (setObj e.b (.stringIter ⟨l.toArray⟩ (pos + 1))).run P w = .ok () { w with heap := w.heap.setIfInBounds e.b (.stringIter ⟨l.toArray⟩ (pos + 1)) } := by simp [setObj, Sem.run, h2]
          simp [Instr.next, hg, hsz, hpos, hdec, hset]
    · rename_i since seen st hn
      obtain ⟨e', o, h1, h2, h3⟩ := x.dom n _ hn
      rw [he] at h1
      cases h1
      cases o <;> simp only [brel] at h3
      obtain ⟨hm, rfl, h4, rfl⟩ := h3
      rw [show _ = none from hm] at h2
      simp at hr
      obtain ⟨rfl, rfl⟩ := hr
      have hg := fun (o : Obj) (h2 : w.heap[e.b]? = some o) (hno : ∀ c t f, o ≠ .cells c t f) => (show (getObj e.b).run P w = .ok o w by cases o <;> first | exact absurd rfl (hno _ _ _) | simp [getObj, Sem.run, h2])
      have hg := hg _ h2 (by simp)
      exact ⟨_, w, by simp [Instr.next, hg], Ext.refl _ _ _, x, over⟩
    · rename_i m since seen st hn
      split at hr
      · rename_i es cl hm
        obtain ⟨e', o, h1, h2, h3⟩ := x.dom n _ hn
        rw [he] at h1
        cases h1
        cases o <;> simp only [brel] at h3
        rename_i m' since' seen' st'
        obtain ⟨⟨em, hem, rfl⟩, rfl, h4, rfl⟩ := h3
        obtain ⟨arr, hw, hes⟩ := x.map hm hem
        have hg1 : (getObj e.b).run P w = .ok (.mapIter (some em.b) since' seen' st') w := by simp [getObj, Sem.run, h2]
        have hg2 := run_getMap (P := P) hw
        have hleft := leftL_rel h4 hes
        have hfl : (arr.filter fun e => !seen'.contains e.born).toList = arr.toList.filter fun e => !seen'.contains e.born := by simp
        rw [← hfl] at hleft
        split at hr
        · rename_i hl
          cases hck : (seen.isEmpty || es.isEmpty || es.any fun e => Nat.blt e.born st') with
          | false => rw [hck] at hr; simp at hr
          | true =>
            rw [hck] at hr
            simp only [cond_true, Option.some.injEq, Prod.mk.injEq] at hr
            obtain ⟨rfl, rfl⟩ := hr
            rw [hl] at hleft
            have hnil : (arr.filter fun e => !seen'.contains e.born) = #[] := by
              apply Array.ext'
              rw [erels_nil hleft]
            have hno : ¬ ((!seen'.isEmpty && !arr.isEmpty && arr.all (fun e => decide (e.born ≥ st'))) = true) := by
              intro hc
              simp only [Bool.and_eq_true, Bool.not_eq_true', Array.isEmpty_eq_false_iff] at hc
              obtain ⟨⟨c1, c2⟩, c3⟩ := hc
              simp only [Bool.or_eq_true, List.isEmpty_iff] at hck
              rcases hck with (hck | hck) | hck
              · exact c1 (by apply Array.ext'; rw [h4, hck])
              · exact c2 (by apply Array.ext'; rw [hck] at hes; exact erels_nil hes)
              · obtain ⟨y, hy1, hy2⟩ := List.any_eq_true.1 hck
                obtain ⟨i, hi⟩ := List.getElem?_of_mem hy1
                obtain ⟨cc, g1, g2⟩ := erels_get hes hi
                have hmem : cc ∈ arr := by
                  have := List.mem_of_getElem? g1
                  simpa using this
                have := Array.all_eq_true_iff_forall_mem.1 c3 cc hmem
                simp [g2.2.2] at this
                simp [Nat.blt] at hy2
                omega
            refine ⟨_, w, ?_, Ext.refl _ _ _, x, over⟩
            have hno' : (!seen'.isEmpty && !arr.isEmpty && arr.all (fun e => decide (e.born ≥ st'))) = false := by simpa using hno
            simp only [Instr.next, Sem.run_bind, hg1, Result.andThen_ok, hg2, hno', hnil]
            simp [Question.forced]
        · rename_i y hl
          cases hck : (Nat.blt y.born since' && seen.isEmpty) with
          | false => rw [hck] at hr; simp at hr
          | true =>
            rw [hck] at hr
            simp only [cond_true, Option.some.injEq, Prod.mk.injEq] at hr
            obtain ⟨rfl, rfl⟩ := hr
            simp only [Bool.and_eq_true, List.isEmpty_iff] at hck
            obtain ⟨k1, k2⟩ := hck
            rw [hl] at hleft
            obtain ⟨cc, _, g1, g2, g3⟩ := hleft
            rw [erels_nil g2] at g3
            have hone : (arr.filter fun e => !seen'.contains e.born) = #[cc] := by
              apply Array.ext'
              rw [g3]
            have hseen : seen' = #[] := by apply Array.ext'; rw [h4, k2]
            have hlt : cc.born < since' := by rw [g1.2.2]; simp [Nat.blt] at k1; omega
            obtain ⟨m1, m2⟩ := iter_ok x (b := .mi (some m) since' (seen ++ [y.born]) cl) (o' := .mapIter (some em.b) since' (seen'.push cc.born) cl) hn he h2
              ⟨⟨em, hem, rfl⟩, rfl, by rw [Array.toList_push, h4, g1.2.2], rfl⟩
            refine ⟨_, _, ?_, m2, m1, ⟨[.bool true, cc.key, cc.val], ⟨_, _, rfl, ⟨_, _, g1.1, ⟨_, _, g1.2.1, rfl, rfl⟩, rfl⟩, rfl⟩, rfl⟩⟩
            have hset : (setObj e.b (.mapIter (some em.b) since' (seen'.push cc.born) cl)).run P w = .ok () { w with heap := w.heap.setIfInBounds e.b (.mapIter (some em.b) since' (seen'.push cc.born) cl) } := by simp [setObj, Sem.run, h2]
            have hge : ¬ (since' ≤ cc.born) := by omega
            simp only [Instr.next, Sem.run_bind, hg1, Result.andThen_ok, hg2, hone]
            subst hseen
            simp [Question.forced, hlt, hge]
            simpa using congrArg (fun (z : Result Unit) => z.andThen fun _ w' => (Result.ok (Value.tuple #[.bool true, cc.key, cc.val]) w')) hset
        · cases hr
      · cases hr
    · cases hr
  · cases hr

end
end Go.Ae
namespace Go.Ae
open Go

def R.isV : R → Bool
  | .v _ _ => true
  | _ => false

section
variable {P : Program} {σ : Sg} {gs : Nat} {ν : Nu} {h : AH} {w : World} {ρ : Operand → Option AV} {r : Operand → Value}

theorem opD_isV {o : Oper} {R' : R} (hk : kind P o = .pur ∨ kind P o = .rd ∨ kind P o = .slc) (hop : opD P ρ h o.op = some R') : R'.isV = true := by
  obtain ⟨dst, op, type, pos, after, guard⟩ := o
  cases op
  case call c =>
    obtain ⟨callee, args, ats⟩ := c
    cases callee
    case builtin b =>
      simp only [opD, oCall] at hop
      cases ha : evs ρ args.toList with
      | none => rw [ha] at hop; simp [oBu] at hop
      | some vs =>
        rw [ha] at hop
        simp only [oBu] at hop
        cases b <;> simp only [kind, kindB] at hk <;> (try (simp at hk; done))
        all_goals
          simp only [builtinA] at hop
          repeat' split at hop
          all_goals first
            | (cases hop; done)
            | (simp only [Option.some.injEq] at hop; subst hop; rfl)
    all_goals simp [kind] at hk
  all_goals (try (simp [kind] at hk; done))
  all_goals simp only [opD, oPick, oBuild, oNil, oBin, oUn, oConv, oFn, oFa, oFld, oIa, oIdx, oEx, oLoad, oLook, oEnt, oSlice, o1, o2] at hop
  all_goals repeat' split at hop
  all_goals first
    | (cases hop; done)
    | (simp only [Option.some.injEq] at hop; subst hop; rfl)
    | skip
  all_goals
    rw [cond_eq_ite] at hop
    split at hop
    all_goals first
      | (cases hop; done)
      | (simp only [Option.some.injEq] at hop; subst hop; rfl)

theorem pur_ok (x : hrel σ gs ν h w) (hρ : Rho σ ν ρ r) {o : Oper} (hk : kind P o = .pur) {R' : R} (hop : opD P ρ h o.op = some R') : OpOk P σ gs ν h w r o R' := by
  have := opD_isV (.inl hk) hop
  cases R' <;> simp [R.isV] at this
  obtain ⟨rfl, c, h1, h2⟩ := op_pur hk hρ hop
  exact ⟨c, w, ν, h2 w, Ext.refl _ _ _, x, h1⟩

theorem rd_ok (x : hrel σ gs ν h w) (hρ : Rho σ ν ρ r) {o : Oper} (hk : kind P o = .rd) {R' : R} (hop : opD P ρ h o.op = some R') : OpOk P σ gs ν h w r o R' := by
  have := opD_isV (.inr (.inl hk)) hop
  cases R' <;> simp [R.isV] at this
  obtain ⟨rfl, c, h1, h2⟩ := op_rd x hk hρ hop
  exact ⟨c, w, ν, h2, Ext.refl _ _ _, x, h1⟩

/-- A slice operation: as Named says. -/
theorem slc_rel (x : hrel σ gs ν h w) (hρ : Rho σ ν ρ r) {o : Oper} (hk : kind P o = .slc) {v : AV} {h' : AH} (hop : opD P ρ h o.op = some (.v v h')) :
    ∃ ν' c, Named ν h ν' h' ∧ vrel σ ν' v c ∧ ∀ w, (execOp r o).run P w = .ok (.value c) w := by
  obtain ⟨dst, op, type, pos, after, guard⟩ := o
  cases op
  case slice t y lo hi mx =>
    simp only [opD] at hop
    cases hy : ρ y with
    | none => rw [hy] at hop; simp [oSlice] at hop
    | some vy =>
      cases h1 : natOpt ρ lo with
      | none => rw [hy, h1] at hop; simp [oSlice] at hop
      | some a =>
        cases h2 : natOpt ρ hi with
        | none => rw [hy, h1, h2] at hop; simp [oSlice] at hop
        | some b =>
          cases h3 : natOpt ρ mx with
          | none => rw [hy, h1, h2, h3] at hop; simp [oSlice] at hop
          | some c =>
            rw [hy, h1, h2, h3] at hop
            simp only [oSlice] at hop
            cases hs : sliceA P t h vy a b c with
            | none => rw [hs] at hop; simp [o2] at hop
            | some p =>
              rw [hs] at hop
              simp [o2] at hop
              obtain ⟨rfl, rfl⟩ := hop
              obtain ⟨ν', d, k1, k2, k3⟩ := slice_rel (P := P) x.len (hρ y vy hy) (natOpt_rel hρ h1) (natOpt_rel hρ h2) (natOpt_rel hρ h3) hs
              exact ⟨ν', d, k1, k2, fun w => by simp [execOp, k3 w]⟩
  all_goals first
    | (simp [kind] at hk; done)
    | (simp only [kind] at hk; split at hk <;> simp at hk; done)
    | skip
  case call c =>
    obtain ⟨callee, args, ats⟩ := c
    cases callee <;> simp only [kind] at hk <;> (try (cases hk; done))
    rename_i b
    cases b <;> simp only [kindB] at hk <;> (try (cases hk; done))
    repeat' split at hk
    all_goals cases hk

theorem slc_ok (x : hrel σ gs ν h w) (hρ : Rho σ ν ρ r) {o : Oper} (hk : kind P o = .slc) {R' : R} (hop : opD P ρ h o.op = some R') : OpOk P σ gs ν h w r o R' := by
  have := opD_isV (.inr (.inr hk)) hop
  cases R' <;> simp [R.isV] at this
  obtain ⟨ν', c, h1, h2, h3⟩ := slc_rel x hρ hk hop
  rcases h1 with ⟨rfl, rfl⟩ | ⟨e, rfl, rfl⟩
  · exact ⟨c, w, _, h3 w, Ext.refl _ _ _, x, h2⟩
  · obtain ⟨k1, k2⟩ := x.name e
    exact ⟨c, w, _, h3 w, k2, k1, h2⟩

theorem o2_some {z : Option (AV × AH)} {R' : R} (e : o2 z = some R') : ∃ v h', z = some (v, h') ∧ R' = .v v h' := by
  cases z with
  | none => simp [o2] at e
  | some y => simp [o2] at e; exact ⟨y.1, y.2, rfl, e.symm⟩

theorem o3_some {z : Option AH} {R' : R} (e : o3 z = some R') : ∃ h', z = some h' ∧ R' = .sk h' := by
  cases z with
  | none => simp [o3] at e
  | some y => simp [o3] at e; exact ⟨y, rfl, e.symm⟩

theorem asFn_rel (hρ : Rho σ ν ρ r) {x : Operand} {y : Nat × List AV × List AV} (hx : asFn (ρ x) = some y) :
    ∃ a c, vrels σ ν y.2.1 a ∧ vrels σ ν y.2.2 c ∧ r x = .func (.func y.1) a.toArray c.toArray := by
  unfold asFn at hx
  split at hx
  · rename_i g f c hv
    simp at hx
    subst hx
    exact hρ x _ hv
  · cases hx

theorem conv_slice (_x : hrel σ gs ν h w) {s d : TypeId} {a v : AV} {c : Value} {h' : AH} (hd : ∃ e, P.underlying d = some (.slice e)) (ha : vrel σ ν a c) (hc : conv P s d h a = some (v, h')) :
    h' = h ∧ ∃ c', vrel σ ν v c' ∧ ∀ w, (Go.convert s d c).run P w = .ok c' w := by
  obtain ⟨e, hd⟩ := hd
  unfold conv at hc
  split at hc
  · split at hc
    · rename_i v' hp
      simp at hc
      obtain ⟨rfl, rfl⟩ := hc
      obtain ⟨c', h1, h2⟩ := pureV_run (σ := σ) (ν := ν) hp
      exact ⟨rfl, c', h1, fun w => by rw [show c = _ from ha]; exact h2 w⟩
    · cases hc
  · split at hc
    · rename_i v' hp
      simp at hc
      obtain ⟨rfl, rfl⟩ := hc
      obtain ⟨c', h1, h2⟩ := pureV_run (σ := σ) (ν := ν) hp
      exact ⟨rfl, c', h1, fun w => by rw [show c = _ from ha]; exact h2 w⟩
    · cases hc
  all_goals
    exfalso
    repeat' split at hc
    all_goals first
      | (cases hc; done)
      | (have h9 := hd.symm.trans (by assumption : P.underlying d = some .string); cases h9; done)

theorem op_sound (x : hrel σ gs ν h w) (hρ : Rho σ ν ρ r) {o : Oper} {R' : R} (hop : opD P ρ h o.op = some R') : OpOk P σ gs ν h w r o R' := by
  cases hkd : kind P o with
  | pur => exact pur_ok x hρ hkd hop
  | rd => exact rd_ok x hρ hkd hop
  | slc => exact slc_ok x hρ hkd hop
  | bs =>
    obtain ⟨dst, op, type, pos, after, guard⟩ := o
    cases op
    case buildSlice t len ps => exact rowOp_ok x hρ rfl hop
    case call c =>
      obtain ⟨callee, args, ats⟩ := c
      cases callee <;> simp only [kind] at hkd <;> (try (cases hkd; done))
      rename_i b
      cases b <;> simp only [kindB] at hkd <;> (try (cases hkd; done))
      repeat' split at hkd
      all_goals cases hkd
    all_goals first
      | (simp [kind] at hkd; done)
      | (simp only [kind] at hkd; split at hkd <;> simp at hkd; done)
  | eff =>
    obtain ⟨dst, op, type, pos, after, guard⟩ := o
    cases op <;> simp only [opD] at hop <;> (try (cases hop; done))
    case move => simp [kind] at hkd
    case pick => simp [kind] at hkd
    case build => simp [kind] at hkd
    case buildSlice => simp [kind] at hkd
    case nilCheck => simp [kind] at hkd
    case unOp => simp [kind] at hkd
    case makeFunc => simp [kind] at hkd
    case fieldAddr => simp [kind] at hkd
    case field => simp [kind] at hkd
    case indexAddr => simp [kind] at hkd
    case index => simp [kind] at hkd
    case extract => simp [kind] at hkd
    case slice => simp [kind] at hkd
    case load => simp [kind] at hkd
    case lookup => simp [kind] at hkd
    case entry => simp [kind] at hkd
    case binOp => simp only [kind] at hkd; split at hkd <;> simp at hkd
    case assign y =>
      cases hy : ρ y with
      | none => rw [hy] at hop; simp [o1] at hop
      | some v =>
        rw [hy] at hop
        simp [o1] at hop
        subst hop
        exact ⟨r y, w, ν, rfl, Ext.refl _ _ _, x, hρ y v hy⟩
    case alloc e => exact alloc_ok x rfl hop
    case box e y => exact box_ok x hρ rfl hop
    case store t a b => exact store_ok x hρ rfl hop
    case makeMap t y => exact mkMap_ok x rfl hop
    case makeSlice t a b => exact mkSl_ok x hρ rfl hop
    case convert s d y =>
      cases hy : ρ y with
      | none => rw [hy] at hop; simp [oConv] at hop
      | some v =>
        rw [hy] at hop
        simp only [oConv] at hop
        obtain ⟨v', h', h1, rfl⟩ := o2_some hop
        have hd : ∃ e, P.underlying d = some (.slice e) := by
          simp only [kind] at hkd
          split at hkd
          · cases hkd
          · exact ⟨_, by assumption⟩
          · cases hkd
        obtain ⟨rfl, c, g1, g2⟩ := conv_slice x hd (hρ y v hy) h1
        exact ⟨c, w, ν, by simp [execOp, g2 w], Ext.refl _ _ _, x, g1⟩
    case mapUpdate t m k v =>
      cases h1 : ρ m with
      | none => rw [h1] at hop; simp [oMapUp] at hop
      | some a =>
        cases h2 : ρ k with
        | none => rw [h1, h2] at hop; simp [oMapUp] at hop
        | some b =>
          cases h3 : ρ v with
          | none => rw [h1, h2, h3] at hop; simp [oMapUp] at hop
          | some c =>
            rw [h1, h2, h3] at hop
            simp only [oMapUp] at hop
            obtain ⟨h', h4, rfl⟩ := o3_some hop
            obtain ⟨w', g1, g2, g3⟩ := mapUp_rel x (hρ m a h1) (hρ k b h2) (hρ v c h3) h4
            exact ⟨w', ν, by simp [execOp, g1], g2, g3⟩
    case mapEntry t m k =>
      cases h1 : ρ m with
      | none => rw [h1] at hop; simp [oMapEn] at hop
      | some a =>
        cases h2 : ρ k with
        | none => rw [h1, h2] at hop; simp [oMapEn] at hop
        | some b =>
          rw [h1, h2] at hop
          simp only [oMapEn] at hop
          obtain ⟨v', h', h4, rfl⟩ := o2_some hop
          obtain ⟨c, w', g1, g2, g3, g4⟩ := mapEn_rel x (hρ m a h1) (hρ k b h2) h4
          exact ⟨c, w', ν, by simp [execOp, g1], g2, g3, g4⟩
    case entryStore t m s v =>
      cases h1 : ρ m with
      | none => rw [h1] at hop; simp [oEntSt] at hop
      | some a =>
        cases h2 : ρ s with
        | none => rw [h1, h2] at hop; simp [oEntSt] at hop
        | some b =>
          cases h3 : ρ v with
          | none => rw [h1, h2, h3] at hop; simp [oEntSt] at hop
          | some c =>
            rw [h1, h2, h3] at hop
            simp only [oEntSt] at hop
            obtain ⟨h', h4, rfl⟩ := o3_some hop
            obtain ⟨w', g1, g2, g3⟩ := entSt_rel (P := P) (t := t) x (hρ m a h1) (hρ s b h2) (hρ v c h3) h4
            exact ⟨w', ν, by simp [execOp, g1], g2, g3⟩
    case range t y =>
      cases h1 : ρ y with
      | none => rw [h1] at hop; simp [oRange] at hop
      | some a =>
        rw [h1] at hop
        simp only [oRange] at hop
        obtain ⟨v', h', h4, rfl⟩ := o2_some hop
        obtain ⟨c, w', ν', g1, g2, g3, g4⟩ := range_rel x (hρ y a h1) h4
        exact ⟨c, w', ν', by simp [execOp, g1], g2, g3, g4⟩
    case next y str =>
      cases h1 : ρ y with
      | none => rw [h1] at hop; simp [oNext] at hop
      | some a =>
        rw [h1] at hop
        simp only [oNext] at hop
        obtain ⟨v', h', h4, rfl⟩ := o2_some hop
        obtain ⟨c, w', g1, g2, g3, g4⟩ := next_rel (P := P) (ty := type) x (hρ y a h1) h4
        exact ⟨c, w', ν, by simp [execOp, g1], g2, g3, g4⟩
    case call c =>
      obtain ⟨callee, args, ats⟩ := c
      have harr : (args.map r) = (args.toList.map r).toArray := by rw [← List.map_toArray]
      cases callee <;> simp only [oCall] at hop <;> (try (cases hop; done))
      case value f =>
        cases h1 : asFn (ρ f) with
        | none => rw [h1] at hop; simp [oCall1] at hop
        | some y =>
          cases h2 : evs ρ args.toList with
          | none => rw [h1, h2] at hop; simp [oCall1] at hop
          | some vs =>
            rw [h1, h2] at hop
            simp [oCall1] at hop
            subst hop
            obtain ⟨fa, fc, g1, g2, g3⟩ := asFn_rel hρ h1
            have g4 := evs_rel hρ h2
            refine ⟨fa ++ (args.toList.map r ++ fc), vrels_append g1 (vrels_append g4 g2), ?_⟩
            simp only [execOp, resolve, g3, Deferred.ofValue, pure_bind, harr, invoke]
            congr 2
            simp
      case builtin b =>
        cases h2 : evs ρ args.toList with
        | none => rw [h2] at hop; simp [oBu] at hop
        | some vs =>
          rw [h2] at hop
          simp only [oBu] at hop
          have g4 := evs_rel hρ h2
          generalize args.toList.map r = cs at g4 harr
          cases b <;> simp only [builtinA] at hop <;> (try (cases hop; done))
          case append =>
            split at hop
            · rename_i st xt s y h5 h6
              obtain ⟨c1, _, k1, ⟨c2, _, k2, k3, rfl⟩, rfl⟩ := g4
              rw [show _ = [] from k3] at harr
              cases hpl : plainTy P xt with
              | false => rw [hpl] at hop; simp at hop
              | true =>
                rw [hpl] at hop
                simp only [cond_true] at hop
                obtain ⟨v', h', h4, rfl⟩ := o2_some hop
                obtain ⟨c, w', ν', g1, g2, g3, g5⟩ := appendA_rel (ty := type) x h5 h6 hpl k1 k2 h4
                exact ⟨c, w', ν', by simp [execOp, resolve, invoke, builtin, harr, g1], g2, g3, g5⟩
            · cases hop
          case len =>
            exfalso
            simp only [kind, kindB] at hkd
            split at hop
            · rename_i t _ h5
              rw [h5] at hkd
              simp only at hkd
              repeat' split at hkd
              all_goals cases hkd
            · cases hop
          case delete =>
            split at hop
            · rename_i t m k h5
              obtain ⟨c1, _, k1, ⟨c2, _, k2, k3, rfl⟩, rfl⟩ := g4
              rw [show _ = [] from k3] at harr
              split at hop
              · rename_i h' h4
                simp at hop
                subst hop
                obtain ⟨w', g1, g2, g3⟩ := mapDel_rel (ty := type) x h5 k1 k2 h4
                exact ⟨.tuple #[], w', ν, by simp [execOp, resolve, invoke, builtin, harr, g1], g2, g3, [], rfl, rfl⟩
              · cases hop
            · cases hop
          case max => simp [kind, kindB] at hkd
          case min => simp [kind, kindB] at hkd
    case defer c =>
      obtain ⟨callee, args, ats⟩ := c
      have harr : (args.map r) = (args.toList.map r).toArray := by rw [← List.map_toArray]
      unfold oDefer at hop
      cases callee <;> simp only at hop <;> (try (cases hop; done))
      rename_i f
      cases h1 : asFn (ρ f) with
      | none => rw [h1] at hop; simp [oDefer1] at hop
      | some y =>
        cases h2 : evs ρ args.toList with
        | none => rw [h1, h2] at hop; simp [oDefer1] at hop
        | some vs =>
          rw [h1, h2] at hop
          simp [oDefer1] at hop
          subst hop
          obtain ⟨fa, fc, g1, g2, g3⟩ := asFn_rel hρ h1
          have g4 := evs_rel hρ h2
          refine ⟨{ target := .fn (.func y.1) fc.toArray, args := fa.toArray ++ (args.toList.map r).toArray }, _, _, fa ++ (args.toList.map r ++ fc), ?_, rfl, vrels_append g1 (vrels_append g4 g2), ?_⟩
          · simp [execOp, resolve, g3, Deferred.ofValue, harr]
          · simp [invoke]

end
end Go.Ae
namespace Go.Ae
open Go

section
variable {σ : Sg} {ν : Nu}

theorem ccs_nil : ccs σ [] = [] := rfl
theorem ccs_cons (v : AV) (l : List AV) : ccs σ (v :: l) = cc σ v ++ ccs σ l := rfl
theorem ccs_append (a b : List AV) : ccs σ (a ++ b) = ccs σ a ++ ccs σ b := by simp [ccs]
theorem ioks_append {a b : List AV} (ha : ioks σ a) (hb : ioks σ b) : ioks σ (a ++ b) := fun v hv => by
  rcases List.mem_append.1 hv with h | h
  · exact ha v h
  · exact hb v h
theorem ioks_cons {v : AV} {l : List AV} (h : ioks σ (v :: l)) : iok1 σ v ∧ ioks σ l := ⟨(h v (by simp)).1, fun u hu => h u (by simp [hu])⟩
theorem not_z {v : AV} (h : flatI v = true) : ∀ l, v = .z l → σ.i < l.length := fun l e => by subst e; simp [flatI] at h
theorem ioks_take {l : List AV} (h : ioks σ l) (n : Nat) : ioks σ (l.take n) := fun v hv => h v (List.mem_of_mem_take hv)
theorem ioks_drop {l : List AV} (h : ioks σ l) (n : Nat) : ioks σ (l.drop n) := fun v hv => h v (List.mem_of_mem_drop hv)
theorem ioks_seg {l : List AV} (h : ioks σ l) (i j : Nat) : ioks σ (segI l i j) := ioks_take (ioks_drop h i) _

/-- A value without names, as an item. -/
theorem flat_cc {v : AV} {c : Value} (hf : flatI v = true) (h : vrel σ ν v c) : cc σ v = [c] ∧ c.oneCell' = true := by
  cases v <;> simp [flatI] at hf <;> simp only [vrel] at h <;> simp only [cc]
  case ve l => rw [h.1]; simp only [h.2, cond_true]; exact ⟨trivial, numV_one h.2⟩
  case ln => exact ⟨by rw [h], by rw [h]; exact lnV_one⟩
  all_goals exact ⟨by rw [h], by rw [h]; rfl⟩

theorem cc_vrel {v : AV} {c : Value} (h : cc σ v = [c]) (h1 : cellI v = true) (ho : c.oneCell' = true) : vrel σ ν v c := by
  cases v <;> simp [cellI] at h1 <;> simp only [cc] at h <;> simp only [vrel] <;> (try (simp at h; done))
  case ve l =>
    split at h
    · rename_i v hv
      cases hn : numV v with
      | false => rw [hn] at h; simp at h
      | true =>
        rw [hn] at h
        simp at h
        subst h
        exact ⟨hv, hn⟩
    · simp at h
  all_goals simp at h; exact h.symm

theorem flat_cell {v : AV} (hf : flatI v = true) : cellI v = true := by cases v <;> simp [flatI] at hf <;> rfl

/-- A row of values without names. -/
theorem flats_cc : ∀ {l : List AV} {cs : List Value}, l.all flatI = true → vrels σ ν l cs → ccs σ l = cs ∧ ioks σ l
  | [], _, _, h => by rw [show _ = [] from h]; exact ⟨rfl, fun v hv => by cases hv⟩
  | x :: l, _, hf, ⟨c, cs, h1, h2, e⟩ => by
    simp only [List.all_cons, Bool.and_eq_true] at hf
    obtain ⟨g1, g2⟩ := flat_cc hf.1 h1
    obtain ⟨k1, k2⟩ := flats_cc hf.2 h2
    refine ⟨by rw [ccs_cons, g1, k1, e]; rfl, fun v hv => ?_⟩
    rcases List.mem_cons.1 hv with rfl | hv
    · exact ⟨fun _ => ⟨c, g1, g2⟩, not_z hf.1⟩
    · exact k2 v hv

/-- A row of single cells. -/
theorem cells_vrels : ∀ {l : List AV}, l.all cellI = true → ioks σ l → vrels σ ν l (ccs σ l)
  | [], _, _ => rfl
  | x :: l, hc, h => by
    simp only [List.all_cons, Bool.and_eq_true] at hc
    obtain ⟨h1, h2⟩ := ioks_cons h
    obtain ⟨c, g1, g2⟩ := h1 hc.1
    exact ⟨c, ccs σ l, cc_vrel g1 hc.1 g2, cells_vrels hc.2 h2, by rw [ccs_cons, g1]; rfl⟩

theorem cells_len : ∀ {l : List AV}, l.all cellI = true → ioks σ l → (ccs σ l).length = l.length
  | [], _, _ => rfl
  | x :: l, hc, h => by
    simp only [List.all_cons, Bool.and_eq_true] at hc
    obtain ⟨h1, h2⟩ := ioks_cons h
    obtain ⟨c, g1, g2⟩ := h1 hc.1
    rw [ccs_cons, g1]
    simp [cells_len hc.2 h2]

theorem ioks_one {l : List AV} (h : ioks σ l) : ∀ v ∈ ccs σ l, v.oneCell' = true := by
  intro v hv
  obtain ⟨u, hu, hv⟩ := List.mem_flatMap.1 hv
  cases hc : cellI u with
  | true =>
    obtain ⟨c, g1, g2⟩ := (h u hu).1 hc
    rw [g1] at hv
    simp at hv
    subst hv
    exact g2
  | false =>
    cases u <;> simp [cellI] at hc
    · simp only [cc] at hv
      obtain ⟨b, _, rfl⟩ := List.mem_map.1 hv
      rfl
    · simp only [cc] at hv
      obtain ⟨_, rfl⟩ := List.mem_replicate.1 hv
      rfl

/-! ### Places -/

theorem offW_eq (l : List AV) (i : Nat) : offW (widths σ l) i = (ccs σ (l.take i)).length := by
  unfold offW widths ccs
  rw [← List.map_take, List.length_flatMap]

theorem take_seg (l : List AV) {i j : Nat} (h : i ≤ j) : l.take j = l.take i ++ segI l i j := by
  have h2 := List.take_append_drop i (l.take j)
  rw [List.take_take, Nat.min_eq_left h, List.drop_take] at h2
  exact h2.symm

theorem off_seg (l : List AV) {i j : Nat} (h : i ≤ j) : offW (widths σ l) j = offW (widths σ l) i + (ccs σ (segI l i j)).length := by
  rw [offW_eq, offW_eq, take_seg l h, ccs_append, List.length_append]

theorem seg_take (l : List AV) (i j p : Nat) (hp : p ≤ j - i) : (segI l i j).take p = segI l i (i + p) := by
  unfold segI
  rw [List.take_take, Nat.min_eq_left hp]
  congr 1
  omega

theorem widths_len (l : List AV) : (widths σ l).length = l.length := by simp [widths]

/-! ### Bytes, texts -/

theorem byte_lt {n : Nat} (h : n < 256) : byteV (UInt8.ofNat n) = .int .u8 (n : Int) := by
  have : (UInt8.ofNat n).toNat = n := by simp; omega
  simp only [byteV, this]

theorem byteV?_rel {v : Value} (h : byteV? v = true) : ∃ b, v = byteV b := by
  unfold byteV? at h
  split at h
  · rename_i n
    exact ⟨UInt8.ofNat n, (byte_lt (by simp [Nat.blt] at h; omega)).symm⟩
  · cases h

theorem byteI_cc {v : AV} (hb : byteI v = true) (h : iok1 σ v) : ∃ bs : List UInt8, cc σ v = bs.map byteV := by
  unfold byteI at hb
  split at hb
  · rename_i n
    exact ⟨[UInt8.ofNat n], by simp [cc, byte_lt (show n < 256 by simp [Nat.blt] at hb; omega)]⟩
  · rename_i l
    obtain ⟨c, g1, g2⟩ := h rfl
    simp only [cc] at g1
    split at g1
    · rename_i v hv
      have := List.all_eq_true.1 hb v (List.mem_of_getElem? hv)
      obtain ⟨b, rfl⟩ := byteV?_rel this
      exact ⟨[b], by simp only [cc, hv]; rfl⟩
    · cases g1
  · exact ⟨_, rfl⟩
  · refine ⟨List.replicate _ 0, by simp only [cc, List.map_replicate]; rfl⟩
  · rename_i a l q k
    have := Nat.eq_of_beq_eq_true hb
    subst this
    have h0 : (0 : Int) ≤ (a + sumG σ l) / 256 ^ k % 256 := Int.emod_nonneg _ (by decide)
    have h1 : (a + sumG σ l) / 256 ^ k % 256 < 256 := Int.emod_lt_of_pos _ (by decide)
    refine ⟨[UInt8.ofNat ((a + sumG σ l) / 256 ^ k % 256).toNat], ?_⟩
    simp only [cc, lnV, List.map_cons, List.map_nil]
    rw [byte_lt (by omega), Int.toNat_of_nonneg h0]
  · cases hb

theorem bytes_cc : ∀ {l : List AV}, l.all byteI = true → ioks σ l → ∃ bs : List UInt8, ccs σ l = bs.map byteV
  | [], _, _ => ⟨[], rfl⟩
  | x :: l, hb, h => by
    simp only [List.all_cons, Bool.and_eq_true] at hb
    obtain ⟨h1, h2⟩ := ioks_cons h
    obtain ⟨a, g1⟩ := byteI_cc hb.1 h1
    obtain ⟨b, g2⟩ := bytes_cc hb.2 h2
    exact ⟨a ++ b, by rw [ccs_cons, g1, g2, List.map_append]⟩

theorem bytesL_cc : ∀ {l : List AV} {s bs : List UInt8}, bytesL l = some s → ccs σ l = bs.map byteV → s = bs
  | [], s, bs, h, hb => by
    simp [bytesL] at h
    subst h
    cases bs with
    | nil => rfl
    | cons b bs => simp [ccs] at hb
  | x :: l, s, bs, h, hb => by
    unfold bytesL at h
    split at h
    · simp_all
    · rename_i n l' hx
      simp only [List.cons.injEq] at hx
      obtain ⟨rfl, rfl⟩ := hx
      split at h
      · rename_i s' hs
        simp at h
        subst h
        cases bs with
        | nil => simp [ccs, cc] at hb
        | cons b bs =>
          rw [ccs_cons] at hb
          simp only [cc, List.cons_append, List.nil_append, List.map_cons, List.cons.injEq] at hb
          obtain ⟨h1, h2⟩ := hb
          rw [bytesL_cc hs h2]
          simp only [byteV, Value.int.injEq, true_and] at h1
          subst h1
          simp
      · cases h
    · cases h

theorem mkSt_rel {l : List AV} {bs : List UInt8} (h : ccs σ l = bs.map byteV) (hi : ioks σ l) : vrel σ ν (mkSt l) (.string ⟨bs.toArray⟩) := by
  unfold mkSt
  cases hb : bytesL l with
  | none => exact ⟨bs, rfl, h, hi⟩
  | some s => rw [bytesL_cc hb h]; exact rfl

theorem sits_rel {x : AV} {c : Value} {l : List AV} (h : vrel σ ν x c) (hs : sits x = some l) : ∃ bs : List UInt8, c = .string ⟨bs.toArray⟩ ∧ ccs σ l = bs.map byteV ∧ ioks σ l := by
  unfold sits at hs
  split at hs
  · rename_i s
    simp at hs
    subst hs
    refine ⟨s, h, ?_, fun v hv => ?_⟩
    · clear h
      simp only [ccs, List.flatMap_map]
      induction s with
      | nil => rfl
      | cons b s ih => exact congrArg (byteV b :: ·) ih
    · obtain ⟨b, _, rfl⟩ := List.mem_map.1 hv
      exact ⟨fun _ => ⟨_, rfl, rfl⟩, not_z rfl⟩
  · simp at hs
    subst hs
    exact h
  · cases hs

theorem map_seg {l : List AV} {bs : List UInt8} (h : ccs σ l = bs.map byteV) (i j : Nat) (hij : i ≤ j) :
    ccs σ (segI l i j) = (((bs.take (ccs σ (l.take j)).length).drop (ccs σ (l.take i)).length)).map byteV := by
  have e1 : ccs σ l = ccs σ (l.take j) ++ ccs σ (l.drop j) := by rw [← ccs_append, List.take_append_drop]
  have e2 := take_seg l hij
  have e3 : (ccs σ l).take (ccs σ (l.take j)).length = ccs σ (l.take j) := by rw [e1]; simp
  rw [h] at e3
  rw [← List.map_take] at e3
  rw [List.map_drop, e3, e2, ccs_append]
  simp

end

/-! ### What is asked -/

structure OrOk (P : Program) (σ : Sg) (ω : Or) : Prop where
  ob : ∀ {bo t x y v}, ω.ob bo t x y = some v → ∀ {ν a b}, vrel σ ν x a → vrel σ ν y b → (a ≠ .nilIface ∨ b ≠ .nilIface) ∧ ((∀ l, a ≠ .agg l) ∨ ∀ l, b ≠ .agg l) ∧ ∃ c, vrel σ ν v c ∧ ∀ w, (Go.binOp bo t a b).run P w = .ok c w
  ou : ∀ {u x v}, ω.ou u x = some v → ∀ {ν a}, vrel σ ν x a → ∃ c, vrel σ ν v c ∧ ∀ w, (Op.unary u a).run P w = .ok c w
  oc : ∀ {s d x v}, ω.oc s d x = some v → ∀ {ν a}, vrel σ ν x a → ∃ c, vrel σ ν v c ∧ ∀ w, (Go.convert s d a).run P w = .ok c w
  rl : ∀ {l v}, ω.rl l = some v → ioks σ l → ∀ ν, vrel σ ν v (.int .i64 ((ccs σ l).length : Nat))
  rn : ∀ {l}, ω.rn l = true → ioks σ l → ccs σ l ≠ []
  rz : ∀ {l}, ω.rz l = true → ioks σ l → (ccs σ l).length ≤ room
  ce : ∀ {x y d}, ω.ce x y = some d → ∀ {a b}, cc σ x = [a] → cc σ y = [b] → (a = b ↔ d = true)
  ru : ∀ {x v}, ω.ru x = some v → ∀ {b : UInt8}, cc σ x = [byteV b] → b.toNat < 128 ∧ ∀ ν, vrel σ ν v (.int .i32 b.toNat)
  zl : ∀ {x l}, ω.zl x = some l → ∀ {ν a}, vrel σ ν x a → ∃ (n : Nat) (k : IntKind), l[σ.i]? = some n ∧ a = .int k n ∧ n ≤ 1000000

mutual
theorem vbeq_eq : ∀ {x y : Value}, vbeq x y = true → x = y
  | .bool x, y, h => by cases y <;> simp [vbeq] at h; rw [h]
  | .int k n, y, h => by cases y <;> simp [vbeq] at h; rw [h.1, h.2]
  | .float k n, y, h => by cases y <;> simp [vbeq] at h; rw [h.1, h.2]
  | .complex .., y, h => by cases y <;> simp [vbeq] at h
  | .string .., y, h => by cases y <;> simp [vbeq] at h
  | .pointer .., y, h => by cases y <;> simp [vbeq] at h
  | .slice .., y, h => by cases y <;> simp [vbeq] at h
  | .map .., y, h => by cases y <;> simp [vbeq] at h
  | .chan .., y, h => by cases y <;> simp [vbeq] at h
  | .func .., y, h => by cases y <;> simp [vbeq] at h
  | .nilFunc, y, h => by cases y <;> simp [vbeq] at h
  | .iface .., y, h => by cases y <;> simp [vbeq] at h
  | .nilIface, y, h => by cases y <;> simp [vbeq] at h
  | .agg .., y, h => by cases y <;> simp [vbeq] at h
  | .tuple .., y, h => by cases y <;> simp [vbeq] at h
end

theorem vbeqs_eq : ∀ {x y : List Value}, vbeqs x y = true → x = y
  | [], [], _ => rfl
  | [], _ :: _, h => by simp [vbeqs] at h
  | _ :: _, [], h => by simp [vbeqs] at h
  | a :: x, b :: y, h => by
    simp only [vbeqs, Bool.and_eq_true] at h
    rw [vbeq_eq h.1, vbeqs_eq h.2]
mutual
theorem beq_eq : ∀ {x y : AV}, AV.beq x y = true → x = y
  | .b _, y, h => by cases y <;> simp [AV.beq] at h; rw [h]
  | .i _ _, y, h => by cases y <;> simp [AV.beq] at h; rw [h.1, h.2]
  | .f _ _, y, h => by cases y <;> simp [AV.beq] at h; rw [h.1, h.2]
  | .s _, y, h => by cases y <;> simp [AV.beq] at h; rw [h]
  | .pn, y, h => by cases y <;> simp [AV.beq] at h; rfl
  | .p _ _, y, h => by cases y <;> simp [AV.beq] at h; rw [h.1, h.2]
  | .sn, y, h => by cases y <;> simp [AV.beq] at h; rfl
  | .sl _ _ _ _, y, h => by cases y <;> simp [AV.beq] at h; obtain ⟨⟨⟨h1, h2⟩, h3⟩, h4⟩ := h; rw [h1, h2, h3, h4]
  | .so _ _ _ _, y, h => by cases y <;> simp [AV.beq] at h; obtain ⟨⟨⟨h1, h2⟩, h3⟩, h4⟩ := h; rw [h1, h2, h3, h4]
  | .se _ _, y, h => by cases y <;> simp [AV.beq] at h; rw [h.1, h.2]
  | .mn, y, h => by cases y <;> simp [AV.beq] at h; rfl
  | .m _, y, h => by cases y <;> simp [AV.beq] at h; rw [h]
  | .fn _ a c, y, h => by
    cases y <;> simp [AV.beq] at h
    obtain ⟨⟨h1, h2⟩, h3⟩ := h
    rw [h1, beqs_eq h2, beqs_eq h3]
  | .fnil, y, h => by cases y <;> simp [AV.beq] at h; rfl
  | .ifc _ v, y, h => by
    cases y <;> simp [AV.beq] at h
    rw [h.1, beq_eq h.2]
  | .inil, y, h => by cases y <;> simp [AV.beq] at h; rfl
  | .ag l, y, h => by cases y <;> simp [AV.beq] at h; rw [beqs_eq h]
  | .tu l, y, h => by cases y <;> simp [AV.beq] at h; rw [beqs_eq h]
  | .sym _, y, h => by cases y <;> simp [AV.beq] at h; rw [h]
  | .ve _, y, h => by cases y <;> simp [AV.beq] at h; rw [vbeqs_eq h]
  | .st l, y, h => by cases y <;> simp [AV.beq] at h; rw [beqs_eq h]
  | .rs _ _ _ _, y, h => by cases y <;> simp [AV.beq] at h; obtain ⟨⟨⟨h1, h2⟩, h3⟩, h4⟩ := h; rw [h1, h2, h3, h4]
  | .rp _ _, y, h => by cases y <;> simp [AV.beq] at h; rw [h.1, h.2]
  | .pl _ _, y, h => by cases y <;> simp [AV.beq] at h; rw [h.1, h.2]
  | .ln _ _ _ _, y, h => by cases y <;> simp [AV.beq] at h; obtain ⟨⟨⟨h1, h2⟩, h3⟩, h4⟩ := h; rw [h1, h2, h3, h4]
  | .g _, y, h => by cases y <;> simp [AV.beq] at h; rw [h]
  | .z _, y, h => by cases y <;> simp [AV.beq] at h; rw [h]
theorem beqs_eq : ∀ {x y : List AV}, AV.beqs x y = true → x = y
  | [], y, h => by cases y <;> simp [AV.beqs] at h; rfl
  | x :: l, y, h => by
    cases y <;> simp [AV.beqs] at h
    rw [beq_eq h.1, beqs_eq h.2]
end

end Go.Ae
namespace Go.Ae
open Go

section
variable {P : Program} {σ : Sg} {gs : Nat} {ν : Nu} {h : AH} {w : World} {ω : Or} {ρ : Operand → Option AV} {r : Operand → Value}

theorem rowI_rel (x : hrel σ gs ν h w) {n : Nat} {its : List AV} {e : NE} (hr : rowI h n = some its) (he : ν[n]? = some e) :
    h.get n = some (.r its) ∧ ∃ a t fr, w.heap[e.b]? = some (.cells a t fr) ∧ ∃ ext, a.toList = ccs σ its ++ ext ∧ ioks σ its ∧ e.ws = widths σ its ∧ e.k = a.size ∧ ∀ o, o < a.size → ¬ (fr.1 ≤ o ∧ o < fr.2) := by
  unfold rowI at hr
  split at hr
  · rename_i its' hn
    simp at hr
    subst hr
    obtain ⟨e', o, h1, h2, h3⟩ := x.dom n _ hn
    rw [he] at h1
    cases h1
    cases o <;> simp only [brel] at h3
    exact ⟨hn, _, _, _, h2, h3⟩
  · cases hr

theorem posS_ok {its : List AV} {y : AV} : ∀ {f p q : Nat}, posS ω its y f p = some q → okPos ω its y q = true
  | 0, _, _, h => by simp [posS] at h
  | f + 1, p, q, h => by
    simp only [posS] at h
    cases hb : okPos ω its y p with
    | true => rw [hb] at h; simp at h; subst h; exact hb
    | false => rw [hb] at h; exact posS_ok h

theorem posOf_ok {its : List AV} {y : AV} {p : Nat} (h : posOf ω its y = some p) : okPos ω its y p = true := by
  unfold posOf at h
  split at h
  · rename_i m hm
    unfold pos1 at h
    cases hb : okPos ω its y m with
    | true => rw [hb] at h; simp at h; subst h; exact hb
    | false => rw [hb] at h; exact posS_ok h
  · exact posS_ok h

/-- The place that a number tells. -/
theorem posOf_rel (G : OrOk P σ ω) {its : List AV} {y : AV} {p : Nat} {c : Value} (hp : posOf ω its y = some p) (hi : ioks σ its) (hy : vrel σ ν y c) : p ≤ its.length ∧ c = .int .i64 ((ccs σ (its.take p)).length : Nat) := by
  have h := posOf_ok hp
  unfold okPos at h
  simp only [Bool.and_eq_true, Nat.ble_eq] at h
  obtain ⟨h1, h2⟩ := h
  refine ⟨h1, ?_⟩
  unfold beqO at h2
  split at h2
  · rename_i v hv
    have := beq_eq h2
    subst this
    exact vrel_fun _ _ _ hy (G.rl hv (ioks_take hi p) ν)
  · cases h2

def oprel (σ : Sg) (ν : Nu) : Option AV → Option Value → Prop
  | none, c => c = none
  | some v, c => ∃ d, c = some d ∧ vrel σ ν v d

/-- A bound that may be left out. -/
def brelO (σ : Sg) (its : List AV) (d p : Nat) (y' : Option Value) : Prop := p ≤ its.length ∧ ((y' = none ∧ p = d) ∨ y' = some (.int .i64 ((ccs σ (its.take p)).length : Nat)))

theorem posOpt_rel (G : OrOk P σ ω) {its : List AV} {d p : Nat} {y : Option AV} {y' : Option Value} (hp : posOpt ω its d y = some p) (hi : ioks σ its) (hd : d ≤ its.length)
    (hy : oprel σ ν y y') : brelO σ its d p y' := by
  unfold posOpt at hp
  split at hp
  · simp at hp
    subst hp
    exact ⟨hd, .inl ⟨hy, rfl⟩⟩
  · obtain ⟨c, rfl, hc⟩ := hy
    obtain ⟨h1, h2⟩ := posOf_rel G hp hi hc
    exact ⟨h1, .inr (by rw [h2])⟩

/-! ### Length -/

theorem sLen_rel (G : OrOk P σ ω) (x : hrel σ gs ν h w) {t : TypeId} {a v : AV} {c : Value} (ha : vrel σ ν a c) (hl : sLen ω P t h a = some v) :
    ∃ n : Nat, vrel σ ν v (goInt n) ∧ ∀ (ats : Array TypeId) (ty : TypeId), ats[0]? = some t → ∀ w, (Builtin.len_ ats ty #[c]).run P w = .ok (goInt n) w := by
  unfold sLen at hl
  split at hl
  · rename_i l hu
    obtain ⟨bs, rfl, h1, h2⟩ := ha
    have := G.rl hl h2 ν
    rw [h1, List.length_map] at this
    have hsz : (ByteArray.mk bs.toArray).size = bs.length := by simp [ByteArray.size]
    exact ⟨bs.length, this, fun ats ty ht w => by simp [Builtin.len_, ht, run_underlying hu, hsz]⟩
  · rename_i el n i j xx hu
    obtain ⟨e, he, hij, hj, hk, rfl⟩ := ha
    cases hr : rowI h n with
    | none => rw [hr] at hl; simp [segO, rlO] at hl
    | some its =>
      rw [hr] at hl
      simp only [segO, rlO] at hl
      obtain ⟨_, arr, t, fr, _, ext, _, h2, h3, _⟩ := rowI_rel x hr he
      have := G.rl hl (ioks_seg h2 i j) ν
      refine ⟨_, this, fun ats ty ht w => ?_⟩
      have : offW e.ws j - offW e.ws i = (ccs σ (segI its i j)).length := by rw [h3, off_seg its hij]; omega
      simp [Builtin.len_, ht, run_underlying hu, this]
  · cases hl

/-! ### Cells -/

theorem cellAt_rel {its : List AV} {p : Nat} {v : AV} (hc : cellAt its p = some v) (hi : ioks σ its) : cellI v = true ∧ its[p]? = some v ∧ ∃ c, cc σ v = [c] ∧ c.oneCell' = true ∧ vrel σ ν v c := by
  unfold cellAt at hc
  split at hc
  · rename_i u rest hd
    cases hu : cellI u with
    | false => rw [hu] at hc; simp at hc
    | true =>
      rw [hu] at hc
      simp at hc
      subst hc
      have hg : its[p]? = some u := by have := congrArg (·[0]?) hd; simpa using this
      obtain ⟨c, h1, h2⟩ := (hi u (List.mem_of_getElem? hg)).1 hu
      exact ⟨hu, hg, c, h1, h2, cc_vrel h1 hu h2⟩
  · cases hc

theorem split_at {its : List AV} {p : Nat} {v : AV} (h : its[p]? = some v) : ccs σ its = ccs σ (its.take p) ++ (cc σ v ++ ccs σ (its.drop (p + 1))) := by
  have hd : its.drop p = v :: its.drop (p + 1) := by
    obtain ⟨hlt, hg⟩ := List.getElem?_eq_some_iff.1 h
    rw [← hg]
    exact List.drop_eq_getElem_cons hlt
  have e : ccs σ its = ccs σ (its.take p) ++ ccs σ (its.drop p) := by rw [← ccs_append, List.take_append_drop]
  rw [e, hd, ccs_cons]

/-- A text's byte. -/
theorem sIdx_rel (G : OrOk P σ ω) {t : TypeId} {a y v : AV} {c d : Value} (hs : isStr P t = true) (ha : vrel σ ν a c) (hy : vrel σ ν y d) (h : sIdx ω y a = some v) :
    ∃ c', vrel σ ν v c' ∧ ∀ w, (Instr.index t c d).run P w = .ok c' w := by
  have hu : P.underlying t = some .string := by
    unfold isStr at hs
    split at hs
    · assumption
    · cases hs
  unfold sIdx at h
  split at h
  · rename_i l
    obtain ⟨bs, rfl, h1, h2⟩ := ha
    cases hp : posOf ω l y with
    | none => rw [hp] at h; simp [cellAtO] at h
    | some p =>
      rw [hp] at h
      simp only [cellAtO] at h
      obtain ⟨g1, rfl⟩ := posOf_rel G hp h2 hy
      obtain ⟨k1, k2, c', k3, k4, k5⟩ := cellAt_rel (ν := ν) h h2
      have e := split_at (σ := σ) k2
      rw [k3, h1] at e
      refine ⟨c', k5, fun w => ?_⟩
      have hget : (bs.map byteV)[(ccs σ (l.take p)).length]? = some c' := by
        rw [e, List.getElem?_append_right (Nat.le_refl _)]
        simp
      rw [List.getElem?_map] at hget
      obtain ⟨b, hb, rfl⟩ := Option.map_eq_some_iff.1 hget
      have : (ByteArray.mk bs.toArray)[(ccs σ (l.take p)).length]? = some b := by
        obtain ⟨hlt, hgt⟩ := List.getElem?_eq_some_iff.1 hb
        have hsz : (ByteArray.mk bs.toArray).size = bs.length := by simp [ByteArray.size]
        rw [getElem?_pos (ByteArray.mk bs.toArray) _ (by rw [hsz]; exact hlt)]
        congr 1
      simp [Instr.index, asIntOf, run_underlying hu, this, byteV]
  · cases h

/-! ### Slices -/

theorem opO_rel (hρ : Rho σ ν ρ r) {x : Option Operand} {y : Option AV} (h : opO ρ x = some y) : oprel σ ν y (x.map r) := by
  cases x with
  | none => simp [opO] at h; subst h; rfl
  | some z =>
    cases hv : ρ z with
    | none => simp [opO, hv] at h
    | some v => simp [opO, hv] at h; subst h; exact ⟨r z, rfl, hρ z v hv⟩

theorem bound_of {its : List AV} {d p : Nat} {y' : Option Value} (h : brelO σ its d p y') (hd : d = 0 ∨ d = its.length) : ∃ n : Option Nat, orel n y' ∧ (n = none → p = d) ∧ n.getD (ccs σ (its.take d)).length = (ccs σ (its.take p)).length := by
  obtain ⟨h1, h2⟩ := h
  rcases h2 with ⟨rfl, rfl⟩ | rfl
  · exact ⟨none, rfl, fun _ => rfl, rfl⟩
  · exact ⟨some _, ⟨_, rfl⟩, fun h => absurd h (by simp), rfl⟩

theorem ccs_mono (l : List AV) {i j : Nat} (h : i ≤ j) : (ccs σ (l.take i)).length ≤ (ccs σ (l.take j)).length := by
  rw [take_seg l h, ccs_append, List.length_append]
  omega

theorem ccs_all (l : List AV) : (ccs σ (l.take l.length)).length = (ccs σ l).length := by rw [List.take_length]

theorem sSlice_rel (G : OrOk P σ ω) (x : hrel σ gs ν h w) {t : TypeId} {h' : AH} {a v : AV} {c : Value} {lo hi mx : Option AV} {lo' hi' mx' : Option Value} (ha : vrel σ ν a c)
    (h1 : oprel σ ν lo lo') (h2 : oprel σ ν hi hi')
    (h3 : oprel σ ν mx mx') (hs : sSlice ω P t h a lo hi mx = some (v, h')) :
    ∃ ν' d, Named ν h ν' h' ∧ vrel σ ν' v d ∧ ∀ w, (Instr.sliceAt t c lo' hi' mx').run P w = .ok d w := by
  unfold sSlice at hs
  split at hs
  · rename_i l hu
    split at hs
    · have hm : mx' = none := h3
      subst hm
      obtain ⟨bs, rfl, g1, g2⟩ := ha
      cases hp : posOpt ω l 0 lo with
      | none => rw [hp] at hs; simp [sStr, withH'] at hs
      | some p =>
        cases hq : posOpt ω l l.length hi with
        | none => rw [hp, hq] at hs; simp [sStr, withH'] at hs
        | some q =>
          rw [hp, hq] at hs
          simp only [sStr] at hs
          cases hb : Nat.ble p q with
          | false => rw [hb] at hs; simp [withH'] at hs
          | true =>
            rw [hb] at hs
            simp [withH'] at hs
            obtain ⟨rfl, rfl⟩ := hs
            have hpq := Nat.le_of_ble_eq_true hb
            have b1 := posOpt_rel G hp g2 (Nat.zero_le _) h1
            have b2 := posOpt_rel G hq g2 (Nat.le_refl _) h2
            obtain ⟨n1, o1, _, o3⟩ := bound_of b1 (.inl rfl)
            obtain ⟨n2, o4, _, o6⟩ := bound_of b2 (.inr rfl)
            simp only [List.take_zero, ccs_nil, List.length_nil] at o3
            rw [ccs_all, g1, List.length_map] at o6
            have hz : (ByteArray.mk bs.toArray).size = bs.length := by simp [ByteArray.size]
            have hle : (ccs σ (l.take q)).length ≤ bs.length := by
              have := ccs_mono (σ := σ) l b2.1
              rw [ccs_all, g1, List.length_map] at this
              exact this
            refine ⟨ν, _, .inl ⟨rfl, rfl⟩, mkSt_rel (map_seg g1 p q hpq) (ioks_seg g2 p q), fun w => ?_⟩
            have hbd := run_sliceBounds (P := P) (isSlice := false) (len := bs.length) (cap := bs.length) o1 o4 (show orel none none from rfl) (by rw [o3, o6]; exact ccs_mono l hpq) (.inr (by rw [o6]; exact hle)) (Nat.le_refl _) (.inl rfl) w
            rw [o3, o6] at hbd
            simp [Instr.sliceAt, run_underlying hu, Instr.slice, hz, hbd, extract_mk _ _ _ (ccs_mono (σ := σ) l hpq)]
    · cases hs
  · rename_i el n i j xx hu
    obtain ⟨e, he, hij, hj, hk, rfl⟩ := ha
    split at hs
    · rename_i hsz
      cases hr : rowI h n with
      | none => rw [hr] at hs; simp [sRow] at hs
      | some its =>
        rw [hr] at hs
        obtain ⟨hn, arr, ty, fr, hw, ext, g1, g2, g3, g4, g5⟩ := rowI_rel x hr he
        have hlen : j ≤ its.length := by rw [g3, widths_len] at hj; exact hj
        have hseg := ioks_seg g2 i j
        have hsl : (segI its i j).length = j - i := by simp [segI]; omega
        have hL : offW e.ws j - offW e.ws i = (ccs σ (segI its i j)).length := by rw [g3, off_seg its hij]; omega
        have at_ : ∀ p, p ≤ j - i → offW e.ws (i + p) = offW e.ws i + (ccs σ ((segI its i j).take p)).length := by
          intro p hp
          rw [g3, off_seg its (show i ≤ i + p by omega), seg_take its i j p hp]
        have hsize := fun w => run_sizeOf hsz w
        simp only [sRow] at hs
        split at hs
        · -- no third bound
          have hm : mx' = none := h3
          subst hm
          cases hp : posOpt ω (segI its i j) 0 lo with
          | none => rw [hp] at hs; simp [sRow0] at hs
          | some p =>
            cases hq : posOpt ω (segI its i j) (j - i) hi with
            | none => rw [hp, hq] at hs; simp [sRow0] at hs
            | some q =>
              rw [hp, hq] at hs
              simp only [sRow0] at hs
              cases hb : (Nat.ble p q && Nat.ble q (j - i)) with
              | false => rw [hb] at hs; simp at hs
              | true =>
                rw [hb] at hs
                simp only [cond_true] at hs
                simp only [Bool.and_eq_true, Nat.ble_eq] at hb
                obtain ⟨hpq, hqj⟩ := hb
                have b1 := posOpt_rel G hp hseg (Nat.zero_le _) h1
                have b2 := posOpt_rel G hq hseg (by rw [hsl]; exact Nat.le_refl _) h2
                obtain ⟨n1, o1, _, o3⟩ := bound_of b1 (.inl rfl)
                obtain ⟨n2, o4, _, o6⟩ := bound_of b2 (.inr hsl.symm)
                simp only [List.take_zero, ccs_nil, List.length_nil] at o3
                rw [show j - i = (segI its i j).length from hsl.symm, ccs_all, ← hL] at o6
                have cap_ge : offW e.ws j - offW e.ws i ≤ (bif xx then offW e.ws j - offW e.ws i else e.k - offW e.ws i) := by
                  cases xx
                  · simp only [cond_false]; omega
                  · simp
                have hqL : (ccs σ ((segI its i j).take q)).length ≤ offW e.ws j - offW e.ws i := by
                  have := at_ q hqj
                  have h9 : offW e.ws (i + q) ≤ offW e.ws j := by
                    have := off_seg (σ := σ) its (show i + q ≤ j by omega)
                    rw [← g3] at this
                    omega
                  omega
                have hbd := fun w => run_sliceBounds (P := P) (isSlice := true) (len := offW e.ws j - offW e.ws i) (cap := bif xx then offW e.ws j - offW e.ws i else e.k - offW e.ws i) o1 o4 (show orel none none from rfl)
                  (by rw [o3, o6]; exact ccs_mono _ hpq) (.inr (by rw [o6]; simp only [Option.getD_none]; omega)) (Nat.le_refl _) (.inl rfl) w
                rw [o3, o6] at hbd
                simp only [Option.getD_none] at hbd
                cases heq : Nat.beq p q with
                | true =>
                  rw [heq] at hs
                  simp only [cond_true, Option.some.injEq, Prod.mk.injEq] at hs
                  obtain ⟨rfl, rfl⟩ := hs
                  have := Nat.eq_of_beq_eq_true heq
                  subst this
                  let cap := (bif xx then offW e.ws j - offW e.ws i else e.k - offW e.ws i)
                  let l0 := (ccs σ ((segI its i j).take p)).length
                  let e' : NE := ⟨e.b, cap - l0, if cap = l0 then offW e.ws i else offW e.ws i + l0 * 1, []⟩
                  refine ⟨ν ++ [e'], .slice (some ⟨e'.b, e'.o, none⟩) 0 e'.k, .inr ⟨e', rfl, rfl⟩, ⟨e', by rw [← x.len]; simp, rfl⟩, fun w => ?_⟩
                  simp only [Instr.sliceAt, Sem.run_bind, run_underlying hu, Result.andThen_ok, Instr.slice, hbd w, hsize w, Sem.run_pure, Nat.sub_self, e', l0, cap]
                  split <;> simp [Addr.add_mid]
                | false =>
                  rw [heq] at hs
                  simp only [cond_false] at hs
                  cases hne : (ω.rn (segI its (i + p) (i + q)) && (!xx || Nat.beq q (j - i))) with
                  | false => rw [hne] at hs; simp at hs
                  | true =>
                    rw [hne] at hs
                    simp only [cond_true, Option.some.injEq, Prod.mk.injEq] at hs
                    obtain ⟨rfl, rfl⟩ := hs
                    simp only [Bool.and_eq_true, Bool.or_eq_true, Bool.not_eq_true', Nat.beq_eq] at hne
                    obtain ⟨hne1, hne2⟩ := hne
                    have hpos : (ccs σ ((segI its i j).take p)).length < (ccs σ ((segI its i j).take q)).length := by
                      have h8 := at_ p (by omega)
                      have h9 := at_ q hqj
                      have h10 := off_seg (σ := σ) its (show i + p ≤ i + q by omega)
                      rw [← g3] at h10
                      have := G.rn hne1 (ioks_seg g2 _ _)
                      have h11 : (ccs σ (segI its (i + p) (i + q))).length ≠ 0 := fun e0 => this (List.eq_nil_of_length_eq_zero e0)
                      omega
                    have hap := at_ p (by omega)
                    have haq := at_ q hqj
                    have hqk : offW e.ws (i + q) ≤ offW e.ws j := by
                      have := off_seg (σ := σ) its (show i + q ≤ j by omega)
                      rw [← g3] at this
                      omega
                    refine ⟨ν, _, .inl ⟨rfl, rfl⟩, ⟨e, he, by omega, by rw [g3, widths_len]; omega, by omega, rfl⟩, fun w => ?_⟩
                    have hcl : ¬ ((bif xx then offW e.ws j - offW e.ws i else e.k - offW e.ws i) = (ccs σ ((segI its i j).take p)).length) := by omega
                    simp only [Instr.sliceAt, Sem.run_bind, run_underlying hu, Result.andThen_ok, Instr.slice, hbd w, hsize w, Sem.run_pure, if_neg hcl, Option.map_some, add_mul]
                    rw [hap, haq]
                    rcases hne2 with rfl | hne2
                    · simp only [cond_false, Nat.mul_one]
                      congr 2 <;> omega
                    · subst hne2
                      have hij' : i + (j - i) = j := by omega
                      rw [hij'] at haq
                      cases xx
                      · simp only [cond_false, Nat.mul_one]
                        congr 2 <;> omega
                      · simp only [cond_true, Nat.mul_one]
                        congr 2 <;> omega
        · -- with a third bound
          rename_i m
          cases hhi : hi.isSome with
          | false => rw [hhi] at hs; simp at hs
          | true =>
            rw [hhi] at hs
            simp only [cond_true] at hs
            cases hp : posOpt ω (segI its i j) 0 lo with
            | none => rw [hp] at hs; simp [sRow1] at hs
            | some p =>
              cases hq : posOpt ω (segI its i j) (j - i) hi with
              | none => rw [hp, hq] at hs; simp [sRow1] at hs
              | some q =>
                cases hq3 : posOpt ω (segI its i j) 0 (some m) with
                | none => rw [hp, hq, hq3] at hs; simp [sRow1] at hs
                | some q3 =>
                rw [hp, hq, hq3] at hs
                simp only [sRow1] at hs
                cases hb : (Nat.ble p q && Nat.ble q (j - i) && Nat.beq q3 q) with
                | false => rw [hb] at hs; simp at hs
                | true =>
                  rw [hb] at hs
                  simp only [cond_true] at hs
                  simp only [Bool.and_eq_true, Nat.ble_eq, Nat.beq_eq] at hb
                  obtain ⟨⟨hpq, hqj⟩, rfl⟩ := hb
                  have b1 := posOpt_rel G hp hseg (Nat.zero_le _) h1
                  have b2 := posOpt_rel G hq hseg (by rw [hsl]; exact Nat.le_refl _) h2
                  have b3 := posOpt_rel G hq3 hseg (Nat.zero_le _) h3
                  obtain ⟨n1, o1, _, o3⟩ := bound_of b1 (.inl rfl)
                  obtain ⟨n2, o4, _, o6⟩ := bound_of b2 (.inr hsl.symm)
                  obtain ⟨n3, o7, _, o9⟩ := bound_of b3 (.inl rfl)
                  simp only [List.take_zero, ccs_nil, List.length_nil] at o3 o9
                  rw [show j - i = (segI its i j).length from hsl.symm, ccs_all, ← hL] at o6
                  have hn3 : ∃ z3, n3 = some z3 := by
                    cases n3 with
                    | none => obtain ⟨_, e9, _⟩ := h3; rw [show mx' = none from o7] at e9; cases e9
                    | some z => exact ⟨z, rfl⟩
                  obtain ⟨z3, rfl⟩ := hn3
                  have hn2 : n2.isSome = true := by
                    cases n2 with
                    | none =>
                      cases hi with
                      | none => cases hhi
                      | some _ => obtain ⟨_, e9, _⟩ := h2; rw [show hi' = none from o4] at e9; cases e9
                    | some z => rfl
                  have cap_ge : offW e.ws j - offW e.ws i ≤ (bif xx then offW e.ws j - offW e.ws i else e.k - offW e.ws i) := by
                    cases xx
                    · simp only [cond_false]; omega
                    · simp
                  have hqL : (ccs σ ((segI its i j).take q3)).length ≤ offW e.ws j - offW e.ws i := by
                    have := at_ q3 hqj
                    have h9 : offW e.ws (i + q3) ≤ offW e.ws j := by
                      have := off_seg (σ := σ) its (show i + q3 ≤ j by omega)
                      rw [← g3] at this
                      omega
                    omega
                  simp only [Option.getD_some] at o9
                  have hbd := fun w => run_sliceBounds (P := P) (isSlice := true) (len := offW e.ws j - offW e.ws i) (cap := bif xx then offW e.ws j - offW e.ws i else e.k - offW e.ws i) o1 o4 o7
                    (by rw [o3, o6]; exact ccs_mono _ hpq) (.inr (by rw [o6]; simp only [Option.getD_some]; omega)) (by simp only [Option.getD_some]; omega) (.inr hn2) w
                  rw [o3, o6] at hbd
                  simp only [Option.getD_some, o9] at hbd
                  cases heq : Nat.beq p q3 with
                  | true =>
                    rw [heq] at hs
                    simp only [cond_true, Option.some.injEq, Prod.mk.injEq] at hs
                    obtain ⟨rfl, rfl⟩ := hs
                    have := Nat.eq_of_beq_eq_true heq
                    subst this
                    let e' : NE := ⟨e.b, 0, offW e.ws i, []⟩
                    refine ⟨ν ++ [e'], .slice (some ⟨e'.b, e'.o, none⟩) 0 0, .inr ⟨e', rfl, rfl⟩, ⟨e', by rw [← x.len]; simp, rfl⟩, fun w => ?_⟩
                    simp only [Instr.sliceAt, Sem.run_bind, run_underlying hu, Result.andThen_ok, Instr.slice, hbd w, hsize w, Sem.run_pure, Nat.sub_self, e']
                    simp
                  | false =>
                    rw [heq] at hs
                    simp only [cond_false] at hs
                    cases hne : ω.rn (segI its (i + p) (i + q3)) with
                    | false => rw [hne] at hs; simp at hs
                    | true =>
                      rw [hne] at hs
                      simp only [cond_true, Option.some.injEq, Prod.mk.injEq] at hs
                      obtain ⟨rfl, rfl⟩ := hs
                      have hpos : (ccs σ ((segI its i j).take p)).length < (ccs σ ((segI its i j).take q3)).length := by
                        have h8 := at_ p (by omega)
                        have h9 := at_ q3 hqj
                        have h10 := off_seg (σ := σ) its (show i + p ≤ i + q3 by omega)
                        rw [← g3] at h10
                        have := G.rn hne (ioks_seg g2 _ _)
                        have h11 : (ccs σ (segI its (i + p) (i + q3))).length ≠ 0 := fun e0 => this (List.eq_nil_of_length_eq_zero e0)
                        omega
                      have hap := at_ p (by omega)
                      have haq := at_ q3 hqj
                      have hqk : offW e.ws (i + q3) ≤ offW e.ws j := by
                        have := off_seg (σ := σ) its (show i + q3 ≤ j by omega)
                        rw [← g3] at this
                        omega
                      refine ⟨ν, _, .inl ⟨rfl, rfl⟩, ⟨e, he, by omega, by rw [g3, widths_len]; omega, by omega, rfl⟩, fun w => ?_⟩
                      have hcl : ¬ ((ccs σ ((segI its i j).take q3)).length = (ccs σ ((segI its i j).take p)).length) := by omega
                      simp only [Instr.sliceAt, Sem.run_bind, run_underlying hu, Result.andThen_ok, Instr.slice, hbd w, hsize w, Sem.run_pure, if_neg hcl, Option.map_some, add_mul]
                      rw [hap, haq]
                      simp only [cond_true, Nat.mul_one]
                      congr 2 <;> omega
    · cases hs
  · cases hs
end
end Go.Ae
namespace Go.Ae
open Go

section
variable {P : Program} {σ : Sg} {gs : Nat} {ν : Nu} {h : AH} {w : World} {ω : Or} {ρ : Operand → Option AV} {r : Operand → Value}

theorem plAt_some {n o len : Nat} {y v : AV} {sz : Option Nat} (h : plAt n o len y sz = some v) : ∃ k l, sz = some k ∧ y = .ve l ∧ v = .pl n ((plIdx o k len l).getD []) ∧ (plIdx o k len l).isSome = true := by
  unfold plAt at h
  split at h
  · rename_i k
    split at h
    · rename_i l
      cases hp : plIdx o k len l with
      | none => rw [hp] at h; simp [plMk] at h
      | some m => rw [hp] at h; simp [plMk] at h; subst h; exact ⟨k, l, rfl, rfl, by rw [hp]; rfl, by rw [hp]; rfl⟩
    · cases h
  · cases h

theorem plIdx_get' {o k len : Nat} : ∀ {l : List Value} {r : List Nat} {i : Nat} {c : Value}, plIdx o k len l = some r → l[i]? = some c → ∃ (q : IntKind) (m : Nat), c = .int q m ∧ m < len ∧ r[i]? = some (o + m * k)
  | [], _, _, _, _, h => by simp at h
  | x :: l, r, i, c, h, hi => by
    unfold plIdx at h
    split at h
    · simp_all
    · rename_i q m l' hx
      simp only [List.cons.injEq] at hx
      obtain ⟨rfl, rfl⟩ := hx
      cases hb : Nat.blt m len with
      | false => rw [hb] at h; simp at h
      | true =>
        rw [hb] at h
        simp only [cond_true] at h
        split at h
        · rename_i l2 hl
          simp at h
          subst h
          cases i with
          | zero => simp at hi; subst hi; exact ⟨q, m, rfl, by simp [Nat.blt] at hb; omega, rfl⟩
          | succ i =>
            obtain ⟨q', m', h1, h2, h3⟩ := plIdx_get' hl (by simpa using hi)
            exact ⟨q', m', h1, h2, by simpa using h3⟩
        · cases h
    · cases h

theorem plIdx_get {o k len : Nat} {l : List Value} {i : Nat} {c : Value} (h : (plIdx o k len l).isSome = true) (hi : l[i]? = some c) : ∃ (q : IntKind) (m : Nat), c = .int q m ∧ m < len ∧ ((plIdx o k len l).getD [])[i]? = some (o + m * k) := by
  obtain ⟨r, hr⟩ := Option.isSome_iff_exists.1 h
  obtain ⟨q, m, h1, h2, h3⟩ := plIdx_get' hr hi
  exact ⟨q, m, h1, h2, by rw [hr]; exact h3⟩

/-- An element's place. -/
theorem sIa_rel (G : OrOk P σ ω) (x : hrel σ gs ν h w) {t : TypeId} {a y v : AV} {c d : Value} (ha : vrel σ ν a c) (hy : vrel σ ν y d) (hs : sIa ω P t h a y = some v) :
    ∃ c', vrel σ ν v c' ∧ ∀ w, (Instr.indexAt t c d).run P w = .ok c' w := by
  unfold sIa at hs
  split at hs
  · rename_i len el n o hu
    obtain ⟨k, l, hsz, rfl, rfl, hp⟩ := plAt_some hs
    obtain ⟨e, he, rfl⟩ := ha
    obtain ⟨q, m, rfl, g1, g2⟩ := plIdx_get hp hy.1
    refine ⟨_, ⟨e, _, he, g2, rfl⟩, fun w => ?_⟩
    have hsize := run_sizeOf hsz w
    simp [Instr.indexAt, asIntOf, run_underlying hu, Instr.sureAddr, g1, hsize, add_mul]
  · rename_i el n o len cap hu
    obtain ⟨k, l, hsz, rfl, rfl, hp⟩ := plAt_some hs
    obtain ⟨e, he, rfl⟩ := ha
    obtain ⟨q, m, rfl, g1, g2⟩ := plIdx_get hp hy.1
    refine ⟨_, ⟨e, _, he, g2, rfl⟩, fun w => ?_⟩
    have hsize := run_sizeOf hsz w
    simp [Instr.indexAt, asIntOf, run_underlying hu, g1, hsize, add_mul]
  · rename_i el n o ee len hu
    obtain ⟨k, l, hsz, rfl, rfl, hp⟩ := plAt_some hs
    obtain ⟨e, he, _, rfl⟩ := ha
    obtain ⟨q, m, rfl, g1, g2⟩ := plIdx_get hp hy.1
    refine ⟨_, ⟨e, _, he, g2, rfl⟩, fun w => ?_⟩
    have hsize := run_sizeOf hsz w
    simp [Instr.indexAt, asIntOf, run_underlying hu, g1, hsize, add_mul]
  · rename_i el n i j xx hu
    split at hs
    · rename_i hsz
      obtain ⟨e, he, hij, hj, hk, rfl⟩ := ha
      cases hr : rowI h n with
      | none => rw [hr] at hs; simp [sIa1] at hs
      | some its =>
        rw [hr] at hs
        simp only [sIa1] at hs
        obtain ⟨hn, arr, ty, fr, hw, ext, g1, g2, g3, g4, g5⟩ := rowI_rel x hr he
        cases hp : posOf ω (segI its i j) y with
        | none => rw [hp] at hs; simp [sIaP] at hs
        | some p =>
          rw [hp] at hs
          simp only [sIaP] at hs
          obtain ⟨k1, rfl⟩ := posOf_rel G hp (ioks_seg g2 i j) hy
          cases hb : Nat.blt (i + p) j with
          | false => rw [hb] at hs; simp at hs
          | true =>
            rw [hb] at hs
            simp only [cond_true] at hs
            split at hs
            · rename_i u hu1
              simp at hs
              subst hs
              have hlt : i + p < j := by simp [Nat.blt] at hb; omega
              obtain ⟨m1, m2, c', m3, m4, m5⟩ := cellAt_rel (ν := ν) hu1 g2
              refine ⟨_, ⟨e, he, rfl⟩, fun w => ?_⟩
              have e1 := seg_take its i j p (by omega)
              have e2 := off_seg (σ := σ) its (show i ≤ i + p by omega)
              have e3 := off_seg (σ := σ) its (show i + p ≤ i + p + 1 by omega)
              have e4 := off_seg (σ := σ) its (show i + p + 1 ≤ j by omega)
              have e5 : segI its (i + p) (i + p + 1) = [u] := by
                obtain ⟨hl, hg⟩ := List.getElem?_eq_some_iff.1 m2
                unfold segI
                rw [List.drop_eq_getElem_cons hl, hg]
                simp
              rw [e5, ccs_cons, m3] at e3
              simp only [ccs_nil, List.append_nil, List.length_singleton] at e3
              rw [e1, g3]
              have hb1 : (ccs σ (segI its i (i + p))).length < offW (widths σ its) j - offW (widths σ its) i := by omega
              have hsize := run_sizeOf hsz w
              simp [Instr.indexAt, asIntOf, run_underlying hu, hb1, hsize, Addr.add_mid, e2]
            · cases hs
    · cases hs
  · cases hs

theorem plVals_get (x : hrel σ gs ν h w) {n : Nat} {e : NE} (he : ν[n]? = some e) : ∀ {l : List Nat} {vs : List AV} {i o : Nat}, plVals h n l = some vs → l[i]? = some o → ∃ u c, vs[i]? = some u ∧ vrel σ ν u c ∧ w.cell? ⟨e.b, o, none⟩ = some c
  | [], _, _, _, _, h => by simp at h
  | y :: l, vs, i, o, hv, hi => by
    simp only [plVals] at hv
    split at hv
    · rename_i u hl
      split at hv
      · rename_i vs' hvs
        simp at hv
        subst hv
        cases i with
        | zero =>
          simp at hi
          subst hi
          obtain ⟨cs, h1, h2, h3⟩ := loadC_rel x hl he
          obtain ⟨c, _, k1, k2, rfl⟩ := h1
          refine ⟨u, c, rfl, k1, ?_⟩
          have := h3 0 c (by simp)
          simpa using this
        | succ i =>
          obtain ⟨u', c, h1, h2⟩ := plVals_get x he hvs (by simpa using hi)
          exact ⟨u', c, by simpa using h1, h2⟩
      · cases hv
    · cases hv

theorem numCs_get : ∀ {l : List AV} {vs : List Value} {i : Nat} {u : AV} {c : Value}, numCs l = some vs → l[i]? = some u → vrel σ ν u c → vs[i]? = some c ∧ numV c = true
  | [], _, _, _, _, _, h, _ => by simp at h
  | y :: l, vs, i, u, c, hv, hi, hr => by
    simp only [numCs] at hv
    split at hv
    · rename_i v hn
      split at hv
      · rename_i vs' hvs
        simp at hv
        subst hv
        cases i with
        | zero =>
          simp at hi
          subst hi
          unfold numC at hn
          split at hn
          · simp at hn; subst hn; rw [show c = _ from hr]; exact ⟨rfl, rfl⟩
          · simp at hn; subst hn; rw [show c = _ from hr]; exact ⟨rfl, rfl⟩
          · cases hn
        | succ i => simpa using numCs_get hvs (by simpa using hi) hr
      · cases hv
    · cases hv

theorem plJoin_rel {vs : List AV} {v u : AV} {c : Value} (h : plJoin (some vs) = some v) (hu : vs[σ.i]? = some u) (hc : vrel σ ν u c) : vrel σ ν v c := by
  cases vs with
  | nil => simp at hu
  | cons x r =>
    simp only [plJoin] at h
    cases hb : r.all (AV.beq x) with
    | true =>
      rw [hb] at h
      simp at h
      subst h
      have : u = x := by
        cases hi : σ.i with
        | zero => rw [hi] at hu; simp at hu; exact hu.symm
        | succ j =>
          rw [hi] at hu
          exact (beq_eq (List.all_eq_true.1 hb u (List.mem_of_getElem? (by simpa using hu)))).symm
      rw [← this]
      exact hc
    | false =>
      rw [hb] at h
      simp only [cond_false] at h
      cases hn : numCs (x :: r) with
      | none => rw [hn] at h; simp [veOf] at h
      | some l =>
        rw [hn] at h
        simp [veOf] at h
        subst h
        exact numCs_get hn hu hc

/-- A cell of a row, read. -/
theorem sLoad_rel (x : hrel σ gs ν h w) {t : TypeId} {a v : AV} {c : Value} (ha : vrel σ ν a c) (hs : sLoad P t h a = some v) : ∃ c', vrel σ ν v c' ∧ (Instr.loadAt t c).run P w = .ok c' w := by
  unfold sLoad at hs
  split at hs
  · rename_i n l
    obtain ⟨e, o, he, ho, rfl⟩ := ha
    split at hs
    · rename_i hag
      cases hv : plVals h n l with
      | none => rw [hv] at hs; simp [plJoin] at hs
      | some vs =>
        rw [hv] at hs
        obtain ⟨u, c', g1, g2, g3⟩ := plVals_get x he hv ho
        refine ⟨c', plJoin_rel hs g1 g2, ?_⟩
        have h5 := run_isAgg hag w
        exact run_loadAt (by simp [loadVar, h5, g3])
    · cases hs
  · rename_i n p
    obtain ⟨e, he, rfl⟩ := ha
    split at hs
    · rename_i hag
      split at hs
      · rename_i its hr
        obtain ⟨hn, arr, ty, fr, hw, ext, g1, g2, g3, g4, g5⟩ := rowI_rel x hr he
        obtain ⟨m1, m2, c', m3, m4, m5⟩ := cellAt_rel (ν := ν) hs g2
        refine ⟨c', m5, ?_⟩
        have h5 := run_isAgg hag w
        have h6 : w.cell? ⟨e.b, offW e.ws p, none⟩ = some c' := by
          have : arr[offW e.ws p]? = some c' := by
            rw [← Array.getElem?_toList, g1, split_at (σ := σ) m2, m3, g3, offW_eq, List.append_assoc, List.getElem?_append_right (Nat.le_refl _)]
            simp
          simp [World.cell?, hw, this]
        exact run_loadAt (by simp [loadVar, h5, h6])
      · cases hs
    · cases hs
  · cases hs

/-- A row's items, and its cells in memory. -/
theorem rits_row (x : hrel σ gs ν h w) {a : AV} {c : Value} {its : List AV} (ha : vrel σ ν a c) (hr : isRow a = true) (hi : rits h a = some its) :
    ioks σ its ∧ ((its = [] ∧ ∃ a0 k, c = .slice a0 0 k) ∨ ∃ b o k, c = .slice (some ⟨b, o, none⟩) (ccs σ its).length k ∧ w.rangeAt b o (ccs σ its)) := by
  have none_ : ioks σ [] := fun v hv => by cases hv
  have row : ∀ {m o len e l}, ν[m]? = some e → loadC h m o len = some l → (bif l.all flatI then some l else none) = some its → ioks σ its ∧ (ccs σ its).length = len ∧ w.rangeAt e.b o (ccs σ its) := by
    intro m o len e l he hl hf
    cases hq : l.all flatI with
    | false => rw [hq] at hf; simp at hf
    | true =>
      rw [hq] at hf
      simp at hf
      subst hf
      obtain ⟨cs, h1, h2, h3⟩ := loadC_rel x hl he
      obtain ⟨k1, k2⟩ := flats_cc hq h1
      exact ⟨k2, by rw [k1, h2], by rw [k1]; exact h3⟩
  unfold rits at hi
  split at hi <;> simp only [isRow, Bool.false_eq_true] at hr
  · simp at hi
    subst hi
    exact ⟨none_, .inl ⟨rfl, none, 0, ha⟩⟩
  · simp at hi
    subst hi
    obtain ⟨e, _, rfl⟩ := ha
    exact ⟨none_, .inl ⟨rfl, _, _, rfl⟩⟩
  · rename_i m o len cap
    cases hl : loadC h m o len with
    | none => rw [hl] at hi; cases hi
    | some l =>
      rw [hl] at hi
      obtain ⟨e, he, rfl⟩ := ha
      obtain ⟨k1, k2, k3⟩ := row he hl hi
      exact ⟨k1, .inr ⟨e.b, o, cap, by rw [k2], k3⟩⟩
  · rename_i m o ee len
    cases hl : loadC h m o len with
    | none => rw [hl] at hi; cases hi
    | some l =>
      rw [hl] at hi
      obtain ⟨e, he, _, rfl⟩ := ha
      obtain ⟨k1, k2, k3⟩ := row he hl hi
      exact ⟨k1, .inr ⟨e.b, o, _, by rw [k2], k3⟩⟩
  · rename_i n i j xx
    obtain ⟨e, he, hij, hj, hk, rfl⟩ := ha
    cases hr : rowI h n with
    | none => rw [hr] at hi; simp [segO] at hi
    | some its' =>
      rw [hr] at hi
      simp [segO] at hi
      subst hi
      obtain ⟨hn, arr, ty, fr, hw, ext, g1, g2, g3, g4, g5⟩ := rowI_rel x hr he
      refine ⟨ioks_seg g2 i j, .inr ⟨e.b, offW e.ws i, _, by rw [g3, off_seg its' hij]; congr 1; omega, fun q v hq => ?_⟩⟩
      have e1 : its' = its'.take i ++ (segI its' i j ++ its'.drop j) := by
        rw [← List.append_assoc, ← take_seg its' hij, List.take_append_drop]
      have : arr[offW e.ws i + q]? = some v := by
        rw [← Array.getElem?_toList, g1, e1, ccs_append, ccs_append, g3, offW_eq, List.append_assoc, List.getElem?_append_right (by omega)]
        rw [Nat.add_sub_cancel_left, List.append_assoc, List.getElem?_append_left (List.getElem?_eq_some_iff.1 hq).1]
        exact hq
      simp [World.cell?, hw, this]

theorem foldl_push' : ∀ (bs : List UInt8) (s : ByteArray), (bs.map fun b => (b.toNat : Int)).foldl (fun r n => r.push (UInt8.ofNat n.toNat)) s = ⟨(s.data.toList ++ bs).toArray⟩ := by
  intro bs s
  rw [foldl_push]
  have : ((bs.map fun b => (b.toNat : Int)).map fun n => UInt8.ofNat n.toNat) = bs := by
    rw [List.map_map]
    refine (List.map_congr_left fun b _ => ?_).trans (List.map_id bs)
    simp
  rw [this]

theorem sConv_rel (G : OrOk P σ ω) (x : hrel σ gs ν h w) {s d : TypeId} {a v : AV} {c : Value} (ha : vrel σ ν a c) (hs : sConv ω P s d h a = some v) :
    (P.underlying d = some .string ∧ ∃ c', vrel σ ν v c' ∧ (Go.convert s d c).run P w = .ok c' w) ∨
      ((P.underlying d ≠ some .string ∧ ∀ e, P.underlying d ≠ some (.slice e)) ∧ ∃ c', vrel σ ν v c' ∧ ∀ w, (Go.convert s d c).run P w = .ok c' w) := by
  unfold sConv at hs
  split at hs
  · rename_i hu hd
    split at hs
    · rename_i l
      simp at hs
      subst hs
      have ha' := ha
      obtain ⟨bs, rfl, _, _⟩ := ha
      exact .inl ⟨hd, _, ha', by simp [Go.convert, run_underlying hu, run_underlying hd]⟩
    · cases hs
  · rename_i el hu hd
    split at hs
    · rename_i he
      cases hrow : isRow a with
      | false => rw [hrow] at hs; simp at hs
      | true =>
        rw [hrow] at hs
        simp only [cond_true] at hs
        cases hi : rits h a with
        | none => rw [hi] at hs; simp [mkStO] at hs
        | some its =>
          rw [hi] at hs
          simp only [mkStO, mkStB] at hs
          cases hb : its.all byteI with
          | false => rw [hb] at hs; simp at hs
          | true =>
            rw [hb] at hs
            simp at hs
            subst hs
            obtain ⟨k1, k2⟩ := rits_row x ha hrow hi
            obtain ⟨bs, hbs⟩ := bytes_cc hb k1
            refine .inl ⟨hd, _, mkSt_rel hbs k1, ?_⟩
            rcases k2 with ⟨rfl, a0, k, rfl⟩ | ⟨b, o, k, rfl, hra⟩
            · have : bs = [] := by
                cases bs with
                | nil => rfl
                | cons _ _ => simp [ccs] at hbs
              subst this
              cases a0 with
              | none => rw [run_convert_bytes_string w s d el _ _ _ hu he hd]; rfl
              | some a0 =>
                rw [run_convert_bytes_string w s d el _ _ _ hu he hd, run_bytesToString (P := P) w a0 0 k [] (by simp [loadCells, loadCellsFrom])]
                rfl
            · have h6 := run_loadCells_at (P := P) hra
              have e1 : ccs σ its = (bs.map fun b => (b.toNat : Int)).map (Value.int .u8) := by rw [hbs, List.map_map]; rfl
              rw [e1] at h6
              have e2 : (ccs σ its).length = ((bs.map fun b => (b.toNat : Int)).map (Value.int .u8)).length := by rw [e1]
              rw [run_convert_bytes_string w s d el _ _ _ hu he hd, e2, run_bytesToString (P := P) w ⟨b, o, none⟩ _ k _ h6, foldl_push']
              simp
    · cases hs
  · cases hs
  · cases hs
  · cases hs
  · rename_i h1 h2 hu hd
    obtain ⟨c', g1, g2⟩ := G.oc hs ha
    refine .inr ⟨⟨fun e => ?_, fun el e => ?_⟩, c', g1, g2⟩
    · rw [hd] at e; exact h1 (Option.some.inj e)
    · rw [hd] at e; exact h2 el (Option.some.inj e)
  · cases hs

theorem cellsEq_rel (G : OrOk P σ ω) : ∀ {a b : List AV} {d : Bool}, cellsEq ω a b = some d → a.all cellI = true → b.all cellI = true → ioks σ a → ioks σ b → (ccs σ a = ccs σ b ↔ d = true)
  | [], [], d, h, _, _, _, _ => by simp [cellsEq] at h; subst h; simp
  | [], _ :: _, d, h, _, _, _, _ => by simp [cellsEq] at h
  | _ :: _, [], d, h, _, _, _, _ => by simp [cellsEq] at h
  | x :: a, y :: b, d, h, ca, cb, ia, ib => by
    simp only [List.all_cons, Bool.and_eq_true] at ca cb
    obtain ⟨i1, i2⟩ := ioks_cons ia
    obtain ⟨j1, j2⟩ := ioks_cons ib
    obtain ⟨u, g1, _⟩ := i1 ca.1
    obtain ⟨v, g2, _⟩ := j1 cb.1
    rw [ccs_cons, ccs_cons, g1, g2]
    simp only [List.cons_append, List.nil_append, List.cons.injEq]
    simp only [cellsEq] at h
    split at h
    · rename_i hc
      simp at h
      subst h
      have := G.ce hc g1 g2
      simp only [Bool.false_eq_true, iff_false] at this ⊢
      exact fun e => this e.1
    · rename_i hc
      have := G.ce hc g1 g2
      simp only [iff_true] at this
      rw [this]
      simp only [true_and]
      exact cellsEq_rel G h ca.2 cb.2 i2 j2
    · split at h
      · rename_i hr
        simp at h
        subst h
        have := cellsEq_rel G hr ca.2 cb.2 i2 j2
        simp only [Bool.false_eq_true, iff_false] at this ⊢
        exact fun e => this e.2
      · cases h

theorem itsEq_rel (G : OrOk P σ ω) {a b : List AV} {d : Bool} (h : itsEq ω a b = some d) (ia : ioks σ a) (ib : ioks σ b) : ccs σ a = ccs σ b ↔ d = true := by
  unfold itsEq at h
  cases h1 : AV.beqs a b with
  | true => rw [h1] at h; simp at h; subst h; rw [beqs_eq h1]; simp
  | false =>
    rw [h1] at h
    simp only [cond_false] at h
    cases h2 : a.isEmpty with
    | true =>
      rw [h2] at h
      simp only [cond_true] at h
      cases h3 : ω.rn b with
      | false => rw [h3] at h; simp at h
      | true =>
        rw [h3] at h
        simp at h
        subst h
        have : a = [] := by simpa using h2
        subst this
        have := G.rn h3 ib
        simp only [Bool.false_eq_true, iff_false, ccs_nil]
        exact fun e => this e.symm
    | false =>
      rw [h2] at h
      simp only [cond_false] at h
      cases h4 : b.isEmpty with
      | true =>
        rw [h4] at h
        simp only [cond_true] at h
        cases h3 : ω.rn a with
        | false => rw [h3] at h; simp at h
        | true =>
          rw [h3] at h
          simp at h
          subst h
          have : b = [] := by simpa using h4
          subst this
          have := G.rn h3 ia
          simp only [Bool.false_eq_true, iff_false, ccs_nil]
          exact fun e => this e
      | false =>
        rw [h4] at h
        simp only [cond_false] at h
        cases h5 : (a.all cellI && b.all cellI) with
        | false => rw [h5] at h; simp at h
        | true =>
          rw [h5] at h
          simp only [cond_true] at h
          simp only [Bool.and_eq_true] at h5
          cases h6 : Nat.beq a.length b.length with
          | true => rw [h6] at h; exact cellsEq_rel G h h5.1 h5.2 ia ib
          | false =>
            rw [h6] at h
            simp at h
            subst h
            have := Nat.ne_of_beq_eq_false h6
            simp only [Bool.false_eq_true, iff_false]
            intro e
            have := congrArg List.length e
            rw [cells_len h5.1 ia, cells_len h5.2 ib] at this
            omega

theorem beq_bytes {a b : List UInt8} {d : Bool} (h : a = b ↔ d = true) : ((ByteArray.mk a.toArray).toList == (ByteArray.mk b.toArray).toList) = d := by
  rw [toList_mk, toList_mk]
  cases d with
  | true => rw [h.2 rfl]; simp
  | false =>
    have : a ≠ b := fun e => by have := h.1 e; cases this
    simp [this]

theorem strI_rel (G : OrOk P σ ω) {op : BinOp} {a b : List AV} {v : AV} {x y : List UInt8} (h : strI ω op a b = some v) (ha : ccs σ a = x.map byteV) (hb : ccs σ b = y.map byteV) (ia : ioks σ a) (ib : ioks σ b) :
    ∃ c, vrel σ ν v c ∧ ∀ w, (Op.stringOp op ⟨x.toArray⟩ ⟨y.toArray⟩).run P w = .ok c w := by
  have hs : ∀ l : List UInt8, (ByteArray.mk l.toArray).size = l.length := fun l => by simp [ByteArray.size]
  have hq : ∀ {d : Bool}, itsEq ω a b = some d → (x = y ↔ d = true) := fun {d} hd => by
    rw [← itsEq_rel G hd ia ib, ha, hb]
    exact ⟨fun e => by rw [e], fun e => byteV_inj e⟩
  unfold strI at h
  split at h
  · cases hz : ω.rz (a ++ b) with
    | false => rw [hz] at h; simp at h
    | true =>
      rw [hz] at h
      simp at h
      subst h
      have hl := G.rz hz (ioks_append ia ib)
      rw [ccs_append, ha, hb, ← List.map_append, List.length_map, List.length_append] at hl
      have hroom : room = 1000000000 := rfl
      refine ⟨_, mkSt_rel (bs := x ++ y) (by rw [ccs_append, ha, hb, List.map_append]) (ioks_append ia ib), fun w => ?_⟩
      have : ¬ (9223372036854775807 < (x.length : Int) + (y.length : Int)) := by omega
      simp [Op.stringOp, hs, IntKind.max, IntKind.signed, IntKind.bits, this]
      apply ByteArray.ext
      simp
  · cases hd : itsEq ω a b with
    | none => rw [hd] at h; simp [eqResO] at h
    | some d =>
      rw [hd] at h
      simp [eqResO, eqRes] at h
      subst h
      exact ⟨_, rfl, fun w => by simp only [Op.stringOp]; rw [beq_bytes (hq hd)]; rfl⟩
  · cases hd : itsEq ω a b with
    | none => rw [hd] at h; simp [eqResO] at h
    | some d =>
      rw [hd] at h
      simp [eqResO, eqRes] at h
      subst h
      exact ⟨_, rfl, fun w => by simp only [Op.stringOp]; rw [beq_bytes (hq hd)]; rfl⟩
  · cases h

theorem sBin_rel (G : OrOk P σ ω) {op : BinOp} {t : TypeId} {x y : AV} {a b : Value} {v : AV} (hx : vrel σ ν x a) (hy : vrel σ ν y b) (h : sBin ω op t x y = some v) (X Y : Operand) :
    ∃ c, vrel σ ν v c ∧ ∀ w, (do eqGuard op t X Y a b; Go.binOp op t a b).run P w = .ok c w := by
  unfold sBin sBin2 at h
  split at h
  · rename_i l m hl hm
    obtain ⟨bx, rfl, h1, h2⟩ := sits_rel hx hl
    obtain ⟨by_, rfl, h3, h4⟩ := sits_rel hy hm
    obtain ⟨c, g1, g2⟩ := strI_rel (P := P) (ν := ν) G h h1 h3 h2 h4
    refine ⟨c, g1, fun w => ?_⟩
    rw [eqGuard_plain (.inl (by simp)) (.inl (by simp))]
    have : Go.binOp op t (.string ⟨bx.toArray⟩) (.string ⟨by_.toArray⟩) = Op.stringOp op ⟨bx.toArray⟩ ⟨by_.toArray⟩ := by cases op <;> rfl
    rw [this]
    simp [g2 w]
  · obtain ⟨h1, h2, c, g1, g2⟩ := G.ob h hx hy
    refine ⟨c, g1, fun w => ?_⟩
    rw [eqGuard_plain h1 h2]
    simp [g2 w]
  · cases h

end
end Go.Ae
namespace Go.Ae
open Go

section
variable {P : Program} {σ : Sg} {gs : Nat} {ν : Nu} {h : AH} {w : World} {ω : Or} {ρ : Operand → Option AV} {r : Operand → Value}

theorem opt1_some {f : AV → Option AV} {x : Option AV} {v : AV} (h : opt1 f x = some v) : ∃ a, x = some a ∧ f a = some v := by
  cases x with
  | none => simp [opt1] at h
  | some a => exact ⟨a, rfl, h⟩

theorem opt2_some {f : AV → AV → Option AV} {x y : Option AV} {v : AV} (h : opt2 f x y = some v) : ∃ a b, x = some a ∧ y = some b ∧ f a b = some v := by
  cases x with
  | none => simp [opt2] at h
  | some a =>
    cases y with
    | none => simp [opt2] at h
    | some b => exact ⟨a, b, rfl, rfl, h⟩

theorem opt1h_some {f : AV → Option (AV × AH)} {x : Option AV} {v : AV × AH} (h : opt1h f x = some v) : ∃ a, x = some a ∧ f a = some v := by
  cases x with
  | none => simp [opt1h] at h
  | some a => exact ⟨a, rfl, h⟩

theorem opt2h_some {f : AV → AV → Option (AV × AH)} {x y : Option AV} {v : AV × AH} (h : opt2h f x y = some v) : ∃ a b, x = some a ∧ y = some b ∧ f a b = some v := by
  cases x with
  | none => simp [opt2h] at h
  | some a =>
    cases y with
    | none => simp [opt2h] at h
    | some b => exact ⟨a, b, rfl, rfl, h⟩

theorem o1_isV {x : Option AV} {R' : R} (h1 : o1 h x = some R') : R'.isV = true := by
  cases x with
  | none => simp [o1] at h1
  | some _ => simp [o1] at h1; subst h1; rfl

theorem o2_isV {x : Option (AV × AH)} {R' : R} (h1 : o2 x = some R') : R'.isV = true := by
  cases x with
  | none => simp [o2] at h1
  | some _ => simp [o2] at h1; subst h1; rfl

/-- All that is done here yields a value. -/
theorem opS_isV {o : Op} {R' : R} (hop : opS ω P ρ h o = some R') : R'.isV = true := by
  cases o <;> simp only [opS] at hop <;> (try (cases hop; done)) <;> (try exact o1_isV hop) <;> (try exact o2_isV hop)
  case index =>
    rw [cond_eq_ite] at hop
    split at hop
    · exact o1_isV hop
    · cases hop
  case call c =>
    obtain ⟨callee, args, ats⟩ := c
    cases callee <;> simp only [sCall] at hop <;> (try (cases hop; done))
    rename_i b
    cases ha : evs ρ args.toList with
    | none => rw [ha] at hop; simp [sBuO] at hop
    | some vs =>
      rw [ha] at hop
      simp only [sBuO] at hop
      cases b <;> simp only [sBu] at hop <;> (try (cases hop; done))
      all_goals
        split at hop
        · first
            | exact o1_isV hop
            | (rw [cond_eq_ite] at hop
               split at hop
               · exact o2_isV hop
               · cases hop)
        · cases hop

theorem plainTy_rel {t : TypeId} (h : plainTy P t = true) : P.underlying t = some .string ∨ ∃ e, P.underlying t = some (.slice e) := by
  unfold plainTy at h
  split at h
  · exact .inl (by assumption)
  · exact .inr ⟨_, by assumption⟩
  · cases h

theorem opS_pur (G : OrOk P σ ω) (x : hrel σ gs ν h w) (hρ : Rho σ ν ρ r) {o : Oper} {h' : AH} {v : AV} (hk : kind P o = .pur) (hop : opS ω P ρ h o.op = some (.v v h')) : h' = h ∧ Pur P σ ν r o v := by
  obtain ⟨dst, op, type, pos, after, guard⟩ := o
  cases op <;> simp only [kind] at hk <;> (try (simp at hk; done)) <;> simp only [opS] at hop <;> (try (cases hop; done)) <;> unfold Pur <;> simp only [execOp]
  case binOp bo ty a b yt =>
    obtain ⟨h1, rfl⟩ := o1_some hop
    obtain ⟨va, vb, ha, hb, h2⟩ := opt2_some h1
    obtain ⟨c, g1, g2⟩ := sBin_rel G (hρ a va ha) (hρ b vb hb) h2 a b
    refine ⟨rfl, c, g1, fun w => ?_⟩
    have := g2 w
    simp only [Sem.run_bind] at this ⊢
    rw [this]
    rfl
  case unOp u ty a =>
    obtain ⟨h1, rfl⟩ := o1_some hop
    obtain ⟨va, ha, h2⟩ := opt1_some h1
    obtain ⟨c, g1, g2⟩ := G.ou h2 (hρ a va ha)
    exact ⟨rfl, c, g1, fun w => by simp [g2 w]⟩
  case convert s d a =>
    obtain ⟨h1, rfl⟩ := o1_some hop
    obtain ⟨va, ha, h2⟩ := opt1_some h1
    rcases sConv_rel G x (hρ a va ha) h2 with ⟨hd, _⟩ | ⟨_, c, g1, g2⟩
    · rw [hd] at hk; simp at hk
    · exact ⟨rfl, c, g1, fun w => by simp [g2 w]⟩
  case indexAddr ty a b =>
    obtain ⟨h1, rfl⟩ := o1_some hop
    obtain ⟨va, vb, ha, hb, h2⟩ := opt2_some h1
    obtain ⟨c, g1, g2⟩ := sIa_rel G x (hρ a va ha) (hρ b vb hb) h2
    exact ⟨rfl, c, g1, fun w => by simp [g2 w]⟩
  case index ty a b =>
    cases hs : isStr P ty with
    | false => rw [hs] at hop; simp at hop
    | true =>
      rw [hs] at hop
      obtain ⟨h1, rfl⟩ := o1_some hop
      obtain ⟨va, vb, ha, hb, h2⟩ := opt2_some h1
      obtain ⟨c, g1, g2⟩ := sIdx_rel (P := P) G hs (hρ a va ha) (hρ b vb hb) h2
      exact ⟨rfl, c, g1, fun w => by simp [g2 w]⟩
  case call c =>
    obtain ⟨callee, args, ats⟩ := c
    cases callee <;> simp only at hk <;> (try (cases hk; done))
    rename_i b
    simp only [sCall] at hop
    cases ha : evs ρ args.toList with
    | none => rw [ha] at hop; simp [sBuO] at hop
    | some vs =>
      rw [ha] at hop
      simp only [sBuO] at hop
      have hc := evs_rel hρ ha
      have harr : (args.map r) = (args.toList.map r).toArray := by rw [← List.map_toArray]
      generalize hcs : args.toList.map r = cs at hc harr
      cases b <;> simp only [kindB] at hk <;> (try (cases hk; done)) <;> simp only [sBu] at hop <;> (try (cases hop; done))
      case len =>
        split at hop
        · rename_i t y ht
          obtain ⟨c1, _, g1, g2, rfl⟩ := hc
          rw [show _ = [] from g2] at harr
          obtain ⟨h1, rfl⟩ := o1_some hop
          obtain ⟨n, k1, k2⟩ := sLen_rel G x g1 h1
          exact ⟨rfl, goInt n, k1, fun w => by simp [resolve, invoke, builtin, harr, k2 ats type ht w]⟩
        · cases hop

theorem opS_slc (G : OrOk P σ ω) (x : hrel σ gs ν h w) (hρ : Rho σ ν ρ r) {o : Oper} (hk : kind P o = .slc) {v : AV} {h' : AH} (hop : opS ω P ρ h o.op = some (.v v h')) :
    ∃ ν' c, Named ν h ν' h' ∧ vrel σ ν' v c ∧ ∀ w, (execOp r o).run P w = .ok (.value c) w := by
  obtain ⟨dst, op, type, pos, after, guard⟩ := o
  cases op
  case slice t y lo hi mx =>
    simp only [opS] at hop
    cases hy : ρ y with
    | none => rw [hy] at hop; simp [sSliceO, o2] at hop
    | some vy =>
      cases h1 : opO ρ lo with
      | none => rw [hy, h1] at hop; simp [sSliceO, o2] at hop
      | some a =>
        cases h2 : opO ρ hi with
        | none => rw [hy, h1, h2] at hop; simp [sSliceO, o2] at hop
        | some b =>
          cases h3 : opO ρ mx with
          | none => rw [hy, h1, h2, h3] at hop; simp [sSliceO, o2] at hop
          | some c =>
            rw [hy, h1, h2, h3] at hop
            simp only [sSliceO] at hop
            obtain ⟨v', h'', hs, e⟩ := o2_some hop
            cases e
            obtain ⟨ν', d, k1, k2, k3⟩ := sSlice_rel (P := P) G x (hρ y vy hy) (opO_rel hρ h1) (opO_rel hρ h2) (opO_rel hρ h3) hs
            exact ⟨ν', d, k1, k2, fun w => by simp [execOp, k3 w]⟩
  all_goals first
    | (simp [kind] at hk; done)
    | (simp only [kind] at hk; split at hk <;> simp at hk; done)
    | skip
  case call c =>
    obtain ⟨callee, args, ats⟩ := c
    cases callee <;> simp only [kind] at hk <;> (try (cases hk; done))
    rename_i b
    cases b <;> simp only [kindB] at hk <;> (try (cases hk; done))
    repeat' split at hk
    all_goals cases hk

theorem opS_rd (G : OrOk P σ ω) (x : hrel σ gs ν h w) (hρ : Rho σ ν ρ r) {o : Oper} {h' : AH} {v : AV} (hk : kind P o = .rd) (hop : opS ω P ρ h o.op = some (.v v h')) :
    h' = h ∧ ∃ c, vrel σ ν v c ∧ (execOp r o).run P w = .ok (.value c) w := by
  obtain ⟨dst, op, type, pos, after, guard⟩ := o
  cases op <;> simp only [kind] at hk <;> (try (simp at hk; done)) <;> simp only [opS] at hop <;> (try (cases hop; done)) <;> simp only [execOp]
  case binOp bo ty a b yt =>
    obtain ⟨h1, rfl⟩ := o1_some hop
    obtain ⟨va, vb, ha, hb, h2⟩ := opt2_some h1
    obtain ⟨c, g1, g2⟩ := sBin_rel (P := P) G (hρ a va ha) (hρ b vb hb) h2 a b
    refine ⟨rfl, c, g1, ?_⟩
    have := g2 w
    simp only [Sem.run_bind] at this ⊢
    rw [this]
    rfl
  case convert s d a =>
    obtain ⟨h1, rfl⟩ := o1_some hop
    obtain ⟨va, ha, h2⟩ := opt1_some h1
    rcases sConv_rel G x (hρ a va ha) h2 with ⟨_, c, g1, g2⟩ | ⟨_, c, g1, g2⟩
    · exact ⟨rfl, c, g1, by simp [g2]⟩
    · exact ⟨rfl, c, g1, by simp [g2 w]⟩
  case load ty a =>
    obtain ⟨h1, rfl⟩ := o1_some hop
    obtain ⟨va, ha, h2⟩ := opt1_some h1
    obtain ⟨c, g1, g2⟩ := sLoad_rel (P := P) x (hρ a va ha) h2
    exact ⟨rfl, c, g1, by simp [g2]⟩
  case call c =>
    exfalso
    obtain ⟨callee, args, ats⟩ := c
    cases callee <;> simp only at hk <;> (try (cases hk; done))
    rename_i b
    simp only [sCall] at hop
    cases ha : evs ρ args.toList with
    | none => rw [ha] at hop; simp [sBuO] at hop
    | some vs =>
      rw [ha] at hop
      simp only [sBuO] at hop
      cases b <;> simp only [kindB] at hk <;> (try (cases hk; done)) <;> simp only [sBu] at hop <;> (try (cases hop; done))
      split at hop
      · rename_i t y ht
        rw [ht] at hk
        simp only at hk
        obtain ⟨h1, _⟩ := o1_some hop
        unfold sLen at h1
        split at h1
        · rename_i hu; rw [hu] at hk; simp at hk
        · rename_i hu; rw [hu] at hk; simp at hk
        · cases h1
      · cases hop

end
end Go.Ae
namespace Go.Ae
open Go

section
variable {P : Program} {σ : Sg} {gs : Nat} {ν : Nu} {h : AH} {w : World} {ω : Or} {ρ : Operand → Option AV} {r : Operand → Value}
variable {ats : Array TypeId} {st e ty : TypeId} {i : TypeInfo} {zv : Value}

theorem rowB_rel {its : List AV} {a : Array Value} {t : TypeId} {fr : Nat × Nat} {ext : List Value} {e : NE} (h1 : a.toList = ccs σ its ++ ext) (hi : ioks σ its) (hw : e.ws = widths σ its) (hk : e.k = a.size)
    (hf : ∀ o, o < a.size → ¬ (fr.1 ≤ o ∧ o < fr.2)) : brel σ ν e (rowB its) (.cells a t fr) := by
  unfold rowB
  cases hc : its.all cellI with
  | true => exact ⟨ccs σ its, ext, h1, cells_vrels hc hi, fun h => by simp at h, fun _ => by rw [hk, Nat.mul_one], hf⟩
  | false => exact ⟨ext, h1, hi, hw, hk, hf⟩

theorem rowV_rel {its : List AV} {n : Nat} {e : NE} (he : ν[n]? = some e) (hi : ioks σ its) (hw : e.ws = widths σ its) (hle : (ccs σ its).length ≤ e.k) :
    vrel σ ν (rowV n its) (.slice (some ⟨e.b, 0, none⟩) (ccs σ its).length e.k) := by
  unfold rowV
  have h0 : offW e.ws 0 = 0 := by simp [offW]
  have h1 : offW e.ws its.length = (ccs σ its).length := by rw [hw, offW_eq, List.take_length]
  cases hc : its.all cellI with
  | true =>
    rw [cells_len hc hi] at hle ⊢
    exact ⟨e, he, by omega, rfl⟩
  | false => exact ⟨e, he, Nat.zero_le _, by rw [hw, widths_len]; exact Nat.le_refl _, by rw [h1]; exact hle, by simp [h0, h1]⟩

theorem newR_some {its : List AV} {v' : AV} {h' : AH} (hn : newR ω h its = some (v', h')) : ω.rz its = true ∧ v' = rowV h.nx its ∧ h' = h.alloc (rowB its) := by
  unfold newR at hn
  cases hz : ω.rz its with
  | false => rw [hz] at hn; simp at hn
  | true => rw [hz] at hn; simp at hn; exact ⟨rfl, hn.1.symm, hn.2.symm⟩

/-- An append that makes a new block. -/
theorem appOut (G : OrOk P σ ω) (x : hrel σ gs ν h w) (A : App P ats st e i zv 1) {base : Option Addr} {cap n : Nat} {cy : Value} {old new : List AV} {v' : AV} {h' : AH} (ho : ioks σ old) (hi : ioks σ new)
    (hn : ∀ w', (Builtin.lenOf cy).run P w' = .ok n w') (hnn : n = (ccs σ new).length) (hold : (Builtin.firstCells 1 (ccs σ old).length (.slice base (ccs σ old).length cap)).run P w.drew = .ok (ccs σ old).toArray w.drew)
    (hnew : (Builtin.firstCells 1 n cy).run P w.drew = .ok (ccs σ new).toArray w.drew) (hfit : cap < (ccs σ old).length + n) (hg : newR ω h (old ++ new) = some (v', h')) :
    ∃ c w' ν', (Builtin.append_ ats ty #[.slice base (ccs σ old).length cap, cy]).run P w = .ok c w' ∧ Ext ν h w ν' h' w' ∧ hrel σ gs ν' h' w' ∧ vrel σ ν' v' c := by
  obtain ⟨hz, rfl, rfl⟩ := newR_some hg
  have hio := ioks_append ho hi
  have hroom := G.rz hz hio
  rw [ccs_append, List.length_append, ← hnn] at hroom
  have hrun := run_append_out (ty := ty) A hn hold hnew hfit hroom
  have hge := grownCap_ge w ((ccs σ old).length + n) cap e
  let cap' := grownCap w ((ccs σ old).length + n) cap e
  let a := (ccs σ old).toArray ++ (ccs σ new).toArray ++ Builtin.zeroCells zv.cells (cap' - ((ccs σ old).length + n))
  have hsz : a.size = cap' := by
    simp only [a, Array.size_append, List.size_toArray, zeroCells_len, A.zsize, ← hnn]
    omega
  let e' : NE := ⟨w.heap.size, cap', 0, widths σ (old ++ new)⟩
  obtain ⟨g1, g2⟩ := x.alloc (e := e') (b := rowB (old ++ new)) (o := .cells a e) (w' := w.drew.alloc (.cells a e)) rfl rfl
    (rowB_rel (ext := (Builtin.zeroCells zv.cells (cap' - ((ccs σ old).length + n))).toList) (by simp [a, ccs_append]) hio rfl hsz.symm notFrozen)
  refine ⟨_, _, _, hrun, g2, g1, ?_⟩
  have := rowV_rel (σ := σ) (its := old ++ new) (n := h.nx) (e := e') (ν := ν ++ [e']) (by rw [← x.len]; simp) hio rfl (by rw [ccs_append, List.length_append, ← hnn]; exact hge)
  rw [ccs_append, List.length_append, ← hnn] at this
  exact this

/-- An append to a block that is looked at as a whole. -/
theorem appWhole (G : OrOk P σ ω) (x : hrel σ gs ν h w) (A : App P ats st e i zv 1) {m n : Nat} {cy : Value} {b : AB} {e1 : NE} {old new : List AV} {v' : AV} {h' : AH} (ho : ioks σ old) (hi : ioks σ new) (hm : h.get m = some b) (he1 : ν[m]? = some e1)
    {a : Array Value} {t : TypeId} {fr : Nat × Nat} {ext : List Value} (c1 : w.heap[e1.b]? = some (.cells a t fr)) (c2 : a.toList = ccs σ old ++ ext) (c5 : a.size = e1.k) (c6 : ∀ o, o < a.size → ¬ (fr.1 ≤ o ∧ o < fr.2))
    (hn : ∀ w', (Builtin.lenOf cy).run P w' = .ok n w') (hnn : n = (ccs σ new).length)
    (hnew : ∀ w', w'.heap = w.heap → (Builtin.firstCells 1 n cy).run P w' = .ok (ccs σ new).toArray w') (hg : newR ω (h.del m) (old ++ new) = some (v', h')) :
    ∃ c w' ν', (Builtin.append_ ats ty #[.slice (some ⟨e1.b, 0, none⟩) (ccs σ old).length e1.k, cy]).run P w = .ok c w' ∧ Ext ν h w ν' h' w' ∧ hrel σ gs ν' h' w' ∧ vrel σ ν' v' c := by
  by_cases hfit : (ccs σ old).length + n ≤ e1.k
  · -- there is room
    obtain ⟨hz, rfl, rfl⟩ := newR_some hg
    have hio := ioks_append ho hi
    have hle3 : (ccs σ old).length + (ccs σ new).length ≤ a.size := by omega
    obtain ⟨a', d1, d2⟩ := Chg_setCells (ccs σ new) (ccs σ old).length w e1.b a t fr c1 hle3
    let e' : NE := ⟨e1.b, e1.k, 0, widths σ (old ++ new)⟩
    have hlen' : a'.size = a.size := by
      rw [← Array.length_toList, d2]
      simp
      omega
    obtain ⟨m1, m2⟩ := x.move (e' := e') (b := rowB (old ++ new)) hm he1 rfl d1
      (rowB_rel (ext := a.toList.drop ((ccs σ old).length + (ccs σ new).length)) (by
        rw [d2, c2, List.take_append_of_le_length (by omega), List.take_of_length_le (by omega), ccs_append]) hio rfl (by rw [hlen', c5]) (fun j hj => c6 j (by omega)))
    have hth : ∀ j, j < (ccs σ new).length → (w.cell? ⟨e1.b, (ccs σ old).length + j, none⟩).isSome = true ∧ w.frozen? ⟨e1.b, (ccs σ old).length + j, none⟩ = false := fun j hj => by
      have hlt : (ccs σ old).length + j < a.size := by omega
      refine ⟨by simp [World.cell?, c1, hlt], ?_⟩
      have := c6 ((ccs σ old).length + j) hlt
      simp only [World.frozen?, c1]
      simpa using this
    have hst := run_storeCells_cells (P := P) e1.b (ccs σ old).length (ccs σ new) 0 w (fun j hj => by simpa using (hth j hj).1) (fun j hj => by simpa using (hth j hj).2) (ioks_one hi)
    have hrv := rowV_rel (σ := σ) (its := old ++ new) (n := (h.del m).nx) (e := e') (ν := ν ++ [e']) (by simp only [AH.nx_del]; rw [← x.len]; simp) hio rfl (by rw [ccs_append, List.length_append, ← hnn]; exact hfit)
    rw [ccs_append, List.length_append, ← hnn] at hrv
    refine ⟨_, _, _, run_append_in (ty := ty) A hn (hnew w rfl) hfit ?_, m2, m1, hrv⟩
    simp only
    rw [add_mul, Nat.zero_add, Nat.mul_one]
    simpa using hst
  · -- there is none
    obtain ⟨x1, x2⟩ := x.del m
    have hold : (Builtin.firstCells 1 (ccs σ old).length (.slice (some ⟨e1.b, 0, none⟩) (ccs σ old).length e1.k)).run P w.drew = .ok (ccs σ old).toArray w.drew := by
      simp only [Builtin.firstCells, Nat.mul_one]
      refine run_loadCells_at (w := w.drew) fun j v hj => ?_
      have : a[j]? = some v := by
        rw [← Array.getElem?_toList, c2, List.getElem?_append_left (List.getElem?_eq_some_iff.1 hj).1]
        exact hj
      have c1' : w.drew.heap[e1.b]? = some (.cells a t fr) := c1
      simp [World.cell?, c1', this]
    obtain ⟨c, w', ν', q1, q2, q3, q4⟩ := appOut (ty := ty) G x1 A ho hi hn hnn hold (hnew w.drew rfl) (by omega) hg
    exact ⟨c, w', ν', q1, x2.trans q2, q3, q4⟩

/-- What is appended. -/
theorem rits_app (x : hrel σ gs ν h w) {a : AV} {c : Value} {new : List AV} (ha : vrel σ ν a c) (hi : rits h a = some new) :
    ioks σ new ∧ (∀ w', (Builtin.lenOf c).run P w' = .ok (ccs σ new).length w') ∧ ∀ w', w'.heap = w.heap → (Builtin.firstCells 1 (ccs σ new).length c).run P w' = .ok (ccs σ new).toArray w' := by
  cases hr : isRow a with
  | true =>
    obtain ⟨k1, k2⟩ := rits_row x ha hr hi
    rcases k2 with ⟨rfl, a0, k, rfl⟩ | ⟨b, o, k, rfl, k3⟩
    · refine ⟨k1, fun w' => rfl, fun w' _ => ?_⟩
      cases a0 <;> simp [Builtin.firstCells, loadCells, loadCellsFrom, ccs_nil]
    · refine ⟨k1, fun w' => rfl, fun w' hw => ?_⟩
      simp only [Builtin.firstCells, Nat.mul_one]
      exact run_loadCells_at (w := w') (fun j v hj => by have := k3 j v hj; simpa [World.cell?, hw] using this)
  | false =>
    have hs : sits a = some new := by
      unfold rits at hi
      split at hi <;> simp [isRow] at hr
      · exact hi
      · exact hi
      · cases hi
    obtain ⟨bs, rfl, h1, h2⟩ := sits_rel ha hs
    have hl : (ccs σ new).length = bs.length := by rw [h1]; simp
    refine ⟨h2, fun w' => by simp [Builtin.lenOf, ByteArray.size, hl], fun w' _ => ?_⟩
    simp only [Builtin.firstCells, Sem.run_pure]
    congr 1
    rw [extract_mk _ _ _ (Nat.zero_le _), hl, h1]
    apply Array.ext'
    simp [byteV]

theorem sApp_rel (G : OrOk P σ ω) (x : hrel σ gs ν h w) {s y v' : AV} {cs cy : Value} {h' : AH} {xt : TypeId} (h0 : ats[0]? = some st) (h1 : ats[1]? = some xt) (hpl : plainTy P xt = true) (hs : vrel σ ν s cs) (hy : vrel σ ν y cy)
    (ha : sApp ω P st h s y = some (v', h')) : ∃ c w' ν', (Builtin.append_ ats ty #[cs, cy]).run P w = .ok c w' ∧ Ext ν h w ν' h' w' ∧ hrel σ gs ν' h' w' ∧ vrel σ ν' v' c := by
  unfold sApp at ha
  split at ha
  · rename_i el he
    have hu := sliceEl_rel he
    cases hk : szOf P el with
    | none => rw [hk] at ha; simp [sApp1] at ha
    | some k =>
      cases hbt : bytesOf P el with
      | none => rw [hk, hbt] at ha; simp [sApp1] at ha
      | some bt =>
        cases hz : zeroOf P el with
        | none => rw [hk, hbt, hz] at ha; simp [sApp1] at ha
        | some z =>
          rw [hk, hbt, hz] at ha
          simp only [sApp1] at ha
          cases hok : (Nat.beq k 1 && okSz k bt z) with
          | false => rw [hok] at ha; simp at ha
          | true =>
            rw [hok] at ha
            simp only [cond_true] at ha
            simp only [okSz, Bool.and_eq_true, Nat.ble_eq, Nat.beq_eq, Nat.blt] at hok
            obtain ⟨rfl, ⟨⟨o1', o2'⟩, o3'⟩, o4'⟩ := hok
            obtain ⟨i, zv, i1, i2, i3⟩ := zeroOf_info hz
            obtain ⟨i', j1, j2⟩ := szOf_info hk
            obtain ⟨i'', k1, k2⟩ := bytesOf_info hbt
            rw [i1] at j1 k1
            cases j1
            cases k1
            have hzv := vrel_cells (ofVal_rel (σ := σ) (ν := ν) i3)
            have A : App P ats st el i zv 1 := ⟨h0, ⟨xt, h1, plainTy_rel hpl⟩, hu, i1, i2, j2, by omega, ⟨by omega, by omega⟩, by have := vrels_length hzv; rw [o4'] at this; simpa using this⟩
            cases hri : rits h y with
            | none => rw [hri] at ha; simp [sApp2] at ha
            | some new =>
              rw [hri] at ha
              obtain ⟨n1, n2, n3⟩ := rits_app (P := P) x hy hri
              have ndrew := n3 w.drew rfl
              unfold sApp2 at ha
              split at ha
              · -- nothing
                rename_i hq
                cases hq
                split at ha
                · simp at ha
                  obtain ⟨rfl, rfl⟩ := ha
                  have hs' := hs
                  obtain ⟨e1, he1, a1, a2, a3, rfl⟩ := hs
                  refine ⟨_, w, ν, run_append_in (ty := ty) A n2 (n3 w rfl) ?_ rfl, Ext.refl _ _ _, x, hs'⟩
                  rename_i xx
                  simp only [ccs_nil, List.length_nil, Nat.add_zero]
                  cases xx
                  · simp only [cond_false]; omega
                  · simp
                · cases ha
              · rename_i new' hne heq
                cases heq
                cases hrn : ω.rn new with
                | false => rw [hrn] at ha; simp at ha
                | true =>
                  rw [hrn] at ha
                  simp only [cond_true] at ha
                  have hpos : 0 < (ccs σ new).length := by
                    have := G.rn hrn n1
                    exact List.length_pos_iff.2 this
                  have none_ : ioks σ [] := fun v hv => by cases hv
                  unfold sApp3 at ha
                  split at ha
                  · -- nil
                    rw [show cs = _ from hs]
                    exact appOut (ty := ty) (old := []) G x A none_ n1 n2 rfl (by simp [Builtin.firstCells, ccs_nil]) ndrew (by simpa [ccs_nil] using hpos) (by simpa using ha)
                  · -- an empty one
                    rename_i zz m
                    cases zz with
                    | false => simp at ha
                    | true =>
                      simp only [cond_true] at ha
                      obtain ⟨e1, he1, rfl⟩ := hs
                      exact appOut (ty := ty) (old := []) (base := some _) (cap := 0) G x A none_ n1 n2 rfl (by simp [Builtin.firstCells, loadCells, loadCellsFrom, ccs_nil]) ndrew (by simpa [ccs_nil] using hpos) (by simpa using ha)
                  · -- an open one
                    rename_i m o ee len
                    cases ho : (Nat.beq o 0 && Nat.beq ee 0) with
                    | false => rw [ho] at ha; simp at ha
                    | true =>
                      rw [ho] at ha
                      simp only [cond_true] at ha
                      simp only [Bool.and_eq_true, Nat.beq_eq] at ho
                      obtain ⟨rfl, rfl⟩ := ho
                      unfold appSo at ha
                      split at ha
                      · rename_i cs' wd hm
                        cases hq : (Nat.beq wd 1 && Nat.beq cs'.length len && cs'.all flatI) with
                        | false => rw [hq] at ha; simp at ha
                        | true =>
                          rw [hq] at ha
                          simp only [cond_true] at ha
                          simp only [Bool.and_eq_true, Nat.beq_eq] at hq
                          obtain ⟨⟨rfl, rfl⟩, hfl⟩ := hq
                          obtain ⟨e1, he1, hek, rfl⟩ := hs
                          obtain ⟨a, t, fr, c1, l0, ext, c2, c3, c4, c5, c6⟩ := x.cells hm he1
                          obtain ⟨q1, q2⟩ := flats_cc hfl c3
                          have hl : cs'.length = (ccs σ cs').length := by rw [q1, vrels_length c3]
                          rw [hl]
                          exact appWhole (ty := ty) G x A q2 n1 hm he1 c1 (by rw [q1]; exact c2) (by rw [c5 (by decide)]; simp) c6 n2 rfl n3 ha
                      · cases ha
                  · -- an exact one
                    rename_i m o len cap
                    cases hlc : Nat.beq len cap with
                    | false => rw [hlc] at ha; simp at ha
                    | true =>
                      rw [hlc] at ha
                      simp only [cond_true] at ha
                      have := Nat.eq_of_beq_eq_true hlc
                      subst this
                      cases hl : loadC h m o len with
                      | none => rw [hl] at ha; simp [appSl] at ha
                      | some l =>
                        rw [hl] at ha
                        simp only [appSl] at ha
                        cases hfl : l.all flatI with
                        | false => rw [hfl] at ha; simp at ha
                        | true =>
                          rw [hfl] at ha
                          simp only [cond_true] at ha
                          obtain ⟨e1, he1, rfl⟩ := hs
                          obtain ⟨cs0, l1, l2, l3⟩ := loadC_rel x hl he1
                          obtain ⟨q1, q2⟩ := flats_cc hfl l1
                          have hll : len = (ccs σ l).length := by rw [q1, l2]
                          rw [hll]
                          refine appOut (ty := ty) G x A q2 n1 n2 rfl ?_ ndrew (by omega) ha
                          simp only [Builtin.firstCells, Nat.mul_one]
                          exact run_loadCells_at (w := w.drew) (by rw [q1]; exact l3)
                  · -- a row
                    rename_i m i0 j0 xx
                    obtain ⟨e1, he1, hij, hj, hk1, rfl⟩ := hs
                    cases hro : rowI h m with
                    | none => rw [hro] at ha; simp [appRs] at ha
                    | some its =>
                      rw [hro] at ha
                      simp only [appRs] at ha
                      obtain ⟨hm, a, t, fr, hw, ext, g1, g2, g3, g4, g5⟩ := rowI_rel x hro he1
                      cases xx with
                      | true =>
                        simp only [cond_true] at ha ⊢
                        obtain ⟨k1, k2⟩ := rits_row (a := .rs m i0 j0 true) x ⟨e1, he1, hij, hj, hk1, rfl⟩ rfl (show rits h (.rs m i0 j0 true) = some (segI its i0 j0) by simp [rits, hro, segO])
                        have hL : offW e1.ws j0 - offW e1.ws i0 = (ccs σ (segI its i0 j0)).length := by rw [g3, off_seg its hij]; omega
                        rw [hL]
                        refine appOut (ty := ty) G x A (ioks_seg g2 _ _) n1 n2 rfl ?_ ndrew (by omega) ha
                        rcases k2 with ⟨q0, a0, kk, q1⟩ | ⟨b, o, kk, q1, q2⟩
                        · rw [q0]
                          simp [Builtin.firstCells, loadCells, loadCellsFrom, ccs_nil]
                        · simp only [Value.slice.injEq, Option.some.injEq, cond_true] at q1
                          obtain ⟨q3, _, _⟩ := q1
                          cases q3
                          simp only [Builtin.firstCells, Nat.mul_one]
                          exact run_loadCells_at (w := w.drew) q2
                      | false =>
                        simp only [cond_false] at ha ⊢
                        cases hq : (Nat.beq i0 0 && Nat.beq j0 its.length) with
                        | false => rw [hq] at ha; simp at ha
                        | true =>
                          rw [hq] at ha
                          simp only [cond_true] at ha
                          simp only [Bool.and_eq_true, Nat.beq_eq] at hq
                          obtain ⟨rfl, rfl⟩ := hq
                          have h00 : offW e1.ws 0 = 0 := by simp [offW]
                          have h11 : offW e1.ws its.length = (ccs σ its).length := by rw [g3, offW_eq, List.take_length]
                          rw [h00, h11]
                          simp only [Nat.sub_zero]
                          exact appWhole (ty := ty) G x A g2 n1 hm he1 hw g1 g4.symm g5 n2 rfl n3 ha
                  · cases ha
              · cases ha
  · cases ha
end
end Go.Ae
namespace Go.Ae
open Go

section
variable {P : Program} {σ : Sg} {gs : Nat} {ν : Nu} {h : AH} {w : World} {ω : Or} {ρ : Operand → Option AV} {r : Operand → Value}

theorem isZ8_rel {t : TypeId} (hz : isZ8 (zeroOf P t) = true) : ∀ w, (zeroValue t).run P w = .ok (.int .u8 0) w := by
  unfold isZ8 at hz
  split at hz
  · rename_i h1
    obtain ⟨v, h2, h3⟩ := run_zeroValue h1
    have := ofVal_rel (σ := ⟨fun _ => undef, 0, fun _ => []⟩) (ν := []) h2
    have e : v = .int .u8 0 := this
    rw [← e]
    exact h3
  · cases hz

theorem sMk_rel (G : OrOk P σ ω) (x : hrel σ gs ν h w) (hρ : Rho σ ν ρ r) {o : Oper} {t : TypeId} {a b : Operand} {va vb v : AV} {h' : AH} (ho : o.op = .makeSlice t a b) (ha : ρ a = some va) (hb : ρ b = some vb)
    (hop : sMk ω P t h va vb = some (v, h')) : OpOk P σ gs ν h w r o (.v v h') := by
  unfold sMk at hop
  split at hop
  · rename_i e he
    have hu := sliceEl_rel he
    cases hq : (AV.beq va vb && isZ8 (zeroOf P e)) with
    | false => rw [hq] at hop; simp at hop
    | true =>
      rw [hq] at hop
      simp only [cond_true] at hop
      simp only [Bool.and_eq_true] at hq
      obtain ⟨q1, q2⟩ := hq
      have := beq_eq q1
      subst this
      split at hop
      · rename_i bt hk hbt
        cases hb1 : Nat.ble bt 1000 with
        | false => rw [hb1] at hop; simp at hop
        | true =>
          rw [hb1] at hop
          simp only [cond_true] at hop
          have hbt1 := Nat.le_of_ble_eq_true hb1
          cases hl : ω.zl va with
          | none => rw [hl] at hop; simp [sMk1] at hop
          | some l =>
            rw [hl] at hop
            simp [sMk1] at hop
            obtain ⟨rfl, rfl⟩ := hop
            obtain ⟨n, kk, n1, n2, n3⟩ := G.zl hl (hρ a va ha)
            obtain ⟨_, kk2, m1, m2, _⟩ := G.zl hl (hρ b va hb)
            rw [n1] at m1
            cases m1
            obtain ⟨i, hi, hib⟩ := bytesOf_info hbt
            have hsz := run_sizeOf hk w
            have w1 := wrap_nat (n := n) (by omega)
            have hz := isZ8_rel q2 w
            let arr : Array Value := (Array.range n).map fun _ => Value.int .u8 0
            have harr : arr.toList = List.replicate n (.int .u8 0) := by
              apply List.ext_getElem?
              intro j
              simp only [arr, Array.toList_map, Array.toList_range, List.getElem?_map, List.getElem?_replicate]
              by_cases hj : j < n <;> simp [hj]
            let e' : NE := ⟨w.heap.size, n, 0, [n]⟩
            have hg : l.getD σ.i 0 = n := by simp [List.getD, n1]
            have hccs : ccs σ [.z l] = List.replicate n (.int .u8 0) := by simp only [ccs, List.flatMap_cons, List.flatMap_nil, List.append_nil, cc, hg]
            obtain ⟨g1, g2⟩ := x.alloc (e := e') (b := .r [.z l]) (o := .cells arr e) (w' := w.alloc (.cells arr e)) rfl rfl
              ⟨[], by rw [hccs, harr, List.append_nil], (fun u hu => by rw [List.mem_singleton] at hu; subst hu; exact ⟨fun h => absurd h (by simp [cellI]), fun l2 e2 => by cases e2; exact (List.getElem?_eq_some_iff.1 n1).1⟩), by simp only [e', widths, List.map_cons, List.map_nil, cc, List.length_replicate, hg], by simp [e', arr], notFrozen⟩
            refine ⟨_, _, _, ?_, g2, g1, ⟨e', by rw [← x.len]; simp, Nat.zero_le _, by simp [e'], by simp [e', offW], rfl⟩⟩
            have hmul : bt * n ≤ 1000 * 1000000 := Nat.mul_le_mul hbt1 n3
            have t1 : ¬ ((281474976710656 : Int) < (bt : Int) * (n : Int)) := by
              have h5 : ((bt * n : Nat) : Int) ≤ ((1000000000 : Nat) : Int) := Int.ofNat_le.2 hmul
              rw [Int.natCast_mul] at h5
              omega
            have hbi : (i.bytes : Int) = bt := by rw [hib]
            have t4 : ¬ ((n : Int) < 0) := by omega
            simp only [execOp, ho, Instr.makeSlice, Sem.run_bind, run_underlying hu, Result.andThen_ok, n2, m2, asInt, asIntOf, Sem.run_pure, typeInfo, run_program, hi]
            simp [w1, hbi, t1, t4, hsz, e', offW]
            by_cases h0 : n = 0
            · subst h0
              have e1 : ∀ f : Nat → Value, Array.map f (Array.range 0) = #[] := fun f => by apply Array.ext'; simp
              simp [run_newRow, arr, e1]
            · simp [h0, hz, run_newRow, arr, Value.cells]
              congr 2
              apply Array.map_congr_left
              intro x hx
              simp [Nat.mod_one]
      · cases hop
  · cases hop

theorem sRange_rel (x : hrel σ gs ν h w) {t : TypeId} {a v : AV} {c : Value} {h' : AH} (ha : vrel σ ν a c) (hr : sRange P t h a = some (v, h')) :
    ∃ c' w' ν', (Instr.range t c).run P w = .ok c' w' ∧ Ext ν h w ν' h' w' ∧ hrel σ gs ν' h' w' ∧ vrel σ ν' v c' := by
  unfold sRange at hr
  split at hr
  · rename_i l hu
    cases hc : l.all cellI with
    | false => rw [hc] at hr; simp at hr
    | true =>
      rw [hc] at hr
      simp at hr
      obtain ⟨rfl, rfl⟩ := hr
      obtain ⟨bs, rfl, h1, h2⟩ := ha
      obtain ⟨g1, g2, g3⟩ := obj_ok x (b := .sj l 0) (o := .stringIter ⟨bs.toArray⟩ 0) (fun _ => ⟨bs, rfl, h1, h2, hc, rfl⟩)
      exact ⟨_, _, _, by simp [Instr.range, run_underlying hu], g2, g1, g3⟩
  · cases hr

theorem sNext_rel (G : OrOk P σ ω) (x : hrel σ gs ν h w) {a v : AV} {c : Value} {h' : AH} {str : Bool} {ty : TypeId} (ha : vrel σ ν a c) (hr : sNext ω h a str = some (v, h')) :
    ∃ c' w', (Instr.next c str ty).run P w = .ok c' w' ∧ Ext ν h w ν h' w' ∧ hrel σ gs ν h' w' ∧ vrel σ ν v c' := by
  have over : vrel σ ν (.tu [.b false]) (.tuple #[.bool false]) := ⟨[.bool false], ⟨_, _, rfl, rfl, rfl⟩, rfl⟩
  unfold sNext at hr
  split at hr
  · rename_i n
    obtain ⟨e, he, rfl⟩ := ha
    split at hr
    · rename_i l pos hn
      obtain ⟨e', o, h1, h2, h3⟩ := x.dom n _ hn
      rw [he] at h1
      cases h1
      cases o <;> simp only [brel] at h3
      obtain ⟨bs, rfl, g1, g2, g3, rfl⟩ := h3
      rename_i pos
      have hlen : l.length = bs.length := by
        have := cells_len g3 g2
        rw [g1, List.length_map] at this
        exact this.symm
      have hg : (getObj e.b).run P w = .ok (.stringIter ⟨bs.toArray⟩ pos) w := by simp [getObj, Sem.run, h2]
      have hsz : (ByteArray.mk bs.toArray).size = bs.length := by simp [ByteArray.size]
      split at hr
      · rename_i hd
        simp at hr
        obtain ⟨rfl, rfl⟩ := hr
        have : ¬ (pos < bs.length) := by
          have := List.drop_eq_nil_iff.1 hd
          omega
        exact ⟨_, w, by simp [Instr.next, hg, hsz, this], Ext.refl _ _ _, x, over⟩
      · rename_i u rest hd
        have hu : l[pos]? = some u := by have := congrArg (·[0]?) hd; simpa using this
        cases has : ω.ru u with
        | none => rw [has] at hr; simp [sNext1] at hr
        | some c =>
          rw [has] at hr
          simp [sNext1] at hr
          obtain ⟨rfl, rfl⟩ := hr
          have hmem := List.mem_of_getElem? hu
          obtain ⟨c0, k1, k2⟩ := (g2 u hmem).1 (List.all_eq_true.1 g3 u hmem)
          have e1 := split_at (σ := σ) hu
          have htk : (ccs σ (l.take pos)).length = pos := by
            rw [cells_len (List.all_eq_true.2 fun y hy => List.all_eq_true.1 g3 y (List.mem_of_mem_take hy)) (ioks_take g2 pos)]
            have := (List.getElem?_eq_some_iff.1 hu).1
            simp
            omega
          have hget : (bs.map byteV)[pos]? = some c0 := by
            rw [← g1, e1, List.getElem?_append_right (by omega), htk, k1]
            simp
          rw [List.getElem?_map] at hget
          obtain ⟨b, hb, rfl⟩ := Option.map_eq_some_iff.1 hget
          obtain ⟨hlt, hc⟩ := G.ru has k1
          have hpos : pos < bs.length := (List.getElem?_eq_some_iff.1 hb).1
          have hdec := decode_ascii hb hlt
          obtain ⟨m1, m2⟩ := iter_ok x (b := .sj l (pos + 1)) (o' := .stringIter ⟨bs.toArray⟩ (pos + 1)) hn he h2 ⟨bs, rfl, g1, g2, g3, rfl⟩
          refine ⟨_, _, ?_, m2, m1, ⟨[.bool true, goInt pos, .int .i32 b.toNat], ⟨_, _, rfl, ⟨_, _, rfl, ⟨_, _, hc ν, rfl, rfl⟩, rfl⟩, rfl⟩, rfl⟩⟩
          have hset : (setObj e.b (.stringIter ⟨bs.toArray⟩ (pos + 1))).run P w = .ok () { w with heap := w.heap.setIfInBounds e.b (.stringIter ⟨bs.toArray⟩ (pos + 1)) } := by simp [setObj, Sem.run, h2]
          simp [Instr.next, hg, hsz, hpos, hdec, hset]
    · cases hr
  · cases hr

theorem opS_sound (G : OrOk P σ ω) (x : hrel σ gs ν h w) (hρ : Rho σ ν ρ r) {o : Oper} {R' : R} (hop : opS ω P ρ h o.op = some R') : OpOk P σ gs ν h w r o R' := by
  have hv := opS_isV hop
  cases R' <;> simp [R.isV] at hv
  rename_i v h'
  cases hkd : kind P o with
  | pur =>
    obtain ⟨rfl, c, h1, h2⟩ := opS_pur G x hρ hkd hop
    exact ⟨c, w, ν, h2 w, Ext.refl _ _ _, x, h1⟩
  | rd =>
    obtain ⟨rfl, c, h1, h2⟩ := opS_rd G x hρ hkd hop
    exact ⟨c, w, ν, h2, Ext.refl _ _ _, x, h1⟩
  | slc =>
    obtain ⟨ν', c, h1, h2, h3⟩ := opS_slc G x hρ hkd hop
    rcases h1 with ⟨rfl, rfl⟩ | ⟨e, rfl, rfl⟩
    · exact ⟨c, w, _, h3 w, Ext.refl _ _ _, x, h2⟩
    · obtain ⟨k1, k2⟩ := x.name e
      exact ⟨c, w, _, h3 w, k2, k1, h2⟩
  | bs =>
    obtain ⟨dst, op, type, pos, after, guard⟩ := o
    cases op <;> simp only [opS] at hop <;> (try (cases hop; done))
    all_goals first
      | (simp [kind] at hkd; done)
      | (simp only [kind] at hkd; split at hkd <;> simp at hkd; done)
      | skip
    case call c =>
      obtain ⟨callee, args, ats⟩ := c
      cases callee <;> simp only [kind] at hkd <;> (try (cases hkd; done))
      rename_i b
      cases b <;> simp only [kindB] at hkd <;> (try (cases hkd; done))
      repeat' split at hkd
      all_goals cases hkd
  | eff =>
    obtain ⟨dst, op, type, pos, after, guard⟩ := o
    cases op <;> simp only [opS] at hop <;> (try (cases hop; done))
    case binOp => simp only [kind] at hkd; split at hkd <;> simp at hkd
    case unOp => simp [kind] at hkd
    case index => simp [kind] at hkd
    case indexAddr => simp [kind] at hkd
    case slice => simp [kind] at hkd
    case load => simp [kind] at hkd
    case convert s d y =>
      exfalso
      obtain ⟨h1, _⟩ := o1_some hop
      obtain ⟨va, ha, h2⟩ := opt1_some h1
      rcases sConv_rel G x (hρ y va ha) h2 with ⟨hd, _⟩ | ⟨⟨hd1, hd2⟩, _⟩
      · simp only [kind] at hkd; rw [hd] at hkd; simp at hkd
      · simp only [kind] at hkd
        cases hkd
    case makeSlice t a b =>
      obtain ⟨v', h'', h1, e⟩ := o2_some hop
      cases e
      obtain ⟨va, vb, ha, hb, h2⟩ := opt2h_some h1
      exact sMk_rel G x hρ rfl ha hb h2
    case range t y =>
      obtain ⟨v', h'', h1, e⟩ := o2_some hop
      cases e
      obtain ⟨va, ha, h2⟩ := opt1h_some h1
      obtain ⟨c, w', ν', g1, g2, g3, g4⟩ := sRange_rel x (hρ y va ha) h2
      exact ⟨c, w', ν', by simp [execOp, g1], g2, g3, g4⟩
    case next y str =>
      obtain ⟨v', h'', h1, e⟩ := o2_some hop
      cases e
      obtain ⟨va, ha, h2⟩ := opt1h_some h1
      obtain ⟨c, w', g1, g2, g3, g4⟩ := sNext_rel (P := P) (ty := type) G x (hρ y va ha) h2
      exact ⟨c, w', ν, by simp [execOp, g1], g2, g3, g4⟩
    case call c =>
      obtain ⟨callee, args, ats⟩ := c
      have harr : (args.map r) = (args.toList.map r).toArray := by rw [← List.map_toArray]
      cases callee <;> simp only [sCall] at hop <;> (try (cases hop; done))
      rename_i b
      cases h2 : evs ρ args.toList with
      | none => rw [h2] at hop; simp [sBuO] at hop
      | some vs =>
        rw [h2] at hop
        simp only [sBuO] at hop
        have g4 := evs_rel hρ h2
        generalize args.toList.map r = cs at g4 harr
        cases b <;> simp only [sBu] at hop <;> (try (cases hop; done))
        case append =>
          split at hop
          · rename_i st xt s y h5 h6
            obtain ⟨c1, _, k1, ⟨c2, _, k2, k3, rfl⟩, rfl⟩ := g4
            rw [show _ = [] from k3] at harr
            cases hpl : plainTy P xt with
            | false => rw [hpl] at hop; simp at hop
            | true =>
              rw [hpl] at hop
              simp only [cond_true] at hop
              obtain ⟨v', h'', h4, e⟩ := o2_some hop
              cases e
              obtain ⟨c, w', ν', g1, g2, g3, g5⟩ := sApp_rel (ty := type) G x h5 h6 hpl k1 k2 h4
              exact ⟨c, w', ν', by simp [execOp, resolve, invoke, builtin, harr, g1], g2, g3, g5⟩
          · cases hop
        case len =>
          exfalso
          split at hop
          · rename_i t y h5
            obtain ⟨h1, _⟩ := o1_some hop
            simp only [kind, kindB] at hkd
            rw [h5] at hkd
            simp only at hkd
            repeat' split at hkd
            all_goals cases hkd
          · cases hop

/-! ### Both forms -/

theorem opX_cases {o : Op} {R' : R} (hop : opX ω P ρ h o = some R') : opD P ρ h o = some R' ∨ opS ω P ρ h o = some R' := by
  unfold opX at hop
  cases hd : opD P ρ h o with
  | some x => rw [hd] at hop; exact .inl hop
  | none => rw [hd] at hop; exact .inr hop

theorem opX_isV {o : Oper} {R' : R} (hk : kind P o = .pur ∨ kind P o = .rd ∨ kind P o = .slc) (hop : opX ω P ρ h o.op = some R') : R'.isV = true := by
  rcases opX_cases hop with h1 | h1
  · exact opD_isV hk h1
  · exact opS_isV h1

theorem opX_pur (G : OrOk P σ ω) (x : hrel σ gs ν h w) (hρ : Rho σ ν ρ r) {o : Oper} {h' : AH} {v : AV} (hk : kind P o = .pur) (hop : opX ω P ρ h o.op = some (.v v h')) : h' = h ∧ Pur P σ ν r o v := by
  rcases opX_cases hop with h1 | h1
  · exact op_pur hk hρ h1
  · exact opS_pur G x hρ hk h1

theorem opX_rd (G : OrOk P σ ω) (x : hrel σ gs ν h w) (hρ : Rho σ ν ρ r) {o : Oper} {h' : AH} {v : AV} (hk : kind P o = .rd) (hop : opX ω P ρ h o.op = some (.v v h')) :
    h' = h ∧ ∃ c, vrel σ ν v c ∧ (execOp r o).run P w = .ok (.value c) w := by
  rcases opX_cases hop with h1 | h1
  · exact op_rd x hk hρ h1
  · exact opS_rd G x hρ hk h1

theorem opX_slc (G : OrOk P σ ω) (x : hrel σ gs ν h w) (hρ : Rho σ ν ρ r) {o : Oper} (hk : kind P o = .slc) {v : AV} {h' : AH} (hop : opX ω P ρ h o.op = some (.v v h')) :
    ∃ ν' c, Named ν h ν' h' ∧ vrel σ ν' v c ∧ ∀ w, (execOp r o).run P w = .ok (.value c) w := by
  rcases opX_cases hop with h1 | h1
  · exact slc_rel x hρ hk h1
  · exact opS_slc G x hρ hk h1

theorem opX_sound (G : OrOk P σ ω) (x : hrel σ gs ν h w) (hρ : Rho σ ν ρ r) {o : Oper} {R' : R} (hop : opX ω P ρ h o.op = some R') : OpOk P σ gs ν h w r o R' := by
  rcases opX_cases hop with h1 | h1
  · exact op_sound x hρ h1
  · exact opS_sound G x hρ h1

end
end Go.Ae
