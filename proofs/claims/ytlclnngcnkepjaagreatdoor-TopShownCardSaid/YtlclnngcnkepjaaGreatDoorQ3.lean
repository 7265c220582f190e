/- A part of the proof of the law of TopAcross: AeP, AeQ, AeR, AeS, AeT, AeU, AeV, AeW. -/
import Derived.Test.YtlclnngcnkepjaaGreatDoorQ2
import Derived.Tactics
import Derived.OrdersHeld
namespace Go.Ae
open Go

section
variable (σ : Sg) (ν : Nu)

def trel (t : Tr AV) (tm : Array Value) : Prop := ∀ x v, t.get x = some v → ∃ c, tm[x]? = some c ∧ vrel σ ν v c

def drel1 (_P : Program) (x : Nat × List AV) (d : Deferred) : Prop := ∃ fv cap cs, d.target = .fn fv cap ∧ vrels σ ν x.2 cs ∧ invoke d.target d.args = callFunc x.1 cs.toArray

def drel (P : Program) : List (Nat × List AV) → List Deferred → Prop
  | [], ds => ds = []
  | x :: r, ds => ∃ d ds', drel1 σ ν P x d ∧ drel P r ds' ∧ ds = d :: ds'

structure srel (P : Program) (gs n : Nat) (s : St) (a : Act) (w : World) : Prop where
  h : hrel σ gs ν s.h w
  t : trel σ ν s.t a.tmps
  n : n ≤ a.tmps.size
  d : drel σ ν P s.d a.defers
end

section
variable {σ : Sg} {ν ν' : Nu} {P : Program} {gs n : Nat} {s s' : St} {a : Act} {w w' : World}

theorem trel_mono (μ : Nu) {t : Tr AV} {tm : Array Value} (x : trel σ ν t tm) : trel σ (ν ++ μ) t tm := fun i v hv => by
  obtain ⟨c, h1, h2⟩ := x i v hv
  exact ⟨c, h1, vrel_mono μ v c h2⟩

theorem drel_mono (μ : Nu) : ∀ {l : List (Nat × List AV)} {ds : List Deferred}, drel σ ν P l ds → drel σ (ν ++ μ) P l ds
  | [], _, h => h
  | _ :: _, _, ⟨d, ds, ⟨fv, cap, cs, h1, h2, h3⟩, h4, e⟩ => ⟨d, ds, ⟨fv, cap, cs, h1, vrels_mono μ _ _ h2, h3⟩, drel_mono μ h4, e⟩

theorem srel.rho (x : srel σ ν P gs n s a w) : Rho σ ν (ev gs s.t) a.eval := by
  intro y v hy
  cases y with
  | tmp t =>
    obtain ⟨c, h1, h2⟩ := x.t t v hy
    simp only [Act.eval]
    simpa [h1] using h2
  | const c => exact ofVal_rel hy
  | global g =>
    simp only [ev] at hy
    cases hb : Nat.blt g gs with
    | false => rw [hb] at hy; simp at hy
    | true =>
      rw [hb] at hy
      simp at hy
      subst hy
      obtain ⟨e, h1, h2⟩ := x.h.gl g (by simp [Nat.blt] at hb; omega)
      exact ⟨e, h1, by simp [Act.eval, h2]⟩
  | func f =>
    simp [ev] at hy
    subst hy
    exact ⟨[], [], rfl, rfl, rfl⟩

/-- A temporary is put. -/
theorem putT_ok {t : Tr AV} {h' : AH} {d : List (Nat × List AV)} {dst : Option Tmp} {v : AV} {c : Value} (hp : putT n t h' d dst v = some s') (ht : trel σ ν t a.tmps) (hn : n ≤ a.tmps.size)
    (hd : drel σ ν P d a.defers) (hh : hrel σ gs ν h' w) (hv : vrel σ ν v c) : srel σ ν P gs n s' (a.put dst c) w ∧ s'.h = h' := by
  unfold putT at hp
  split at hp
  · simp at hp
    subst hp
    exact ⟨⟨hh, ht, hn, hd⟩, rfl⟩
  · rename_i x
    cases hb : Nat.blt x n with
    | false => rw [hb] at hp; simp at hp
    | true =>
      rw [hb] at hp
      simp at hp
      subst hp
      have hlt : @LT.lt Nat _ x a.tmps.size := by simp [Nat.blt] at hb; exact Nat.lt_of_lt_of_le hb hn
      refine ⟨⟨hh, fun y u hy => ?_, by simpa [Act.put] using hn, by simpa [Act.put] using hd⟩, rfl⟩
      simp only at hy
      rw [Tr.get_set_eq] at hy
      split at hy
      · rename_i e
        subst e
        cases hy
        exact ⟨c, by simp [Act.put, hlt], hv⟩
      · rename_i e
        obtain ⟨c', h1, h2⟩ := ht y u hy
        exact ⟨c', by simp [Act.put, Array.getElem?_setIfInBounds_ne e, h1], h2⟩

theorem want_ok {ops : Array Oper} {o : Oper} {b : Bool} (x : trel σ ν s.t a.tmps) (hw : want ops s.t o = some b) : Region.wanted o (yielded ops a.tmps) = b := by
  unfold want at hw
  unfold Region.wanted
  split at hw
  · rename_i hg; simp at hw; subst hw; rw [hg]
  · rename_i j wv hg
    rw [hg]
    simp only
    split at hw
    · rename_i oj hj
      split at hw
      · rename_i d hd
        have hy : ∀ c, a.tmps[d]? = some c → yielded ops a.tmps j = (match c with | .bool b => some b | _ => none) := by
          intro c hc
          simp only [yielded, hj, hd, Option.bind_some, hc]
          cases c <;> rfl
        split at hw
        · rename_i y ht
          simp at hw
          obtain ⟨c, h1, h2⟩ := x d _ ht
          rw [hy c h1, show c = _ from h2]
          simp [← hw]
        · rename_i l ht
          simp at hw
          obtain ⟨c, h1, h2⟩ := x d _ ht
          obtain ⟨cs, _, rfl⟩ := h2
          rw [hy _ h1]
          subst hw
          rfl
        · cases hw
      · cases hw
    · cases hw

/-- What is known of the program, and of what is given. -/
structure Good (C : Cfg) (σ : Sg) : Prop where
  or : OrOk C.P σ C.ω
  follows : C.P.follows .mixedOrders = true
  plain : ∀ (f : Nat) (fn : Func), C.P.funcs[f]? = some fn → fn.name ≠ "runtime.NumGoroutine"
  spec : ∀ f g args h v h', C.spec f = some g → g args h = some (v, h') → (∃ fn c, C.P.funcs[f]? = some fn ∧ fn.body = some c) ∧ ∀ ν w cs, hrel σ C.gs ν h w → vrels σ ν args cs →
    Calls C.P f cs.toArray w fun e w' => ∃ c ν', e = .returned c ∧ Ext ν h w ν' h' w' ∧ hrel σ C.gs ν' h' w' ∧ vrel σ ν' v c
  ext : ∀ f g args v, C.ext f = some g → g args = some v → ∀ ν w cs, vrels σ ν args cs → ∃ c, (callFunc f cs.toArray).run C.P w = .ok (.value c) w ∧ vrel σ ν v c

def CallOk (C : Cfg) (σ : Sg) (rec : Rec) : Prop := ∀ f args h v h', call C rec f args h = some (v, h') → (∃ fn c, C.P.funcs[f]? = some fn ∧ fn.body = some c) ∧ ∀ ν w cs, hrel σ C.gs ν h w → vrels σ ν args cs →
    Calls C.P f cs.toArray w fun e w' => ∃ c ν', e = .returned c ∧ Ext ν h w ν' h' w' ∧ hrel σ C.gs ν' h' w' ∧ vrel σ ν' v c

theorem run_callFunc {P : Program} {f : Nat} {fn : Func} {c : Code} {args : Array Value} (hf : P.funcs[f]? = some fn) (hb : fn.body = some c) (hn : fn.name ≠ "runtime.NumGoroutine") (w : World) :
    (callFunc f args).run P w = .ok (.enter f args) w := by
  simp [callFunc, hf, hb, hn]

variable {C : Cfg} {rec : Rec}

/-- An operation, carried out or not. -/
theorem opW_ok (G : Good C σ) (hC : CallOk C σ rec) {ops : Array Oper} {o : Oper} (x : srel σ ν C.P C.gs n s a w) (hop : opW C rec n ops o s = some s') {K : Act → World → Prop} {Q : Exit → Act → World → Prop}
    (hK : ∀ c ds w' ν', Ext ν s.h w ν' s'.h w' → srel σ ν' C.P C.gs n s' (({ a with defers := ds } : Act).put o.dst c) w' → K (({ a with defers := ds } : Act).put o.dst c) w') :
    if Region.wanted o (yielded ops a.tmps) then o.wp C.P a w K Q else K (a.put o.dst undef) w := by
  obtain ⟨t, h, d⟩ := s
  simp only [opW] at hop
  cases hwant : want ops t o with
  | none => rw [hwant] at hop; simp [opG] at hop
  | some b =>
    rw [hwant] at hop
    rw [want_ok x.t hwant]
    cases b with
    | false =>
      simp only [opG, skipE] at hop
      simp only [Bool.false_eq_true, if_false]
      obtain ⟨h1, h2⟩ := putT_ok (c := undef) hop x.t x.n x.d x.h ⟨[], rfl, rfl⟩
      exact hK undef a.defers _ ν (by rw [h2]; exact Ext.refl _ _ _) h1
    | true =>
      simp only [opG, opE] at hop
      simp only [if_true]
      cases hR : op C.ω C.P C.gs t h o with
      | none => rw [hR] at hop; simp [opR] at hop
      | some R' =>
        rw [hR] at hop
        have hs := opX_sound G.or x.h x.rho (o := o) hR
        unfold Oper.wp
        cases R' with
        | v y h' =>
          obtain ⟨c, w', ν', g1, g2, g3, g4⟩ := hs
          rw [g1]
          simp only [opR] at hop
          obtain ⟨μ, rfl⟩ := g2.pre
          obtain ⟨h1, h2⟩ := putT_ok hop (trel_mono μ x.t) x.n (drel_mono μ x.d) g3 g4
          exact hK c a.defers _ _ (by rw [h2]; exact g2) h1
        | sk h' =>
          obtain ⟨w', ν', g1, g2, g3⟩ := hs
          rw [g1]
          simp only [opR] at hop
          obtain ⟨μ, rfl⟩ := g2.pre
          obtain ⟨h1, h2⟩ := putT_ok (c := undef) hop (trel_mono μ x.t) x.n (drel_mono μ x.d) g3 ⟨[], rfl, rfl⟩
          exact hK undef a.defers _ _ (by rw [h2]; exact g2) h1
        | df f args =>
          obtain ⟨d', fv, cap, cs, g1, g2, g3, g4⟩ := hs
          rw [g1]
          simp only [opR] at hop
          obtain ⟨h1, h2⟩ := putT_ok (a := { a with defers := d' :: a.defers }) (c := undef) hop x.t x.n ⟨d', a.defers, ⟨fv, cap, cs, g2, g3, g4⟩, x.d, rfl⟩ x.h ⟨[], rfl, rfl⟩
          exact hK undef (d' :: a.defers) _ ν (by rw [h2]; exact Ext.refl _ _ _) h1
        | call f args =>
          obtain ⟨cs, g1, g2⟩ := hs
          simp only [opR] at hop
          rw [g2]
          cases hext : C.ext f with
          | some g =>
            rw [hext] at hop
            simp only [callE] at hop
            cases hg : g args with
            | none => rw [hg] at hop; simp [withH, putR] at hop
            | some v =>
              rw [hg] at hop
              simp only [withH, putR] at hop
              obtain ⟨c, k1, k2⟩ := G.ext f g args v hext hg ν w cs g1
              rw [k1]
              obtain ⟨h1, h2⟩ := putT_ok hop x.t x.n x.d x.h k2
              exact hK c a.defers _ ν (by rw [h2]; exact Ext.refl _ _ _) h1
          | none =>
            rw [hext] at hop
            simp only [callE] at hop
            cases hcall : call C rec f args h with
            | none => rw [hcall] at hop; simp [putR] at hop
            | some y =>
              obtain ⟨v, h'⟩ := y
              rw [hcall] at hop
              simp only [putR] at hop
              obtain ⟨⟨fn, c0, f1, f2⟩, hcalls⟩ := hC f args h v h' hcall
              rw [run_callFunc f1 f2 (G.plain f fn f1) w]
              refine (hcalls ν w cs x.h g1).mono ?_
              rintro e w' ⟨c, ν', rfl, k1, k2, k3⟩
              obtain ⟨μ, rfl⟩ := k1.pre
              obtain ⟨h1, h2⟩ := putT_ok hop (trel_mono μ x.t) x.n (drel_mono μ x.d) k2 k3
              exact hK c a.defers _ _ (by rw [h2]; exact k1) h1

/-- How code ends. -/
def exOf : Ex → Exit
  | .nrm => .normal
  | .ex id => .exit id
  | .gt l => .goto l
  | .ret => .ret

def Post (C : Cfg) (σ : Sg) (ν : Nu) (h : AH) (w : World) (n : Nat) (y : Ex × St) : Exit → Act → World → Prop :=
  fun e a' w' => e = exOf y.1 ∧ ∃ ν', Ext ν h w ν' y.2.h w' ∧ srel σ ν' C.P C.gs n y.2 a' w'

theorem aops_ok (G : Good C σ) (hC : CallOk C σ rec) {ops : Array Oper} {ν0 : Nu} {h0 : AH} {w0 : World} : ∀ {l : List Oper} {s s' : St} {a : Act} {w : World} {ν : Nu}, Ext ν0 h0 w0 ν s.h w → srel σ ν C.P C.gs n s a w →
    aops C rec n ops l s = some s' → wpList C.P ops (Post C σ ν0 h0 w0 n (.nrm, s')) l a w
  | [], s, s', a, w, ν, hE, x, h => by
    simp [aops] at h
    subst h
    exact ⟨rfl, ν, hE, x⟩
  | o :: l, s, s', a, w, ν, hE, x, h => by
    simp only [aops] at h
    split at h
    · rename_i s1 h1
      exact wpList_step fun K hK => opW_ok G hC x h1 fun c ds w' ν' hE' hs => hK _ _ (aops_ok G hC (hE.trans hE') hs h)
    · cases h

/-! ### Results -/

theorem loadP_rel {h : AH} (x : hrel σ gs ν h w) {ty : TypeId} {t : Tr AV} {tm : Array Value} (ht : trel σ ν t tm) {y : Tmp} {v : AV} (hv : loadP P ty h (asP (t.get y)) = some v) :
    ∃ c, vrel σ ν v c ∧ (do loadVar ty (← asAddr (tm.getD y undef)) : Sem Value).run P w = .ok c w := by
  cases hp : asP (t.get y) with
  | none => rw [hp] at hv; simp [loadP] at hv
  | some p =>
    rw [hp] at hv
    simp only [loadP] at hv
    unfold asP at hp
    split at hp
    · rename_i m o hg
      simp at hp
      subst hp
      obtain ⟨c0, h1, e, he, rfl⟩ := ht y _ hg
      obtain ⟨c, h2, h3⟩ := loadT_rel x hv he
      refine ⟨c, h2, ?_⟩
      simp [h1, asAddr, h3]
    · cases hp

theorem resA_rel {h : AH} (x : hrel σ C.gs ν h w) {t : Tr AV} {tm : Array Value} (ht : trel σ ν t tm) (f : ResultVar → Sem Value) (f1 : ∀ y, f (.tmp y) = pure (tm.getD y undef))
    (f2 : ∀ y ty, f (.cell y ty) = do loadVar ty (← asAddr (tm.getD y undef))) : ∀ {l : List ResultVar} {vs : List AV}, resA C t h l = some vs → ∃ cs, vrels σ ν vs cs ∧ (l.mapM f).run C.P w = .ok cs w
  | [], vs, h => by
    simp [resA] at h
    subst h
    exact ⟨[], rfl, by simp⟩
  | y :: l, vs, hr => by
    simp only [resA] at hr
    cases hv : resV C t h y with
    | none => rw [hv] at hr; simp [cons1] at hr
    | some v =>
      cases hl : resA C t h l with
      | none => rw [hv, hl] at hr; simp [cons1] at hr
      | some vs' =>
        rw [hv, hl] at hr
        simp [cons1] at hr
        subst hr
        obtain ⟨cs, h1, h2⟩ := resA_rel x ht f f1 f2 hl
        have one : ∃ c, vrel σ ν v c ∧ (f y).run C.P w = .ok c w := by
          cases y with
          | tmp z =>
            obtain ⟨c, k1, k2⟩ := ht z v hv
            exact ⟨c, k2, by rw [f1]; simp [k1]⟩
          | cell z ty =>
            obtain ⟨c, k1, k2⟩ := loadP_rel (P := C.P) x ht hv
            exact ⟨c, k1, by rw [f2]; exact k2⟩
        obtain ⟨c, k1, k2⟩ := one
        exact ⟨c :: cs, ⟨c, cs, k1, h1, rfl⟩, by simp only [List.mapM_cons, Sem.run_bind, k2, Result.andThen_ok, h2, Sem.run_pure]⟩

theorem results_rel {h : AH} (x : hrel σ C.gs ν h w) {t : Tr AV} {tm : Array Value} (ht : trel σ ν t tm) {fn : Func} {v : AV} (hr : results C fn t h = some v) :
    ∃ c, vrel σ ν v c ∧ (Go.results fn tm).run C.P w = .ok c w := by
  unfold results at hr
  cases hl : resA C t h fn.results.toList with
  | none => rw [hl] at hr; simp [res1] at hr
  | some vs =>
    rw [hl] at hr
    obtain ⟨cs, h1, h2⟩ := resA_rel x ht (fun
      | .tmp t => pure (tm.getD t undef)
      | .cell a t => do loadVar t (← asAddr (tm.getD a undef))) (fun _ => rfl) (fun _ _ => rfl) hl
    have hrun : (Go.results fn tm).run C.P w = .ok (if h : cs.toArray.size = 1 then cs.toArray[0] else .tuple cs.toArray) w := by
      unfold Go.results
      rw [Array.mapM_eq_mapM_toList]
      simp only [Sem.run_bind, Sem.run_map, Sem.run_pure]
      refine Eq.trans (congrArg (fun z : Result (List Value) => Result.andThen (Result.andThen z fun a w' => Result.ok a.toArray w') fun vs w' => Result.ok (if h : vs.size = 1 then vs[0] else .tuple vs) w') h2) ?_
      rfl
    rw [hrun]
    unfold res1 at hr
    split at hr
    · rename_i v' hv
      cases hv
      simp at hr
      subst hr
      obtain ⟨c, _, k1, k2, rfl⟩ := h1
      rw [show _ = [] from k2]
      exact ⟨c, k1, rfl⟩
    · rename_i l hne hv
      cases hv
      simp at hr
      subst hr
      have : ¬ (cs.toArray.size = 1) := by
        intro e
        have h3 := vrels_length h1
        simp only [List.size_toArray] at e
        rw [e] at h3
        obtain ⟨v', hv'⟩ := List.length_eq_one_iff.1 h3.symm
        exact hne v' (by rw [hv'])
      rw [dif_neg this]
      exact ⟨_, ⟨cs, h1, rfl⟩, rfl⟩
    · rename_i hv; cases hv

end
end Go.Ae
namespace Go.Ae
open Go

def items : Option Code → List Item → List Item
  | none, k => k
  | some bd, k => .inScope bd :: k

structure RecOk (C : Cfg) (σ : Sg) (rec : Rec) : Prop where
  main : ∀ sc n c s y, rec sc n c s = some y → ∀ ν a w, srel σ ν C.P C.gs n s a w → ∀ (b : Frame) (k : List Item) (cs : List Frame),
    ∃ e a' w', Post C σ ν s.h w n y e a' w' ∧ Arrives C.P (lone (b.at a (.code c :: items sc k)) cs w) b k cs e a' w'
  loop : ∀ n bd s y, rec none n (.loop bd) s = some y → ∀ ν a w, srel σ ν C.P C.gs n s a w → ∀ (b : Frame) (k : List Item) (cs : List Frame),
    ∃ e a' w', Post C σ ν s.h w n y e a' w' ∧ Arrives C.P (lone (b.at a (.inLoop bd :: k)) cs w) b k cs e a' w'

section
variable {σ : Sg} {C : Cfg} {rec : Rec}

theorem mkT_get : ∀ (l : List AV) (k : Nat) (t : Tr AV) (x : Nat) (v : AV), (mkT k l t).get x = some v → (k ≤ x ∧ l[x - k]? = some v) ∨ t.get x = some v
  | [], _, _, _, _, h => .inr h
  | y :: l, k, t, x, v, h => by
    rcases mkT_get l (k + 1) (t.set k (some y)) x v h with ⟨h1, h2⟩ | h1
    · refine .inl ⟨by omega, ?_⟩
      rw [show x - k = (x - (k + 1)) + 1 by omega]
      simpa using h2
    · rw [Tr.get_set_eq] at h1
      split at h1
      · rename_i e
        subst e
        cases h1
        exact .inl ⟨Nat.le_refl _, by simp⟩
      · exact .inr h1

theorem vrels_get {ν : Nu} : ∀ {l : List AV} {cs : List Value} {i : Nat} {v : AV}, vrels σ ν l cs → l[i]? = some v → ∃ c, cs[i]? = some c ∧ vrel σ ν v c
  | [], _, _, _, _, h => by simp at h
  | _ :: _, _, 0, _, ⟨c, cs, h1, h2, e⟩, h => by simp at h; subst h e; exact ⟨c, rfl, h1⟩
  | _ :: _, _, i + 1, _, ⟨c, cs, h1, h2, e⟩, h => by
    subst e
    obtain ⟨c', g1, g2⟩ := vrels_get h2 (by simpa using h)
    exact ⟨c', by simpa using g1, g2⟩

theorem enter_ok {ν : Nu} {h : AH} {w : World} (x : hrel σ C.gs ν h w) {args : List AV} {cs : List Value} (hc : vrels σ ν args cs) (m : Nat) :
    srel σ ν C.P C.gs (Nat.max args.length m) ⟨mkT 0 args .e, h, []⟩ { tmps := cs.toArray ++ Array.replicate (m - cs.toArray.size) undef, defers := [] } w := by
  refine ⟨x, fun i v hv => ?_, ?_, rfl⟩
  · rcases mkT_get _ _ _ _ _ hv with ⟨_, h1⟩ | h1
    · obtain ⟨c, h2, h3⟩ := vrels_get hc h1
      refine ⟨c, ?_, h3⟩
      simp only [Nat.sub_zero] at h2
      have hlt := (List.getElem?_eq_some_iff.1 h2).1
      rw [Array.getElem?_append_left (by simpa using hlt)]
      simpa using h2
    · rw [Tr.get_e] at h1; cases h1
  · have := vrels_length hc
    simp only [Array.size_append, Array.size_replicate, List.size_toArray, this]
    show max _ _ ≤ _
    omega

theorem body_of {f : Nat} {args : List AV} {h : AH} {fn : Func} {s : St} (hb : body C rec f args h = some (fn, s)) :
    ∃ c x, C.P.funcs[f]? = some fn ∧ fn.body = some c ∧ (x = .nrm ∨ x = .ret) ∧ rec none (Nat.max args.length fn.ntmps) c ⟨mkT 0 args .e, h, []⟩ = some (x, s) := by
  unfold body at hb
  cases hf : C.P.funcs[f]? with
  | none => rw [hf] at hb; simp [body1] at hb
  | some fn' =>
    rw [hf] at hb
    simp only [body1] at hb
    cases hbd : fn'.body with
    | none => rw [hbd] at hb; simp [bodyF] at hb
    | some c =>
      rw [hbd] at hb
      simp only [bodyF] at hb
      unfold ended at hb
      split at hb
      · rename_i s' hr
        simp at hb
        obtain ⟨rfl, rfl⟩ := hb
        exact ⟨c, .nrm, rfl, hbd, .inl rfl, hr⟩
      · rename_i s' hr
        simp at hb
        obtain ⟨rfl, rfl⟩ := hb
        exact ⟨c, .ret, rfl, hbd, .inr rfl, hr⟩
      · cases hb

/-- A body, up to its end. -/
theorem body_wp (R : RecOk C σ rec) {args : List AV} {h : AH} {fn : Func} {s : St} {c : Code} {x : Ex} (hr : rec none (Nat.max args.length fn.ntmps) c ⟨mkT 0 args .e, h, []⟩ = some (x, s)) (hx : x = .nrm ∨ x = .ret)
    {ν : Nu} {w : World} {cs : List Value} (hh : hrel σ C.gs ν h w) (hc : vrels σ ν args cs) {Q : Exit → Act → World → Prop}
    (hQ : ∀ e a' w' ν', (e = .normal ∨ e = .ret) → Ext ν h w ν' s.h w' → srel σ ν' C.P C.gs (Nat.max args.length fn.ntmps) s a' w' → Q e a' w') :
    c.wp C.P Q { tmps := cs.toArray ++ Array.replicate (fn.ntmps - cs.toArray.size) undef, defers := [] } w := by
  intro b k fs
  obtain ⟨e, a', w', ⟨h1, ν', h2, h3⟩, h4⟩ := R.main none _ c _ _ hr ν _ w (enter_ok hh hc fn.ntmps) b k fs
  refine ⟨e, a', w', hQ e a' w' ν' ?_ h2 h3, h4⟩
  rcases hx with rfl | rfl
  · exact .inl h1
  · exact .inr h1

theorem noSpec_iff {f : Nat} (h : noSpec C f = true) : C.spec f = none := by
  unfold noSpec at h
  split at h
  · cases h
  · assumption

theorem defers_ok (G : Good C σ) (R : RecOk C σ rec) {fn : Func} {t : Tr AV} {tm : Array Value} {v : AV} {h' : AH} {ν0 : Nu} {h0 : AH} {w0 : World} : ∀ {l : List (Nat × List AV)} {h : AH} {ν : Nu} {w : World} {ds : List Deferred},
    defers C rec l h = some h' → drel σ ν C.P l ds → hrel σ C.gs ν h w → trel σ ν t tm → Ext ν0 h0 w0 ν h w → results C fn t h' = some v →
    Leaves C.P fn tm (fun e w' => ∃ c ν', e = .returned c ∧ Ext ν0 h0 w0 ν' h' w' ∧ hrel σ C.gs ν' h' w' ∧ vrel σ ν' v c) ds .returning w
  | [], h, ν, w, ds, hd, hr, hh, ht, hE, hv => by
    simp [defers] at hd
    subst hd
    rw [show ds = [] from hr]
    obtain ⟨c, h1, h2⟩ := results_rel hh ht hv
    exact ⟨c, h2, c, ν, rfl, hE, hh, h1⟩
  | x :: l, h, ν, w, _, hd, ⟨d, ds, ⟨fv, cap, cs, g1, g2, g3⟩, g4, e⟩, hh, ht, hE, hv => by
    subst e
    simp only [defers] at hd
    cases hns : noSpec C x.1 with
    | false => rw [hns] at hd; simp at hd
    | true =>
      rw [hns] at hd
      simp only [cond_true] at hd
      split at hd
      · rename_i h1 he
        unfold ended0 at he
        split at he
        · rename_i fn1 t1 h2 hb
          split at he
          · rename_i v1 hres
            simp at he
            subst he
            obtain ⟨c, y, b1, b2, b3, b4⟩ := body_of hb
            refine ⟨by simp, fv, cap, x.1, cs.toArray, g1, by rw [g3]; exact run_callFunc b1 b2 (G.plain _ _ b1) w, ?_⟩
            refine (callsD_of_wp (R := fun e w' => ∃ ν', (∃ c, e = .returned c) ∧ Ext ν h w ν' h2 w' ∧ hrel σ C.gs ν' h2 w') b1 b2 ?_).mono ?_
            · refine body_wp R b4 b3 hh g2 fun e a' w' ν' he hE' hs => ?_
              have hdn : a'.defers = [] := hs.d
              obtain ⟨c1, k1, k2⟩ := results_rel hs.h hs.t hres
              rcases he with rfl | rfl
              · exact ⟨hdn, c1, k2, ν', ⟨c1, rfl⟩, hE', hs.h⟩
              · exact ⟨hdn, c1, k2, ν', ⟨c1, rfl⟩, hE', hs.h⟩
            · rintro e u' w' ⟨rfl, ν', ⟨c1, rfl⟩, hE', hh'⟩
              obtain ⟨μ, rfl⟩ := hE'.pre
              exact defers_ok G R hd (drel_mono μ g4) hh' (trel_mono μ ht) (hE.trans hE') hv
          · cases he
        · cases he
      · cases hd

theorem call_ok (G : Good C σ) (R : RecOk C σ rec) : CallOk C σ rec := by
  intro f args h v h' hcall
  unfold call at hcall
  cases hs : C.spec f with
  | some g =>
    rw [hs] at hcall
    exact G.spec f g args h v h' hs hcall
  | none =>
    rw [hs] at hcall
    simp only [call1] at hcall
    cases hb : body C rec f args h with
    | none => rw [hb] at hcall; simp [leave1] at hcall
    | some p =>
      obtain ⟨fn, t, h1, d⟩ := p
      rw [hb] at hcall
      simp only [leave1] at hcall
      cases hd : defers C rec d h1 with
      | none => rw [hd] at hcall; simp [leave] at hcall
      | some h2 =>
        rw [hd] at hcall
        simp only [leave] at hcall
        cases hr : results C fn t h2 with
        | none => rw [hr] at hcall; simp [withH] at hcall
        | some v' =>
          rw [hr] at hcall
          simp [withH] at hcall
          obtain ⟨rfl, rfl⟩ := hcall
          obtain ⟨c, x, b1, b2, b3, b4⟩ := body_of hb
          refine ⟨⟨fn, c, b1, b2⟩, fun ν w cs hh hc => ?_⟩
          refine calls_of_wp_defers b1 b2 ?_
          refine body_wp R b4 b3 hh hc fun e a' w' ν' he hE hsr => ?_
          have := defers_ok G R hd hsr.d hsr.h hsr.t hE hr
          rcases he with rfl | rfl
          · exact this
          · exact this

/-! ### Code -/

/-- What a region that draws its order comes to. -/
def DrawOk (C : Cfg) (σ : Sg) (rec : Rec) : Prop := ∀ n id ops s y, drawn C rec n ops s (plan C.P ops) = some y → ∀ ν a w, srel σ ν C.P C.gs n s a w → (Code.region id ops true).wp C.P (Post C σ ν s.h w n y) a w

theorem Post.trans {n : Nat} {ν ν' : Nu} {h h' : AH} {w w' : World} {y : Ex × St} (hE : Ext ν h w ν' h' w') {e : Exit} {a2 : Act} {w2 : World} (p : Post C σ ν' h' w' n y e a2 w2) : Post C σ ν h w n y e a2 w2 := by
  obtain ⟨h1, ν2, h2, h3⟩ := p
  exact ⟨h1, ν2, hE.trans h2, h3⟩

theorem thn_ok (R : RecOk C σ rec) {n : Nat} {x b : Code} {s : St} {y : Ex × St} (hy : thn rec n b (rec none n x s) = some y) {ν : Nu} {a : Act} {w : World} (hs : srel σ ν C.P C.gs n s a w) :
    x.wp C.P (Exit.then (b.wp C.P (Post C σ ν s.h w n y)) (Post C σ ν s.h w n y)) a w := by
  intro fr k fs
  unfold thn at hy
  split at hy
  · rename_i s1 h1
    obtain ⟨e, a1, w1, ⟨p1, ν1, p2, p3⟩, p4⟩ := R.main none n x s _ h1 ν a w hs fr k fs
    refine ⟨e, a1, w1, ?_, p4⟩
    simp only [exOf] at p1
    subst p1
    intro fr2 k2 fs2
    obtain ⟨e2, a2, w2, q1, q2⟩ := R.main none n b s1 y hy ν1 a1 w1 p3 fr2 k2 fs2
    exact ⟨e2, a2, w2, q1.trans p2, q2⟩
  · rename_i r hne
    obtain ⟨e, a1, w1, p, p4⟩ := R.main none n x s y hy ν a w hs fr k fs
    refine ⟨e, a1, w1, ?_, p4⟩
    obtain ⟨p1, p2⟩ := p
    obtain ⟨ex, s1⟩ := y
    cases ex with
    | nrm => exact absurd hy (hne s1)
    | ex id => simp only [exOf] at p1; subst p1; exact ⟨rfl, p2⟩
    | gt l => simp only [exOf] at p1; subst p1; exact ⟨rfl, p2⟩
    | ret => simp only [exOf] at p1; subst p1; exact ⟨rfl, p2⟩

/-- A round of a loop, and the rest of them. -/
theorem round_ok (R : RecOk C σ rec) {n : Nat} {b : Code} {s : St} {y : Ex × St} (hy : thn rec n (.loop b) (rec none n b s) = some y) {ν : Nu} {a : Act} {w : World} (hs : srel σ ν C.P C.gs n s a w)
    (fr : Frame) (k : List Item) (fs : List Frame) : ∃ e a' w', Post C σ ν s.h w n y e a' w' ∧ Arrives C.P (lone (fr.at a (.code b :: .inLoop b :: k)) fs w) fr k fs e a' w' := by
  unfold thn at hy
  split at hy
  · rename_i s1 h1
    obtain ⟨e, a1, w1, ⟨p1, ν1, p2, p3⟩, p4⟩ := R.main none n b s _ h1 ν a w hs fr (.inLoop b :: k) fs
    simp only [exOf] at p1
    subst p1
    obtain ⟨e2, a2, w2, q1, q2⟩ := R.loop n b s1 y hy ν1 a1 w1 p3 fr k fs
    exact ⟨e2, a2, w2, q1.trans p2, .of_steps p4 q2⟩
  · rename_i r hne
    obtain ⟨e, a1, w1, ⟨p1, p2⟩, p4⟩ := R.main none n b s y hy ν a w hs fr (.inLoop b :: k) fs
    refine ⟨e, a1, w1, ⟨p1, p2⟩, .pass (x := .inLoop b) rfl (fun _ _ => .inl ?_) p4⟩
    obtain ⟨ex, s1⟩ := y
    cases ex with
    | nrm => exact absurd hy (hne s1)
    | ex id => rw [p1]; simp [exOf]
    | gt l => rw [p1]; simp [exOf]
    | ret => rw [p1]; simp [exOf]

theorem step_ok (G : Good C σ) (R : RecOk C σ rec) (D : DrawOk C σ rec) : RecOk C σ (stepC C rec) := by
  refine ⟨?_, fun n bd s y hy ν a w hs fr k fs => by
    simp only [stepC, stepD] at hy
    obtain ⟨e, a1, w1, p, p4⟩ := round_ok R hy hs fr k fs
    exact ⟨e, a1, w1, p, .of_steps (.one step_inLoop) p4⟩⟩
  intro sc n c s y hy ν a w hs
  cases sc with
  | some bd =>
    simp only [stepC] at hy
    intro b k fs
    unfold scp at hy
    split at hy
    · rename_i l s1 h1
      obtain ⟨e, a1, w1, ⟨p1, ν1, p2, p3⟩, p4⟩ := R.main none n c s _ h1 ν a w hs b (.inScope bd :: k) fs
      simp only [exOf] at p1
      subst p1
      unfold toLab at hy
      split at hy
      · rename_i rest hl
        obtain ⟨e2, a2, w2, q1, q2⟩ := R.main (some bd) n rest s1 y hy ν1 a1 w1 p3 b k fs
        exact ⟨e2, a2, w2, q1.trans p2, .of_steps (p4 _ (by simp [gotoIn, hl]; rfl)) q2⟩
      · rename_i hl
        simp at hy
        subst hy
        exact ⟨.goto l, a1, w1, ⟨rfl, ν1, p2, p3⟩, fun k' hk => p4 k' (by simp [gotoIn, hl, hk])⟩
    · rename_i r hne
      obtain ⟨e, a1, w1, ⟨p1, p2⟩, p4⟩ := R.main none n c s y hy ν a w hs b (.inScope bd :: k) fs
      obtain ⟨ex, s1⟩ := y
      cases ex with
      | nrm => simp only [exOf] at p1; subst p1; exact ⟨.normal, a1, w1, ⟨rfl, p2⟩, Steps.trans p4 (.one step_inScope)⟩
      | ex id => simp only [exOf] at p1; subst p1; exact ⟨.exit id, a1, w1, ⟨rfl, p2⟩, fun k' hk => p4 k' (by simp [exitTo, hk])⟩
      | gt l => exact absurd hy (hne l s1)
      | ret => simp only [exOf] at p1; subst p1; exact ⟨.ret, a1, w1, ⟨rfl, p2⟩, p4⟩
  | none =>
    simp only [stepC] at hy
    show c.wp C.P (Post C σ ν s.h w n y) a w
    unfold stepD at hy
    split at hy
    · simp at hy; subst hy; exact wp_skip ⟨rfl, ν, Ext.refl _ _ _, hs⟩
    · simp at hy; subst hy; exact wp_label ⟨rfl, ν, Ext.refl _ _ _, hs⟩
    · exact wp_seq (thn_ok R hy hs)
    · rename_i x c1 c2
      cases hx : asB (ev C.gs s.t x) with
      | none => rw [hx] at hy; simp [brn] at hy
      | some t =>
        rw [hx] at hy
        simp only [brn] at hy
        have hc := asB_rel hs.rho hx
        refine wp_cond hc ?_
        cases t with
        | true => exact fun b k fs => R.main none n c1 s y (by simpa using hy) ν a w hs b k fs
        | false => exact fun b k fs => R.main none n c2 s y (by simpa using hy) ν a w hs b k fs
    · rename_i id b
      refine wp_block ?_
      intro fr k fs
      unfold blk at hy
      split at hy
      · rename_i id' s1 h1
        obtain ⟨e, a1, w1, ⟨p1, p2⟩, p4⟩ := R.main none n b s _ h1 ν a w hs fr k fs
        simp only [exOf] at p1
        subst p1
        refine ⟨.exit id', a1, w1, ?_, p4⟩
        cases hid : Nat.beq id' id with
        | true =>
          rw [hid] at hy
          simp at hy
          subst hy
          have := Nat.eq_of_beq_eq_true hid
          simp only [Exit.inBlock, this, if_true]
          exact ⟨rfl, p2⟩
        | false =>
          rw [hid] at hy
          simp at hy
          subst hy
          have := Nat.ne_of_beq_eq_false hid
          simp only [Exit.inBlock, this, if_false]
          exact ⟨rfl, p2⟩
      · rename_i r hne
        obtain ⟨e, a1, w1, ⟨p1, p2⟩, p4⟩ := R.main none n b s y hy ν a w hs fr k fs
        refine ⟨e, a1, w1, ?_, p4⟩
        obtain ⟨ex, s1⟩ := y
        cases ex with
        | nrm => simp only [exOf] at p1; subst p1; exact ⟨rfl, p2⟩
        | ex id => exact absurd hy (hne id s1)
        | gt l => simp only [exOf] at p1; subst p1; exact ⟨rfl, p2⟩
        | ret => simp only [exOf] at p1; subst p1; exact ⟨rfl, p2⟩
    · rename_i b
      intro fr k fs
      obtain ⟨e, a1, w1, p, p4⟩ := round_ok R hy hs fr k fs
      exact ⟨e, a1, w1, p, .of_steps (.one step_loop) p4⟩
    · rename_i b
      intro fr k fs
      obtain ⟨e, a1, w1, p, p4⟩ := R.main (some b) n b s y hy ν a w hs fr k fs
      exact ⟨e, a1, w1, p, .of_steps (.one step_scope) p4⟩
    · rename_i id
      simp at hy; subst hy; exact wp_exit ⟨rfl, ν, Ext.refl _ _ _, hs⟩
    · simp at hy; subst hy; exact wp_goto ⟨rfl, ν, Ext.refl _ _ _, hs⟩
    · simp at hy; subst hy; exact wp_ret ⟨rfl, ν, Ext.refl _ _ _, hs⟩
    · rename_i id ops d
      unfold reg at hy
      cases d with
      | true => exact D n id ops s y (by simpa using hy) ν a w hs
      | false =>
        simp only [cond_false] at hy
        cases ha : aops C rec n ops ops.toList s with
        | none => rw [ha] at hy; simp [nrm] at hy
        | some s1 =>
          rw [ha] at hy
          simp [nrm] at hy
          subst hy
          exact wp_region_list (aops_ok G (call_ok G R) (Ext.refl _ _ _) hs ha)
    · cases hy
end
end Go.Ae
namespace Go.Ae
open Go

section
variable {P : Program} {ops : Array Oper} {Q : Exit → Act → World → Prop}

/-- As the kit's 'wpAny'; behind each operation something holds of the two worlds. -/
def wpAnyN (P : Program) (ops : Array Oper) (Q : Exit → Act → World → Prop) (N : Nat → World → World → Prop) : Nat → Array Bool → Act → World → Prop
  | 0, listed, a, w => Region.ready .any ops listed = [] ∧ Q .normal a w
  | fuel + 1, listed, a, w =>
    (Region.ready .any ops listed = [] → Q .normal a w) ∧
    ∀ i ∈ Region.ready .any ops listed, wpOp P ops Q i (fun a' w' => N i w w' ∧ wpAnyN P ops Q N fuel (listed.setIfInBounds i true) a' w') a w

variable {N : Nat → World → World → Prop}

theorem wpAny_of_N : ∀ (fuel : Nat) (listed : Array Bool) (a : Act) (w : World), wpAnyN P ops Q N fuel listed a w → wpAny P .any ops Q fuel listed a w
  | 0, _, _, _, h => h
  | fuel + 1, _, _, _, h => ⟨h.1, fun i hi => wpOp_mono (fun a' w' h' => wpAny_of_N fuel _ a' w' h'.2) (h.2 i hi)⟩

theorem wpAnyN_first {i : Nat} {oi : Oper} {v : Value} (T : World → Prop) (hi : ops[i]? = some oi) (hsel : ∀ (j : Nat) (o : Oper) cs b, ops[j]? = some o → o.op ≠ .select cs b)
    (hQ : ∀ c a w, Q (.panic c) (a.put oi.dst v) w → Q (.panic c) a w)
    (hT : ∀ j oj, ops[j]? = some oj → j ≠ i → (∀ e ∈ oj.after, Region.binds .any e = true → e.on ≠ i) → ∀ w w', T w → N j w w' → T w') (hN : ∀ w, N i w w) :
    ∀ (fuel : Nat) (listed : Array Bool) (a : Act) (w : World),
      (∀ j oj, ops[j]? = some oj → j ≠ i → listed.getD j true = false → (∀ e ∈ oj.after, Region.binds .any e = true → e.on ≠ i) → oi.apart ops oj = true) →
      i ∈ Region.ready .any ops listed → YieldsIf P ops T oi v a → T w →
      wpAnyN P ops Q N fuel (listed.setIfInBounds i true) (a.put oi.dst v) w → wpAnyN P ops Q N (fuel + 1) listed a w := by
  intro fuel
  induction fuel with
  | zero =>
    intro listed a w _ hr hy hS H
    refine ⟨fun h => (by rw [h] at hr; cases hr), fun j hj => ?_⟩
    by_cases hji : j = i
    · subst hji; exact hy.wpOp hi hS ⟨hN w, H⟩
    · have := ready_mono hj hji
      rw [H.1] at this
      cases this
  | succ fuel ih =>
    intro listed a w hfree hr hy hS H
    refine ⟨fun h => (by rw [h] at hr; cases hr), fun j hj => ?_⟩
    by_cases hji : j = i
    · subst hji; exact hy.wpOp hi hS ⟨hN w, H⟩
    · have h1 := H.2 j (ready_mono hj hji)
      obtain ⟨hjun, oj, hoj, hall⟩ := mem_ready.1 hj
      have hnot : ∀ e ∈ oj.after, Region.binds .any e = true → e.on ≠ i := fun e he hb heq => by
        have h1 := hall e he hb
        have h0 := (mem_ready.1 hr).1
        rw [heq] at h1
        rcases Nat.lt_or_ge i listed.size with h' | h'
        · simp [h'] at h0 h1; rw [h0] at h1; cases h1
        · simp [Array.getElem?_eq_none h'] at h1
      have h2 := wpOp_putIf hoj (hfree j oj hoj hji hjun hnot) (fun cs b => hsel i oi cs b hi) (fun cs b => hsel j oj cs b hoj) hQ hy h1
      have hfree' : ∀ k ok, ops[k]? = some ok → k ≠ i → (listed.setIfInBounds j true).getD k true = false →
          (∀ e ∈ ok.after, Region.binds .any e = true → e.on ≠ i) → oi.apart ops ok = true := fun k ok hk hki hun hno => by
        refine hfree k ok hk hki ?_ hno
        by_cases hjk : j = k
        · subst hjk; exact hjun
        · rw [getD_set_ne true hjk] at hun; exact hun
      refine wpOp_mono (fun a' w' h3 => ⟨h3.2.1, ih (listed.setIfInBounds j true) a' w' hfree' (ready_mono hr (Ne.symm hji)) h3.1 (hT j oj hoj hji hnot w w' hS h3.2.1) ?_⟩) h2
      rw [Array.setIfInBounds_comm _ _ hji]
      exact h3.2.2

theorem wpAnyN_all {rs : List Nat} {fuel : Nat} {listed : Array Bool} {a : Act} {w : World} (hr : Region.ready .any ops listed = rs) (hne : rs ≠ [])
    (h : ∀ i ∈ rs, wpOp P ops Q i (fun a' w' => N i w w' ∧ wpAnyN P ops Q N fuel (listed.setIfInBounds i true) a' w') a w) : wpAnyN P ops Q N (fuel + 1) listed a w :=
  ⟨fun h0 => absurd (hr ▸ h0) hne, hr ▸ h⟩

theorem wpAnyN_done {listed : Array Bool} {a : Act} {w : World} (hr : Region.ready .any ops listed = []) (h : Q .normal a w) : ∀ fuel, wpAnyN P ops Q N fuel listed a w
  | 0 => ⟨hr, h⟩
  | _ + 1 => ⟨fun _ => h, by rw [hr]; simp⟩

/-- What an operation yields, carried out or not. -/
def Yl (P : Program) (ops : Array Oper) (a : Act) (w : World) (o : Oper) (c : Value) : Prop :=
  (Region.wanted o (yielded ops a.tmps) = true ∧ (execOp a.eval o).run P w = .ok (.value c) w) ∨ (Region.wanted o (yielded ops a.tmps) = false ∧ c = undef)

theorem wpOp_of_Yl {i : Nat} {o : Oper} {c : Value} {a : Act} {w : World} (hi : ops[i]? = some o) (hy : Yl P ops a w o c) {K : Act → World → Prop} (h : K (a.put o.dst c) w) : wpOp P ops Q i K a w := by
  unfold wpOp
  simp only [hi]
  rcases hy with ⟨h1, h2⟩ | ⟨h1, rfl⟩
  · rw [if_pos h1]
    refine .inl ?_
    unfold Oper.wp
    rw [h2]
    exact h
  · rw [h1]
    simpa using h

theorem wpOp_of_if {i : Nat} {o : Oper} {a : Act} {w : World} (hi : ops[i]? = some o) {K : Act → World → Prop} (h : if Region.wanted o (yielded ops a.tmps) then o.wp P a w K Q else K (a.put o.dst undef) w) : wpOp P ops Q i K a w := by
  unfold wpOp
  simp only [hi]
  split
  · rename_i hw; rw [if_pos hw] at h; exact .inl h
  · rename_i hw; rw [if_neg hw] at h; exact h

/-! ### Reads that were taken -/

abbrev Rec4 := Nat × Act × Oper × Value

def SL (P : Program) (L : List Rec4) (w : World) : Prop := ∀ m ∈ L, (execOp m.2.1.eval m.2.2.1).run P w = .ok (.value m.2.2.2) w

def isSil : K → Bool
  | .pur | .rd | .slc => true
  | _ => false

def NN (P : Program) (ops : Array Oper) (L : List Rec4) (j : Nat) (w w' : World) : Prop :=
  if isSil (kindAt P ops j) then w' = w else (∀ m ∈ L, dep ops j m.1 = true) ∨ SL P L w'

variable {σ : Sg} {gs : Nat} {ν : Nu} {h : AH} {w : World}

def lrel (P : Program) (ops : Array Oper) (σ : Sg) (ν : Nu) : List Rd → List Rec4 → Prop
  | [], L => L = []
  | e :: rds, L => ∃ m L', (e.o = m.2.2.1 ∧ trel σ ν e.t m.2.1.tmps ∧ vrel σ ν e.v m.2.2.2 ∧ kind P m.2.2.1 = .rd ∧ ops[m.1]? = some m.2.2.1) ∧ lrel P ops σ ν rds L' ∧ L = m :: L'

theorem lrel_mono (μ : Nu) : ∀ {rds : List Rd} {L : List Rec4}, lrel P ops σ ν rds L → lrel P ops σ (ν ++ μ) rds L
  | [], _, h => h
  | _ :: _, _, ⟨m, L, ⟨h1, h2, h3, h4⟩, h5, e⟩ => ⟨m, L, ⟨h1, trel_mono μ h2, vrel_mono μ _ _ h3, h4⟩, lrel_mono μ h5, e⟩

theorem rho_of (x : hrel σ gs ν h w) {t : Tr AV} {a : Act} (ht : trel σ ν t a.tmps) : Rho σ ν (ev gs t) a.eval :=
  srel.rho (P := default) (n := 0) (s := ⟨t, h, []⟩) (a := { a with defers := [] }) (w := w) ⟨x, ht, Nat.zero_le _, rfl⟩


theorem recheck_ok {C : Cfg} {σ : Sg} (G : OrOk C.P σ C.ω) : ∀ {rds : List Rd} {L : List Rec4} {h : AH} {ν : Nu} {w : World}, recheck C h rds = true → hrel σ C.gs ν h w → lrel C.P ops σ ν rds L → SL C.P L w
  | [], L, _, _, _, _, _, hl => by rw [show L = [] from hl]; intro m hm; cases hm
  | e :: rds, _, h, ν, w, hr, hh, ⟨m, L, ⟨h1, h2, h3, h4, _⟩, h5, hL⟩ => by
    subst hL
    simp only [recheck] at hr
    cases hv : asV (op C.ω C.P C.gs e.t h e.o) with
    | none => rw [hv] at hr; simp [recheck1] at hr
    | some p =>
      rw [hv] at hr
      simp only [recheck1] at hr
      cases hb : AV.beq p.1 e.v with
      | false => rw [hb] at hr; simp at hr
      | true =>
        rw [hb] at hr
        simp only [cond_true] at hr
        have heq := beq_eq hb
        have hop : op C.ω C.P C.gs e.t h e.o = some (.v p.1 p.2) := by
          unfold asV at hv
          split at hv
          · rename_i x h' hx; simp at hv; subst hv; exact hx
          · cases hv
        rw [h1] at hop
        obtain ⟨_, c, g1, g2⟩ := opX_rd G hh (rho_of hh h2) h4 hop
        rw [heq] at g1
        have hc := vrel_fun _ _ _ g1 h3
        intro m' hm'
        rcases List.mem_cons.1 hm' with rfl | hm'
        · rw [← hc]; exact g2
        · exact recheck_ok G hr hh h5 m' hm'

end
end Go.Ae
namespace Go.Ae
open Go

section
variable {σ : Sg} {C : Cfg} {rec : Rec} {ops : Array Oper} {n : Nat} {ν : Nu} {s s' : St} {a : Act} {w : World}

/-- An operation that looks and does not write. -/
theorem sil_ok (G : OrOk C.P σ C.ω) {o : Oper} {t : Tr AV} {h h' : AH} {d : List (Nat × List AV)} (hk : isSil (kind C.P o) = true) (x : srel σ ν C.P C.gs n ⟨t, h, d⟩ a w) {v : AV} (hop : op C.ω C.P C.gs t h o = some (.v v h')) (hp : putT n t h' d o.dst v = some s') :
    ∃ c ν', Ext ν h w ν' h' w ∧ srel σ ν' C.P C.gs n s' (a.put o.dst c) w ∧ s'.h = h' ∧ vrel σ ν' v c ∧ (execOp a.eval o).run C.P w = .ok (.value c) w := by
  have hρ := x.rho
  cases hkd : kind C.P o with
  | pur =>
    obtain ⟨rfl, c, h1, h2⟩ := opX_pur G x.h hρ hkd hop
    obtain ⟨k1, k2⟩ := putT_ok hp x.t x.n x.d x.h h1
    exact ⟨c, ν, Ext.refl _ _ _, k1, k2, h1, h2 w⟩
  | rd =>
    obtain ⟨rfl, c, h1, h2⟩ := opX_rd G x.h hρ hkd hop
    obtain ⟨k1, k2⟩ := putT_ok hp x.t x.n x.d x.h h1
    exact ⟨c, ν, Ext.refl _ _ _, k1, k2, h1, h2⟩
  | slc =>
    obtain ⟨ν', c, h1, h2, h3⟩ := opX_slc G x.h hρ hkd hop
    rcases h1 with ⟨rfl, rfl⟩ | ⟨e, rfl, rfl⟩
    · obtain ⟨k1, k2⟩ := putT_ok hp x.t x.n x.d x.h h2
      exact ⟨c, _, Ext.refl _ _ _, k1, k2, h2, h3 w⟩
    · obtain ⟨m1, m2⟩ := x.h.name e
      obtain ⟨k1, k2⟩ := putT_ok hp (trel_mono [e] x.t) x.n (drel_mono [e] x.d) m1 h2
      exact ⟨c, _, m2, k1, k2, h2, h3 w⟩
  | eff => rw [hkd] at hk; simp [isSil] at hk
  | bs => rw [hkd] at hk; simp [isSil] at hk

theorem isV_of {o : Oper} {t : Tr AV} {h : AH} {R' : R} (hk : isSil (kind C.P o) = true) (hop : op C.ω C.P C.gs t h o = some R') : ∃ v h', R' = .v v h' := by
  have : R'.isV = true := by
    apply opX_isV (o := o) ?_ hop
    cases hkd : kind C.P o <;> rw [hkd] at hk <;> simp [isSil] at hk <;> simp
  cases R' <;> simp [R.isV] at this
  exact ⟨_, _, rfl⟩

theorem silW_ok (G : OrOk C.P σ C.ω) {o : Oper} (hk : isSil (kind C.P o) = true) (x : srel σ ν C.P C.gs n s a w) (hop : opW C rec n ops o s = some s') :
    ∃ c ν', Ext ν s.h w ν' s'.h w ∧ srel σ ν' C.P C.gs n s' (a.put o.dst c) w ∧ Yl C.P ops a w o c := by
  obtain ⟨t, h, d⟩ := s
  simp only [opW] at hop
  cases hwant : want ops t o with
  | none => rw [hwant] at hop; simp [opG] at hop
  | some b =>
    rw [hwant] at hop
    have hw := want_ok x.t hwant
    cases b with
    | false =>
      simp only [opG, skipE] at hop
      obtain ⟨h1, h2⟩ := putT_ok (c := undef) hop x.t x.n x.d x.h ⟨[], rfl, rfl⟩
      exact ⟨undef, ν, by rw [h2]; exact Ext.refl _ _ _, h1, .inr ⟨hw, rfl⟩⟩
    | true =>
      simp only [opG, opE] at hop
      cases hR : op C.ω C.P C.gs t h o with
      | none => rw [hR] at hop; simp [opR] at hop
      | some R' =>
        rw [hR] at hop
        obtain ⟨v, h', rfl⟩ := isV_of hk hR
        simp only [opR] at hop
        obtain ⟨c, ν', k1, k2, k3, _, k4⟩ := sil_ok G hk x hR hop
        exact ⟨c, ν', by rw [k3]; exact k1, k2, .inl ⟨hw, k4⟩⟩

theorem kindAt_of {i : Nat} {o : Oper} (hi : ops[i]? = some o) : kindAt C.P ops i = kind C.P o := by
  unfold kindAt
  rw [hi]

/-! ### What the plan says -/

theorem firstPur_spec {listed : Array Bool} {rd : Bool} : ∀ {l : List Nat} {i : Nat} {r : Bool}, firstPur C.P ops listed rd l = some (i, r) → i ∈ l ∧ Region.free .any ops listed i = true ∧
    ((kindAt C.P ops i = .pur ∧ r = false) ∨ (kindAt C.P ops i = .rd ∧ r = true ∧ rd = true))
  | [], _, _, h => by simp [firstPur] at h
  | j :: l, i, r, h => by
    simp only [firstPur] at h
    split at h
    · rename_i hk
      cases hf : Region.free .any ops listed j with
      | true =>
        rw [hf] at h
        simp at h
        obtain ⟨rfl, rfl⟩ := h
        exact ⟨by simp, hf, .inl ⟨hk, rfl⟩⟩
      | false =>
        rw [hf] at h
        simp at h
        obtain ⟨h1, h2⟩ := firstPur_spec h
        exact ⟨List.mem_cons_of_mem _ h1, h2⟩
    · rename_i hk
      cases hf : (rd && Region.free .any ops listed j) with
      | true =>
        rw [hf] at h
        simp at h hf
        obtain ⟨rfl, rfl⟩ := h
        exact ⟨by simp, hf.2, .inr ⟨hk, rfl, hf.1⟩⟩
      | false =>
        rw [hf] at h
        simp at h
        obtain ⟨h1, h2⟩ := firstPur_spec h
        exact ⟨List.mem_cons_of_mem _ h1, h2⟩
    · obtain ⟨h1, h2⟩ := firstPur_spec h
      exact ⟨List.mem_cons_of_mem _ h1, h2⟩

theorem firstSlc_spec {listed : Array Bool} : ∀ {l : List Nat} {i : Nat}, firstSlc C.P ops listed l = some i → i ∈ l ∧ Region.free .any ops listed i = true ∧ kindAt C.P ops i = .slc
  | [], _, h => by simp [firstSlc] at h
  | j :: l, i, h => by
    simp only [firstSlc] at h
    split at h
    · rename_i hk
      cases hf : Region.free .any ops listed j with
      | true =>
        rw [hf] at h
        simp at h
        subst h
        exact ⟨by simp, hf, hk⟩
      | false =>
        rw [hf] at h
        simp at h
        obtain ⟨h1, h2⟩ := firstSlc_spec h
        exact ⟨List.mem_cons_of_mem _ h1, h2⟩
    · obtain ⟨h1, h2⟩ := firstSlc_spec h
      exact ⟨List.mem_cons_of_mem _ h1, h2⟩

theorem ready_some {listed : Array Bool} {i : Nat} (h : i ∈ Region.ready .any ops listed) : ∃ o, ops[i]? = some o := by
  obtain ⟨_, o, ho, _⟩ := mem_ready.1 h
  exact ⟨o, ho⟩

/-- The state behind a take. -/
theorem take_of (G : OrOk C.P σ C.ω) {r : Bool} {rds rds' : List Rd} {o : Oper} (hk : isSil (kind C.P o) = true) (x : srel σ ν C.P C.gs n s a w) (ht : takeO C n ops r rds (some o) s = some (s', rds')) :
    ∃ c, srel σ ν C.P C.gs n s' (a.put o.dst c) w ∧ s'.h = s.h ∧
      ((Region.wanted o (yielded ops a.tmps) = true ∧ (execOp a.eval o).run C.P w = .ok (.value c) w ∧ (∃ v, vrel σ ν v c ∧ rds' = (bif r then ⟨s.t, o, v⟩ :: rds else rds)) ∧
          (kind C.P o ≠ .rd → ∀ w', (execOp a.eval o).run C.P w' = .ok (.value c) w')) ∨ (Region.wanted o (yielded ops a.tmps) = false ∧ c = undef ∧ rds' = rds)) := by
  obtain ⟨t, h, d⟩ := s
  simp only [takeO] at ht
  cases hwant : want ops t o with
  | none => rw [hwant] at ht; simp [takeG] at ht
  | some b =>
    rw [hwant] at ht
    have hw := want_ok x.t hwant
    cases b with
    | false =>
      simp only [takeG] at ht
      cases hp : putT n t h d o.dst (.tu []) with
      | none => rw [hp] at ht; simp [withRd] at ht
      | some s1 =>
        rw [hp] at ht
        simp [withRd] at ht
        obtain ⟨rfl, rfl⟩ := ht
        obtain ⟨h1, h2⟩ := putT_ok (c := undef) hp x.t x.n x.d x.h ⟨[], rfl, rfl⟩
        exact ⟨undef, h1, h2, .inr ⟨hw, rfl, rfl⟩⟩
    | true =>
      simp only [takeG] at ht
      cases hR : op C.ω C.P C.gs t h o with
      | none => rw [hR] at ht; simp [asV, take1] at ht
      | some R' =>
        obtain ⟨v, h', rfl⟩ := isV_of hk hR
        rw [hR] at ht
        simp only [asV, take1] at ht
        cases hnx : Nat.beq h'.nx h.nx with
        | false => rw [hnx] at ht; simp at ht
        | true =>
          rw [hnx] at ht
          simp only [cond_true] at ht
          cases hp : putT n t h d o.dst v with
          | none => rw [hp] at ht; simp [withRd] at ht
          | some s1 =>
            rw [hp] at ht
            simp [withRd] at ht
            obtain ⟨rfl, rfl⟩ := ht
            have hρ := x.rho
            cases hkd : kind C.P o with
            | pur =>
              obtain ⟨_, c, h1, h2⟩ := opX_pur G x.h hρ hkd hR
              obtain ⟨k1, k2⟩ := putT_ok hp x.t x.n x.d x.h h1
              exact ⟨c, k1, k2, .inl ⟨hw, h2 w, ⟨v, h1, rfl⟩, fun _ => h2⟩⟩
            | rd =>
              obtain ⟨_, c, h1, h2⟩ := opX_rd G x.h hρ hkd hR
              obtain ⟨k1, k2⟩ := putT_ok hp x.t x.n x.d x.h h1
              exact ⟨c, k1, k2, .inl ⟨hw, h2, ⟨v, h1, rfl⟩, fun e => absurd rfl e⟩⟩
            | slc =>
              obtain ⟨ν', c, h1, h2, h3⟩ := opX_slc G x.h hρ hkd hR
              rcases h1 with ⟨rfl, rfl⟩ | ⟨e, rfl, rfl⟩
              · obtain ⟨k1, k2⟩ := putT_ok hp x.t x.n x.d x.h h2
                exact ⟨c, k1, k2, .inl ⟨hw, h3 w, ⟨v, h2, rfl⟩, fun _ => h3⟩⟩
              · have := Nat.eq_of_beq_eq_true hnx
                simp at this
            | eff => rw [hkd] at hk; simp [isSil] at hk
            | bs => rw [hkd] at hk; simp [isSil] at hk

/-! ### Two operations in either order -/

theorem hrel.more {h : AH} {gs : Nat} (x : hrel σ gs ν h w) (o : Obj) : hrel σ gs ν h (w.alloc o) :=
  ⟨x.len, fun m b hm => by
    obtain ⟨e, o', h1, h2, h3⟩ := x.dom m b hm
    refine ⟨e, o', h1, ?_, h3⟩
    have hlt := (Array.getElem?_eq_some_iff.1 h2).1
    rw [heap_alloc_old w o e.b hlt]
    exact h2, x.inj, x.gl⟩

/-- A block that stood aside gets a name. -/
theorem hrel.adopt {h : AH} {gs : Nat} (x : hrel σ gs ν h w) {b : Nat} {cs : List AV} {arr : Array Value} {t : TypeId} (hb : w.heap[b]? = some (.cells arr t)) (hi : ¬ im ν h b) (hc : vrels σ ν cs arr.toList) :
    hrel σ gs (ν ++ [⟨b, 0, 0, []⟩]) (h.alloc (.c cs 0)) w ∧ (∀ c, c ≠ b → ¬ im ν h c → ¬ im (ν ++ [⟨b, 0, 0, []⟩]) (h.alloc (.c cs 0)) c) := by
  have hl : (ν ++ [(⟨b, 0, 0, []⟩ : NE)])[h.nx]? = some ⟨b, 0, 0, []⟩ := by rw [← x.len]; simp
  have key : ∀ m y e1, (h.alloc (.c cs 0)).get m = some y → (ν ++ [(⟨b, 0, 0, []⟩ : NE)])[m]? = some e1 → (m = h.nx ∧ e1 = ⟨b, 0, 0, []⟩ ∧ y = .c cs 0) ∨ (h.get m = some y ∧ ν[m]? = some e1) := by
    intro m y e1 hm h1
    rw [AH.get_alloc] at hm
    split at hm
    · rename_i hq
      subst hq
      rw [hl] at h1
      cases h1
      cases hm
      exact .inl ⟨rfl, rfl, rfl⟩
    · obtain ⟨e2, o2, g1, _⟩ := x.dom m y hm
      have := pre_get (μ := [(⟨b, 0, 0, []⟩ : NE)]) g1
      rw [this] at h1
      cases h1
      exact .inr ⟨hm, g1⟩
  refine ⟨⟨by simp [x.len, AH.nx_alloc], fun m y hm => ?_, fun m m' e1 e2 b1 b2 hm hm' h1 h2 h12 => ?_, fun g hg => ?_⟩, fun c hc hi' ⟨m, y, e1, h1, h2, h3⟩ => ?_⟩
  · have hm0 := hm
    rw [AH.get_alloc] at hm
    split at hm
    · rename_i hq
      subst hq
      cases hm
      exact ⟨_, _, hl, hb, brel_mono _ (brel_cells hc)⟩
    · obtain ⟨e2, o2, h1, h2, h3⟩ := x.dom m y hm
      exact ⟨e2, o2, pre_get h1, h2, brel_mono _ h3⟩
  · rcases key m b1 e1 hm h1 with ⟨rfl, rfl, _⟩ | ⟨a2, a3⟩ <;> rcases key m' b2 e2 hm' h2 with ⟨rfl, rfl, _⟩ | ⟨c2, c3⟩
    · rfl
    · exact absurd ⟨m', b2, e2, c2, c3, h12.symm⟩ hi
    · exact absurd ⟨m, b1, e1, a2, a3, h12⟩ hi
    · exact x.inj m m' e1 e2 b1 b2 a2 c2 a3 c3 h12
  · obtain ⟨e2, h1, h2⟩ := x.gl g hg
    exact ⟨e2, pre_get h1, h2⟩
  · rcases key m y e1 h1 h2 with ⟨rfl, rfl, _⟩ | ⟨a2, a3⟩
    · exact hc h3.symm
    · exact hi' ⟨m, y, e1, a2, a3, h3⟩

theorem clear_ok {dst : Option Tmp} (x : srel σ ν C.P C.gs n s a w) (c : Value) : srel σ ν C.P C.gs n (clear dst s) a w ∧ (clear dst s).h = s.h ∧ srel σ ν C.P C.gs n (clear dst s) (a.put dst c) w := by
  obtain ⟨t, h, d⟩ := s
  cases dst with
  | none => exact ⟨x, rfl, x⟩
  | some y =>
    have ht : ∀ (tm : Array Value), (∀ i, i ≠ y → tm[i]? = a.tmps[i]?) → trel σ ν (t.set y none) tm := by
      intro tm htm i v hv
      rw [Tr.get_set_eq] at hv
      split at hv
      · cases hv
      · rename_i e
        obtain ⟨c', h1, h2⟩ := x.t i v hv
        exact ⟨c', by rw [htm i (Ne.symm e)]; exact h1, h2⟩
    exact ⟨⟨x.h, ht _ (fun _ _ => rfl), x.n, x.d⟩, rfl, ⟨x.h, ht _ (fun i hi => by simp [Act.put, Array.getElem?_setIfInBounds_ne (Ne.symm hi)]), by simpa [Act.put] using x.n, x.d⟩⟩

/-- What was put stays under another put. -/
theorem put_keeps {a : Act} {d1 d2 : Option Tmp} {c1 c2 : Value} {ds : List Deferred} {y : Tmp} (h1 : d1 = some y) (hlt : y < a.tmps.size) (hne : ∀ d, d1 = some d → d2 ≠ some d) :
    ((({ (a.put d1 c1) with defers := ds } : Act)).put d2 c2).tmps[y]? = some c1 := by
  subst h1
  cases d2 with
  | none => simp [Act.put, hlt]
  | some z =>
    have : z ≠ y := fun e => hne y rfl (by rw [e])
    simp only [Act.put]
    rw [Array.getElem?_setIfInBounds_ne this]
    simp [hlt]

end
end Go.Ae
namespace Go.Ae
open Go

section
variable {σ : Sg} {C : Cfg} {rec : Rec} {ops : Array Oper} {n : Nat} {ν : Nu} {s s' sF : St} {a : Act} {w : World} {L : List Rec4} {ν0 : Nu} {h0 : AH} {w0 : World}

/-- The rest of the region, from a state on. -/
def Rest (C : Cfg) (σ : Sg) (ops : Array Oper) (n : Nat) (ν0 : Nu) (h0 : AH) (w0 : World) (sF : St) (L : List Rec4) (rds : List Rd) (s : St) (fuel : Nat) (listed : Array Bool) : Prop :=
  ∀ a w ν, srel σ ν C.P C.gs n s a w → Ext ν0 h0 w0 ν s.h w → lrel C.P ops σ ν rds L → wpAnyN C.P ops (Post C σ ν0 h0 w0 n (.nrm, sF)) (NN C.P ops L) fuel listed a w

theorem force_ok (G : Good C σ) (hC : CallOk C σ rec) {j fuel : Nat} {z : Bool} {rds : List Rd} {listed : Array Bool} {o : Oper} (hr : Region.ready .any ops listed = [j]) (hj : ops[j]? = some o) (hns : isSil (kind C.P o) = false)
    (hop : opW C rec n ops o s = some s') (hz : z = true → ∀ m ∈ L, dep ops j m.1 = true) (hck : z = true ∨ recheck C s'.h rds = true) (x : srel σ ν C.P C.gs n s a w) (hE : Ext ν0 h0 w0 ν s.h w) (hl : lrel C.P ops σ ν rds L)
    (hR : Rest C σ ops n ν0 h0 w0 sF L rds s' fuel (listed.setIfInBounds j true)) : wpAnyN C.P ops (Post C σ ν0 h0 w0 n (.nrm, sF)) (NN C.P ops L) (fuel + 1) listed a w := by
  refine wpAnyN_all hr (by simp) fun i hi => ?_
  have hij : i = j := by simpa using hi
  subst hij
  refine wpOp_of_if hj ?_
  refine opW_ok G hC x hop fun c ds w' ν' hE' hs => ⟨?_, ?_⟩
  · unfold NN
    rw [kindAt_of (C := C) hj, hns]
    simp only [Bool.false_eq_true, if_false]
    rcases hck with hck | hck
    · exact .inl (hz hck)
    · obtain ⟨μ, rfl⟩ := hE'.pre
      exact .inr (recheck_ok G.or hck hs.h (lrel_mono μ hl))
  · obtain ⟨μ, rfl⟩ := hE'.pre
    exact hR _ _ _ hs (hE.trans hE') (lrel_mono μ hl)

theorem apart_ne {x y : Oper} (h : x.apart ops y = true) : ∀ d, x.dst = some d → y.dst ≠ some d := (Oper.apart_spec h).2.1

theorem eval_defers (a : Act) (ds : List Deferred) : ({ a with defers := ds } : Act).eval = a.eval := by
  funext x; cases x <;> rfl

theorem ext_of (hE : Ext ν0 h0 w0 ν s.h w) {ν' : Nu} {h' : AH} {w' : World} (h1 : Ext ν s.h w ν' h' w') : Ext ν0 h0 w0 ν' h' w' := hE.trans h1

theorem pair_ok (G : Good C σ) (hC : CallOk C σ rec) (hsel : Region.noSelect ops = true) {j i fuel : Nat} {rds : List Rd} {listed : Array Bool} {oj oi : Oper} {rs : List Nat} (hr : Region.ready .any ops listed = rs) (hrs : ∀ k, k ∈ rs → k = j ∨ k = i) (hne : rs ≠ [])
    (hji : j ≠ i) (hrj : Region.ready .any ops (listed.setIfInBounds i true) = [j]) (hri : Region.ready .any ops (listed.setIfInBounds j true) = [i]) (hj : ops[j]? = some oj) (hi : ops[i]? = some oi)
    (hkj : isSil (kind C.P oj) = false) (hki : isSil (kind C.P oi) = false) (hop : pair1 C rec n ops rds s (some oj) (some oi) = some s') (hck : recheck C s'.h rds = true)
    (x : srel σ ν C.P C.gs n s a w) (hE : Ext ν0 h0 w0 ν s.h w) (hl : lrel C.P ops σ ν rds L)
    (hR : Rest C σ ops n ν0 h0 w0 sF L rds s' fuel ((listed.setIfInBounds j true).setIfInBounds i true)) : wpAnyN C.P ops (Post C σ ν0 h0 w0 n (.nrm, sF)) (NN C.P ops L) (fuel + 2) listed a w := by
  simp only [pair1] at hop
  cases hc0 : recheck C s.h rds with
  | false => rw [hc0] at hop; simp at hop
  | true =>
    rw [hc0] at hop
    simp only [cond_true, pair0] at hop
    cases hap : (oi.apart ops oj && oj.apart ops oi) with
    | false => rw [hap] at hop; simp at hop
    | true =>
      rw [hap] at hop
      simp only [cond_true] at hop
      simp only [Bool.and_eq_true] at hap
      obtain ⟨hap1, hap2⟩ := hap
      obtain ⟨q1, q2, q3⟩ := Oper.apart_spec hap1
      have seli := fun cs b => Region.noSelect_spec hsel i oi cs b hi
      have selj := fun cs b => Region.noSelect_spec hsel j oj cs b hj
      have hcl := fun c => clear_ok (dst := oi.dst) x c
      have x0 := (hcl undef).1
      have hh0 := (hcl undef).2.1
      generalize hs0 : clear oi.dst s = s0 at hop x0 hh0 hcl
      have sln : ∀ {ν' w' rs}, hrel σ C.gs ν' s0.h w' → lrel C.P ops σ ν' rds L → rs = rds → SL C.P L w' := fun h1 h2 _ => recheck_ok G.or (by rw [hh0]; exact hc0) h1 h2
      have nn : ∀ {k : Nat} {o : Oper} {w1 w2 : World}, ops[k]? = some o → isSil (kind C.P o) = false → SL C.P L w2 → NN C.P ops L k w1 w2 := by
        intro k o w1 w2 hk hs hsl
        unfold NN
        rw [kindAt_of (C := C) hk, hs]
        exact .inr hsl
      have evi : ∀ (c : Value) (ds : List Deferred), execOp (({ a with defers := ds } : Act).put oj.dst c).eval oi = execOp a.eval oi := by
        intro c ds
        rw [execOp_put oi seli _ oj.dst c q3, eval_defers]
      have wai : ∀ (c : Value) (ds : List Deferred), Region.wanted oi (yielded ops (({ a with defers := ds } : Act).put oj.dst c).tmps) = Region.wanted oi (yielded ops a.tmps) := by
        intro c ds
        rw [wanted_put oi _ oj.dst c q3]
      cases hwant : want ops s0.t oi with
      | none => rw [hwant] at hop; simp [pairW] at hop
      | some b =>
        rw [hwant] at hop
        have hw := want_ok x0.t hwant
        cases b with
        | false =>
          simp only [pairW] at hop
          cases hopj : opW C rec n ops oj s0 with
          | none => rw [hopj] at hop; simp [pairS] at hop
          | some s1 =>
            obtain ⟨t1, h1, d1⟩ := s1
            rw [hopj] at hop
            simp only [pairS] at hop
            cases hc1 : recheck C h1 rds with
            | false => rw [hc1] at hop; simp at hop
            | true =>
              rw [hc1] at hop
              simp only [cond_true] at hop
              refine wpAnyN_all hr hne fun k hk => ?_
              rcases hrs k hk with rfl | rfl
              · -- the effect first
                refine wpOp_of_if hj (opW_ok G hC x0 hopj fun c ds w1 ν1 hE1 hs1 => ?_)
                obtain ⟨μ, rfl⟩ := hE1.pre
                have hsl := recheck_ok G.or hc1 hs1.h (lrel_mono μ hl)
                refine ⟨nn hj hkj hsl, wpAnyN_all hri (by simp) fun k2 hk2 => ?_⟩
                have hk2' : k2 = i := by simpa using hk2
                subst hk2'
                refine wpOp_of_Yl (c := undef) hi (.inr ⟨by rw [wai]; exact hw, rfl⟩) ⟨nn hi hki hsl, ?_⟩
                obtain ⟨g1, g2⟩ := putT_ok (c := undef) hop hs1.t hs1.n hs1.d hs1.h ⟨[], rfl, rfl⟩
                exact hR _ _ _ g1 (by rw [g2]; exact hE.trans (by rw [← hh0]; exact hE1)) (lrel_mono μ hl)
              · -- the other first
                refine wpOp_of_Yl (c := undef) hi (.inr ⟨hw, rfl⟩) ⟨nn hi hki (sln (by rw [hh0]; exact x.h) hl rfl), wpAnyN_all hrj (by simp) fun k2 hk2 => ?_⟩
                have hk2' : k2 = j := by simpa using hk2
                subst hk2'
                have x1 := (hcl undef).2.2
                refine wpOp_of_if hj (opW_ok G hC x1 hopj fun c ds w1 ν1 hE1 hs1 => ?_)
                obtain ⟨μ, rfl⟩ := hE1.pre
                have hsl := recheck_ok G.or hc1 hs1.h (lrel_mono μ hl)
                refine ⟨nn hj hkj hsl, ?_⟩
                rw [Array.setIfInBounds_comm _ _ (Ne.symm hji)]
                have hfin : srel σ (ν ++ μ) C.P C.gs n s' (({ (a.put oi.dst undef) with defers := ds } : Act).put oj.dst c) w1 ∧ s'.h = h1 := by
                  unfold putT at hop
                  split at hop
                  · simp at hop; subst hop; exact ⟨hs1, rfl⟩
                  · rename_i y hy
                    cases hlt : Nat.blt y n with
                    | false => rw [hlt] at hop; simp at hop
                    | true =>
                      rw [hlt] at hop
                      simp at hop
                      subst hop
                      refine ⟨⟨hs1.h, fun u v hv => ?_, hs1.n, hs1.d⟩, rfl⟩
                      simp only at hv
                      rw [Tr.get_set_eq] at hv
                      split at hv
                      · rename_i e
                        subst e
                        cases hv
                        refine ⟨undef, ?_, [], rfl, rfl⟩
                        have hysz : @LT.lt Nat _ y a.tmps.size := by simp [Nat.blt] at hlt; exact Nat.lt_of_lt_of_le hlt x.n
                        exact put_keeps hy hysz q2
                      · exact hs1.t u v hv
                exact hR _ _ _ hfin.1 (by rw [hfin.2]; exact hE.trans (by rw [← hh0]; exact hE1)) (lrel_mono μ hl)
        | true =>
          simp only [pairW] at hop
          unfold rowOf at hop
          split at hop
          · rename_i p hp
            obtain ⟨len, cs⟩ := p
            split at hp
            · rename_i ty len' ps hoi
              cases hrc : rowC C.P (ev C.gs s0.t) ty len' ps with
              | none => rw [hrc] at hp; simp [withN] at hp
              | some cs' =>
                rw [hrc] at hp
                simp [withN] at hp
                obtain ⟨rfl, rfl⟩ := hp
                cases hall : cs'.all AV.one with
                | false => rw [hall] at hop; simp at hop
                | true =>
                  rw [hall] at hop
                  simp only [cond_true] at hop
                  obtain ⟨arr, et, hcs, hrun⟩ := row_run x0.rho hoi hrc
                  cases hopj : opW C rec n ops oj s0 with
                  | none => rw [hopj] at hop; simp [pairR] at hop
                  | some s1 =>
                    obtain ⟨t1, h1, d1⟩ := s1
                    rw [hopj] at hop
                    simp only [pairR] at hop
                    cases hc1 : recheck C h1 rds with
                    | false => rw [hc1] at hop; simp at hop
                    | true =>
                      rw [hc1] at hop
                      simp only [cond_true] at hop
                      refine wpAnyN_all hr hne fun k hk => ?_
                      rcases hrs k hk with rfl | rfl
                      · -- the effect first
                        refine wpOp_of_if hj (opW_ok G hC x0 hopj fun c ds w1 ν1 hE1 hs1 => ?_)
                        obtain ⟨μ, rfl⟩ := hE1.pre
                        have hsl := recheck_ok G.or hc1 hs1.h (lrel_mono μ hl)
                        refine ⟨nn hj hkj hsl, wpAnyN_all hri (by simp) fun k2 hk2 => ?_⟩
                        have hk2' : k2 = i := by simpa using hk2
                        subst hk2'
                        refine wpOp_of_if hi ?_
                        rw [wai, hw]
                        simp only [if_true]
                        unfold Oper.wp
                        rw [evi, hrun w1]
                        obtain ⟨m1, m2, m3⟩ := row_ok (t := et) hs1.h (vrels_mono μ _ _ hcs)
                        obtain ⟨g1, g2⟩ := putT_ok (v := .sl h1.nx 0 len' len') (c := .slice (some ⟨w1.heap.size, 0, none⟩) len' len') hop (trel_mono [nameAt w1] hs1.t) hs1.n (drel_mono [nameAt w1] hs1.d) m1 ⟨_, m3, rfl⟩
                        have hl2 := lrel_mono [nameAt w1] (lrel_mono μ hl)
                        refine ⟨nn hi hki (recheck_ok G.or (by rw [← g2]; exact hck) m1 hl2), ?_⟩
                        exact hR _ _ _ g1 (by rw [g2]; exact (hE.trans (by rw [← hh0]; exact hE1)).trans m2) hl2
                      · -- the row first
                        have hyl : Yl C.P ops a w oi (.slice (some ⟨w.heap.size, 0, none⟩) len' len') → True := fun _ => trivial
                        refine wpOp_of_if hi ?_
                        rw [hw]
                        simp only [if_true]
                        unfold Oper.wp
                        rw [hrun w]
                        have xm := (hcl (.slice (some ⟨w.heap.size, 0, none⟩) len' len')).2.2
                        have x1 : srel σ ν C.P C.gs n s0 (a.put oi.dst (.slice (some ⟨w.heap.size, 0, none⟩) len' len')) (w.alloc (.cells arr et)) := ⟨xm.h.more _, xm.t, xm.n, xm.d⟩
                        refine ⟨nn hi hki (sln x1.h hl rfl), wpAnyN_all hrj (by simp) fun k2 hk2 => ?_⟩
                        have hk2' : k2 = j := by simpa using hk2
                        subst hk2'
                        refine wpOp_of_if hj (opW_ok G hC x1 hopj fun c ds w1 ν1 hE1 hs1 => ?_)
                        obtain ⟨μ, rfl⟩ := hE1.pre
                        have hsl := recheck_ok G.or hc1 hs1.h (lrel_mono μ hl)
                        refine ⟨nn hj hkj hsl, ?_⟩
                        rw [Array.setIfInBounds_comm _ _ (Ne.symm hji)]
                        have hnot : ¬ im ν s0.h w.heap.size := fun him => by
                          have := x0.h.lt him
                          omega
                        obtain ⟨f1, f2⟩ := hE1.fr w.heap.size (by simp) hnot
                        have hblk : w1.heap[w.heap.size]? = some (.cells arr et) := by rw [f2]; exact heap_alloc_new w _
                        obtain ⟨m1, m2⟩ := hs1.h.adopt hblk f1 (vrels_mono μ _ _ hcs)
                        have hl2 := lrel_mono [⟨w.heap.size, 0, 0, []⟩] (lrel_mono μ hl)
                        have hE2 : Ext ν s.h w (ν ++ μ ++ [⟨w.heap.size, 0, 0, []⟩]) (h1.alloc (.c cs' 0)) w1 := by
                          refine ⟨⟨μ ++ [⟨w.heap.size, 0, 0, []⟩], by simp⟩, Nat.le_trans (by simp) hE1.sz, fun b hb hnb => ?_, (Keeps.push (w := w) (w' := w.alloc (.cells arr et)) rfl rfl rfl).trans hE1.kp⟩
                          obtain ⟨e1, e2⟩ := hE1.fr b (by simp; omega) (by rw [hh0]; exact hnb)
                          exact ⟨m2 b (by omega) e1, e2.trans (heap_alloc_old w _ b hb)⟩
                        have hname : (ν ++ μ ++ [(⟨w.heap.size, 0, 0, []⟩ : NE)])[h1.nx]? = some ⟨w.heap.size, 0, 0, []⟩ := by rw [← hs1.h.len]; simp
                        have hfin : srel σ (ν ++ μ ++ [⟨w.heap.size, 0, 0, []⟩]) C.P C.gs n s' (({ (a.put oi.dst (.slice (some ⟨w.heap.size, 0, none⟩) len' len')) with defers := ds } : Act).put oj.dst c) w1 ∧ s'.h = h1.alloc (.c cs' 0) := by
                          unfold putT at hop
                          split at hop
                          · simp at hop; subst hop; exact ⟨⟨m1, trel_mono _ hs1.t, hs1.n, drel_mono _ hs1.d⟩, rfl⟩
                          · rename_i y hy
                            cases hlt : Nat.blt y n with
                            | false => rw [hlt] at hop; simp at hop
                            | true =>
                              rw [hlt] at hop
                              simp at hop
                              subst hop
                              refine ⟨⟨m1, fun u v hv => ?_, hs1.n, drel_mono _ hs1.d⟩, rfl⟩
                              simp only at hv
                              rw [Tr.get_set_eq] at hv
                              split at hv
                              · rename_i e
                                subst e
                                cases hv
                                refine ⟨_, ?_, _, hname, rfl⟩
                                have hysz : @LT.lt Nat _ y a.tmps.size := by simp [Nat.blt] at hlt; exact Nat.lt_of_lt_of_le hlt x.n
                                exact put_keeps hy hysz q2
                              · exact trel_mono _ hs1.t u v hv
                        exact hR _ _ _ hfin.1 (by rw [hfin.2]; exact hE.trans hE2) hl2
            · cases hp
          · cases hop

end
end Go.Ae
namespace Go.Ae
open Go

section
variable {σ : Sg} {C : Cfg} {rec : Rec} {ops : Array Oper} {n : Nat} {ν0 : Nu} {h0 : AH} {w0 : World} {sF : St}

theorem noPanic {s : St} (c : List PanicEntry) (a : Act) (w : World) (d : Option Tmp) (v : Value) : Post C σ ν0 h0 w0 n (.nrm, s) (.panic c) (a.put d v) w → Post C σ ν0 h0 w0 n (.nrm, s) (.panic c) a w := fun h => by cases h.1

theorem checked_spec {z : Bool} {rds : List Rd} {o : Option St} {y : St × List Rd} (h : checked C z rds o = some y) : ∃ s, o = some s ∧ y = (s, rds) ∧ (z = true ∨ recheck C s.h rds = true) := by
  unfold checked at h
  split at h
  · rename_i s
    cases z with
    | true => simp at h; exact ⟨s, rfl, h.symm, .inl rfl⟩
    | false =>
      cases hr : recheck C s.h rds with
      | true => rw [hr] at h; simp at h; exact ⟨s, rfl, h.symm, .inr hr⟩
      | false => rw [hr] at h; simp at h
  · cases h

theorem map_cons {x : Stp} {o : Option (List Stp)} {pl : List Stp} (h : o.map (x :: ·) = some pl) : ∃ pl', o = some pl' ∧ pl = x :: pl' := by
  cases o with
  | none => simp at h
  | some p => simp at h; exact ⟨p, rfl, h.symm⟩

theorem dep_all {rdsN : List Nat} {j : Nat} (h : rdsN.all (dep ops j) = true) {L : List Rec4} (hs : ∀ m ∈ L, m.1 ∈ rdsN) : ∀ m ∈ L, dep ops j m.1 = true := fun m hm => List.all_eq_true.1 h _ (hs m hm)

/-- A pair's words in the plan. -/
theorem go_spec {listed : Array Bool} {j i f : Nat} {rdsN : List Nat} {pl : List Stp} (h : (bif Region.ready .any ops (listed.setIfInBounds i true) == [j] && Region.ready .any ops (listed.setIfInBounds j true) == [i] then
    (mkPlan C.P ops f ((listed.setIfInBounds j true).setIfInBounds i true) false rdsN).map (.pair j i :: ·) else none) = some pl) :
    Region.ready .any ops (listed.setIfInBounds i true) = [j] ∧ Region.ready .any ops (listed.setIfInBounds j true) = [i] ∧ ∃ pl', mkPlan C.P ops f ((listed.setIfInBounds j true).setIfInBounds i true) false rdsN = some pl' ∧ pl = .pair j i :: pl' := by
  cases hb : (Region.ready .any ops (listed.setIfInBounds i true) == [j] && Region.ready .any ops (listed.setIfInBounds j true) == [i]) with
  | false => rw [hb] at h; simp at h
  | true =>
    rw [hb] at h
    simp only [cond_true] at h
    simp only [Bool.and_eq_true, beq_iff_eq] at hb
    exact ⟨hb.1, hb.2, map_cons h⟩

/-- What comes next, as the plan has it. -/
inductive Nx (C : Cfg) (ops : Array Oper) (f : Nat) (listed : Array Bool) (early : Bool) (rdsN : List Nat) : List Stp → Prop where
  | done (h : Region.ready .any ops listed = []) : Nx C ops f listed early rdsN []
  | force (j : Nat) (pl : List Stp) (h : Region.ready .any ops listed = [j]) (hp : mkPlan C.P ops f (listed.setIfInBounds j true) (early && isSil (kindAt C.P ops j)) rdsN = some pl) : Nx C ops f listed early rdsN (.force j (rdsN.all (dep ops j)) :: pl)
  | take (i : Nat) (pl : List Stp) (h : i ∈ Region.ready .any ops listed) (hf : Region.free .any ops listed i = true) (hk : kindAt C.P ops i = .pur ∨ kindAt C.P ops i = .slc)
      (hp : mkPlan C.P ops f (listed.setIfInBounds i true) early rdsN = some pl) : Nx C ops f listed early rdsN (.take i false :: pl)
  | read (i : Nat) (pl : List Stp) (he : early = true) (h : i ∈ Region.ready .any ops listed) (hf : Region.free .any ops listed i = true) (hk : kindAt C.P ops i = .rd)
      (hp : mkPlan C.P ops f (listed.setIfInBounds i true) early (i :: rdsN) = some pl) : Nx C ops f listed early rdsN (.take i true :: pl)
  | pair (j i : Nat) (pl : List Stp) (h : Region.ready .any ops listed = [j, i] ∨ Region.ready .any ops listed = [i, j]) (hj : kindAt C.P ops j = .eff) (hi : kindAt C.P ops i = .bs)
      (h1 : Region.ready .any ops (listed.setIfInBounds i true) = [j]) (h2 : Region.ready .any ops (listed.setIfInBounds j true) = [i])
      (hp : mkPlan C.P ops f ((listed.setIfInBounds j true).setIfInBounds i true) false rdsN = some pl) : Nx C ops f listed early rdsN (.pair j i :: pl)

theorem mkPlan_next {f : Nat} {listed : Array Bool} {early : Bool} {rdsN : List Nat} {pl : List Stp} (h : mkPlan C.P ops (f + 1) listed early rdsN = some pl) : Nx C ops f listed early rdsN pl := by
  simp only [mkPlan] at h
  split at h
  · rename_i hr; simp at h; subst h; exact .done hr
  · rename_i j hr
    obtain ⟨pl', h1, rfl⟩ := map_cons h
    refine .force j pl' hr ?_
    rw [← h1]
    congr 2
  · rename_i R hne1 hne2
    split at h
    · rename_i i r hf
      obtain ⟨pl', h1, rfl⟩ := map_cons h
      obtain ⟨g1, g2, g3⟩ := firstPur_spec hf
      rcases g3 with ⟨g3, rfl⟩ | ⟨g3, rfl, g4⟩
      · exact .take i pl' g1 g2 (.inl g3) (by simpa using h1)
      · exact .read i pl' g4 g1 g2 g3 (by simpa using h1)
    · split at h
      · rename_i i hf
        obtain ⟨pl', h1, rfl⟩ := map_cons h
        obtain ⟨g1, g2, g3⟩ := firstSlc_spec hf
        exact .take i pl' g1 g2 (.inr g3) h1
      · split at h
        · rename_i a c hR
          split at h
          · rename_i k1 k2
            obtain ⟨g1, g2, pl', g3, rfl⟩ := go_spec h
            exact .pair a c pl' (.inl hR) k1 k2 g1 g2 g3
          · rename_i k1 k2
            obtain ⟨g1, g2, pl', g3, rfl⟩ := go_spec h
            exact .pair c a pl' (.inr hR) k2 k1 g1 g2 g3
          · cases h
        · cases h

theorem sil_pur {o : Oper} (h : kind C.P o = .pur ∨ kind C.P o = .slc) : isSil (kind C.P o) = true ∧ kind C.P o ≠ .rd := by
  rcases h with h | h <;> rw [h] <;> exact ⟨rfl, by simp⟩

theorem nn_sil {L : List Rec4} {i : Nat} {o : Oper} (hi : ops[i]? = some o) (hk : isSil (kind C.P o) = true) (w : World) : NN C.P ops L i w w := by
  unfold NN
  rw [kindAt_of (C := C) hi, hk]
  rfl

theorem pair_ne {j i : Nat} (hj : kindAt C.P ops j = .eff) (hi : kindAt C.P ops i = .bs) : j ≠ i := by
  intro e; subst e; rw [hj] at hi; cases hi

/-- Behind the first operation that acts. -/
theorem late_ok (G : Good C σ) (hC : CallOk C σ rec) (hsel : Region.noSelect ops = true) {L : List Rec4} : ∀ (f : Nat) {listed : Array Bool} {rdsN : List Nat} {pl : List Stp} {rds : List Rd} {s : St} {fuel : Nat},
    mkPlan C.P ops f listed false rdsN = some pl → (∀ m ∈ L, m.1 ∈ rdsN) → adraw C rec n ops pl rds s = some sF → costs pl ≤ fuel → Rest C σ ops n ν0 h0 w0 sF L rds s fuel listed := by
  intro f
  induction f with
  | zero => intro listed rdsN pl rds s fuel h; simp [mkPlan] at h
  | succ f ih =>
    intro listed rdsN pl rds s fuel hp hs hd hc a w ν x hE hl
    cases mkPlan_next hp with
    | done hr =>
      simp [adraw] at hd
      subst hd
      exact wpAnyN_done hr ⟨rfl, ν, hE, x⟩ fuel
    | force j pl' hr hp' =>
      simp only [adraw] at hd
      split at hd
      · rename_i y hy
        simp only [stp] at hy
        obtain ⟨s1, h1, rfl, hck⟩ := checked_spec hy
        obtain ⟨o, ho⟩ := ready_some (show j ∈ Region.ready .any ops listed by rw [hr]; simp)
        rw [ho] at h1
        simp only [forceO] at h1
        cases fuel with
        | zero => simp [costs, Stp.cost] at hc
        | succ fuel =>
          have hc' : costs pl' ≤ fuel := by simp [costs, Stp.cost] at hc; omega
          cases hk : isSil (kind C.P o) with
          | false =>
            refine force_ok G hC hr ho hk h1 (fun hz => dep_all hz hs) hck x hE hl ?_
            exact ih (by simpa using hp') hs hd hc'
          | true =>
            obtain ⟨c, ν', k1, k2, k3⟩ := silW_ok G.or hk x h1
            obtain ⟨μ, rfl⟩ := k1.pre
            refine wpAnyN_all hr (by simp) fun i hi => ?_
            have hij : i = j := by simpa using hi
            subst hij
            exact wpOp_of_Yl ho k3 ⟨nn_sil ho hk w, ih (by simpa using hp') hs hd hc' _ _ _ k2 (hE.trans k1) (lrel_mono μ hl)⟩
      · cases hd
    | take i pl' hi hf hk hp' =>
      simp only [adraw] at hd
      split at hd
      · rename_i y hy
        obtain ⟨s1, rds1⟩ := y
        simp only [stp] at hy
        obtain ⟨o, ho⟩ := ready_some hi
        rw [ho] at hy
        rw [kindAt_of ho] at hk
        obtain ⟨hk1, hk2⟩ := sil_pur hk
        obtain ⟨c, g1, g2, g3⟩ := take_of G.or hk1 x hy
        cases fuel with
        | zero => simp [costs, Stp.cost] at hc
        | succ fuel =>
          have hc' : costs pl' ≤ fuel := by simp [costs, Stp.cost] at hc; omega
          have hrds : rds1 = rds := by
            rcases g3 with ⟨_, _, ⟨v, _, e⟩, _⟩ | ⟨_, _, e⟩
            · simpa using e
            · exact e
          subst hrds
          have hy : YieldsIf C.P ops (fun _ => True) o c a := by
            rcases g3 with ⟨e1, _, _, e2⟩ | ⟨e1, e2, _⟩
            · exact .inl ⟨e1, fun w' _ => e2 hk2 w'⟩
            · exact .inr ⟨e1, e2⟩
          refine wpAnyN_first (fun _ => True) ho (Region.noSelect_spec hsel) (fun c a w => noPanic c a w _ _) (fun _ _ _ _ _ _ _ _ _ => trivial) (fun w => nn_sil ho hk1 w) fuel listed a w (Region.free_spec ho hf) hi hy trivial ?_
          exact ih hp' hs hd hc' _ _ _ g1 (by rw [g2]; exact hE) hl
      · cases hd
    | read i pl' he => cases he
    | pair j i pl' hr hj hi h1 h2 hp' =>
      simp only [adraw] at hd
      split at hd
      · rename_i y hy
        simp only [stp] at hy
        obtain ⟨s1, hs1, rfl, hck⟩ := checked_spec hy
        obtain ⟨oj, hoj⟩ := ready_some (show j ∈ Region.ready .any ops listed by rcases hr with hr | hr <;> rw [hr] <;> simp)
        obtain ⟨oi, hoi⟩ := ready_some (show i ∈ Region.ready .any ops listed by rcases hr with hr | hr <;> rw [hr] <;> simp)
        rw [hoj, hoi] at hs1
        have hck' : recheck C s1.h rds = true := by rcases hck with hck | hck <;> first | exact hck | cases hck
        match fuel, hc with
        | 0, hc => simp [costs, Stp.cost] at hc
        | 1, hc => simp [costs, Stp.cost] at hc; omega
        | fuel + 2, hc =>
          have hc' : costs pl' ≤ fuel := by simp [costs, Stp.cost] at hc; omega
          have hnj : isSil (kind C.P oj) = false := by rw [← kindAt_of (C := C) hoj, hj]; rfl
          have hni : isSil (kind C.P oi) = false := by rw [← kindAt_of (C := C) hoi, hi]; rfl
          rcases hr with hr | hr
          · exact pair_ok G hC hsel hr (by simp) (by simp) (pair_ne hj hi) h1 h2 hoj hoi hnj hni hs1 hck' x hE hl (ih hp' hs hd hc')
          · exact pair_ok G hC hsel hr (by simp) (by simp) (pair_ne hj hi) h1 h2 hoj hoi hnj hni hs1 hck' x hE hl (ih hp' hs hd hc')
      · cases hd

/-- Ahead of it. -/
theorem early_ok (G : Good C σ) (hC : CallOk C σ rec) (hsel : Region.noSelect ops = true) : ∀ (f : Nat) {listed : Array Bool} {rdsN : List Nat} {pl : List Stp} {rds : List Rd} {s : St} {fuel : Nat} {L : List Rec4} {a : Act} {w : World} {ν : Nu},
    mkPlan C.P ops f listed true rdsN = some pl → (∀ m ∈ L, m.1 ∈ rdsN) → adraw C rec n ops pl rds s = some sF → costs pl ≤ fuel → srel σ ν C.P C.gs n s a w → Ext ν0 h0 w0 ν s.h w → lrel C.P ops σ ν rds L →
    ∃ L', (∀ m ∈ L, m ∈ L') ∧ wpAnyN C.P ops (Post C σ ν0 h0 w0 n (.nrm, sF)) (NN C.P ops L') fuel listed a w := by
  intro f
  induction f with
  | zero => intro listed rdsN pl rds s fuel L a w ν h; simp [mkPlan] at h
  | succ f ih =>
    intro listed rdsN pl rds s fuel L a w ν hp hs hd hc x hE hl
    cases mkPlan_next hp with
    | done hr =>
      simp [adraw] at hd
      subst hd
      exact ⟨L, fun _ h => h, wpAnyN_done hr ⟨rfl, ν, hE, x⟩ fuel⟩
    | force j pl' hr hp' =>
      simp only [adraw] at hd
      split at hd
      · rename_i y hy
        simp only [stp] at hy
        obtain ⟨s1, h1, rfl, hck⟩ := checked_spec hy
        obtain ⟨o, ho⟩ := ready_some (show j ∈ Region.ready .any ops listed by rw [hr]; simp)
        rw [ho] at h1
        simp only [forceO] at h1
        rw [kindAt_of ho] at hp'
        cases fuel with
        | zero => simp [costs, Stp.cost] at hc
        | succ fuel =>
          have hc' : costs pl' ≤ fuel := by simp [costs, Stp.cost] at hc; omega
          cases hk : isSil (kind C.P o) with
          | false =>
            rw [hk] at hp'
            exact ⟨L, fun _ h => h, force_ok G hC hr ho hk h1 (fun hz => dep_all hz hs) hck x hE hl (late_ok G hC hsel f (by simpa using hp') hs hd hc')⟩
          | true =>
            rw [hk] at hp'
            obtain ⟨c, ν', k1, k2, k3⟩ := silW_ok G.or hk x h1
            obtain ⟨μ, rfl⟩ := k1.pre
            obtain ⟨L', l1, l2⟩ := ih (by simpa using hp') hs hd hc' k2 (hE.trans k1) (lrel_mono μ hl)
            refine ⟨L', l1, wpAnyN_all hr (by simp) fun i hi => ?_⟩
            have hij : i = j := by simpa using hi
            subst hij
            exact wpOp_of_Yl ho k3 ⟨nn_sil ho hk w, l2⟩
      · cases hd
    | take i pl' hi hf hk hp' =>
      simp only [adraw] at hd
      split at hd
      · rename_i y hy
        obtain ⟨s1, rds1⟩ := y
        simp only [stp] at hy
        obtain ⟨o, ho⟩ := ready_some hi
        rw [ho] at hy
        rw [kindAt_of ho] at hk
        obtain ⟨hk1, hk2⟩ := sil_pur hk
        obtain ⟨c, g1, g2, g3⟩ := take_of G.or hk1 x hy
        cases fuel with
        | zero => simp [costs, Stp.cost] at hc
        | succ fuel =>
          have hc' : costs pl' ≤ fuel := by simp [costs, Stp.cost] at hc; omega
          have hrds : rds1 = rds := by
            rcases g3 with ⟨_, _, ⟨v, _, e⟩, _⟩ | ⟨_, _, e⟩
            · simpa using e
            · exact e
          subst hrds
          have hy : YieldsIf C.P ops (fun _ => True) o c a := by
            rcases g3 with ⟨e1, _, _, e2⟩ | ⟨e1, e2, _⟩
            · exact .inl ⟨e1, fun w' _ => e2 hk2 w'⟩
            · exact .inr ⟨e1, e2⟩
          obtain ⟨L', l1, l2⟩ := ih hp' hs hd hc' g1 (by rw [g2]; exact hE) hl
          exact ⟨L', l1, wpAnyN_first (fun _ => True) ho (Region.noSelect_spec hsel) (fun c a w => noPanic c a w _ _) (fun _ _ _ _ _ _ _ _ _ => trivial) (fun w => nn_sil ho hk1 w) fuel listed a w (Region.free_spec ho hf) hi hy trivial l2⟩
      · cases hd
    | read i pl' he hi hf hk hp' =>
      simp only [adraw] at hd
      split at hd
      · rename_i y hy
        obtain ⟨s1, rds1⟩ := y
        simp only [stp] at hy
        obtain ⟨o, ho⟩ := ready_some hi
        rw [ho] at hy
        rw [kindAt_of ho] at hk
        have hk1 : isSil (kind C.P o) = true := by rw [hk]; rfl
        obtain ⟨c, g1, g2, g3⟩ := take_of G.or hk1 x hy
        cases fuel with
        | zero => simp [costs, Stp.cost] at hc
        | succ fuel =>
          have hc' : costs pl' ≤ fuel := by simp [costs, Stp.cost] at hc; omega
          have hs' : ∀ m ∈ L, m.1 ∈ i :: rdsN := fun m hm => List.mem_cons_of_mem _ (hs m hm)
          rcases g3 with ⟨e1, e2, ⟨v, e3, e4⟩, _⟩ | ⟨e1, e2, e4⟩
          · simp only [cond_true] at e4
            subst e4
            obtain ⟨L', l1, l2⟩ := ih (L := (i, a, o, c) :: L) hp' (fun m hm => by
              rcases List.mem_cons.1 hm with rfl | hm
              · simp
              · exact hs' m hm) hd hc' g1 (by rw [g2]; exact hE) ⟨(i, a, o, c), L, ⟨rfl, x.t, e3, hk, ho⟩, hl, rfl⟩
            refine ⟨L', fun m hm => l1 m (List.mem_cons_of_mem _ hm), ?_⟩
            have hmem : (i, a, o, c) ∈ L' := l1 _ (by simp)
            refine wpAnyN_first (fun w' => (execOp a.eval o).run C.P w' = .ok (.value c) w') ho (Region.noSelect_spec hsel) (fun c a w => noPanic c a w _ _) ?_ (fun w => nn_sil ho hk1 w) fuel listed a w (Region.free_spec ho hf) hi
              (.inl ⟨e1, fun w' h => h⟩) e2 l2
            intro j oj hoj hji hno w1 w2 ht hN
            unfold NN at hN
            split at hN
            · rw [hN]; exact ht
            · rcases hN with hN | hN
              · have := hN _ hmem
                unfold dep at this
                rw [hoj] at this
                obtain ⟨e, he1, he2⟩ := List.any_eq_true.1 this
                simp only [Bool.and_eq_true, beq_iff_eq] at he2
                exact absurd he2.2 (hno e (by simpa using he1) he2.1)
              · exact hN _ hmem
          · subst e4
            obtain ⟨L', l1, l2⟩ := ih hp' hs' hd hc' g1 (by rw [g2]; exact hE) hl
            exact ⟨L', l1, wpAnyN_first (fun _ => True) ho (Region.noSelect_spec hsel) (fun c a w => noPanic c a w _ _) (fun _ _ _ _ _ _ _ _ _ => trivial) (fun w => nn_sil ho hk1 w) fuel listed a w (Region.free_spec ho hf) hi (.inr ⟨e1, e2⟩) trivial l2⟩
      · cases hd
    | pair j i pl' hr hj hi h1 h2 hp' =>
      simp only [adraw] at hd
      split at hd
      · rename_i y hy
        simp only [stp] at hy
        obtain ⟨s1, hs1, rfl, hck⟩ := checked_spec hy
        obtain ⟨oj, hoj⟩ := ready_some (show j ∈ Region.ready .any ops listed by rcases hr with hr | hr <;> rw [hr] <;> simp)
        obtain ⟨oi, hoi⟩ := ready_some (show i ∈ Region.ready .any ops listed by rcases hr with hr | hr <;> rw [hr] <;> simp)
        rw [hoj, hoi] at hs1
        have hck' : recheck C s1.h rds = true := by rcases hck with hck | hck <;> first | exact hck | cases hck
        match fuel, hc with
        | 0, hc => simp [costs, Stp.cost] at hc
        | 1, hc => simp [costs, Stp.cost] at hc; omega
        | fuel + 2, hc =>
          have hc' : costs pl' ≤ fuel := by simp [costs, Stp.cost] at hc; omega
          have hnj : isSil (kind C.P oj) = false := by rw [← kindAt_of (C := C) hoj, hj]; rfl
          have hni : isSil (kind C.P oi) = false := by rw [← kindAt_of (C := C) hoi, hi]; rfl
          rcases hr with hr | hr
          · exact ⟨L, fun _ h => h, pair_ok G hC hsel hr (by simp) (by simp) (pair_ne hj hi) h1 h2 hoj hoi hnj hni hs1 hck' x hE hl (late_ok G hC hsel f hp' hs hd hc')⟩
          · exact ⟨L, fun _ h => h, pair_ok G hC hsel hr (by simp) (by simp) (pair_ne hj hi) h1 h2 hoj hoi hnj hni hs1 hck' x hE hl (late_ok G hC hsel f hp' hs hd hc')⟩
      · cases hd

/-! ### Every order -/

/-- What comes then, from a state on. -/
def Then (C : Cfg) (σ : Sg) (ops : Array Oper) (n : Nat) (ν0 : Nu) (h0 : AH) (w0 : World) (sF : St) (m : Nat) (listed : Array Bool) (s : St) : Prop :=
  ∀ a w ν fuel, m ≤ fuel → srel σ ν C.P C.gs n s a w → Ext ν0 h0 w0 ν s.h w → wpAnyN C.P ops (Post C σ ν0 h0 w0 n (.nrm, sF)) (fun _ _ _ => True) fuel listed a w

theorem putT_d {n : Nat} {t : Tr AV} {h : AH} {d : List (Nat × List AV)} {dst : Option Tmp} {v : AV} {s' : St} (hp : putT n t h d dst v = some s') : s'.h = h ∧ s'.d = d := by
  unfold putT at hp
  split at hp
  · simp at hp; subst hp; exact ⟨rfl, rfl⟩
  · rename_i x
    cases hb : Nat.blt x n with
    | false => rw [hb] at hp; simp at hp
    | true => rw [hb] at hp; simp at hp; subst hp; exact ⟨rfl, rfl⟩

/-- What a quiet operation leaves: all old blocks, and what was put off. -/
theorem quiet_keeps (G : Good C σ) {o : Oper} {ν : Nu} {a : Act} {w : World} {s s' : St} (hq : quietK (kind C.P o) = true) (x : srel σ ν C.P C.gs n s a w) (hop : opW C rec n ops o s = some s') :
    (∀ k b, s.h.get k = some b → s'.h.get k = some b) ∧ s'.d = s.d := by
  obtain ⟨t, h, d⟩ := s
  simp only [opW] at hop
  cases hwant : want ops t o with
  | none => rw [hwant] at hop; simp [opG] at hop
  | some b =>
    rw [hwant] at hop
    cases b with
    | false =>
      simp only [opG, skipE] at hop
      obtain ⟨h1, h2⟩ := putT_d hop
      exact ⟨fun k b hb => by rw [h1]; exact hb, h2⟩
    | true =>
      simp only [opG, opE] at hop
      cases hR : op C.ω C.P C.gs t h o with
      | none => rw [hR] at hop; simp [opR] at hop
      | some R' =>
        rw [hR] at hop
        have val : ∀ {v h'}, R' = .v v h' → (∀ k b, h.get k = some b → h'.get k = some b) → (∀ k b, h.get k = some b → s'.h.get k = some b) ∧ s'.d = d := by
          intro v h' e hk
          subst e
          simp only [opR] at hop
          obtain ⟨h1, h2⟩ := putT_d hop
          exact ⟨fun k b hb => by rw [h1]; exact hk k b hb, h2⟩
        have hρ := x.rho
        cases hkd : kind C.P o with
        | pur =>
          obtain ⟨v, h', rfl⟩ := isV_of (by rw [hkd]; rfl) hR
          obtain ⟨rfl, _⟩ := opX_pur G.or x.h hρ hkd hR
          exact val rfl fun _ _ h => h
        | rd =>
          obtain ⟨v, h', rfl⟩ := isV_of (by rw [hkd]; rfl) hR
          obtain ⟨rfl, _⟩ := opX_rd G.or x.h hρ hkd hR
          exact val rfl fun _ _ h => h
        | slc =>
          obtain ⟨v, h', rfl⟩ := isV_of (by rw [hkd]; rfl) hR
          obtain ⟨ν', c, h1, _⟩ := opX_slc G.or x.h hρ hkd hR
          refine val rfl fun k b hb => ?_
          rcases h1 with ⟨_, rfl⟩ | ⟨_, _, rfl⟩
          · exact hb
          · exact hb
        | bs =>
          have hR2 : ∃ t len ps, o.op = .buildSlice t len ps := by
            obtain ⟨dst, op, type, pos, after, guard⟩ := o
            cases op
            case buildSlice t len ps => exact ⟨t, len, ps, rfl⟩
            case call c =>
              obtain ⟨callee, args, ats⟩ := c
              cases callee <;> simp only [kind] at hkd <;> (try (cases hkd; done))
              rename_i b
              cases b <;> simp only [kindB] at hkd <;> (try (cases hkd; done))
              repeat' split at hkd
              all_goals cases hkd
            all_goals first
              | (simp [kind] at hkd; done)
              | (simp only [kind] at hkd; split at hkd <;> simp at hkd; done)
          obtain ⟨ty, len, ps, e⟩ := hR2
          have hR3 : opD C.P (ev C.gs t) h o.op = some R' := by
            rcases opX_cases hR with h1 | h1
            · exact h1
            · rw [e] at h1; simp [opS] at h1
          rw [e] at hR3
          simp only [opD, oRow] at hR3
          cases hr : rowC C.P (ev C.gs t) ty len ps with
          | none => rw [hr] at hR3; simp [newRow] at hR3
          | some cs =>
            rw [hr] at hR3
            simp only [newRow] at hR3
            cases hall : cs.all AV.one with
            | false => rw [hall] at hR3; simp at hR3
            | true =>
              rw [hall] at hR3
              simp only [cond_true, Option.some.injEq] at hR3
              refine val hR3.symm fun k b hb => ?_
              rw [AH.get_alloc]
              have := x.h.live_lt hb
              rw [if_neg (by simp only at this; omega)]
              exact hb
        | eff => rw [hkd] at hq; cases hq

theorem allL_mem {f : Nat → Option (List Leaf)} : ∀ {R : List Nat} {ls : List Leaf}, allL f R = some ls → ∀ j ∈ R, ∃ a, f j = some a ∧ ∀ l ∈ a, l ∈ ls
  | [], _, _, j, hj => by cases hj
  | i :: R, ls, h, j, hj => by
    simp only [allL] at h
    split at h
    · rename_i a ha
      split at h
      · rename_i b hb
        simp at h
        subst h
        rcases List.mem_cons.1 hj with rfl | hj
        · exact ⟨a, ha, fun l hl => List.mem_append_left _ hl⟩
        · obtain ⟨c, h1, h2⟩ := allL_mem hb j hj
          exact ⟨c, h1, fun l hl => List.mem_append_right _ (h2 l hl)⟩
      · cases h
    · cases h

theorem bindS_some {f : St → Option (List Leaf)} {o : Option St} {ls : List Leaf} (h : bindS f o = some ls) : ∃ s, o = some s ∧ f s = some ls := by
  cases o with
  | none => simp [bindS] at h
  | some s => exact ⟨s, rfl, h⟩

theorem quietO_some {ops : Array Oper} {s s' : St} {o : Option Oper} (h : quietO C rec n ops s o = some s') : ∃ o', o = some o' ∧ quietK (kind C.P o') = true ∧ opW C rec n ops o' s = some s' := by
  cases o with
  | none => simp [quietO] at h
  | some o =>
    simp only [quietO] at h
    cases hq : quietK (kind C.P o) with
    | false => rw [hq] at h; simp at h
    | true => rw [hq] at h; exact ⟨o, rfl, hq, h⟩

theorem leaves_k : ∀ (f : Nat) {k : Nat} {listed : Array Bool} {s : St} {ls : List Leaf}, leaves C rec n ops f k listed s = some ls → ls ≠ [] ∧ ∀ l ∈ ls, k ≤ l.k := by
  intro f
  induction f with
  | zero => intro k listed s ls h; simp [leaves] at h
  | succ f ih =>
    intro k listed s ls h
    have one : some [(⟨listed, s, k⟩ : Leaf)] = some ls → ls ≠ [] ∧ ∀ l ∈ ls, k ≤ l.k := by
      intro e
      simp at e
      subst e
      exact ⟨by simp, fun l hl => by rw [List.mem_singleton] at hl; subst hl; exact Nat.le_refl _⟩
    simp only [leaves] at h
    split at h
    · exact one h
    · rename_i j hr
      cases hqk : quietK (kindAt C.P ops j) with
      | false => rw [hqk] at h; exact one h
      | true =>
        rw [hqk] at h
        obtain ⟨s1, h1, h2⟩ := bindS_some h
        obtain ⟨g1, g2⟩ := ih h2
        exact ⟨g1, fun l hl => by have := g2 l hl; omega⟩
    · rename_i R hne1 hne2
      split at h
      · obtain ⟨s1, h1, h2⟩ := bindS_some h
        obtain ⟨g1, g2⟩ := ih h2
        exact ⟨g1, fun l hl => by have := g2 l hl; omega⟩
      · have all : ∀ {R : List Nat} {ls : List Leaf}, allL (fun j => bindS (leaves C rec n ops f (k + 1) (listed.setIfInBounds j true)) (quietO C rec n ops s ops[j]?)) R = some ls → (R ≠ [] → ls ≠ []) ∧ ∀ l ∈ ls, k ≤ l.k := by
          intro R
          induction R with
          | nil => intro ls h; simp [allL] at h; subst h; exact ⟨fun h => absurd rfl h, fun l hl => by cases hl⟩
          | cons j R ihR =>
            intro ls h
            simp only [allL] at h
            split at h
            · rename_i a ha
              split at h
              · rename_i b hb
                simp at h
                subst h
                obtain ⟨s1, h1, h2⟩ := bindS_some ha
                obtain ⟨g1, g2⟩ := ih h2
                refine ⟨fun _ e => g1 (List.append_eq_nil_iff.1 e).1, fun l hl => ?_⟩
                rcases List.mem_append.1 hl with hl | hl
                · have := g2 l hl; omega
                · exact (ihR hb).2 l hl
              · cases h
            · cases h
        obtain ⟨g1, g2⟩ := all h
        refine ⟨g1 ?_, g2⟩
        intro e
        exact hne1 e

theorem takeQ_some {s s' : St} {o : Option Oper} (h : takeQ C n ops s o = some s') : ∃ r, takeO C n ops false [] o s = some (s', r) := by
  unfold takeQ at h
  cases hy : takeO C n ops false [] o s with
  | none => rw [hy] at h; simp [stOf1] at h
  | some y => rw [hy] at h; simp [stOf1] at h; subst h; exact ⟨y.2, rfl⟩

theorem take_d {s s' : St} {o : Oper} {r : List Rd} (h : takeO C n ops false [] (some o) s = some (s', r)) : s'.d = s.d := by
  obtain ⟨t, hh, d⟩ := s
  simp only [takeO] at h
  cases hw : want ops t o with
  | none => rw [hw] at h; simp [takeG] at h
  | some b =>
    rw [hw] at h
    cases b with
    | false =>
      simp only [takeG] at h
      cases hp : putT n t hh d o.dst (.tu []) with
      | none => rw [hp] at h; simp [withRd] at h
      | some s1 => rw [hp] at h; simp [withRd] at h; rw [← h.1]; exact (putT_d hp).2
    | true =>
      simp only [takeG] at h
      cases hv : asV (op C.ω C.P C.gs t hh o) with
      | none => rw [hv] at h; simp [take1] at h
      | some y =>
        rw [hv] at h
        simp only [take1] at h
        cases hn : Nat.beq y.2.nx hh.nx with
        | false => rw [hn] at h; simp at h
        | true =>
          rw [hn] at h
          simp only [cond_true] at h
          cases hp : putT n t hh d o.dst y.1 with
          | none => rw [hp] at h; simp [withRd] at h
          | some s1 => rw [hp] at h; simp [withRd] at h; rw [← h.1]; exact (putT_d hp).2

theorem leaves_ok (G : Good C σ) (hC : CallOk C σ rec) (hsel : Region.noSelect ops = true) {m : Nat} {hb : AH} {db : List (Nat × List AV)} : ∀ (f : Nat) {k : Nat} {listed : Array Bool} {s : St} {ls : List Leaf},
    leaves C rec n ops f k listed s = some ls → (∀ k b, hb.get k = some b → s.h.get k = some b) → s.d = db →
    (∀ l ∈ ls, (∀ k b, hb.get k = some b → l.s.h.get k = some b) → l.s.d = db → Then C σ ops n ν0 h0 w0 sF m l.l l.s) → ∀ {q : Nat}, (∀ l ∈ ls, l.k + m ≤ k + q) → Then C σ ops n ν0 h0 w0 sF q listed s := by
  intro f
  induction f with
  | zero => intro k listed s ls h; simp [leaves] at h
  | succ f ih =>
    intro k listed s ls h hk hd hl q hq
    have stop : some [(⟨listed, s, k⟩ : Leaf)] = some ls → Then C σ ops n ν0 h0 w0 sF q listed s := by
      intro e
      simp at e
      subst e
      have h1 := hl ⟨listed, s, k⟩ (by simp) hk hd
      have h2 := hq ⟨listed, s, k⟩ (by simp)
      simp only at h2
      exact fun a w ν fuel hf => h1 a w ν fuel (by omega)
    simp only [leaves] at h
    split at h
    · exact stop h
    · rename_i j hr
      cases hqq : quietK (kindAt C.P ops j) with
      | false => rw [hqq] at h; exact stop h
      | true =>
        rw [hqq] at h
        obtain ⟨s1, h1, h2⟩ := bindS_some h
        obtain ⟨o, ho, hqk, hop⟩ := quietO_some h1
        intro a w ν fuel hfu x hE
        obtain ⟨k1, k2⟩ := leaves_k f h2
        have hpos : 1 + m ≤ q := by
          cases ls with
          | nil => exact absurd rfl k1
          | cons l ls => have := hq l (by simp); have := k2 l (by simp); omega
        cases fuel with
        | zero => omega
        | succ fuel =>
          refine wpAnyN_all hr (by simp) fun i hi => ?_
          have hij : i = j := by simpa using hi
          subst hij
          obtain ⟨e1, e2⟩ := quiet_keeps G hqk x hop
          refine wpOp_of_if ho (opW_ok G hC x hop fun c ds w' ν' hE' hs => ⟨trivial, ?_⟩)
          exact ih (q := q - 1) h2 (fun k b hb' => e1 k b (hk k b hb')) (by rw [e2]; exact hd) hl (fun l hll => by have := hq l hll; omega) _ _ _ fuel (by omega) hs (hE.trans hE')
    · rename_i R hne1 hne2
      split at h
      · rename_i i r hf
        obtain ⟨g1, g2, g3⟩ := firstPur_spec hf
        obtain ⟨s1, h1, h2⟩ := bindS_some h
        obtain ⟨r1, hy⟩ := takeQ_some h1
        obtain ⟨o, ho⟩ := ready_some g1
        rw [ho] at hy
        rcases g3 with ⟨g3, _⟩ | ⟨_, _, g4⟩
        rotate_left
        · cases g4
        rw [kindAt_of ho] at g3
        obtain ⟨hk1, hk2⟩ := sil_pur (.inl g3)
        intro a w ν fuel hfu x hE
        obtain ⟨c, e1, e2, e3⟩ := take_of G.or hk1 x hy
        obtain ⟨k1, k2⟩ := leaves_k f h2
        have hpos : 1 + m ≤ q := by
          cases ls with
          | nil => exact absurd rfl k1
          | cons l ls => have := hq l (by simp); have := k2 l (by simp); omega
        cases fuel with
        | zero => omega
        | succ fuel =>
          have hyy : YieldsIf C.P ops (fun _ => True) o c a := by
            rcases e3 with ⟨f1, _, _, f2⟩ | ⟨f1, f2, _⟩
            · exact .inl ⟨f1, fun w' _ => f2 hk2 w'⟩
            · exact .inr ⟨f1, f2⟩
          refine wpAnyN_first (fun _ => True) ho (Region.noSelect_spec hsel) (fun c a w => noPanic c a w _ _) (fun _ _ _ _ _ _ _ _ _ => trivial) (fun w => trivial) fuel listed a w (Region.free_spec ho g2) g1 hyy trivial ?_
          exact ih (q := q - 1) h2 (fun k b hb' => by rw [e2]; exact hk k b hb') (by rw [take_d hy]; exact hd) hl (fun l hll => by have := hq l hll; omega) _ _ _ fuel (by omega) e1 (by rw [e2]; exact hE)
      · rename_i hf
        intro a w ν fuel hfu x hE
        obtain ⟨j0, hj0⟩ := List.exists_mem_of_ne_nil _ (fun e => hne1 e)
        have hpos : 1 + m ≤ q := by
          obtain ⟨aj, ha, hsub⟩ := allL_mem h j0 hj0
          obtain ⟨s1, h1, h2⟩ := bindS_some ha
          obtain ⟨k1, k2⟩ := leaves_k f h2
          obtain ⟨l, hll⟩ := List.exists_mem_of_ne_nil _ k1
          have := hq l (hsub l hll)
          have := k2 l hll
          omega
        cases fuel with
        | zero => omega
        | succ fuel =>
          refine wpAnyN_all rfl (fun e => hne1 e) fun j hj => ?_
          obtain ⟨aj, ha, hsub⟩ := allL_mem h j hj
          obtain ⟨s1, h1, h2⟩ := bindS_some ha
          obtain ⟨o, ho, hqk, hop⟩ := quietO_some h1
          obtain ⟨e1, e2⟩ := quiet_keeps G hqk x hop
          refine wpOp_of_if ho (opW_ok G hC x hop fun c ds w' ν' hE' hs => ⟨trivial, ?_⟩)
          exact ih (q := q - 1) h2 (fun k b hb' => e1 k b (hk k b hb')) (by rw [e2]; exact hd) (fun l hll => hl l (hsub l hll)) (fun l hll => by have := hq l (hsub l hll); omega) _ _ _ fuel (by omega) hs (hE.trans hE')

theorem joinT_get {ls : List Leaf} {t : Tr AV} : ∀ {x : Nat} {u : Tr AV} {y : Nat} {v : AV}, (joinT ls t x u).get y = some v → u.get y = some v ∨ (t.get y = some v ∧ ∀ l ∈ ls, l.s.t.get y = some v)
  | 0, _, _, _, h => .inl h
  | x + 1, u, y, v, h => by
    simp only [joinT] at h
    split at h
    · rename_i v0 hv
      cases hb : ls.all (fun l => isV v0 (l.s.t.get x)) with
      | false => rw [hb] at h; exact joinT_get h
      | true =>
        rw [hb] at h
        rcases joinT_get h with h1 | h1
        · rw [Tr.get_set_eq] at h1
          split at h1
          · rename_i e
            subst e
            cases h1
            refine .inr ⟨hv, fun l hl => ?_⟩
            have := List.all_eq_true.1 hb l hl
            unfold isV at this
            split at this
            · rename_i u' hu; rw [hu, beq_eq this]
            · cases this
          · exact .inl h1
        · exact .inr h1
    · exact joinT_get h

theorem sub_rel {s s' : St} (ht : ∀ y v, s'.t.get y = some v → s.t.get y = some v) (hh : ∀ k b, s'.h.get k = some b → s.h.get k = some b) (hn : s'.h.nx = s.h.nx) (hd : s'.d = s.d) {ν : Nu} {a : Act} {w : World} (x : srel σ ν C.P C.gs n s a w) :
    srel σ ν C.P C.gs n s' a w ∧ Ext ν s.h w ν s'.h w := by
  refine ⟨⟨⟨by rw [hn]; exact x.h.len, fun k b hb => x.h.dom k b (hh k b hb), fun i j e e' b b' h1 h2 => x.h.inj i j e e' b b' (hh _ _ h1) (hh _ _ h2), x.h.gl⟩, fun y v hv => x.t y v (ht y v hv), x.n, by rw [hd]; exact x.d⟩, ⟨[], by simp⟩, Nat.le_refl _, fun b _ hi => ⟨fun ⟨m, y, e, h1, h2, h3⟩ => hi ⟨m, y, e, hh _ _ h1, h2, h3⟩, rfl⟩, Keeps.refl w⟩

theorem join_ok (G : Good C σ) (hC : CallOk C σ rec) (hsel : Region.noSelect ops = true) {listed : Array Bool} {s : St} {l : Leaf} {q : Nat} (hj : joinL n s (leaves C rec n ops (ops.size + 1) 0 listed s) = some l)
    (hT : Then C σ ops n ν0 h0 w0 sF q l.l l.s) : Then C σ ops n ν0 h0 w0 sF (l.k + q) listed s := by
  unfold joinL at hj
  split at hj
  · rename_i l0 ls hls
    cases hb : ls.all (sameL l0) with
    | false => rw [hb] at hj; simp at hj
    | true =>
      rw [hb] at hj
      simp at hj
      subst hj
      refine leaves_ok (m := q) (hb := s.h) (db := s.d) G hC hsel _ hls (fun _ _ h => h) rfl (fun m hm hmh hmd => ?_) (q := l0.k + q) (fun m hm => ?_)
      · have key : m.l = l0.l ∧ m.s.h.nx = l0.s.h.nx ∧ (∀ y v, (joinT ls l0.s.t n .e).get y = some v → m.s.t.get y = some v) := by
          rcases List.mem_cons.1 hm with rfl | hm
          · refine ⟨rfl, rfl, fun y v hv => ?_⟩
            rcases joinT_get hv with h1 | h1
            · rw [Tr.get_e] at h1; cases h1
            · exact h1.1
          · have := List.all_eq_true.1 hb m hm
            unfold sameL at this
            simp only [Bool.and_eq_true, beq_iff_eq, Nat.beq_eq] at this
            refine ⟨Array.ext' this.1.1, this.1.2, fun y v hv => ?_⟩
            rcases joinT_get hv with h1 | h1
            · rw [Tr.get_e] at h1; cases h1
            · exact h1.2 m hm
        intro a w ν fuel hf x hE
        obtain ⟨k1, k2⟩ := sub_rel (s' := ⟨joinT ls l0.s.t n .e, ⟨l0.s.h.nx, s.h.t⟩, s.d⟩) key.2.2 hmh key.2.1.symm hmd.symm x
        rw [key.1]
        exact hT a w ν fuel hf k1 (hE.trans k2)
      · rcases List.mem_cons.1 hm with rfl | hm
        · simp
        · have := List.all_eq_true.1 hb m hm
          unfold sameL at this
          simp only [Bool.and_eq_true, beq_iff_eq, Nat.beq_eq] at this
          omega
  · cases hj

theorem moreC_some {k : Nat} {o : Option (St × Nat)} {y : St × Nat} (h : moreC k o = some y) : ∃ z, o = some z ∧ y = (z.1, z.2 + k) := by
  cases o with
  | none => simp [moreC] at h
  | some z => simp [moreC] at h; exact ⟨z, rfl, h.symm⟩

theorem forkR_ok (G : Good C σ) (hC : CallOk C σ rec) (hsel : Region.noSelect ops = true) : ∀ (f : Nat) {listed : Array Bool} {s : St} {y : St × Nat}, forkR C rec n ops f listed s = some y → y.1 = sF → Then C σ ops n ν0 h0 w0 sF y.2 listed s := by
  intro f
  induction f with
  | zero => intro listed s y h; simp [forkR] at h
  | succ f ih =>
    intro listed s y h hy
    simp only [forkR] at h
    split at h
    · rename_i hr
      simp at h
      subst h
      simp only at hy
      subst hy
      exact fun a w ν fuel _ x hE => wpAnyN_done hr ⟨rfl, ν, hE, x⟩ fuel
    · rename_i j hr
      split at h
      · rename_i s1 h1
        obtain ⟨z, hz, rfl⟩ := moreC_some h
        obtain ⟨o, ho⟩ := ready_some (show j ∈ Region.ready .any ops listed by rw [hr]; simp)
        rw [ho] at h1
        simp only [forceO] at h1
        have hT := ih hz hy
        intro a w ν fuel hf x hE
        cases fuel with
        | zero => simp at hf
        | succ fuel =>
          refine wpAnyN_all hr (by simp) fun i hi => ?_
          have hij : i = j := by simpa using hi
          subst hij
          refine wpOp_of_if ho (opW_ok G hC x h1 fun c ds w' ν' hE' hs => ⟨trivial, ?_⟩)
          exact hT _ _ _ fuel (by simp at hf; omega) hs (hE.trans hE')
      · cases h
    · split at h
      · rename_i l hl
        cases hb : Nat.blt 0 l.k with
        | false => rw [hb] at h; simp at h
        | true =>
          rw [hb] at h
          simp only [cond_true] at h
          obtain ⟨z, hz, rfl⟩ := moreC_some h
          have := join_ok G hC hsel hl (ih hz hy)
          simp only
          rw [Nat.add_comm]
          exact this
      · cases h

theorem draw_ok (G : Good C σ) (hC : CallOk C σ rec) : DrawOk C σ rec := by
  intro n id ops s y hy ν a w hs
  cases hpl : plan C.P ops with
  | none =>
    rw [hpl] at hy
    simp only [drawn, drawn2] at hy
    cases hsel : Region.noSelect ops with
    | false => rw [hsel] at hy; simp at hy
    | true =>
      rw [hsel] at hy
      simp only [cond_true] at hy
      cases hf : forkR C rec n ops (ops.size + 1) (Array.replicate ops.size false) s with
      | none => rw [hf] at hy; simp [ended2] at hy
      | some z =>
        rw [hf] at hy
        simp only [ended2] at hy
        cases hc : Nat.ble z.2 ops.size with
        | false => rw [hc] at hy; simp at hy
        | true =>
          rw [hc] at hy
          simp at hy
          subst hy
          have hs2 : srel σ ν C.P C.gs n s a { w with drawn := w.drawn + 1 } := ⟨hs.h.of_heap rfl, hs.t, hs.n, hs.d⟩
          have := forkR_ok (ν0 := ν) (h0 := s.h) (w0 := w) G hC hsel _ hf rfl a _ ν ops.size (Nat.le_of_ble_eq_true hc) hs2 (Ext.of_heap rfl)
          exact wp_region_any G.follows (wpAny_of_N _ _ _ _ this)
  | some pl =>
    rw [hpl] at hy
    simp only [drawn] at hy
    cases hd : adraw C rec n ops pl [] s with
    | none => rw [hd] at hy; simp [nrm] at hy
    | some s1 =>
      rw [hd] at hy
      simp [nrm] at hy
      subst hy
      unfold plan at hpl
      cases hsel : Region.noSelect ops with
      | false => rw [hsel] at hpl; simp at hpl
      | true =>
        rw [hsel] at hpl
        simp only [cond_true] at hpl
        cases hmk : mkPlan C.P ops (ops.size + 1) (Array.replicate ops.size false) true [] with
        | none => rw [hmk] at hpl; simp [fits] at hpl
        | some pl' =>
          rw [hmk] at hpl
          simp only [fits] at hpl
          cases hc : Nat.ble (costs pl') ops.size with
          | false => rw [hc] at hpl; simp at hpl
          | true =>
            rw [hc] at hpl
            simp at hpl
            subst hpl
            have hs2 : srel σ ν C.P C.gs n s a { w with drawn := w.drawn + 1 } := ⟨hs.h.of_heap rfl, hs.t, hs.n, hs.d⟩
            obtain ⟨L', _, l2⟩ := early_ok (ν0 := ν) (h0 := s.h) (w0 := w) (L := []) G hC hsel _ hmk (by simp) hd (Nat.le_of_ble_eq_true hc) hs2 (Ext.of_heap rfl) rfl
            exact wp_region_any G.follows (wpAny_of_N _ _ _ _ l2)

/-- THE EXECUTOR IS SOUND. -/
theorem run_ok (G : Good C σ) : ∀ f, RecOk C σ (run C f)
  | 0 => ⟨fun sc n c s y hy => by simp [run] at hy, fun n bd s y hy => by simp [run] at hy⟩
  | f + 1 => step_ok G (run_ok G f) (draw_ok G (call_ok G (run_ok G f)))

theorem calls_ok (G : Good C σ) {f g : Nat} {args : List AV} {h h' : AH} {v : AV} (hc : call C (run C f) g args h = some (v, h')) {ν : Nu} {w : World} {cs : List Value} (hh : hrel σ C.gs ν h w) (ha : vrels σ ν args cs) :
    Calls C.P g cs.toArray w fun e w' => ∃ c ν', e = .returned c ∧ Ext ν h w ν' h' w' ∧ hrel σ C.gs ν' h' w' ∧ vrel σ ν' v c :=
  (call_ok G (run_ok G f) g args h v h' hc).2 ν w cs hh ha

end
end Go.Ae
namespace Go.Ae
open Go

/-- From here on: this code, entered so, ends so. -/
def Goes (C : Cfg) (σ : Sg) (n : Nat) (c : Code) (s : St) (y : Ex × St) : Prop :=
  ∀ ν a w, srel σ ν C.P C.gs n s a w → c.wp C.P (Post C σ ν s.h w n y) a w

/-- The same, a round ago. -/
def GoesL (C : Cfg) (σ : Sg) (n : Nat) (c : Code) (s : St) (y : Ex × St) : Prop :=
  ∀ ν a w, srel σ ν C.P C.gs n s a w → ∀ (b : Frame) (k : List Item) (cs : List Frame),
    ∃ e a' w', Post C σ ν s.h w n y e a' w' ∧ Arrives C.P (lone (b.at a (.inLoop c :: k)) cs w) b k cs e a' w'

/-- What the one knows the other knows. -/
structure Sub (s s' : St) : Prop where
  nx : s'.h.nx = s.h.nx
  h : ∀ k b, s'.h.get k = some b → s.h.get k = some b
  t : ∀ k v, s'.t.get k = some v → s.t.get k = some v
  d : s'.d = s.d

section
variable {σ : Sg} {C : Cfg} {n : Nat}

theorem hrel_sub {ν : Nu} {gs : Nat} {h h' : AH} {w : World} (nx : h'.nx = h.nx) (hs : ∀ k b, h'.get k = some b → h.get k = some b) (x : hrel σ gs ν h w) : hrel σ gs ν h' w :=
  ⟨by rw [nx]; exact x.len, fun k b hb => x.dom k b (hs k b hb), fun i j e e' b b' hi hj => x.inj i j e e' b b' (hs _ _ hi) (hs _ _ hj), x.gl⟩

theorem srel_sub {ν : Nu} {P : Program} {gs : Nat} {s s' : St} (u : Sub s s') {a : Act} {w : World} (x : srel σ ν P gs n s a w) : srel σ ν P gs n s' a w :=
  ⟨hrel_sub u.nx u.h x.h, fun k v hv => x.t k v (u.t k v hv), x.n, by rw [u.d]; exact x.d⟩

theorem Ext_sub {ν ν' : Nu} {h h' h2 : AH} {w w' : World} (hs : ∀ k b, h2.get k = some b → h'.get k = some b) (x : Ext ν h w ν' h' w') : Ext ν h w ν' h2 w' :=
  ⟨x.pre, x.sz, fun b hb hi => ⟨fun ⟨m, y, e, h1, h2, h3⟩ => (x.fr b hb hi).1 ⟨m, y, e, hs _ _ h1, h2, h3⟩, (x.fr b hb hi).2⟩, x.kp⟩

theorem goes_run (G : Good C σ) {f : Nat} {c : Code} {s : St} {y : Ex × St} (h : run C f none n c s = some y) : Goes C σ n c s y :=
  fun ν a w hs b k fs => (run_ok G f).main none n c s y h ν a w hs b k fs

theorem goesL_run (G : Good C σ) {f : Nat} {c : Code} {s : St} {y : Ex × St} (h : run C f none n (.loop c) s = some y) : GoesL C σ n c s y :=
  fun ν a w hs b k fs => (run_ok G f).loop n c s y h ν a w hs b k fs

theorem goes_sub {c : Code} {s s1 s2 : St} {x : Ex} (g : Goes C σ n c s (x, s1)) (u : Sub s1 s2) : Goes C σ n c s (x, s2) := by
  intro ν a w hs b k fs
  obtain ⟨e, a', w', ⟨h1, ν', h2, h3⟩, h4⟩ := g ν a w hs b k fs
  exact ⟨e, a', w', ⟨h1, ν', Ext_sub u.h h2, srel_sub u h3⟩, h4⟩

theorem goes_seq {p q : Code} {s s1 : St} {y : Ex × St} (g1 : Goes C σ n p s (.nrm, s1)) (g2 : Goes C σ n q s1 y) : Goes C σ n (.seq p q) s y := by
  intro ν a w hs
  refine wp_seq ?_
  intro fr k fs
  obtain ⟨e, a1, w1, ⟨p1, ν1, p2, p3⟩, p4⟩ := g1 ν a w hs fr k fs
  refine ⟨e, a1, w1, ?_, p4⟩
  simp only [exOf] at p1
  subst p1
  intro fr2 k2 fs2
  obtain ⟨e2, a2, w2, q1, q2⟩ := g2 ν1 a1 w1 p3 fr2 k2 fs2
  exact ⟨e2, a2, w2, q1.trans p2, q2⟩

theorem goes_cond {x : Operand} {p q : Code} {s : St} {y : Ex × St} (t : Bool) (h : asB (ev C.gs s.t x) = some t) (g : Goes C σ n (if t then p else q) s y) : Goes C σ n (.cond x p q) s y := by
  intro ν a w hs
  refine wp_cond (asB_rel hs.rho h) ?_
  cases t with
  | true => exact g ν a w hs
  | false => exact g ν a w hs

theorem goes_block {id : Nat} {p : Code} {s s1 : St} (g : Goes C σ n p s (.ex id, s1)) : Goes C σ n (.block id p) s (.nrm, s1) := by
  intro ν a w hs
  refine wp_block ?_
  intro fr k fs
  obtain ⟨e, a1, w1, ⟨p1, p2⟩, p4⟩ := g ν a w hs fr k fs
  refine ⟨e, a1, w1, ?_, p4⟩
  simp only [exOf] at p1
  subst p1
  simp only [Exit.inBlock, if_true]
  exact ⟨rfl, p2⟩

theorem goes_block_nrm {id : Nat} {p : Code} {s s1 : St} (g : Goes C σ n p s (.nrm, s1)) : Goes C σ n (.block id p) s (.nrm, s1) := by
  intro ν a w hs
  refine wp_block ?_
  intro fr k fs
  obtain ⟨e, a1, w1, ⟨p1, p2⟩, p4⟩ := g ν a w hs fr k fs
  refine ⟨e, a1, w1, ?_, p4⟩
  simp only [exOf] at p1
  subst p1
  exact ⟨rfl, p2⟩

theorem goes_round {p : Code} {s s1 : St} {y : Ex × St} (g1 : Goes C σ n p s (.nrm, s1)) (g2 : GoesL C σ n p s1 y) : GoesL C σ n p s y ∧ Goes C σ n (.loop p) s y := by
  have go : ∀ ν a w, srel σ ν C.P C.gs n s a w → ∀ (fr : Frame) (k : List Item) (fs : List Frame),
      ∃ e a' w', Post C σ ν s.h w n y e a' w' ∧ Arrives C.P (lone (fr.at a (.code p :: .inLoop p :: k)) fs w) fr k fs e a' w' := by
    intro ν a w hs fr k fs
    obtain ⟨e, a1, w1, ⟨p1, ν1, p2, p3⟩, p4⟩ := g1 ν a w hs fr (.inLoop p :: k) fs
    simp only [exOf] at p1
    subst p1
    obtain ⟨e2, a2, w2, q1, q2⟩ := g2 ν1 a1 w1 p3 fr k fs
    exact ⟨e2, a2, w2, q1.trans p2, .of_steps p4 q2⟩
  refine ⟨fun ν a w hs fr k fs => ?_, fun ν a w hs fr k fs => ?_⟩
  · obtain ⟨e, a1, w1, q, q4⟩ := go ν a w hs fr k fs
    exact ⟨e, a1, w1, q, .of_steps (.one step_inLoop) q4⟩
  · obtain ⟨e, a1, w1, q, q4⟩ := go ν a w hs fr k fs
    exact ⟨e, a1, w1, q, .of_steps (.one step_loop) q4⟩

/-- A round that leaves the loop. -/
theorem goes_last {p : Code} {s s1 : St} {x : Ex} (hx : x ≠ .nrm) (g : Goes C σ n p s (x, s1)) : GoesL C σ n p s (x, s1) ∧ Goes C σ n (.loop p) s (x, s1) := by
  have go : ∀ ν a w, srel σ ν C.P C.gs n s a w → ∀ (fr : Frame) (k : List Item) (fs : List Frame),
      ∃ e a' w', Post C σ ν s.h w n (x, s1) e a' w' ∧ Arrives C.P (lone (fr.at a (.code p :: .inLoop p :: k)) fs w) fr k fs e a' w' := by
    intro ν a w hs fr k fs
    obtain ⟨e, a1, w1, ⟨p1, p2⟩, p4⟩ := g ν a w hs fr (.inLoop p :: k) fs
    refine ⟨e, a1, w1, ⟨p1, p2⟩, .pass (x := .inLoop p) rfl (fun _ _ => .inl ?_) p4⟩
    cases x with
    | nrm => exact absurd rfl hx
    | ex id => rw [p1]; simp [exOf]
    | gt l => rw [p1]; simp [exOf]
    | ret => rw [p1]; simp [exOf]
  refine ⟨fun ν a w hs fr k fs => ?_, fun ν a w hs fr k fs => ?_⟩
  · obtain ⟨e, a1, w1, q, q4⟩ := go ν a w hs fr k fs
    exact ⟨e, a1, w1, q, .of_steps (.one step_inLoop) q4⟩
  · obtain ⟨e, a1, w1, q, q4⟩ := go ν a w hs fr k fs
    exact ⟨e, a1, w1, q, .of_steps (.one step_loop) q4⟩

/-- What a function that was run in parts answers. -/
theorem calls_goes (G : Good C σ) {g : Nat} {fn : Func} {c : Code} (hf : C.P.funcs[g]? = some fn) (hb : fn.body = some c) {args : List AV} {h : AH} {s : St} {x : Ex} {v : AV} (hx : x = .nrm ∨ x = .ret) (hd : s.d = [])
    (hg : Goes C σ (Nat.max args.length fn.ntmps) c ⟨mkT 0 args .e, h, []⟩ (x, s)) (hr : results C fn s.t s.h = some v) {ν : Nu} {w : World} {cs : List Value} (hh : hrel σ C.gs ν h w) (ha : vrels σ ν args cs) :
    Calls C.P g cs.toArray w fun e w' => ∃ c ν', e = .returned c ∧ Ext ν h w ν' s.h w' ∧ hrel σ C.gs ν' s.h w' ∧ vrel σ ν' v c := by
  refine calls_of_wp_defers hf hb ?_
  intro b k fs
  obtain ⟨e, a', w', ⟨h1, ν', h2, h3⟩, h4⟩ := hg ν _ w (enter_ok hh ha fn.ntmps) b k fs
  refine ⟨e, a', w', ?_, h4⟩
  have hdd : a'.defers = [] := by have := h3.d; rw [hd] at this; exact this
  have := defers_ok G (run_ok G 0) (l := []) (h := s.h) (fn := fn) rfl (show drel σ ν' C.P [] a'.defers from hdd) h3.h h3.t h2 hr
  rcases hx with rfl | rfl
  · rw [h1]; exact this
  · rw [h1]; exact this

/-! ### What is forgotten -/

noncomputable def only {α : Type} (t : Tr α) : List Nat → Tr α → Tr α
  | [], u => u
  | k :: r, u => only t r (u.set k (t.get k))

noncomputable def forget (ts hs : List Nat) : St → St
  | ⟨t, h, d⟩ => ⟨only t ts .e, ⟨h.nx, only h.t hs .e⟩, d⟩

theorem only_get {α : Type} {t : Tr α} : ∀ {l : List Nat} {u : Tr α} {k : Nat} {v : α}, (only t l u).get k = some v → t.get k = some v ∨ u.get k = some v
  | [], _, _, _, h => .inr h
  | j :: l, u, k, v, h => by
    rcases only_get (l := l) (show (only t l (u.set j (t.get j))).get k = some v from h) with h1 | h1
    · exact .inl h1
    · rw [Tr.get_set_eq] at h1
      split at h1
      · rename_i e; subst e; exact .inl h1
      · exact .inr h1

theorem only_sub {α : Type} {t : Tr α} {l : List Nat} {k : Nat} {v : α} (h : (only t l .e).get k = some v) : t.get k = some v := by
  rcases only_get h with h | h
  · exact h
  · rw [Tr.get_e] at h; cases h

theorem forget_sub (ts hs : List Nat) : ∀ s, Sub s (forget ts hs s)
  | ⟨_, _, _⟩ => ⟨rfl, fun _ _ hb => only_sub hb, fun _ _ hv => only_sub hv, rfl⟩

noncomputable def forgetO (ts hs : List Nat) : Option (Ex × St) → Option (Ex × St)
  | some (x, s) => some (x, forget ts hs s)
  | none => none

/-- A run up to a checkpoint. -/
theorem goes_cut (G : Good C σ) {f : Nat} {c : Code} {s s2 : St} {x : Ex} (ts hs : List Nat) (h : forgetO ts hs (run C f none n c s) = some (x, s2)) : Goes C σ n c s (x, s2) := by
  cases hr : run C f none n c s with
  | none => rw [hr] at h; simp [forgetO] at h
  | some y =>
    obtain ⟨x1, s1⟩ := y
    rw [hr] at h
    simp [forgetO] at h
    obtain ⟨rfl, rfl⟩ := h
    exact goes_sub (goes_run G hr) (forget_sub ts hs s1)

/-! ### Calls that are known -/

/-- A value that names no block. -/
noncomputable def flat : AV → Bool
  | .b _ | .i _ _ | .f _ _ | .s _ | .pn | .sn | .mn | .fnil | .inil | .sym _ | .ve _ | .st _ | .ln _ _ _ _ | .fn _ [] [] => true
  | _ => false

noncomputable def flatR : AV → Bool
  | .tu l => l.all flat
  | .ag l => l.all flat
  | v => flat v

noncomputable def flatB : AB → Bool
  | .c cs _ => cs.all flat
  | _ => false

theorem flat_rel {ν ν' : Nu} {v : AV} {c : Value} (hf : flat v = true) (h : vrel σ ν v c) : vrel σ ν' v c := by
  cases v
  case fn f a c =>
    cases a with
    | cons _ _ => simp [flat] at hf
    | nil =>
      cases c with
      | cons _ _ => simp [flat] at hf
      | nil =>
        obtain ⟨as, cs, h1, h2, rfl⟩ := h
        exact ⟨as, cs, h1, h2, rfl⟩
  all_goals first | (cases hf; done) | (simp only [vrel] at h ⊢; exact h)

theorem flats_rel {ν ν' : Nu} : ∀ {l : List AV} {cs : List Value}, l.all flat = true → vrels σ ν l cs → vrels σ ν' l cs
  | [], _, _, h => h
  | x :: l, _, hf, ⟨c, cs, h1, h2, e⟩ => by
    simp only [List.all_cons, Bool.and_eq_true] at hf
    exact ⟨c, cs, flat_rel hf.1 h1, flats_rel hf.2 h2, e⟩

theorem flatR_rel {ν ν' : Nu} {v : AV} {c : Value} (hf : flatR v = true) (h : vrel σ ν v c) : vrel σ ν' v c := by
  cases v with
  | tu l => simp only [flatR] at hf; simp only [vrel] at h ⊢; obtain ⟨cs, h1, h2⟩ := h; exact ⟨cs, flats_rel hf h1, h2⟩
  | ag l => simp only [flatR] at hf; simp only [vrel] at h ⊢; obtain ⟨cs, h1, h2⟩ := h; exact ⟨cs, flats_rel hf h1, h2⟩
  | _ => exact flat_rel hf h

theorem flatB_rel {ν ν' : Nu} {e : NE} {b : AB} {o : Obj} (hf : flatB b = true) (h : brel σ ν e b o) : brel σ ν' e b o := by
  cases b with
  | c cs wd =>
    simp only [flatB] at hf
    cases o <;> simp only [brel] at h ⊢
    obtain ⟨l, ext, h1, h2, h3⟩ := h
    exact ⟨l, ext, h1, flats_rel hf h2, h3⟩
  | _ => cases hf

/-- A heap of which little is known: what a known call needs. -/
structure Base (gs : Nat) (h0 : AH) : Prop where
  gs : gs ≤ h0.nx
  flat : ∀ k b, h0.get k = some b → flatB b = true ∧ k < h0.nx

structure Has (h0 h : AH) : Prop where
  nx : h0.nx ≤ h.nx
  get : ∀ k b, h0.get k = some b → h.get k = some b

theorem Base.rel {gs : Nat} {h0 h : AH} (B : Base gs h0) (H : Has h0 h) {ν : Nu} {w : World} (x : hrel σ gs ν h w) : hrel σ gs (ν.take h0.nx) h0 w := by
  refine ⟨by rw [List.length_take, x.len]; exact Nat.min_eq_left H.nx, fun k b hb => ?_, fun i j e e' b b' hi hj he he' => ?_, fun g hg => ?_⟩
  · obtain ⟨e, o, h1, h2, h3⟩ := x.dom k b (H.get k b hb)
    obtain ⟨f1, f2⟩ := B.flat k b hb
    exact ⟨e, o, by rw [List.getElem?_take]; simp [f2, h1], h2, flatB_rel f1 h3⟩
  · have f1 := (B.flat i b hi).2
    have f2 := (B.flat j b' hj).2
    rw [List.getElem?_take] at he he'
    simp only [f1, f2, if_true] at he he'
    exact x.inj i j e e' b b' (H.get _ _ hi) (H.get _ _ hj) he he'
  · obtain ⟨e, h1, h2⟩ := x.gl g hg
    exact ⟨e, by rw [List.getElem?_take]; simp [Nat.lt_of_lt_of_le hg B.gs, h1], h2⟩

/-- A call that was run over little serves over much. -/
theorem known_ok {g : Nat} {args : List AV} {h0 h' h : AH} {v : AV} (B : Base C.gs h0) (H : Has h0 h) (K : ∀ k b, h0.get k = some b → h'.get k = some b) (fa : args.all flat = true) (fv : flatR v = true)
    (hc : ∀ ν w cs, hrel σ C.gs ν h0 w → vrels σ ν args cs → Calls C.P g cs.toArray w fun e w' => ∃ c ν', e = .returned c ∧ Ext ν h0 w ν' h' w' ∧ hrel σ C.gs ν' h' w' ∧ vrel σ ν' v c)
    {ν : Nu} {w : World} {cs : List Value} (hh : hrel σ C.gs ν h w) (ha : vrels σ ν args cs) :
    Calls C.P g cs.toArray w fun e w' => ∃ c ν', e = .returned c ∧ Ext ν h w ν' h w' ∧ hrel σ C.gs ν' h w' ∧ vrel σ ν' v c := by
  refine (hc _ w cs (B.rel H hh) (flats_rel fa ha)).mono ?_
  rintro e w' ⟨c, ν', rfl, hE, hh', hv⟩
  obtain ⟨μ, rfl⟩ := hE.pre
  have nim : ∀ b, ¬ im ν h b → ¬ im (ν.take h0.nx) h0 b := fun b hi ⟨m, y, e, h1, h2, h3⟩ => hi ⟨m, y, e, H.get _ _ h1, by
    rw [List.getElem?_take] at h2
    simpa [(B.flat m y h1).2] using h2, h3⟩
  refine ⟨c, ν, rfl, ⟨⟨[], by simp⟩, hE.sz, fun b hb hi => ⟨hi, (hE.fr b hb (nim b hi)).2⟩, hE.kp⟩, ⟨hh.len, fun k b hb => ?_, hh.inj, hh.gl⟩, flatR_rel fv hv⟩
  obtain ⟨e, o, h1, h2, h3⟩ := hh.dom k b hb
  cases hk : h0.get k with
  | some b0 =>
    have := H.get k b0 hk
    rw [hb] at this
    cases this
    obtain ⟨f1, f2⟩ := B.flat k b hk
    obtain ⟨e', o', g1, g2, g3⟩ := hh'.dom k b (K k b hk)
    have : e' = e := by
      have hl : k < (ν.take h0.nx).length := by rw [List.length_take, hh.len]; have := H.nx; omega
      rw [List.getElem?_append_left hl, List.getElem?_take] at g1
      simp only [f2, if_true] at g1
      rw [h1] at g1
      cases g1
      rfl
    subst this
    exact ⟨e', o', h1, g2, flatB_rel f1 g3⟩
  | none =>
    refine ⟨e, o, h1, ?_, h3⟩
    rw [(hE.fr e.b (Array.getElem?_eq_some_iff.1 h2).1 ?_).2]
    · exact h2
    · rintro ⟨m, y, e2, k1, k2, k3⟩
      have f2 := (B.flat m y k1).2
      rw [List.getElem?_take] at k2
      simp only [f2, if_true] at k2
      have := hh.inj m k e2 e y b (H.get _ _ k1) hb k2 h1 k3
      subst this
      rw [hk] at k1
      cases k1
end
end Go.Ae
namespace Go.Ae
open Go

noncomputable def flatC : Code → List Code
  | .seq a b => flatC a ++ flatC b
  | c => [c]

noncomputable def ofL {α : Type} : List (Nat × α) → Tr α → Tr α
  | [], t => t
  | x :: r, t => ofL r (t.set x.1 (some x.2))

noncomputable def thenR (go : St → Option (Ex × St)) : Option (Ex × St) → Option (Ex × St)
  | some (.nrm, s) => go s
  | x => x

noncomputable def runs (C : Cfg) (f n : Nat) : List Code → St → Option (Ex × St)
  | [], s => some (.nrm, s)
  | c :: r, s => thenR (runs C f n r) (run C f none n c s)

section
variable {σ : Sg} {C : Cfg} {n : Nat}

theorem Sub.refl (s : St) : Sub s s := ⟨rfl, fun _ _ h => h, fun _ _ h => h, rfl⟩
theorem Sub.trans {s s' s'' : St} (a : Sub s s') (b : Sub s' s'') : Sub s s'' := ⟨b.nx.trans a.nx, fun k x h => a.h k x (b.h k x h), fun k x h => a.t k x (b.t k x h), b.d.trans a.d⟩

theorem goes_pre {c : Code} {s s' : St} {y : Ex × St} (u : Sub s s') (g : Goes C σ n c s' y) : Goes C σ n c s y := by
  intro ν a w hs b k fs
  obtain ⟨e, a', w', ⟨h1, ν', h2, h3⟩, h4⟩ := g ν a w (srel_sub u hs) b k fs
  exact ⟨e, a', w', ⟨h1, ν', ⟨h2.pre, h2.sz, fun b hb hi => h2.fr b hb fun ⟨m, y, e, k1, k2, k3⟩ => hi ⟨m, y, e, u.h _ _ k1, k2, k3⟩, h2.kp⟩, h3⟩, h4⟩

/-- Piece by piece. -/
inductive Chain (C : Cfg) (σ : Sg) (n : Nat) : List Code → St → Ex × St → Prop where
  | nil {s s' : St} (u : Sub s s') : Chain C σ n [] s (.nrm, s')
  | cons {c : Code} {l : List Code} {s s1 : St} {y : Ex × St} (g : Goes C σ n c s (.nrm, s1)) (r : Chain C σ n l s1 y) : Chain C σ n (c :: l) s y
  | stop {c : Code} {l : List Code} {s s1 : St} {x : Ex} (hx : x ≠ .nrm) (g : Goes C σ n c s (x, s1)) : Chain C σ n (c :: l) s (x, s1)

theorem chain_pre {s s' : St} (u : Sub s s') : ∀ {l : List Code} {y : Ex × St}, Chain C σ n l s' y → Chain C σ n l s y
  | _, _, .nil v => .nil (u.trans v)
  | _, _, .cons g r => .cons (goes_pre u g) r
  | _, _, .stop hx g => .stop hx (goes_pre u g)

theorem chain_append {m : List Code} {s1 : St} {y : Ex × St} : ∀ {l : List Code} {s : St} {z : Ex × St}, Chain C σ n l s z → z = (.nrm, s1) → Chain C σ n m s1 y → Chain C σ n (l ++ m) s y
  | _, _, _, .nil u, e, h => by cases e; exact chain_pre u h
  | _, _, _, .cons g r, e, h => .cons g (chain_append r e h)
  | _, _, _, .stop hx g, e, h => by cases e; exact absurd rfl hx

theorem chain_stop {m : List Code} {x : Ex} {s1 : St} (hx : x ≠ .nrm) : ∀ {l : List Code} {s : St} {z : Ex × St}, Chain C σ n l s z → z = (x, s1) → Chain C σ n (l ++ m) s (x, s1)
  | _, _, _, .nil u, e => by cases e; exact absurd rfl hx
  | _, _, _, .cons g r, e => .cons g (chain_stop hx r e)
  | _, _, _, .stop _ g, e => by cases e; exact .stop hx g

theorem chain_split {m : List Code} {y : Ex × St} : ∀ {l : List Code} {s : St}, Chain C σ n (l ++ m) s y → (∃ s1, Chain C σ n l s (.nrm, s1) ∧ Chain C σ n m s1 y) ∨ (y.1 ≠ .nrm ∧ Chain C σ n l s y)
  | [], s, h => .inl ⟨s, .nil (Sub.refl s), h⟩
  | c :: l, s, h => by
    cases h with
    | cons g r =>
      rcases chain_split r with ⟨s1, h1, h2⟩ | ⟨h1, h2⟩
      · exact .inl ⟨s1, .cons g h1, h2⟩
      · exact .inr ⟨h1, .cons g h2⟩
    | stop hx g => exact .inr ⟨hx, .stop hx g⟩

theorem chain_one {c : Code} {s : St} {y : Ex × St} (h : Chain C σ n [c] s y) : Goes C σ n c s y := by
  cases h with
  | cons g r => cases r with | nil u => exact goes_sub g u
  | stop hx g => exact g

theorem goes_stop {p q : Code} {s s1 : St} {x : Ex} (hx : x ≠ .nrm) (g : Goes C σ n p s (x, s1)) : Goes C σ n (.seq p q) s (x, s1) := by
  intro ν a w hs
  refine wp_seq ?_
  intro fr k fs
  obtain ⟨e, a1, w1, ⟨p1, p2⟩, p4⟩ := g ν a w hs fr k fs
  refine ⟨e, a1, w1, ?_, p4⟩
  cases x with
  | nrm => exact absurd rfl hx
  | ex id => simp only [exOf] at p1; subst p1; exact ⟨rfl, p2⟩
  | gt l => simp only [exOf] at p1; subst p1; exact ⟨rfl, p2⟩
  | ret => simp only [exOf] at p1; subst p1; exact ⟨rfl, p2⟩

theorem goes_chain : ∀ {c : Code} {s : St} {y : Ex × St}, Chain C σ n (flatC c) s y → Goes C σ n c s y := by
  intro c
  induction c with
  | seq a b iha ihb =>
    intro s y h
    simp only [flatC] at h
    rcases chain_split h with ⟨s1, h1, h2⟩ | ⟨h1, h2⟩
    · exact goes_seq (iha h1) (ihb h2)
    · obtain ⟨x, s1⟩ := y
      exact goes_stop h1 (iha h2)
  | _ => exact fun h => chain_one (by simpa only [flatC] using h)

theorem chain_runs (G : Good C σ) {f : Nat} : ∀ {l : List Code} {s : St} {y : Ex × St}, runs C f n l s = some y → Chain C σ n l s y
  | [], s, y, h => by simp [runs] at h; subst h; exact .nil (Sub.refl s)
  | c :: l, s, y, h => by
    simp only [runs] at h
    unfold thenR at h
    split at h
    · rename_i s1 hr
      exact .cons (goes_run G hr) (chain_runs G h)
    · rename_i x hne
      obtain ⟨e, s1⟩ := y
      refine .stop ?_ (goes_run G h)
      rintro rfl
      exact hne s1 h

theorem chain_sub {l : List Code} : ∀ {s : St} {y : Ex × St}, Chain C σ n l s y → ∀ {x : Ex} {s1 s2 : St}, y = (x, s1) → Sub s1 s2 → Chain C σ n l s (x, s2) := by
  intro s y h
  induction h with
  | nil u => intro x s1 s2 e v; cases e; exact .nil (u.trans v)
  | cons g _ ih => intro x s1 s2 e v; exact .cons g (ih e v)
  | stop hx g => intro x s1 s2 e v; cases e; exact .stop hx (goes_sub g v)

/-- A run along some pieces, up to a checkpoint. -/
theorem chain_cut (G : Good C σ) {f : Nat} {l : List Code} {s s2 : St} {x : Ex} (ts hs : List Nat) (h : forgetO ts hs (runs C f n l s) = some (x, s2)) : Chain C σ n l s (x, s2) := by
  cases hr : runs C f n l s with
  | none => rw [hr] at h; simp [forgetO] at h
  | some y =>
    obtain ⟨x1, s1⟩ := y
    rw [hr] at h
    simp [forgetO] at h
    obtain ⟨rfl, rfl⟩ := h
    exact chain_sub (chain_runs G hr) rfl (forget_sub ts hs s1)
end
end Go.Ae
