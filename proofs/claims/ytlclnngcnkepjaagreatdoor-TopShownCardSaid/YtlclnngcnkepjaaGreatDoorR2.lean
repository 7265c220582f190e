/- A part of the proof of the law of TopShown: XU, XV, XW, ZR, ZS, ZT, ZU. -/
import Derived.Test.YtlclnngcnkepjaaGreatDoorR1
import Derived.Test.YtlclnngcnkepjaaGreatDoorRT00
import Derived.Test.YtlclnngcnkepjaaGreatDoorRT01
import Derived.Test.YtlclnngcnkepjaaGreatDoorRT02
import Derived.Test.YtlclnngcnkepjaaGreatDoorRT03
import Derived.Test.YtlclnngcnkepjaaGreatDoorRT04
import Derived.Test.YtlclnngcnkepjaaGreatDoorRT05
import Derived.Test.YtlclnngcnkepjaaGreatDoorRT06
import Derived.Test.YtlclnngcnkepjaaGreatDoorRT07
import Derived.Test.YtlclnngcnkepjaaGreatDoorRT08
import Derived.Test.YtlclnngcnkepjaaGreatDoorRT09
import Derived.Test.YtlclnngcnkepjaaGreatDoorRT10
import Derived.Lib.LaidTab
import Derived.Test.YtlclnngcnkepjaaGreatDoorRows
import Derived.Deep.DeepHandedRow
import Derived.ProofKit
import Derived.SizedLaws
import Derived.Shelf.Vars
namespace Go.Ae
open Go Go.Proofs

theorem withinS_ok {σ : Sg} {a N : Int} {x cut : AV} (ha : σ.v 0 = .int .i64 a) (a1 : -9223372036854775808 ≤ a) (a2 : a ≤ 9223372036854775807) (hx : ∀ ν d, vrel σ ν x d → d = .int .i64 N) (n1 : 0 < N) (n2 : N ≤ 9223372036854775807)
    (hcut : ∀ ν, vrel σ ν cut (.int .i64 (a % N))) : SpecOk σ 10 (specWC x cut) := by
  intro args h v h' hg ν w cs hh hr
  unfold specWC at hg
  split at hg
  rotate_left
  · cases hg
  rename_i k y
  obtain ⟨_, _, ⟨h1, _⟩, ⟨d, _, h2, rfl, rfl⟩, rfl⟩ := hr
  subst h1
  cases hc : (Nat.beq k 0 && AV.beq y x) with
  | false => rw [hc] at hg; cases hg
  | true =>
    rw [hc] at hg
    simp only [cond_true, Option.some.injEq, Prod.mk.injEq] at hg
    obtain ⟨rfl, rfl⟩ := hg
    simp only [Bool.and_eq_true] at hc
    have k0 := Nat.eq_of_beq_eq_true hc.1
    subst k0
    have hy := beq_eq hc.2
    subst hy
    have hd := hx ν d h2
    subst hd
    rw [ha]
    refine (Tot.within_any a N w n1 n2 a1 a2).mono ?_
    rintro e w' ⟨rfl, rfl⟩
    exact ⟨_, ν, rfl, Ext.refl _ _ _, hh, hcut ν⟩

theorem mkLn_fun {σ : Sg} {ν : Nu} {a : Int} {l : List Nat} {d : Value} (h : vrel σ ν (mkLn a l) d) : d = .int .i64 (a + sumG σ l) :=
  vrel_fun _ _ _ h (mkLn_rel a l)

theorem upFrom_range : ∀ (a n : Nat), upFrom a n = List.range' a n
  | _, 0 => rfl
  | a, n + 1 => by simp only [upFrom, List.range'_succ, upFrom_range (Nat.succ a) n]

theorem up_range (n : Nat) : upFrom 0 n = List.range n := by rw [upFrom_range, List.range_eq_range']

theorem goodS {σ : Sg} {a m0 : Int} {B : Bd} {n : Nat} {c : Int} {l : List Nat} (hm : σ.v 2 = .int .i64 m0) (ha : σ.v 0 = .int .i64 a) (a1 : -9223372036854775808 ≤ a) (a2 : a ≤ 9223372036854775807) (b : BdOk σ B)
    (hs : sumG σ (upFrom 0 n) ≤ 1000000) (hk : a % (20 + sumG σ (upFrom 0 n)) = c + sumG σ l) : Good (CS B (mkLn 20 (upFrom 0 n)) (mkLn c l)) σ := by
  refine good_of (lengths_ok _ b) fun f g h => ?_
  unfold specS at h
  rcases beq_cases h with ⟨rfl, e⟩ | ⟨_, h⟩
  · cases e
    exact ⟨⟨Tryz.f10, _, Tryz.func10, rfl⟩, withinS_ok (N := 20 + sumG σ (upFrom 0 n)) ha a1 a2 (fun ν d h => mkLn_fun h) (by omega) (by omega) (fun ν => by rw [hk]; exact mkLn_rel c l)⟩
  rcases beq_cases h with ⟨rfl, e⟩ | ⟨_, h⟩
  · cases e; exact ⟨⟨Tryz.f7, _, Tryz.func7, rfl⟩, known_spec hm⟩
  rcases beq_cases h with ⟨rfl, e⟩ | ⟨_, h⟩
  · cases e; exact ⟨⟨Tryz.f142, _, Tryz.func142, rfl⟩, changed_ok⟩
  · exact specN_ok hm f g h

/-- How TopShown ends. -/
def EndsS (σ : Sg) (s0 : St) : Prop := ∃ C e, Good C σ ∧ C.P = Tryz.prog ∧ C.gs = Tryz.prog.globals.size ∧ Goes C σ 105 (bodyOf 5) s0 (.ret, e) ∧ e.d = [] ∧ results C Tryz.f5 e.t e.h = some (.b true) ∧ ∀ k b, H1.get k = some b → e.h.get k = some b

theorem isTrue_spec {o : Option AV} (h : isTrue o = true) : o = some (.b true) := by
  unfold isTrue at h
  split at h
  · subst h; rfl
  · cases h

theorem noDefer_spec {l : List (Nat × List AV)} (h : noDefer l = true) : l = [] := by
  cases l with
  | nil => rfl
  | cons => cases h

theorem ends_of {σ : Sg} {C : Cfg} (G : Good C σ) (hP : C.P = Tryz.prog) (hg : C.gs = Tryz.prog.globals.size) {t m : Nat} (h : runS C t m = true) : EndsS σ (startS t m) := by
  unfold runS finS at h
  split at h
  · rename_i s hr
    simp only [Bool.and_eq_true] at h
    obtain ⟨h1, h2, h3⟩ := h
    refine ⟨C, s, G, hP, hg, goes_chain ?_, noDefer_spec h1, isTrue_spec h2, (has_keeps h3).2⟩
    exact chain_runs G (by rw [← runsQ_eq]; exact hr)
  · cases h

/-- Rows that are not empty, no more than 600 bytes: within a class. -/
theorem cls_ok {v : Nat → Value} {a m0 : Int} (hm : v 2 = .int .i64 m0) (ha : v 0 = .int .i64 a) (a1 : -9223372036854775808 ≤ a) (a2 : a ≤ 9223372036854775807) {rows : List (List UInt8)} {t m : Nat} {c : Int} {l : List Nat} (h : shown t m c l = true)
    (hr : rows.length = t + m) (hne : ∀ r ∈ rows, r ≠ []) (hT : rows.flatten.length ≤ 600) (hk : a % (20 + (rows.flatten.length : Int)) = c + sumG ⟨v, 0, fun k => rows.getD k []⟩ l) : EndsS ⟨v, 0, fun k => rows.getD k []⟩ (startS t m) := by
  have hs : sumG ⟨v, 0, fun k => rows.getD k []⟩ (List.range (t + m)) = rows.flatten.length := by
    rw [← hr]
    clear h hr hne hT hk
    have key : ∀ (pre rest : List (List UInt8)), sumG ⟨v, 0, fun k => (pre ++ rest).getD k []⟩ (List.range' pre.length rest.length) = rest.flatten.length := by
      intro pre rest
      induction rest generalizing pre with
      | nil => rfl
      | cons x r ih =>
        have h1 := ih (pre ++ [x])
        simp only [List.append_assoc, List.singleton_append, List.length_append, List.length_singleton] at h1
        simp only [List.length_cons, List.range'_succ, sumG, h1, List.flatten_cons, List.length_append]
        congr 1
        simp [List.getD]
    rw [List.range_eq_range']
    exact key [] rows
  have b : BdOk ⟨v, 0, fun k => rows.getD k []⟩ ⟨Nat.add t m, Nat.add t m, 600⟩ := by
    have hp : ∀ k, k < t + m → 1 ≤ (rows.getD k []).length := by
      intro k hk
      have hlt : k < rows.length := by omega
      have := hne rows[k] (List.getElem_mem hlt)
      rw [List.getD_eq_getElem?_getD, List.getElem?_eq_getElem hlt, Option.getD_some]
      exact Nat.pos_of_ne_zero fun e => this (List.eq_nil_of_length_eq_zero e)
    refine ⟨hp, ?_, by show sumG _ (List.range (t + m)) ≤ 600; rw [hs]; exact hT⟩
    show t + m ≤ sumG _ (List.range (t + m))
    have b0 : BdOk ⟨v, 0, fun k => rows.getD k []⟩ ⟨t + m, 0, 600⟩ := ⟨hp, Nat.zero_le _, by show sumG _ (List.range (t + m)) ≤ 600; rw [hs]; exact hT⟩
    have := sumG_len b0 (l := List.range (t + m)) fun k hk => List.mem_range.1 hk
    simpa using this
  have hu : sumG ⟨v, 0, fun k => rows.getD k []⟩ (upFrom 0 (Nat.add t m)) = rows.flatten.length := by rw [up_range]; exact hs
  exact ends_of (goodS (n := Nat.add t m) hm ha a1 a2 b (by rw [hu]; omega) (by rw [hu]; exact hk)) rfl rfl h
end Go.Ae
namespace Go.Ae
open Go Go.Proofs

/-- What is to be shown of a text and what is put behind it. -/
def Cls (v : Nat → Value) (text more : List UInt8) : Prop := ∃ tr mr : List (List UInt8), tr.flatten = text ∧ mr.flatten = more ∧ EndsS ⟨v, 0, fun k => (tr ++ mr).getD k []⟩ (startS tr.length mr.length)

theorem ne0 : ∀ r ∈ ([] : List (List UInt8)), r ≠ [] := fun _ h => by cases h
theorem ne1 {x : List UInt8} (h : x ≠ []) : ∀ r ∈ [x], r ≠ [] := fun r hr => by
  rcases List.mem_cons.1 hr with e | hr
  · rw [e]; exact h
  · cases hr
theorem ne2 {x y : List UInt8} (h : x ≠ []) (h' : y ≠ []) : ∀ r ∈ [x, y], r ≠ [] := fun r hr => by
  rcases List.mem_cons.1 hr with e | hr
  · rw [e]; exact h
  · exact ne1 h' r hr
theorem ne3 {x y z : List UInt8} (h : x ≠ []) (h' : y ≠ []) (h2 : z ≠ []) : ∀ r ∈ [x, y, z], r ≠ [] := fun r hr => by
  rcases List.mem_cons.1 hr with e | hr
  · rw [e]; exact h
  · exact ne2 h' h2 r hr
theorem ne_len {x : List UInt8} (h : 0 < x.length) : x ≠ [] := List.length_pos_iff.1 h

section
variable {v : Nat → Value} {a m0 : Int} {text more : List UInt8}

theorem cls_in (hm : v 2 = .int .i64 m0) (ha : v 0 = .int .i64 a) (a1 : -9223372036854775808 ≤ a) (a2 : a ≤ 9223372036854775807) (hT : text.length + more.length ≤ 600) (tr mr : List (List UInt8)) (e1 : tr.flatten = text) (e2 : mr.flatten = more) (hne : ∀ r ∈ tr ++ mr, r ≠ [])
    {t m : Nat} (ht : tr.length = t) (hm' : mr.length = m) {c : Int} {l : List Nat} (h : shown t m c l = true) (hk : a % (20 + (text.length : Int) + more.length) = c + sumG ⟨v, 0, fun k => (tr ++ mr).getD k []⟩ l) : Cls v text more := by
  subst ht hm'
  have hf : (tr ++ mr).flatten.length = text.length + more.length := by rw [List.flatten_append, e1, e2, List.length_append]
  exact ⟨tr, mr, e1, e2, cls_ok hm ha a1 a2 h (List.length_append ..) hne (by omega) (by rw [hf, ← hk, Int.natCast_add, Int.add_assoc])⟩

set_option maxHeartbeats 1000000 in
theorem cov00 (hm : v 2 = .int .i64 m0) (ha : v 0 = .int .i64 a) (a1 : -9223372036854775808 ≤ a) (a2 : a ≤ 9223372036854775807) (hT : text.length + more.length ≤ 600) (h1 : text = []) (h2 : more = []) : Cls v text more := by
  have p0 := Int.emod_nonneg a (show (20 + (text.length : Int) + more.length) ≠ 0 by omega)
  have p1 := Int.emod_lt_of_pos a (show (0 : Int) < 20 + (text.length : Int) + more.length by omega)
  have I := fun tr mr e1 e2 hne t m ht hm' c l h hk => cls_in hm ha a1 a2 hT tr mr e1 e2 hne (t := t) (m := m) ht hm' (c := c) (l := l) h hk
  have h1p : text.length = 0 := by rw [h1]; rfl
  have h2p : more.length = 0 := by rw [h2]; rfl
  generalize hk : a % (20 + (text.length : Int) + more.length) = k at *
  rcases (show k = 0 ∨ k = 1 ∨ k = 2 ∨ k = 3 ∨ k = 4 ∨ k = 5 ∨ k = 6 ∨ k = 7 ∨ k = 8 ∨ k = 9 ∨ k = 10 ∨ k = 11 ∨ k = 12 ∨ k = 13 ∨ k = 14 ∨ k = 15 ∨ k = 16 ∨ k = 17 ∨ k = 18 ∨ k = 19 by omega) with e | e | e | e | e | e | e | e | e | e | e | e | e | e | e | e | e | e | e | e
  · have q : sumG ⟨v, 0, fun k => (([] : List (List UInt8)) ++ []).getD k []⟩ [] = 0 := rfl
    exact I [] [] (by rw [h1]; rfl) (by rw [h2]; rfl) ne0 0 0 rfl rfl 0 [] sh_0_0_0 (by rw [e, q]; omega)
  · have q : sumG ⟨v, 0, fun k => (([] : List (List UInt8)) ++ []).getD k []⟩ [] = 0 := rfl
    exact I [] [] (by rw [h1]; rfl) (by rw [h2]; rfl) ne0 0 0 rfl rfl 1 [] sh_0_0_1 (by rw [e, q]; omega)
  · have q : sumG ⟨v, 0, fun k => (([] : List (List UInt8)) ++ []).getD k []⟩ [] = 0 := rfl
    exact I [] [] (by rw [h1]; rfl) (by rw [h2]; rfl) ne0 0 0 rfl rfl 2 [] sh_0_0_2 (by rw [e, q]; omega)
  · have q : sumG ⟨v, 0, fun k => (([] : List (List UInt8)) ++ []).getD k []⟩ [] = 0 := rfl
    exact I [] [] (by rw [h1]; rfl) (by rw [h2]; rfl) ne0 0 0 rfl rfl 3 [] sh_0_0_3 (by rw [e, q]; omega)
  · have q : sumG ⟨v, 0, fun k => (([] : List (List UInt8)) ++ []).getD k []⟩ [] = 0 := rfl
    exact I [] [] (by rw [h1]; rfl) (by rw [h2]; rfl) ne0 0 0 rfl rfl 4 [] sh_0_0_4 (by rw [e, q]; omega)
  · have q : sumG ⟨v, 0, fun k => (([] : List (List UInt8)) ++ []).getD k []⟩ [] = 0 := rfl
    exact I [] [] (by rw [h1]; rfl) (by rw [h2]; rfl) ne0 0 0 rfl rfl 5 [] sh_0_0_5 (by rw [e, q]; omega)
  · have q : sumG ⟨v, 0, fun k => (([] : List (List UInt8)) ++ []).getD k []⟩ [] = 0 := rfl
    exact I [] [] (by rw [h1]; rfl) (by rw [h2]; rfl) ne0 0 0 rfl rfl 6 [] sh_0_0_6 (by rw [e, q]; omega)
  · have q : sumG ⟨v, 0, fun k => (([] : List (List UInt8)) ++ []).getD k []⟩ [] = 0 := rfl
    exact I [] [] (by rw [h1]; rfl) (by rw [h2]; rfl) ne0 0 0 rfl rfl 7 [] sh_0_0_7 (by rw [e, q]; omega)
  · have q : sumG ⟨v, 0, fun k => (([] : List (List UInt8)) ++ []).getD k []⟩ [] = 0 := rfl
    exact I [] [] (by rw [h1]; rfl) (by rw [h2]; rfl) ne0 0 0 rfl rfl 8 [] sh_0_0_8 (by rw [e, q]; omega)
  · have q : sumG ⟨v, 0, fun k => (([] : List (List UInt8)) ++ []).getD k []⟩ [] = 0 := rfl
    exact I [] [] (by rw [h1]; rfl) (by rw [h2]; rfl) ne0 0 0 rfl rfl 9 [] sh_0_0_9 (by rw [e, q]; omega)
  · have q : sumG ⟨v, 0, fun k => (([] : List (List UInt8)) ++ []).getD k []⟩ [] = 0 := rfl
    exact I [] [] (by rw [h1]; rfl) (by rw [h2]; rfl) ne0 0 0 rfl rfl 10 [] sh_0_0_10 (by rw [e, q]; omega)
  · have q : sumG ⟨v, 0, fun k => (([] : List (List UInt8)) ++ []).getD k []⟩ [] = 0 := rfl
    exact I [] [] (by rw [h1]; rfl) (by rw [h2]; rfl) ne0 0 0 rfl rfl 11 [] sh_0_0_11 (by rw [e, q]; omega)
  · have q : sumG ⟨v, 0, fun k => (([] : List (List UInt8)) ++ []).getD k []⟩ [] = 0 := rfl
    exact I [] [] (by rw [h1]; rfl) (by rw [h2]; rfl) ne0 0 0 rfl rfl 12 [] sh_0_0_12 (by rw [e, q]; omega)
  · have q : sumG ⟨v, 0, fun k => (([] : List (List UInt8)) ++ []).getD k []⟩ [] = 0 := rfl
    exact I [] [] (by rw [h1]; rfl) (by rw [h2]; rfl) ne0 0 0 rfl rfl 13 [] sh_0_0_13 (by rw [e, q]; omega)
  · have q : sumG ⟨v, 0, fun k => (([] : List (List UInt8)) ++ []).getD k []⟩ [] = 0 := rfl
    exact I [] [] (by rw [h1]; rfl) (by rw [h2]; rfl) ne0 0 0 rfl rfl 14 [] sh_0_0_14 (by rw [e, q]; omega)
  · have q : sumG ⟨v, 0, fun k => (([] : List (List UInt8)) ++ []).getD k []⟩ [] = 0 := rfl
    exact I [] [] (by rw [h1]; rfl) (by rw [h2]; rfl) ne0 0 0 rfl rfl 15 [] sh_0_0_15 (by rw [e, q]; omega)
  · have q : sumG ⟨v, 0, fun k => (([] : List (List UInt8)) ++ []).getD k []⟩ [] = 0 := rfl
    exact I [] [] (by rw [h1]; rfl) (by rw [h2]; rfl) ne0 0 0 rfl rfl 16 [] sh_0_0_16 (by rw [e, q]; omega)
  · have q : sumG ⟨v, 0, fun k => (([] : List (List UInt8)) ++ []).getD k []⟩ [] = 0 := rfl
    exact I [] [] (by rw [h1]; rfl) (by rw [h2]; rfl) ne0 0 0 rfl rfl 17 [] sh_0_0_17 (by rw [e, q]; omega)
  · have q : sumG ⟨v, 0, fun k => (([] : List (List UInt8)) ++ []).getD k []⟩ [] = 0 := rfl
    exact I [] [] (by rw [h1]; rfl) (by rw [h2]; rfl) ne0 0 0 rfl rfl 18 [] sh_0_0_18 (by rw [e, q]; omega)
  · have q : sumG ⟨v, 0, fun k => (([] : List (List UInt8)) ++ []).getD k []⟩ [] = 0 := rfl
    exact I [] [] (by rw [h1]; rfl) (by rw [h2]; rfl) ne0 0 0 rfl rfl 19 [] sh_0_0_19 (by rw [e, q]; omega)

set_option maxHeartbeats 1000000 in
theorem cov01 (hm : v 2 = .int .i64 m0) (ha : v 0 = .int .i64 a) (a1 : -9223372036854775808 ≤ a) (a2 : a ≤ 9223372036854775807) (hT : text.length + more.length ≤ 600) (h1 : text = []) (h2 : more ≠ []) : Cls v text more := by
  have p0 := Int.emod_nonneg a (show (20 + (text.length : Int) + more.length) ≠ 0 by omega)
  have p1 := Int.emod_lt_of_pos a (show (0 : Int) < 20 + (text.length : Int) + more.length by omega)
  have I := fun tr mr e1 e2 hne t m ht hm' c l h hk => cls_in hm ha a1 a2 hT tr mr e1 e2 hne (t := t) (m := m) ht hm' (c := c) (l := l) h hk
  have h1p : text.length = 0 := by rw [h1]; rfl
  have h2p : 0 < more.length := List.length_pos_iff.2 h2
  generalize hk : a % (20 + (text.length : Int) + more.length) = k at *
  rcases (show k = 0 ∨ k = 1 ∨ k = 2 ∨ k = 3 ∨ k = 4 ∨ k = 5 ∨ k = 6 ∨ k = 7 ∨ k = 8 ∨ k = 9 ∨ k = 10 ∨ k = 11 ∨ k = 12 ∨ k = 13 ∨ k = 14 ∨ 14 < k ∧ k < 14 + (more.length : Int) ∨ k = 14 + (more.length : Int) ∨ k = 15 + (more.length : Int) ∨ k = 16 + (more.length : Int) ∨ k = 17 + (more.length : Int) ∨ k = 18 + (more.length : Int) ∨ k = 19 + (more.length : Int) by omega) with e | e | e | e | e | e | e | e | e | e | e | e | e | e | e | e | e | e | e | e | e | e
  · have q : sumG ⟨v, 0, fun k => ([] ++ [more]).getD k []⟩ [] = 0 := rfl
    exact I [] [more] (by rw [h1]; rfl) (by simp) (ne1 h2) 0 1 rfl rfl 0 [] sh_0_1_0 (by rw [e, q]; omega)
  · have q : sumG ⟨v, 0, fun k => ([] ++ [more]).getD k []⟩ [] = 0 := rfl
    exact I [] [more] (by rw [h1]; rfl) (by simp) (ne1 h2) 0 1 rfl rfl 1 [] sh_0_1_1 (by rw [e, q]; omega)
  · have q : sumG ⟨v, 0, fun k => ([] ++ [more]).getD k []⟩ [] = 0 := rfl
    exact I [] [more] (by rw [h1]; rfl) (by simp) (ne1 h2) 0 1 rfl rfl 2 [] sh_0_1_2 (by rw [e, q]; omega)
  · have q : sumG ⟨v, 0, fun k => ([] ++ [more]).getD k []⟩ [] = 0 := rfl
    exact I [] [more] (by rw [h1]; rfl) (by simp) (ne1 h2) 0 1 rfl rfl 3 [] sh_0_1_3 (by rw [e, q]; omega)
  · have q : sumG ⟨v, 0, fun k => ([] ++ [more]).getD k []⟩ [] = 0 := rfl
    exact I [] [more] (by rw [h1]; rfl) (by simp) (ne1 h2) 0 1 rfl rfl 4 [] sh_0_1_4 (by rw [e, q]; omega)
  · have q : sumG ⟨v, 0, fun k => ([] ++ [more]).getD k []⟩ [] = 0 := rfl
    exact I [] [more] (by rw [h1]; rfl) (by simp) (ne1 h2) 0 1 rfl rfl 5 [] sh_0_1_5 (by rw [e, q]; omega)
  · have q : sumG ⟨v, 0, fun k => ([] ++ [more]).getD k []⟩ [] = 0 := rfl
    exact I [] [more] (by rw [h1]; rfl) (by simp) (ne1 h2) 0 1 rfl rfl 6 [] sh_0_1_6 (by rw [e, q]; omega)
  · have q : sumG ⟨v, 0, fun k => ([] ++ [more]).getD k []⟩ [] = 0 := rfl
    exact I [] [more] (by rw [h1]; rfl) (by simp) (ne1 h2) 0 1 rfl rfl 7 [] sh_0_1_7 (by rw [e, q]; omega)
  · have q : sumG ⟨v, 0, fun k => ([] ++ [more]).getD k []⟩ [] = 0 := rfl
    exact I [] [more] (by rw [h1]; rfl) (by simp) (ne1 h2) 0 1 rfl rfl 8 [] sh_0_1_8 (by rw [e, q]; omega)
  · have q : sumG ⟨v, 0, fun k => ([] ++ [more]).getD k []⟩ [] = 0 := rfl
    exact I [] [more] (by rw [h1]; rfl) (by simp) (ne1 h2) 0 1 rfl rfl 9 [] sh_0_1_9 (by rw [e, q]; omega)
  · have q : sumG ⟨v, 0, fun k => ([] ++ [more]).getD k []⟩ [] = 0 := rfl
    exact I [] [more] (by rw [h1]; rfl) (by simp) (ne1 h2) 0 1 rfl rfl 10 [] sh_0_1_10 (by rw [e, q]; omega)
  · have q : sumG ⟨v, 0, fun k => ([] ++ [more]).getD k []⟩ [] = 0 := rfl
    exact I [] [more] (by rw [h1]; rfl) (by simp) (ne1 h2) 0 1 rfl rfl 11 [] sh_0_1_11 (by rw [e, q]; omega)
  · have q : sumG ⟨v, 0, fun k => ([] ++ [more]).getD k []⟩ [] = 0 := rfl
    exact I [] [more] (by rw [h1]; rfl) (by simp) (ne1 h2) 0 1 rfl rfl 12 [] sh_0_1_12 (by rw [e, q]; omega)
  · have q : sumG ⟨v, 0, fun k => ([] ++ [more]).getD k []⟩ [] = 0 := rfl
    exact I [] [more] (by rw [h1]; rfl) (by simp) (ne1 h2) 0 1 rfl rfl 13 [] sh_0_1_13 (by rw [e, q]; omega)
  · have q : sumG ⟨v, 0, fun k => ([] ++ [more]).getD k []⟩ [] = 0 := rfl
    exact I [] [more] (by rw [h1]; rfl) (by simp) (ne1 h2) 0 1 rfl rfl 14 [] sh_0_1_14 (by rw [e, q]; omega)
  · obtain ⟨p, hp⟩ : ∃ p : Nat, k = 14 + p := ⟨(k - 14).toNat, by omega⟩
    have q1 : (more.take p).length = p := by rw [List.length_take]; omega
    have q2 : (more.drop p).length = more.length - p := List.length_drop
    have q : sumG ⟨v, 0, fun k => ([] ++ [more.take p, more.drop p]).getD k []⟩ [0] = (more.take p).length + 0 := rfl
    exact I [] [more.take p, more.drop p] (by rw [h1]; rfl) (by simp) (ne2 (ne_len (by omega)) (ne_len (by omega))) 0 2 rfl rfl 14 [0] sh_0_2_14_0 (by rw [hp, q]; omega)
  · have q : sumG ⟨v, 0, fun k => ([] ++ [more]).getD k []⟩ [0] = more.length + 0 := rfl
    exact I [] [more] (by rw [h1]; rfl) (by simp) (ne1 h2) 0 1 rfl rfl 14 [0] sh_0_1_14_0 (by rw [e, q]; omega)
  · have q : sumG ⟨v, 0, fun k => ([] ++ [more]).getD k []⟩ [0] = more.length + 0 := rfl
    exact I [] [more] (by rw [h1]; rfl) (by simp) (ne1 h2) 0 1 rfl rfl 15 [0] sh_0_1_15_0 (by rw [e, q]; omega)
  · have q : sumG ⟨v, 0, fun k => ([] ++ [more]).getD k []⟩ [0] = more.length + 0 := rfl
    exact I [] [more] (by rw [h1]; rfl) (by simp) (ne1 h2) 0 1 rfl rfl 16 [0] sh_0_1_16_0 (by rw [e, q]; omega)
  · have q : sumG ⟨v, 0, fun k => ([] ++ [more]).getD k []⟩ [0] = more.length + 0 := rfl
    exact I [] [more] (by rw [h1]; rfl) (by simp) (ne1 h2) 0 1 rfl rfl 17 [0] sh_0_1_17_0 (by rw [e, q]; omega)
  · have q : sumG ⟨v, 0, fun k => ([] ++ [more]).getD k []⟩ [0] = more.length + 0 := rfl
    exact I [] [more] (by rw [h1]; rfl) (by simp) (ne1 h2) 0 1 rfl rfl 18 [0] sh_0_1_18_0 (by rw [e, q]; omega)
  · have q : sumG ⟨v, 0, fun k => ([] ++ [more]).getD k []⟩ [0] = more.length + 0 := rfl
    exact I [] [more] (by rw [h1]; rfl) (by simp) (ne1 h2) 0 1 rfl rfl 19 [0] sh_0_1_19_0 (by rw [e, q]; omega)

set_option maxHeartbeats 1000000 in
theorem cov10 (hm : v 2 = .int .i64 m0) (ha : v 0 = .int .i64 a) (a1 : -9223372036854775808 ≤ a) (a2 : a ≤ 9223372036854775807) (hT : text.length + more.length ≤ 600) (h1 : text ≠ []) (h2 : more = []) : Cls v text more := by
  have p0 := Int.emod_nonneg a (show (20 + (text.length : Int) + more.length) ≠ 0 by omega)
  have p1 := Int.emod_lt_of_pos a (show (0 : Int) < 20 + (text.length : Int) + more.length by omega)
  have I := fun tr mr e1 e2 hne t m ht hm' c l h hk => cls_in hm ha a1 a2 hT tr mr e1 e2 hne (t := t) (m := m) ht hm' (c := c) (l := l) h hk
  have h1p : 0 < text.length := List.length_pos_iff.2 h1
  have h2p : more.length = 0 := by rw [h2]; rfl
  generalize hk : a % (20 + (text.length : Int) + more.length) = k at *
  rcases (show k = 0 ∨ k = 1 ∨ k = 2 ∨ k = 3 ∨ k = 4 ∨ k = 5 ∨ k = 6 ∨ k = 7 ∨ 7 < k ∧ k < 7 + (text.length : Int) ∨ k = 7 + (text.length : Int) ∨ k = 8 + (text.length : Int) ∨ k = 9 + (text.length : Int) ∨ k = 10 + (text.length : Int) ∨ k = 11 + (text.length : Int) ∨ k = 12 + (text.length : Int) ∨ k = 13 + (text.length : Int) ∨ k = 14 + (text.length : Int) ∨ k = 15 + (text.length : Int) ∨ k = 16 + (text.length : Int) ∨ k = 17 + (text.length : Int) ∨ k = 18 + (text.length : Int) ∨ k = 19 + (text.length : Int) by omega) with e | e | e | e | e | e | e | e | e | e | e | e | e | e | e | e | e | e | e | e | e | e
  · have q : sumG ⟨v, 0, fun k => ([text] ++ []).getD k []⟩ [] = 0 := rfl
    exact I [text] [] (by simp) (by rw [h2]; rfl) (ne1 h1) 1 0 rfl rfl 0 [] sh_1_0_0 (by rw [e, q]; omega)
  · have q : sumG ⟨v, 0, fun k => ([text] ++ []).getD k []⟩ [] = 0 := rfl
    exact I [text] [] (by simp) (by rw [h2]; rfl) (ne1 h1) 1 0 rfl rfl 1 [] sh_1_0_1 (by rw [e, q]; omega)
  · have q : sumG ⟨v, 0, fun k => ([text] ++ []).getD k []⟩ [] = 0 := rfl
    exact I [text] [] (by simp) (by rw [h2]; rfl) (ne1 h1) 1 0 rfl rfl 2 [] sh_1_0_2 (by rw [e, q]; omega)
  · have q : sumG ⟨v, 0, fun k => ([text] ++ []).getD k []⟩ [] = 0 := rfl
    exact I [text] [] (by simp) (by rw [h2]; rfl) (ne1 h1) 1 0 rfl rfl 3 [] sh_1_0_3 (by rw [e, q]; omega)
  · have q : sumG ⟨v, 0, fun k => ([text] ++ []).getD k []⟩ [] = 0 := rfl
    exact I [text] [] (by simp) (by rw [h2]; rfl) (ne1 h1) 1 0 rfl rfl 4 [] sh_1_0_4 (by rw [e, q]; omega)
  · have q : sumG ⟨v, 0, fun k => ([text] ++ []).getD k []⟩ [] = 0 := rfl
    exact I [text] [] (by simp) (by rw [h2]; rfl) (ne1 h1) 1 0 rfl rfl 5 [] sh_1_0_5 (by rw [e, q]; omega)
  · have q : sumG ⟨v, 0, fun k => ([text] ++ []).getD k []⟩ [] = 0 := rfl
    exact I [text] [] (by simp) (by rw [h2]; rfl) (ne1 h1) 1 0 rfl rfl 6 [] sh_1_0_6 (by rw [e, q]; omega)
  · have q : sumG ⟨v, 0, fun k => ([text] ++ []).getD k []⟩ [] = 0 := rfl
    exact I [text] [] (by simp) (by rw [h2]; rfl) (ne1 h1) 1 0 rfl rfl 7 [] sh_1_0_7 (by rw [e, q]; omega)
  · obtain ⟨p, hp⟩ : ∃ p : Nat, k = 7 + p := ⟨(k - 7).toNat, by omega⟩
    have q1 : (text.take p).length = p := by rw [List.length_take]; omega
    have q2 : (text.drop p).length = text.length - p := List.length_drop
    have q : sumG ⟨v, 0, fun k => ([text.take p, text.drop p] ++ []).getD k []⟩ [0] = (text.take p).length + 0 := rfl
    exact I [text.take p, text.drop p] [] (by simp) (by rw [h2]; rfl) (ne2 (ne_len (by omega)) (ne_len (by omega))) 2 0 rfl rfl 7 [0] sh_2_0_7_0 (by rw [hp, q]; omega)
  · have q : sumG ⟨v, 0, fun k => ([text] ++ []).getD k []⟩ [0] = text.length + 0 := rfl
    exact I [text] [] (by simp) (by rw [h2]; rfl) (ne1 h1) 1 0 rfl rfl 7 [0] sh_1_0_7_0 (by rw [e, q]; omega)
  · have q : sumG ⟨v, 0, fun k => ([text] ++ []).getD k []⟩ [0] = text.length + 0 := rfl
    exact I [text] [] (by simp) (by rw [h2]; rfl) (ne1 h1) 1 0 rfl rfl 8 [0] sh_1_0_8_0 (by rw [e, q]; omega)
  · have q : sumG ⟨v, 0, fun k => ([text] ++ []).getD k []⟩ [0] = text.length + 0 := rfl
    exact I [text] [] (by simp) (by rw [h2]; rfl) (ne1 h1) 1 0 rfl rfl 9 [0] sh_1_0_9_0 (by rw [e, q]; omega)
  · have q : sumG ⟨v, 0, fun k => ([text] ++ []).getD k []⟩ [0] = text.length + 0 := rfl
    exact I [text] [] (by simp) (by rw [h2]; rfl) (ne1 h1) 1 0 rfl rfl 10 [0] sh_1_0_10_0 (by rw [e, q]; omega)
  · have q : sumG ⟨v, 0, fun k => ([text] ++ []).getD k []⟩ [0] = text.length + 0 := rfl
    exact I [text] [] (by simp) (by rw [h2]; rfl) (ne1 h1) 1 0 rfl rfl 11 [0] sh_1_0_11_0 (by rw [e, q]; omega)
  · have q : sumG ⟨v, 0, fun k => ([text] ++ []).getD k []⟩ [0] = text.length + 0 := rfl
    exact I [text] [] (by simp) (by rw [h2]; rfl) (ne1 h1) 1 0 rfl rfl 12 [0] sh_1_0_12_0 (by rw [e, q]; omega)
  · have q : sumG ⟨v, 0, fun k => ([text] ++ []).getD k []⟩ [0] = text.length + 0 := rfl
    exact I [text] [] (by simp) (by rw [h2]; rfl) (ne1 h1) 1 0 rfl rfl 13 [0] sh_1_0_13_0 (by rw [e, q]; omega)
  · have q : sumG ⟨v, 0, fun k => ([text] ++ []).getD k []⟩ [0] = text.length + 0 := rfl
    exact I [text] [] (by simp) (by rw [h2]; rfl) (ne1 h1) 1 0 rfl rfl 14 [0] sh_1_0_14_0 (by rw [e, q]; omega)
  · have q : sumG ⟨v, 0, fun k => ([text] ++ []).getD k []⟩ [0] = text.length + 0 := rfl
    exact I [text] [] (by simp) (by rw [h2]; rfl) (ne1 h1) 1 0 rfl rfl 15 [0] sh_1_0_15_0 (by rw [e, q]; omega)
  · have q : sumG ⟨v, 0, fun k => ([text] ++ []).getD k []⟩ [0] = text.length + 0 := rfl
    exact I [text] [] (by simp) (by rw [h2]; rfl) (ne1 h1) 1 0 rfl rfl 16 [0] sh_1_0_16_0 (by rw [e, q]; omega)
  · have q : sumG ⟨v, 0, fun k => ([text] ++ []).getD k []⟩ [0] = text.length + 0 := rfl
    exact I [text] [] (by simp) (by rw [h2]; rfl) (ne1 h1) 1 0 rfl rfl 17 [0] sh_1_0_17_0 (by rw [e, q]; omega)
  · have q : sumG ⟨v, 0, fun k => ([text] ++ []).getD k []⟩ [0] = text.length + 0 := rfl
    exact I [text] [] (by simp) (by rw [h2]; rfl) (ne1 h1) 1 0 rfl rfl 18 [0] sh_1_0_18_0 (by rw [e, q]; omega)
  · have q : sumG ⟨v, 0, fun k => ([text] ++ []).getD k []⟩ [0] = text.length + 0 := rfl
    exact I [text] [] (by simp) (by rw [h2]; rfl) (ne1 h1) 1 0 rfl rfl 19 [0] sh_1_0_19_0 (by rw [e, q]; omega)

set_option maxHeartbeats 1000000 in
theorem cov11 (hm : v 2 = .int .i64 m0) (ha : v 0 = .int .i64 a) (a1 : -9223372036854775808 ≤ a) (a2 : a ≤ 9223372036854775807) (hT : text.length + more.length ≤ 600) (h1 : text ≠ []) (h2 : more ≠ []) : Cls v text more := by
  have p0 := Int.emod_nonneg a (show (20 + (text.length : Int) + more.length) ≠ 0 by omega)
  have p1 := Int.emod_lt_of_pos a (show (0 : Int) < 20 + (text.length : Int) + more.length by omega)
  have I := fun tr mr e1 e2 hne t m ht hm' c l h hk => cls_in hm ha a1 a2 hT tr mr e1 e2 hne (t := t) (m := m) ht hm' (c := c) (l := l) h hk
  have h1p : 0 < text.length := List.length_pos_iff.2 h1
  have h2p : 0 < more.length := List.length_pos_iff.2 h2
  generalize hk : a % (20 + (text.length : Int) + more.length) = k at *
  rcases (show k = 0 ∨ k = 1 ∨ k = 2 ∨ k = 3 ∨ k = 4 ∨ k = 5 ∨ k = 6 ∨ k = 7 ∨ 7 < k ∧ k < 7 + (text.length : Int) ∨ k = 7 + (text.length : Int) ∨ k = 8 + (text.length : Int) ∨ k = 9 + (text.length : Int) ∨ k = 10 + (text.length : Int) ∨ k = 11 + (text.length : Int) ∨ k = 12 + (text.length : Int) ∨ k = 13 + (text.length : Int) ∨ k = 14 + (text.length : Int) ∨ 14 + (text.length : Int) < k ∧ k < 14 + (text.length : Int) + (more.length : Int) ∨ k = 14 + (text.length : Int) + (more.length : Int) ∨ k = 15 + (text.length : Int) + (more.length : Int) ∨ k = 16 + (text.length : Int) + (more.length : Int) ∨ k = 17 + (text.length : Int) + (more.length : Int) ∨ k = 18 + (text.length : Int) + (more.length : Int) ∨ k = 19 + (text.length : Int) + (more.length : Int) by omega) with e | e | e | e | e | e | e | e | e | e | e | e | e | e | e | e | e | e | e | e | e | e | e | e
  · have q : sumG ⟨v, 0, fun k => ([text] ++ [more]).getD k []⟩ [] = 0 := rfl
    exact I [text] [more] (by simp) (by simp) (ne2 h1 h2) 1 1 rfl rfl 0 [] sh_1_1_0 (by rw [e, q]; omega)
  · have q : sumG ⟨v, 0, fun k => ([text] ++ [more]).getD k []⟩ [] = 0 := rfl
    exact I [text] [more] (by simp) (by simp) (ne2 h1 h2) 1 1 rfl rfl 1 [] sh_1_1_1 (by rw [e, q]; omega)
  · have q : sumG ⟨v, 0, fun k => ([text] ++ [more]).getD k []⟩ [] = 0 := rfl
    exact I [text] [more] (by simp) (by simp) (ne2 h1 h2) 1 1 rfl rfl 2 [] sh_1_1_2 (by rw [e, q]; omega)
  · have q : sumG ⟨v, 0, fun k => ([text] ++ [more]).getD k []⟩ [] = 0 := rfl
    exact I [text] [more] (by simp) (by simp) (ne2 h1 h2) 1 1 rfl rfl 3 [] sh_1_1_3 (by rw [e, q]; omega)
  · have q : sumG ⟨v, 0, fun k => ([text] ++ [more]).getD k []⟩ [] = 0 := rfl
    exact I [text] [more] (by simp) (by simp) (ne2 h1 h2) 1 1 rfl rfl 4 [] sh_1_1_4 (by rw [e, q]; omega)
  · have q : sumG ⟨v, 0, fun k => ([text] ++ [more]).getD k []⟩ [] = 0 := rfl
    exact I [text] [more] (by simp) (by simp) (ne2 h1 h2) 1 1 rfl rfl 5 [] sh_1_1_5 (by rw [e, q]; omega)
  · have q : sumG ⟨v, 0, fun k => ([text] ++ [more]).getD k []⟩ [] = 0 := rfl
    exact I [text] [more] (by simp) (by simp) (ne2 h1 h2) 1 1 rfl rfl 6 [] sh_1_1_6 (by rw [e, q]; omega)
  · have q : sumG ⟨v, 0, fun k => ([text] ++ [more]).getD k []⟩ [] = 0 := rfl
    exact I [text] [more] (by simp) (by simp) (ne2 h1 h2) 1 1 rfl rfl 7 [] sh_1_1_7 (by rw [e, q]; omega)
  · obtain ⟨p, hp⟩ : ∃ p : Nat, k = 7 + p := ⟨(k - 7).toNat, by omega⟩
    have q1 : (text.take p).length = p := by rw [List.length_take]; omega
    have q2 : (text.drop p).length = text.length - p := List.length_drop
    have q : sumG ⟨v, 0, fun k => ([text.take p, text.drop p] ++ [more]).getD k []⟩ [0] = (text.take p).length + 0 := rfl
    exact I [text.take p, text.drop p] [more] (by simp) (by simp) (ne3 (ne_len (by omega)) (ne_len (by omega)) h2) 2 1 rfl rfl 7 [0] sh_2_1_7_0 (by rw [hp, q]; omega)
  · have q : sumG ⟨v, 0, fun k => ([text] ++ [more]).getD k []⟩ [0] = text.length + 0 := rfl
    exact I [text] [more] (by simp) (by simp) (ne2 h1 h2) 1 1 rfl rfl 7 [0] sh_1_1_7_0 (by rw [e, q]; omega)
  · have q : sumG ⟨v, 0, fun k => ([text] ++ [more]).getD k []⟩ [0] = text.length + 0 := rfl
    exact I [text] [more] (by simp) (by simp) (ne2 h1 h2) 1 1 rfl rfl 8 [0] sh_1_1_8_0 (by rw [e, q]; omega)
  · have q : sumG ⟨v, 0, fun k => ([text] ++ [more]).getD k []⟩ [0] = text.length + 0 := rfl
    exact I [text] [more] (by simp) (by simp) (ne2 h1 h2) 1 1 rfl rfl 9 [0] sh_1_1_9_0 (by rw [e, q]; omega)
  · have q : sumG ⟨v, 0, fun k => ([text] ++ [more]).getD k []⟩ [0] = text.length + 0 := rfl
    exact I [text] [more] (by simp) (by simp) (ne2 h1 h2) 1 1 rfl rfl 10 [0] sh_1_1_10_0 (by rw [e, q]; omega)
  · have q : sumG ⟨v, 0, fun k => ([text] ++ [more]).getD k []⟩ [0] = text.length + 0 := rfl
    exact I [text] [more] (by simp) (by simp) (ne2 h1 h2) 1 1 rfl rfl 11 [0] sh_1_1_11_0 (by rw [e, q]; omega)
  · have q : sumG ⟨v, 0, fun k => ([text] ++ [more]).getD k []⟩ [0] = text.length + 0 := rfl
    exact I [text] [more] (by simp) (by simp) (ne2 h1 h2) 1 1 rfl rfl 12 [0] sh_1_1_12_0 (by rw [e, q]; omega)
  · have q : sumG ⟨v, 0, fun k => ([text] ++ [more]).getD k []⟩ [0] = text.length + 0 := rfl
    exact I [text] [more] (by simp) (by simp) (ne2 h1 h2) 1 1 rfl rfl 13 [0] sh_1_1_13_0 (by rw [e, q]; omega)
  · have q : sumG ⟨v, 0, fun k => ([text] ++ [more]).getD k []⟩ [0] = text.length + 0 := rfl
    exact I [text] [more] (by simp) (by simp) (ne2 h1 h2) 1 1 rfl rfl 14 [0] sh_1_1_14_0 (by rw [e, q]; omega)
  · obtain ⟨p, hp⟩ : ∃ p : Nat, k = 14 + (text.length : Int) + p := ⟨(k - 14 - text.length).toNat, by omega⟩
    have q1 : (more.take p).length = p := by rw [List.length_take]; omega
    have q2 : (more.drop p).length = more.length - p := List.length_drop
    have q : sumG ⟨v, 0, fun k => ([text] ++ [more.take p, more.drop p]).getD k []⟩ [0, 1] = text.length + ((more.take p).length + 0) := rfl
    exact I [text] [more.take p, more.drop p] (by simp) (by simp) (ne3 h1 (ne_len (by omega)) (ne_len (by omega))) 1 2 rfl rfl 14 [0, 1] sh_1_2_14_0_1 (by rw [hp, q]; omega)
  · have q : sumG ⟨v, 0, fun k => ([text] ++ [more]).getD k []⟩ [0, 1] = text.length + (more.length + 0) := rfl
    exact I [text] [more] (by simp) (by simp) (ne2 h1 h2) 1 1 rfl rfl 14 [0, 1] sh_1_1_14_0_1 (by rw [e, q]; omega)
  · have q : sumG ⟨v, 0, fun k => ([text] ++ [more]).getD k []⟩ [0, 1] = text.length + (more.length + 0) := rfl
    exact I [text] [more] (by simp) (by simp) (ne2 h1 h2) 1 1 rfl rfl 15 [0, 1] sh_1_1_15_0_1 (by rw [e, q]; omega)
  · have q : sumG ⟨v, 0, fun k => ([text] ++ [more]).getD k []⟩ [0, 1] = text.length + (more.length + 0) := rfl
    exact I [text] [more] (by simp) (by simp) (ne2 h1 h2) 1 1 rfl rfl 16 [0, 1] sh_1_1_16_0_1 (by rw [e, q]; omega)
  · have q : sumG ⟨v, 0, fun k => ([text] ++ [more]).getD k []⟩ [0, 1] = text.length + (more.length + 0) := rfl
    exact I [text] [more] (by simp) (by simp) (ne2 h1 h2) 1 1 rfl rfl 17 [0, 1] sh_1_1_17_0_1 (by rw [e, q]; omega)
  · have q : sumG ⟨v, 0, fun k => ([text] ++ [more]).getD k []⟩ [0, 1] = text.length + (more.length + 0) := rfl
    exact I [text] [more] (by simp) (by simp) (ne2 h1 h2) 1 1 rfl rfl 18 [0, 1] sh_1_1_18_0_1 (by rw [e, q]; omega)
  · have q : sumG ⟨v, 0, fun k => ([text] ++ [more]).getD k []⟩ [0, 1] = text.length + (more.length + 0) := rfl
    exact I [text] [more] (by simp) (by simp) (ne2 h1 h2) 1 1 rfl rfl 19 [0, 1] sh_1_1_19_0_1 (by rw [e, q]; omega)

theorem cov_all (hm : v 2 = .int .i64 m0) (ha : v 0 = .int .i64 a) (a1 : -9223372036854775808 ≤ a) (a2 : a ≤ 9223372036854775807) (hT : text.length + more.length ≤ 600) : Cls v text more := by
  by_cases h1 : text = [] <;> by_cases h2 : more = []
  · exact cov00 hm ha a1 a2 hT h1 h2
  · exact cov01 hm ha a1 a2 hT h1 h2
  · exact cov10 hm ha a1 a2 hT h1 h2
  · exact cov11 hm ha a1 a2 hT h1 h2
end
end Go.Ae
namespace Go.Ae
open Go Go.Proofs

noncomputable def specB (f : Nat) : Option (List AV → AH → Option (AV × AH)) := bif Nat.beq f 7 then some specKnown else specN f

/-- More than 600 bytes. -/
noncomputable def bigS (t m : Nat) : Bool := runS (cfg (lengths Tryz.prog ⟨Nat.add t m, 601, 300000000000000⟩) specB) t m

set_option maxRecDepth 1000000 in
theorem big10 : bigS 1 0 = true := by kernel_rfl
set_option maxRecDepth 1000000 in
theorem big01 : bigS 0 1 = true := by kernel_rfl
set_option maxRecDepth 1000000 in
theorem big11 : bigS 1 1 = true := by kernel_rfl

theorem goodB {σ : Sg} {m0 : Int} {B : Bd} (hm : σ.v 2 = .int .i64 m0) (b : BdOk σ B) : Good (cfg (lengths Tryz.prog B) specB) σ := by
  refine good_of (lengths_ok _ b) fun f g h => ?_
  unfold specB at h
  rcases beq_cases h with ⟨rfl, e⟩ | ⟨_, h⟩
  · cases e; exact ⟨⟨Tryz.f7, _, Tryz.func7, rfl⟩, known_spec hm⟩
  · exact specN_ok hm f g h

theorem body5 : Tryz.f5.body = some (bodyOf 5) := by kernel_rfl

section
variable {v : Nat → Value} {a m0 : Int} {text more : List UInt8}

theorem big_all (hm : v 2 = .int .i64 m0) (hT : 600 < text.length + more.length) (hT2 : text.length + more.length ≤ 300000000000000) : Cls v text more := by
  by_cases h1 : text = []
  · by_cases h2 : more = []
    · rw [h1, h2] at hT; simp at hT
    · refine ⟨[], [more], by rw [h1]; rfl, by simp, ends_of (goodB hm ?_) rfl rfl big01⟩
      have e : text.length = 0 := by rw [h1]; rfl
      have q : sumG ⟨v, 0, fun k => ([] ++ [more]).getD k []⟩ (List.range 1) = more.length + 0 := rfl
      refine ⟨fun k hk => ?_, by show 601 ≤ sumG _ (List.range 1); rw [q]; omega, by show sumG _ (List.range 1) ≤ 300000000000000; rw [q]; omega⟩
      obtain rfl : k = 0 := Nat.lt_one_iff.1 hk
      exact List.length_pos_iff.2 h2
  · by_cases h2 : more = []
    · refine ⟨[text], [], by simp, by rw [h2]; rfl, ends_of (goodB hm ?_) rfl rfl big10⟩
      have e : more.length = 0 := by rw [h2]; rfl
      have q : sumG ⟨v, 0, fun k => ([text] ++ []).getD k []⟩ (List.range 1) = text.length + 0 := rfl
      refine ⟨fun k hk => ?_, by show 601 ≤ sumG _ (List.range 1); rw [q]; omega, by show sumG _ (List.range 1) ≤ 300000000000000; rw [q]; omega⟩
      obtain rfl : k = 0 := Nat.lt_one_iff.1 hk
      exact List.length_pos_iff.2 h1
    · refine ⟨[text], [more], by simp, by simp, ends_of (goodB hm ?_) rfl rfl big11⟩
      have q : sumG ⟨v, 0, fun k => ([text] ++ [more]).getD k []⟩ (List.range 2) = text.length + (more.length + 0) := rfl
      refine ⟨fun k hk => ?_, by show 601 ≤ sumG _ (List.range 2); rw [q]; omega, by show sumG _ (List.range 2) ≤ 300000000000000; rw [q]; omega⟩
      have hk2 : k < 2 := hk
      rcases (show k = 0 ∨ k = 1 by omega) with rfl | rfl
      · exact List.length_pos_iff.2 h1
      · exact List.length_pos_iff.2 h2

theorem rows_flat {σ : Sg} (pre : List (List UInt8)) : ∀ (mid post : List (List UInt8)) (_h : σ.g = fun k => (pre ++ (mid ++ post)).getD k []), ccs σ ((List.range' pre.length mid.length).map AV.g) = mid.flatten.map byteV
  | [], _, _ => rfl
  | x :: r, post, h => by
    have h1 := rows_flat (pre ++ [x]) r post (by rw [h]; simp)
    simp only [List.length_append, List.length_singleton] at h1
    simp only [List.length_cons, List.range'_succ, List.map_cons, ccs_cons, h1, List.flatten_cons, List.map_append]
    congr 1
    simp [cc, h, List.getD]

theorem gs_ok {σ : Sg} (l : List Nat) : ioks σ (l.map AV.g) := fun u hu => by
  obtain ⟨k, _, rfl⟩ := List.mem_map.1 hu
  exact ⟨(fun h => by cases h), fun l h => by cases h⟩

theorem txt_rel {σ : Sg} {ν : Nu} (pre mid post : List (List UInt8)) (h : σ.g = fun k => (pre ++ (mid ++ post)).getD k []) : vrel σ ν (txt (upFrom pre.length mid.length)) (.string ⟨mid.flatten.toArray⟩) := by
  have h1 := rows_flat pre mid post h
  rw [upFrom_range]
  cases mid with
  | nil => rfl
  | cons x r => exact ⟨_, rfl, h1, gs_ok _⟩

theorem top_shown (ha : v 0 = .int .i64 a) (hm : v 2 = .int .i64 m0) (a1 : -9223372036854775808 ≤ a) (a2 : a ≤ 9223372036854775807) (hT : text.length + more.length ≤ 300000000000000)
    {ν : Nu} {w : World} (hh : ∀ g, hrel ⟨v, 0, g⟩ Tryz.prog.globals.size ν H1 w) :
    ∃ g, Calls Tryz.prog 5 #[.string ⟨text.toArray⟩, .string ⟨more.toArray⟩, .int .i64 a] w fun e w' => e = .returned (.bool true) ∧ Keeps w w' ∧ ∃ ν' h', Ext ν H1 w ν' h' w' ∧ hrel ⟨v, 0, g⟩ Tryz.prog.globals.size ν' h' w' ∧ ∀ k b, H1.get k = some b → h'.get k = some b := by
  have hC : Cls v text more := by
    by_cases h : text.length + more.length ≤ 600
    · exact cov_all hm ha a1 a2 h
    · exact big_all hm (by omega) hT
  obtain ⟨tr, mr, rfl, rfl, ⟨P, om, gs, sp, ex⟩, e, G, hP, hg, g1, g2, g3, g4⟩ := hC
  simp only at hP hg
  subst hP hg
  refine ⟨fun k => (tr ++ mr).getD k [], (calls_goes (args := [txt (upFrom 0 tr.length), txt (upFrom tr.length mr.length), .sym 0]) (cs := [.string ⟨tr.flatten.toArray⟩, .string ⟨mr.flatten.toArray⟩, .int .i64 a]) (x := .ret) G Tryz.func5 body5 (.inr rfl) g2 (show Goes _ _ (Nat.max 3 Tryz.f5.ntmps) (bodyOf 5) _ (.ret, e) from g1) g3 (hh _) ?_).mono ?_⟩
  · exact ⟨_, _, txt_rel [] tr mr rfl, ⟨_, _, txt_rel tr mr [] (by simp), ⟨_, _, ⟨ha.symm, rfl⟩, rfl, rfl⟩, rfl⟩, rfl⟩
  · rintro en w' ⟨c, ν', rfl, k1, k2, k3⟩
    simp only [vrel] at k3
    subst k3
    exact ⟨rfl, k1.kp, ν', _, k1, k2, g4⟩
end
end Go.Ae
namespace Go.Ae
open Go Go.Proofs

section
variable {σ : Sg}

theorem flats_fun {ν ν' : Nu} {l : List AV} {cs cs' : List Value} (hf : l.all flat = true) (h : vrels σ ν l cs) (h' : vrels σ ν' l cs') : cs = cs' := vrels_fun l cs cs' (flats_rel hf h) h'

/-- The names of the start. -/
def nu12 : Nu := (List.range 12).map fun g => ⟨g, 0, 0, []⟩

theorem nu12_get {g : Nat} (h : g < 12) : nu12[g]? = some ⟨g, 0, 0, []⟩ := by
  simp [nu12, List.getElem?_map, List.getElem?_range h]

theorem start_rel {W : World} (hA : ∃ a t, W.heap[0]? = some (.cells a t (0, 0)) ∧ vrels σ nu12 asc a.toList) (hB : ∃ a t, W.heap[3]? = some (.cells a t (0, 0)) ∧ vrels σ nu12 p10 a.toList)
    (hM : ∃ a t, W.heap[4]? = some (.cells a t (0, 0)) ∧ vrels σ nu12 [.sym 2] a.toList) : hrel σ Tryz.prog.globals.size nu12 H1 W where
  len := rfl
  dom := fun k b h => by
    have go : ∀ {k : Nat} {cs : List AV}, k < 12 → (∃ a t, W.heap[k]? = some (.cells a t (0, 0)) ∧ vrels σ nu12 cs a.toList) → ∃ e o, nu12[k]? = some e ∧ W.heap[e.b]? = some o ∧ brel σ nu12 e (.c cs 0) o := by
      intro k cs hk ⟨a, t, h1, h2⟩
      refine ⟨⟨k, 0, 0, []⟩, _, nu12_get hk, h1, a.toList, [], by simp, h2, fun _ => rfl, fun h => absurd rfl h, fun o _ h => ?_⟩
      have := h.2
      simp at this
    rcases h1_get k b h with ⟨rfl, rfl⟩ | ⟨rfl, rfl⟩ | ⟨rfl, rfl⟩
    · exact go (by omega) hA
    · exact go (by omega) hB
    · exact go (by omega) hM
  inj := fun i j e e' b b' hi hj he he' hE => by
    have hlt : ∀ {k b}, H1.get k = some b → k < 12 := fun {k b} hk => by
      rcases h1_get k b hk with ⟨rfl, _⟩ | ⟨rfl, _⟩ | ⟨rfl, _⟩ <;> omega
    rw [nu12_get (hlt hi)] at he
    rw [nu12_get (hlt hj)] at he'
    cases he
    cases he'
    exact hE
  gl := fun g hg => ⟨_, nu12_get (by rw [gs12] at hg; exact hg), rfl⟩

/-- What lay ahead lies there still. -/
theorem kept_all {W W' : World} {gs : Nat} {ν' : Nu} {h' : AH} (hK : Keeps W W') (hE : Ext nu12 H1 W ν' h' W') (hh : hrel σ gs nu12 H1 W) (hh' : hrel σ gs ν' h' W') (hk : ∀ k b, H1.get k = some b → h'.get k = some b) :
    W'.os = W.os ∧ W'.output = W.output ∧ ∀ i, i < W.heap.size → W'.heap[i]? = W.heap[i]? := by
  refine ⟨hK.os, hK.output, fun i hi => ?_⟩
  by_cases him : im nu12 H1 i
  · obtain ⟨k, b, e, h1, h2, rfl⟩ := him
    obtain ⟨e1, o, k1, k2, k3⟩ := hh.dom k b h1
    rw [h2] at k1
    cases k1
    obtain ⟨μ, rfl⟩ := hE.pre
    obtain ⟨e2, o', g1, g2, g3⟩ := hh'.dom k b (hk k b h1)
    rw [pre_get h2] at g1
    cases g1
    have fl : ∃ cs, b = .c cs 0 ∧ cs.all flat = true := by
      rcases h1_get k b h1 with ⟨rfl, rfl⟩ | ⟨rfl, rfl⟩ | ⟨rfl, rfl⟩
      · exact ⟨_, rfl, asc_flat⟩
      · exact ⟨_, rfl, p10_flat⟩
      · exact ⟨_, rfl, rfl⟩
    obtain ⟨cs, rfl, hfl⟩ := fl
    cases o <;> simp only [brel] at k3
    cases o' <;> simp only [brel] at g3
    rename_i a t fr a' t' fr'
    obtain ⟨l, ext, p1, p2, p3, _⟩ := k3
    obtain ⟨l', ext', q1, q2, q3, _⟩ := g3
    have := p3 rfl
    subst this
    have := q3 rfl
    subst this
    have hl := flats_fun hfl p2 q2
    subst hl
    have haa : a' = a := by
      apply Array.ext'
      rw [p1, q1]
    subst haa
    obtain ⟨a2, r1, r2⟩ := hK.cells _ _ _ _ k2
    rw [g2] at r1
    cases r1
    rw [g2, k2]
  · exact (hE.fr i hi him).2

theorem kept_but {W W' : World} (h : W'.os = W.os ∧ W'.output = W.output ∧ ∀ i, i < W.heap.size → W'.heap[i]? = W.heap[i]?) (may : MemPlace → Prop) : W.keptBut W' may := by
  refine ⟨h.1, h.2.1, fun i hi => ?_⟩
  rw [h.2.2 i hi]
  split
  · rename_i h1 h2
    rw [h1] at h2
    cases h2
    exact ⟨rfl, rfl, rfl, fun _ _ => rfl⟩
  · rename_i h1 h2
    rw [h1] at h2
    cases h2
    exact .inr ⟨rfl, rfl⟩
  · rename_i o o' _ _
    rfl
end
end Go.Ae
namespace Go.Ae
open Go Go.Proofs Go.Proofs.YtlclnngcnkepjaaGreatDoor

theorem laid_at {P : Program} {w : World} : ∀ {l : List (String × DataW Unit)} {ps : List MemPlace}, DataW.LaidVars P w l ps → ∀ {n : String} {d : DataW Unit}, (n, d) ∈ l →
    ∃ g t cs fuel p, P.globalNamed n = some g ∧ (P.globals[g]?).map (·.type) = some t ∧ w.var? P n = some cs ∧ DataW.trod (fun _ => ()) P w 0 (fun _ => true) false fuel t cs.toList = some (d, p) ∧ ∀ x ∈ MemPlace.row ⟨g, 0, none⟩ cs.size, x ∈ ps
  | [], _, _, _, _, h => by simp at h
  | (m, e) :: l, ps, ⟨g, t, cs, fuel, p, q, h1, h2, h3, h4, h5, h6⟩, n, d, h => by
    rcases List.mem_cons.1 h with h | h
    · cases h
      exact ⟨g, t, cs, fuel, p, h1, h2, h3, h4, fun x hx => by rw [h6]; simp [hx]⟩
    · obtain ⟨g', t', cs', fuel', p', k1, k2, k3, k4, k5⟩ := laid_at h5 h
      exact ⟨g', t', cs', fuel', p', k1, k2, k3, k4, fun x hx => by rw [h6]; simp [k5 x hx]⟩

theorem laid_block {P : Program} {w : World} {l : List (String × DataW Unit)} (h : laidMet P l w) {name : String} {k : IntKind} {zs : List Int} {g : Nat} {t e : TypeId} {n : Nat} (hm : (name, Lib.tabData k zs) ∈ l)
    (hg : P.globalNamed name = some g) (hty : (P.globals[g]?).map (·.type) = some t) (ht : P.underlying t = some (.array n e)) (he : P.underlying e = some (.int k)) (hce : P.cellsOf e = 1) (hct : P.cellsOf t = n) (hz : 0 < zs.length) :
    ∃ a ty, w.heap[g]? = some (.cells a ty (0, 0)) ∧ a.toList = zs.map fun z => Value.int k z := by
  obtain ⟨ps, hL, _, hb⟩ := h
  obtain ⟨g', t', cs, fuel, p, h1, h2, h3, h4, h5⟩ := laid_at hL hm
  obtain rfl := Option.some.inj (hg.symm.trans h1)
  obtain rfl := Option.some.inj (hty.symm.trans h2)
  have hcs := Lib.cells_of_tab ht he hce hct h4
  have hsz : 0 < cs.size := by
    have := congrArg List.length hcs
    simp at this
    omega
  obtain ⟨⟨c, ty, hc⟩, _⟩ := hb g 0 (h5 _ (by simp [MemPlace.row]; exact hsz))
  refine ⟨c, ty, hc, ?_⟩
  have : c = cs := by
    simp [World.var?, hg, hc] at h3
    exact h3
  rw [this, hcs]

theorem vrels_ints {σ : Sg} {ν : Nu} (k : IntKind) : ∀ zs : List Int, vrels σ ν (zs.map (AV.i k)) (zs.map fun z => Value.int k z)
  | [] => rfl
  | _ :: r => ⟨_, _, rfl, vrels_ints k r, rfl⟩

noncomputable def numsOf : List AV → List Int
  | .i _ n :: r => n :: numsOf r
  | _ => []

theorem asc_eq : asc = (numsOf asc).map (AV.i .u8) := by kernel_rfl
theorem p10_eq : p10 = (numsOf p10).map (AV.i .u64) := by kernel_rfl

theorem tab0 : Rows.laid_strings_asciiSpace (H := Unit) = Lib.tabData .u8 (numsOf asc) := by kernel_rfl
theorem tab3 : Rows.laid_internal_strconv_uint64pow10 (H := Unit) = Lib.tabData .u64 (numsOf p10) := by kernel_rfl

theorem row_asc {σ : Sg} {W : World} (h : laidMet Tryz.prog Rows.topShownRow.laid W) : ∃ a t, W.heap[0]? = some (.cells a t (0, 0)) ∧ vrels σ nu12 asc a.toList := by
  have hm : ("strings.asciiSpace", Lib.tabData (H := Unit) .u8 (numsOf asc)) ∈ Rows.topShownRow.laid := by rw [← tab0]; simp [Rows.topShownRow]
  obtain ⟨a, t, h1, h2⟩ := laid_block h hm (g := 0) (t := 186) (by kernel_rfl) (by kernel_rfl) Tryz.underlying186 (by kernel_rfl) (by kernel_rfl) (by kernel_rfl) (by decide +kernel)
  refine ⟨a, t, h1, ?_⟩
  rw [h2]
  have := vrels_ints (σ := σ) (ν := nu12) .u8 (numsOf asc)
  rw [← asc_eq] at this
  exact this

theorem row_p10 {σ : Sg} {W : World} (h : laidMet Tryz.prog Rows.topShownRow.laid W) : ∃ a t, W.heap[3]? = some (.cells a t (0, 0)) ∧ vrels σ nu12 p10 a.toList := by
  have hm : ("internal/strconv.uint64pow10", Lib.tabData (H := Unit) .u64 (numsOf p10)) ∈ Rows.topShownRow.laid := by rw [← tab3]; simp [Rows.topShownRow]
  obtain ⟨a, t, h1, h2⟩ := laid_block h hm (g := 3) (t := 339) (by kernel_rfl) (by kernel_rfl) Tryz.underlying339 (by kernel_rfl) (by kernel_rfl) (by kernel_rfl) (by decide +kernel)
  refine ⟨a, t, h1, ?_⟩
  rw [h2]
  have := vrels_ints (σ := σ) (ν := nu12) .u64 (numsOf p10)
  rw [← p10_eq] at this
  exact this
end Go.Ae
namespace Go.Ae
open Go Go.Proofs Go.Proofs.YtlclnngcnkepjaaGreatDoor Go.ChangeShapes Go.WideShapes Go.ChangeAt Go.RowKit

theorem own_ : ownKnob Tryz.prog.godebug = none := by kernel_rfl

theorem max_cell {W : World} (h : W.ShapedOpen Tryz.prog) : ∃ m t, W.heap[4]? = some (.cells #[.int .i64 m] t (0, 0)) := by
  obtain ⟨m, hm⟩ := cell_of_shapedOpen_int (P := Tryz.prog) (w := W) (g := 4) (t := 3) (zero := #[.int .i64 0]) (k := .i64) h (by rw [gs12]; omega) (by kernel_rfl) rfl (by kernel_rfl) (by kernel_rfl) Tryz.underlying3
  obtain ⟨cs, h1, h2, _⟩ := h.1 4 #[.int .i64 0] 3 (by rw [gs12]; omega) (by kernel_rfl)
  refine ⟨m, 3, ?_⟩
  have hc : cs[0]? = some (.int .i64 m) := by simpa [World.cell?, h1] using hm
  have : cs = #[.int .i64 m] := by
    apply Array.ext_getElem?
    intro i
    rcases i with _ | i
    · rw [hc]; rfl
    · rw [Array.getElem?_eq_none (by rw [h2]; simp), Array.getElem?_eq_none (by simp)]
  rw [h1, this]

theorem contract {W : World} {a : Int} {text more : ByteArray} (hL : laidMet Tryz.prog Rows.topShownRow.laid W) (hsh : W.ShapedOpen Tryz.prog) (a1 : -9223372036854775808 ≤ a) (a2 : a ≤ 9223372036854775807) (hT : text.size ≤ reachBytes) (hM : more.size ≤ reachBytes) :
    Calls Tryz.prog 5 #[.string text, .string more, .int .i64 a] W fun e W' => e = .returned (.bool true) ∧ W'.os = W.os ∧ W'.output = W.output ∧ ∀ i, i < W.heap.size → W'.heap[i]? = W.heap[i]? := by
  obtain ⟨m, t, hm⟩ := max_cell hsh
  let v : Nat → Value := fun k => match k with | 0 => .int .i64 a | _ => .int .i64 m
  have hr : ∀ g, hrel ⟨v, 0, g⟩ Tryz.prog.globals.size nu12 H1 W := fun g => start_rel (row_asc hL) (row_p10 hL) ⟨_, t, hm, ⟨_, _, ⟨rfl, rfl⟩, rfl, rfl⟩⟩
  have h1 : text.data.toList.length ≤ reachBytes := by rw [Array.length_toList]; exact hT
  have h2 : more.data.toList.length ≤ reachBytes := by rw [Array.length_toList]; exact hM
  unfold reachBytes at h1 h2
  obtain ⟨g, h⟩ := top_shown (v := v) (text := text.data.toList) (more := more.data.toList) (a := a) (m0 := m) rfl rfl a1 a2 (by omega) hr
  rw [show (⟨text.data.toList.toArray⟩ : ByteArray) = text by cases text; simp, show (⟨more.data.toList.toArray⟩ : ByteArray) = more by cases more; simp] at h
  refine h.mono ?_
  rintro e W' ⟨rfl, hK, ν', h', hE, hh', hk⟩
  exact ⟨rfl, kept_all hK hE (hr g) hh' hk⟩
end Go.Ae
namespace Go.Ae
open Go Go.Proofs Go.Proofs.YtlclnngcnkepjaaGreatDoor Go.ChangeShapes Go.WideShapes Go.ChangeAt Go.RowKit

set_option maxRecDepth 100000 in
theorem lifted (os : Os) (started : os.Started) (H : Type) (enc : TypeId × Value → H) (F : Stop.Interp) (wit : ∃ (w : World) (tape : Tape) (i : Input), w.os = os ∧ (w.forCall tape i).Shaped Tryz.checked.prog ∧ i.vars = [] ∧ Input.okWide Tryz.checked.prog (w.forCall tape i) .any w.heap.size 5 i ∧
      (OpenSpec.ofChange Rows.topShownSpec).preRow enc Tryz.checked.prog Tryz.f5 Rows.topShownRow.domain false Rows.topShownRow.laid (w.forCall tape i).memory i.args ∧ Assume.holds {} Tryz.checked.prog (lone (Frame.enter Tryz.checked.prog 5 i.args .normal) [] (w.forCall tape i))) :
    ReturnsInHanded {} Tryz.checked os 5 .any ((OpenSpec.ofChange Rows.topShownSpec).preRow enc Tryz.prog Tryz.f5 Rows.topShownRow.domain false Rows.topShownRow.laid) (((OpenSpec.ofChange Rows.topShownSpec).at F).post enc Tryz.prog Tryz.f5 false true false false) := by
  refine returnsInHanded_of_row (C := Tryz.checked) (s := OpenSpec.ofChange Rows.topShownSpec) own_ started (by kernel_rfl) Tryz.func5 wit ?_
  intro W base args ds gs before hval0 hW _ _ hsz hL hsh _
  have hL' : laidMet Tryz.prog Rows.topShownRow.laid W := hL
  have hval : ∀ (j : Nat) t v, Tryz.f5.params[j]? = some t → args[j]? = some v → Value.okWide Tryz.prog W .any base t v := hval0
  have hW' := hW
  obtain ⟨p, q, hA0, hV0, rfl, _, _⟩ := hW
  have hA : DataW.TrodAll enc Tryz.prog W 0 (fun _ => true) true Tryz.f5.params.toList args.toList ds p := hA0
  rw [Tryz.params5] at hA hval
  obtain ⟨v0, v1, v2, d0, d1, d2, p0, p1, p2, rfl, rfl, rfl, h0, h1, h2⟩ := trodAll_three hA
  obtain ⟨rfl, rfl⟩ := trodVars_none hV0
  obtain ⟨s, rfl, rfl, rfl, ws⟩ := ChangeMaps.open_string Tryz.underlying9 (hval 0 9 v0 rfl rfl) h0
  obtain ⟨u, rfl, rfl, rfl, wu⟩ := ChangeMaps.open_string Tryz.underlying9 (hval 1 9 v1 rfl rfl) h1
  obtain ⟨a, rfl, rfl, rfl, wa⟩ := open_int Tryz.underlying3 (hval 2 3 v2 rfl rfl) h2
  clear hA0 hV0 hval0
  have hT : s.size ≤ reachBytes := by
    have := sized_string (j := 0) (t := 9) (bytes := s.data.toList) hsz (by show (Tryz.f5.params.toList ++ _)[0]? = some 9; rw [Tryz.params5]; rfl) rfl
    rw [Array.length_toList] at this
    exact this
  have hM : u.size ≤ reachBytes := by
    have := sized_string (j := 1) (t := 9) (bytes := u.data.toList) hsz (by show (Tryz.f5.params.toList ++ _)[1]? = some 9; rw [Tryz.params5]; rfl) rfl
    rw [Array.length_toList] at this
    exact this
  simp only [List.append_nil] at hW'
  have ra : -9223372036854775808 ≤ a ∧ a ≤ 9223372036854775807 := by have := wa; simp [Lit.wf] at this; exact ⟨Int.le_trans (by decide) this.1, Int.le_trans this.2 (by decide)⟩
  refine (contract hL' hsh ra.1 ra.2 hT hM).mono ?_
  rintro e W' ⟨rfl, hk⟩
  have e1 : ((OpenSpec.ofChange Rows.topShownSpec).at F).fn H ([.lit (.string s.data.toList), .lit (.string u.data.toList), .lit (.int .i64 a)] ++ []) = { results := [.lit (.bool true)], args := [.lit (.string s.data.toList), .lit (.string u.data.toList), .lit (.int .i64 a)] } := rfl
  refine ⟨_, rfl, _, _, _, [], [], [], hW', ?_, ?_, ?_, kept_but hk _, fun h => by cases h⟩
  · rw [e1]; exact trodAll_mk1 (shut_bool Tryz.underlying4 true)
  · rw [e1]; exact trodAll_mk3 (ChangeMaps.shut_string Tryz.underlying9 ws) (ChangeMaps.shut_string Tryz.underlying9 wu) (shut_int Tryz.underlying3 wa)
  · rw [e1]; rfl
end Go.Ae
