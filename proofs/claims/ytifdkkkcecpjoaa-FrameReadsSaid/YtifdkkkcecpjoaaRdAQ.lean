/-
  The reference's words are the words.
-/
import Derived.Test.YtifdkkkcecpjoaaTx4Q
namespace Go.Proofs.Ytifdkkkcecpjoaa
set_option linter.unusedVariables false
set_option linter.unusedSimpArgs false
open Go.RowKit Go.Proofs.YtifdkkkcecpjoaaW Go.Proofs.YtifdkkkcecpjoaaW.PrintWords Tx
theorem bt_bl {s : ByteArray} {i : Nat} {c : UInt8} (h : (bl s)[i]? = some c) : bt s (i : Int) = (c.toNat : Int) := by
  have hi : i < s.size := by have := (List.getElem?_eq_some_iff.1 h).1; rwa [bl_length] at this
  unfold bt
  rw [dif_pos (by simpa using hi)]
  have h2 := (List.getElem?_eq_some_iff.1 h).2
  rw [← h2]
  simp [bl]
  rfl
def inB (c : UInt8) : Bool := (decide (97 ≤ c.toNat) && decide (c.toNat ≤ 122)) || decide (c.toNat = 95)
theorem isInner_eq (c : UInt8) : isInner c = (inB c || isDigit c) := rfl
/-- One letter of it. -/
theorem word_step {k : Nat} {s : ByteArray} {d : Bool} {i : Nat} {c : UInt8} (h : (bl s)[i]? = some c) (hi : i < 12) :
    letterpressref3_Word.l0 (k + 3) s d i = if inB c || (isDigit c && decide (i ≠ 0)) then (if i = 0 then letterpressref3_Word.l0 k s d 1 else letterpressref3_Word.l0 k s (d && isDigit c) ((i + 1 : Nat) : Int)) else some false := by
  have hlt : (i : Int) < (s.size : Int) := by have := (List.getElem?_eq_some_iff.1 h).1; rw [bl_length] at this; omega
  have hb := bt_bl h
  have hw : wrap64 ((i : Int) + 1) = ((i + 1 : Nat) : Int) := by unfold wrap64; omega
  have hc : c.toNat < 256 := c.toNat_lt
  have hA : inB c = ((decide (97 ≤ c.toNat) && decide (c.toNat ≤ 122)) || decide (c.toNat = 95)) := rfl
  have hD : isDigit c = (decide (48 ≤ c.toNat) && decide (c.toNat ≤ 57)) := rfl
  rw [hA, hD]
  simp only [letterpressref3_Word.l0, letterpressref3_Word.j3, letterpressref3_Word.j4]
  rw [if_pos hlt, if_pos (by omega), hb, hw]
  generalize c.toNat = n at *
  have e0 : ((i : Int) > 0) = (i ≠ 0) := by rw [eq_iff_iff]; omega
  have e1 : ((i : Int) = 0) = (i = 0) := by rw [eq_iff_iff]; omega
  have e2 : ((n : Int) ≥ 48) = (48 ≤ n) := by rw [eq_iff_iff]; omega
  have e3 : ((n : Int) ≤ 57) = (n ≤ 57) := by rw [eq_iff_iff]; omega
  have e4 : ((n : Int) ≥ 97) = (97 ≤ n) := by rw [eq_iff_iff]; omega
  have e5 : ((n : Int) ≤ 122) = (n ≤ 122) := by rw [eq_iff_iff]; omega
  have e6 : ((n : Int) = 95) = (n = 95) := by rw [eq_iff_iff]; omega
  simp only [e0, e1, e2, e3, e4, e5, e6]
  clear hb hA hD e0 e1 e2 e3 e4 e5 e6 hw hlt
  rcases (show (97 ≤ n ∧ n ≤ 122) ∨ n = 95 ∨ (48 ≤ n ∧ n ≤ 57) ∨ (122 < n) ∨ (57 < n ∧ n < 97 ∧ n ≠ 95) ∨ n < 48 by omega) with ⟨h1, h2⟩ | h1 | ⟨h1, h2⟩ | h1 | ⟨h1, h2, h3⟩ | h1
  · have a1 : ¬ n ≤ 57 := by omega
    have a2 : 48 ≤ n := by omega
    by_cases hi0 : i = 0 <;> simp [h1, h2, a1, a2, hi0]
  · subst h1
    by_cases hi0 : i = 0 <;> simp [hi0]
  · have a1 : ¬ 97 ≤ n := by omega
    have a2 : n ≠ 95 := by omega
    by_cases hi0 : i = 0 <;> simp [h1, h2, a1, a2, hi0]
  · have a1 : 97 ≤ n := by omega
    have a2 : n ≠ 95 := by omega
    have a3 : ¬ n ≤ 122 := by omega
    have a4 : ¬ n ≤ 57 := by omega
    have a5 : 48 ≤ n := by omega
    by_cases hi0 : i = 0 <;> simp [a1, a2, a3, a4, a5, hi0]
  · have a1 : ¬ 97 ≤ n := by omega
    have a4 : ¬ n ≤ 57 := by omega
    have a5 : 48 ≤ n := by omega
    by_cases hi0 : i = 0 <;> simp [a1, h3, a4, a5, hi0]
  · have a1 : ¬ 97 ≤ n := by omega
    have a2 : n ≠ 95 := by omega
    have a5 : ¬ 48 ≤ n := by omega
    by_cases hi0 : i = 0 <;> simp [a1, a2, a5, hi0]
theorem word_rest {s : ByteArray} (hs : s.size ≤ 12) : ∀ (m i : Nat) (d : Bool) (k : Nat), i ≠ 0 → s.size - i = m → i ≤ s.size → 3 * m < k → letterpressref3_Word.l0 k s d i = some (((bl s).drop i).all isInner && !(d && ((bl s).drop i).all isDigit))
  | 0, i, d, k, hi, hm, hle, hk => by
    obtain ⟨k, rfl⟩ : ∃ j, k = j + 1 := ⟨k - 1, by omega⟩
    have hlt : ¬ (i : Int) < (s.size : Int) := by omega
    simp only [letterpressref3_Word.l0]
    rw [if_neg hlt, List.drop_eq_nil_of_le (by rw [bl_length]; omega)]
    simp
  | m + 1, i, d, k, hi, hm, hle, hk => by
    obtain ⟨k, rfl⟩ : ∃ j, k = j + 3 := ⟨k - 3, by omega⟩
    have hil : i < (bl s).length := by rw [bl_length]; omega
    have hc : (bl s)[i]? = some (bl s)[i] := List.getElem?_eq_getElem hil
    rw [word_step hc (by omega), if_neg hi]
    have ih := word_rest hs m (i + 1) (d && isDigit (bl s)[i]) k (by omega) (by omega) (by omega) (by omega)
    rw [ih, List.drop_eq_getElem_cons hil, List.all_cons, List.all_cons, isInner_eq]
    generalize (bl s)[i] = c
    cases h1 : inB c <;> cases h2 : isDigit c <;> cases d <;> simp [hi]
theorem word3_f {s : ByteArray} (hs : s.size ≤ 9000000000000000000) : letterpressref3_Word.f 50 s = some (isWord (bl s)) := by
  have hl := bl_length s
  unfold letterpressref3_Word.f
  by_cases h1 : (s.size : Int) < 1
  · have h0 : bl s = [] := List.eq_nil_of_length_eq_zero (by omega)
    rw [if_pos h1, h0]
    rfl
  · rw [if_neg h1]
    by_cases h12 : (s.size : Int) > 12
    · have h2 : isWord (bl s) = false := by
        cases hw : isWord (bl s) with
        | false => rfl
        | true => have := isWord_len hw; omega
      rw [h2]
      simp only [letterpressref3_Word.j0]
      rw [if_pos (by simpa using h12)]
    · simp only [letterpressref3_Word.j0]
      rw [if_neg (by simpa using h12), if_pos (by omega)]
      cases hb : bl s with
      | nil => rw [hb] at hl; simp at hl; omega
      | cons c l =>
        rw [hb] at hl
        have hc : (bl s)[0]? = some c := by rw [hb]; rfl
        have hb0 := bt_bl hc
        have hlen : l.length + 1 = s.size := by simpa using hl
        have key : ∀ d : Bool, letterpressref3_Word.l0 48 s d 0 = some (inB c && (l.all isInner && !(d && l.all isDigit))) := fun d => by
          have hst := word_step (k := 45) (d := d) hc (by omega)
          have h0 : ((0 : Nat) : Int) = 0 := rfl
          rw [h0] at hst hb0
          rw [hst]
          have hr := word_rest (s := s) (by omega) (s.size - 1) 1 d 45 (by omega) rfl (by omega) (by omega)
          have hd : (bl s).drop 1 = l := by rw [hb]; rfl
          rw [hd] at hr
          have h11 : ((1 : Nat) : Int) = 1 := rfl
          rw [h11] at hr
          cases h3 : inB c <;> simp [hr]
        have h0 : ((0 : Nat) : Int) = 0 := rfl
        rw [h0] at hb0
        rw [hb0]
        have hx : isWord (c :: l) = (!isDigit c && isInner c && l.all isInner && (decide (c.toNat ≠ 114) || l.isEmpty || !(l.all isDigit))) := by
          simp only [isWord]
          rw [decide_eq_true (show l.length ≤ 11 by omega)]
          simp
        have hdi : inB c = (!isDigit c && isInner c) := by
          have h1 : isDigit c = (decide (48 ≤ c.toNat) && decide (c.toNat ≤ 57)) := rfl
          have h2 : inB c = ((decide (97 ≤ c.toNat) && decide (c.toNat ≤ 122)) || decide (c.toNat = 95)) := rfl
          rw [isInner_eq]
          cases h3 : inB c <;> cases h4 : isDigit c <;> simp
          rw [h1] at h4
          rw [h2] at h3
          simp at h3 h4
          omega
        rw [hx, ← hdi]
        simp only [letterpressref3_Word.j1]
        by_cases h114 : c.toNat = 114
        · rw [if_pos (by omega), key]
          cases l with
          | nil =>
            have : ¬ ((s.size : Int) > 1) := by simp at hlen; omega
            simp [this, h114]
          | cons a l =>
            have : (s.size : Int) > 1 := by simp at hlen; omega
            simp [this, h114, Bool.and_assoc]
        · rw [if_neg (by omega), key]
          simp [h114]
theorem word57 (s : ByteArray) (w : World) (hs : s.size ≤ 9000000000000000000) : Calls Try.prog 57 #[.string s] w fun e w' => e = .returned (.bool (isWord (bl s))) ∧ Drawn0 w w' :=
  letterpressref4_Word.calls 50 s _ w (by unfold letterpressref4_Word.f; rw [word3_f hs]; rfl)
end Go.Proofs.Ytifdkkkcecpjoaa
