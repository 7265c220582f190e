/-
  Texts behind the laws of frame, joined: FrP, FrA, FrB, FrC, FrD, FrE, FrF, FrG, FrH, FrI, FrJ, FrK, FrL, FrM, FrN, FrT, FrU, FrV. (What began as words and functions that the kit prints is cut down to what is named here.)
-/
import Derived.Lib.Hide
import Derived.Test.YtifdkkkcecpjoaaRows
import Derived.WalkSpells
import Derived.WalkLawsBesides
import Derived.Deep.DrawnRows
import Derived.Deep.RegionLaw
import Derived.RegionTactic
import Derived.Laws.IdiomStrings
import Derived.Test.YtifdkkkcecpjoaaQ0
section
/-
  Plain facts on bytes: numbers written by so many bytes and read back, requests and responses as bytes, and back. No program is in sight here.
-/
namespace Go.Proofs.Ytifdkkkcecpjoaa
open Go.RowKit

def byteOf (x : Int) : UInt8 := UInt8.ofNat (x % 256).toNat
theorem byteOf_toNat (x : Int) : ((byteOf x).toNat : Int) = x % 256 := by
  unfold byteOf
  have h0 := Int.emod_nonneg x (show (256 : Int) ≠ 0 by omega)
  have h1 := Int.emod_lt_of_pos x (show (0 : Int) < 256 by omega)
  rw [UInt8.toNat_ofNat']
  omega

/-- A number by so many bytes, the highest first. -/
def be : Nat → Int → List UInt8
  | 0, _ => []
  | n + 1, v => byteOf (v / 256 ^ n) :: be n v
theorem be_length : ∀ (n : Nat) (v : Int), (be n v).length = n
  | 0, _ => rfl
  | n + 1, v => by rw [be, List.length_cons, be_length n v]

/-- What bytes come to. -/
def un : List UInt8 → Nat → Nat
  | [], a => a
  | c :: l, a => un l (a * 256 + c.toNat)
theorem un_append (l m : List UInt8) (a : Nat) : un (l ++ m) a = un m (un l a) := by
  induction l generalizing a with
  | nil => rfl
  | cons c l ih => simp only [List.cons_append, un]; exact ih _
theorem un_lt : ∀ (l : List UInt8) (a : Nat), un l a < (a + 1) * 256 ^ l.length
  | [], a => by simp [un]
  | c :: l, a => by
    have h := un_lt l (a * 256 + c.toNat)
    have hc := c.toNat_lt
    have h2 : (a * 256 + c.toNat + 1) * 256 ^ l.length ≤ ((a + 1) * 256) * 256 ^ l.length := Nat.mul_le_mul_right _ (by omega)
    rw [un, List.length_cons, Nat.pow_succ]
    rw [Nat.mul_assoc, Nat.mul_comm 256] at h2
    exact Nat.lt_of_lt_of_le h h2
theorem un_be (v : Int) : ∀ (n : Nat) (a : Nat), (un (be n v) a : Int) = a * 256 ^ n + v % 256 ^ n
  | 0, a => by simp [be, un, Int.emod_one]
  | n + 1, a => by
    rw [be, un, un_be v n]
    have hb := byteOf_toNat (v / 256 ^ n)
    have hp : (0 : Int) < 256 ^ n := Int.pow_pos (by omega)
    have h1 : v % 256 ^ (n + 1) = (v / 256 ^ n) % 256 * 256 ^ n + v % 256 ^ n := by
      have e1 := Int.mul_ediv_add_emod v (256 ^ n)
      have e2 := Int.mul_ediv_add_emod (v / 256 ^ n) 256
      have e3 : v = 256 ^ (n + 1) * (v / 256 ^ n / 256) + ((v / 256 ^ n) % 256 * 256 ^ n + v % 256 ^ n) := by
        rw [Int.pow_succ]
        have : 256 ^ n * 256 * (v / 256 ^ n / 256) = 256 ^ n * (256 * (v / 256 ^ n / 256)) := by rw [Int.mul_assoc]
        rw [this, show 256 * (v / 256 ^ n / 256) = v / 256 ^ n - v / 256 ^ n % 256 by omega, Int.mul_sub, Int.mul_comm (v / 256 ^ n % 256)]
        omega
      have b1 := Int.emod_nonneg v (show (256 ^ n : Int) ≠ 0 by omega)
      have b2 := Int.emod_lt_of_pos v hp
      have b3 := Int.emod_nonneg (v / 256 ^ n) (show (256 : Int) ≠ 0 by omega)
      have b4 := Int.emod_lt_of_pos (v / 256 ^ n) (show (0 : Int) < 256 by omega)
      have m1 : v / 256 ^ n % 256 * 256 ^ n ≤ 255 * 256 ^ n := Int.mul_le_mul_of_nonneg_right (by omega) (by omega)
      have m2 : 0 ≤ v / 256 ^ n % 256 * 256 ^ n := Int.mul_nonneg b3 (by omega)
      have m3 : (256 : Int) ^ (n + 1) = 256 * 256 ^ n := by rw [Int.pow_succ, Int.mul_comm]
      conv => lhs; rw [e3]
      rw [Int.add_comm, Int.add_mul_emod_self_left, Int.emod_eq_of_lt (by omega) (by omega)]
    rw [h1]
    generalize v / 256 ^ n % 256 = q at *
    generalize v % 256 ^ n = z at *
    rw [Int.natCast_add, Int.natCast_mul, hb, Int.add_mul, Int.pow_succ, Int.mul_assoc, show ((256 : Nat) : Int) * 256 ^ n = 256 ^ n * 256 from Int.mul_comm _ _]
    omega
theorem un_be_small {v : Int} {n : Nat} (h0 : 0 ≤ v) (h1 : v < 256 ^ n) : (un (be n v) 0 : Int) = v := by
  rw [un_be, Int.emod_eq_of_lt h0 h1]; simp

/-- What is read: a number with a sign where it has eight bytes. -/
def sgn (n : Nat) : Int := wrap64 (n : Int)

/-- What a reader holds: what is left, whether something was wrong. -/
structure St where
  l : List UInt8
  bad : Bool
deriving DecidableEq

def St.takes (s : St) (n : Nat) : List UInt8 := if n ≤ s.l.length then s.l.take n else []
def St.behind (s : St) (n : Nat) : St := if n ≤ s.l.length then ⟨s.l.drop n, s.bad⟩ else ⟨[], true⟩
def St.num (s : St) (n : Nat) : Nat := un (s.takes n) 0
def St.txt (s : St) (n : Nat) : List UInt8 := (s.behind n).takes (s.num n)
def St.past (s : St) (n : Nat) : St := (s.behind n).behind (s.num n)

theorem St.takes_app {l m : List UInt8} {b : Bool} {n : Nat} (h : l.length = n) : (St.mk (l ++ m) b).takes n = l := by
  subst h; simp [St.takes]
theorem St.behind_app {l m : List UInt8} {b : Bool} {n : Nat} (h : l.length = n) : (St.mk (l ++ m) b).behind n = ⟨m, b⟩ := by
  subst h; simp [St.behind]
theorem St.takes_length_le (s : St) (n : Nat) : (s.takes n).length ≤ s.l.length := by
  unfold St.takes; split <;> simp; omega
theorem St.behind_length_le (s : St) (n : Nat) : (s.behind n).l.length ≤ s.l.length := by
  unfold St.behind; split <;> simp
theorem St.takes_length (s : St) (n : Nat) : (s.takes n).length ≤ n := by
  unfold St.takes; split <;> simp; omega

/-- Text ahead of which it stands how long it is. -/
def tx (n : Nat) (l : List UInt8) : List UInt8 := be n (l.length : Int) ++ l
theorem tx_length (n : Nat) (l : List UInt8) : (tx n l).length = n + l.length := by simp [tx, be_length]
theorem num_be {v : Int} {n : Nat} {m : List UInt8} {b : Bool} (h0 : 0 ≤ v) (h1 : v < 256 ^ n) : ((St.mk (be n v ++ m) b).num n : Int) = v := by
  rw [St.num, St.takes_app (be_length n v), un_be_small h0 h1]
theorem num_be8 {v : Int} {m : List UInt8} {b : Bool} (h0 : -9223372036854775808 ≤ v) (h1 : v ≤ 9223372036854775807) : sgn ((St.mk (be 8 v ++ m) b).num 8) = v := by
  rw [St.num, St.takes_app (be_length 8 v), sgn, un_be]
  unfold wrap64
  omega
theorem behind_be (n : Nat) (v : Int) (m : List UInt8) (b : Bool) : (St.mk (be n v ++ m) b).behind n = ⟨m, b⟩ := St.behind_app (be_length n v)
theorem num_tx {n : Nat} {l m : List UInt8} {b : Bool} (h : (l.length : Int) < 256 ^ n) : (St.mk (tx n l ++ m) b).num n = l.length := by
  have := num_be (m := l ++ m) (b := b) (show (0 : Int) ≤ l.length by omega) h
  rw [tx, List.append_assoc]; omega
theorem txt_tx {n : Nat} {l m : List UInt8} {b : Bool} (h : (l.length : Int) < 256 ^ n) : (St.mk (tx n l ++ m) b).txt n = l := by
  rw [St.txt, num_tx h, tx, List.append_assoc, behind_be, St.takes_app rfl]
theorem past_tx {n : Nat} {l m : List UInt8} {b : Bool} (h : (l.length : Int) < 256 ^ n) : (St.mk (tx n l ++ m) b).past n = ⟨m, b⟩ := by
  rw [St.past, num_tx h, tx, List.append_assoc, behind_be, St.behind_app rfl]

/-! ### words -/
def isDigit (c : UInt8) : Bool := decide (48 ≤ c.toNat) && decide (c.toNat ≤ 57)
def isInner (c : UInt8) : Bool := (decide (97 ≤ c.toNat) && decide (c.toNat ≤ 122)) || decide (c.toNat = 95) || isDigit c
def isWord : List UInt8 → Bool
  | [] => false
  | c :: l => decide (l.length ≤ 11) && !isDigit c && isInner c && l.all isInner && (decide (c.toNat ≠ 114) || l.isEmpty || !(l.all isDigit))

/-! ### requests -/
structure Rq where
  kind : Int
  name : List UInt8
  text : List UInt8
  value : Int
deriving DecidableEq

def writesB (k : Int) : Bool := decide (k = 1) || decide (k = 3)
def Rq.right (r : Rq) : Bool :=
  if r.kind < 1 ∨ 7 < r.kind then false
  else if r.kind = 7 then decide (r = ⟨7, [], [], 0⟩)
  else isWord r.name && decide (r.text.length ≤ 600) && (r.text.isEmpty || writesB r.kind) && decide (-1099511627776 ≤ r.value) && decide (r.value ≤ 1099511627776) && (decide (r.value = 0) || decide (r.kind = 5))

def Rq.tail (r : Rq) : List UInt8 := (if writesB r.kind then tx 2 r.text else []) ++ (if r.kind = 5 then be 8 r.value else [])
def Rq.body (r : Rq) : List UInt8 := be 1 r.kind ++ (tx 1 r.name ++ r.tail)
def Rq.enc (r : Rq) : List UInt8 := tx 2 r.body

/-- What the body of a request reads as, and how the reader stands behind it. -/
def rqOf (l : List UInt8) : Rq × St :=
  let s0 : St := ⟨l, false⟩
  let k : Int := s0.num 1
  let s1 := s0.behind 1
  let n := s1.txt 1
  let s2 := s1.past 1
  let t := if writesB k then s2.txt 2 else []
  let s3 := if writesB k then s2.past 2 else s2
  let v := if k = 5 then sgn (s3.num 8) else 0
  let s4 := if k = 5 then s3.behind 8 else s3
  (⟨k, n, t, v⟩, s4)
def noRq : Rq := ⟨0, [], [], 0⟩
/-- A request read: it, how many bytes were used, an error's number. -/
def rqRead (b : List UInt8) : Rq × Nat × Nat :=
  let n := (St.mk b false).num 2
  if b.length < 2 then (noRq, 0, 0)
  else if 1000 < n then (noRq, 0, 8)
  else if b.length < 2 + n then (noRq, 0, 0)
  else
    let x := rqOf ((b.drop 2).take n)
    if x.2.bad || !x.2.l.isEmpty || !x.1.right then (noRq, n + 2, 12) else (x.1, n + 2, 0)

theorem isWord_len {l : List UInt8} (h : isWord l = true) : 1 ≤ l.length ∧ l.length ≤ 12 := by
  cases l with
  | nil => simp [isWord] at h
  | cons c l =>
    simp only [isWord, Bool.and_eq_true, decide_eq_true_eq] at h
    simp only [List.length_cons]; omega

theorem right_of {r : Rq} (h : r.right = true) : 1 ≤ r.kind ∧ r.kind ≤ 7 ∧ r.name.length ≤ 12 ∧ r.text.length ≤ 600 ∧ (writesB r.kind = false → r.text = []) ∧ -1099511627776 ≤ r.value ∧ r.value ≤ 1099511627776 ∧ (r.kind ≠ 5 → r.value = 0) := by
  unfold Rq.right at h
  split at h
  · cases h
  · split at h
    · have h' := of_decide_eq_true h
      rw [h']; simp
    · simp only [Bool.and_eq_true, Bool.or_eq_true, decide_eq_true_eq, List.isEmpty_iff] at h
      obtain ⟨⟨⟨⟨⟨h1, h2⟩, h3⟩, h4⟩, h5⟩, h6⟩ := h
      have := isWord_len h1
      refine ⟨by omega, by omega, by omega, h2, fun hw => ?_, h4, h5, fun hk => ?_⟩
      · rcases h3 with h3 | h3
        · exact h3
        · rw [hw] at h3; cases h3
      · rcases h6 with h6 | h6
        · exact h6
        · exact absurd h6 hk

theorem rqOf_body {r : Rq} (h : r.right = true) : rqOf r.body = (r, ⟨[], false⟩) := by
  obtain ⟨k1, k7, hn, ht, htw, hv0, hv1, hvk⟩ := right_of h
  have hk : ((St.mk r.body false).num 1 : Int) = r.kind := num_be (by omega) (by omega)
  have hN : (r.name.length : Int) < 256 ^ 1 := by omega
  have hT : (r.text.length : Int) < 256 ^ 2 := by omega
  have s1 : (St.mk r.body false).behind 1 = ⟨tx 1 r.name ++ r.tail, false⟩ := behind_be _ _ _ _
  simp only [rqOf, hk, s1, txt_tx hN, past_tx hN]
  obtain ⟨k, n, t, v⟩ := r
  simp only [Rq.tail] at *
  by_cases hw : writesB k = true
  · have h5 : ¬ k = 5 := by
      intro e; subst e; exact absurd hw (by decide)
    simp only [hw, if_true, if_neg h5]
    rw [txt_tx hT, past_tx hT, hvk h5]
  · have hw' : writesB k = false := by simpa using hw
    rw [hw']
    obtain rfl : t = [] := htw hw'
    by_cases h5 : k = 5
    · subst h5
      simp only [Bool.false_eq_true, if_false, if_true, List.nil_append]
      have e := num_be8 (v := v) (m := []) (b := false) (by omega) (by omega)
      have e2 := behind_be 8 v [] false
      rw [List.append_nil] at e e2
      rw [e, e2]
    · simp only [Bool.false_eq_true, if_false, if_neg h5, List.nil_append]
      rw [hvk h5]
theorem body_length {r : Rq} (h : r.right = true) : r.body.length ≤ 616 := by
  obtain ⟨k1, k7, hn, ht, htw, hv0, hv1, hvk⟩ := right_of h
  simp only [Rq.body, Rq.tail, List.length_append, be_length, tx_length]
  have a : (if writesB r.kind then tx 2 r.text else []).length ≤ 602 := by split <;> simp [tx_length]; omega
  by_cases h5 : r.kind = 5
  · have hw : writesB r.kind = false := by rw [h5]; decide
    rw [hw, if_pos h5, be_length]; simp; omega
  · rw [if_neg h5]; simp; omega
theorem enc_length (r : Rq) : r.enc.length = r.body.length + 2 := by rw [Rq.enc, tx_length]; omega
/-- There and back, whatever is behind. -/
theorem rqRead_enc {r : Rq} (h : r.right = true) (more : List UInt8) : rqRead (r.enc ++ more) = (r, r.enc.length, 0) := by
  have hb := body_length h
  have hB : (r.body.length : Int) < 256 ^ 2 := by omega
  have hn : (St.mk (r.enc ++ more) false).num 2 = r.body.length := num_tx hB
  have hd : ((r.enc ++ more).drop 2).take r.body.length = r.body := by
    rw [Rq.enc, tx, List.append_assoc, List.drop_left' (be_length _ _), List.take_left' rfl]
  simp only [rqRead, hn, hd, rqOf_body h, h]
  rw [if_neg (by simp [enc_length]; omega), if_neg (by omega), if_neg (by simp [enc_length]; omega)]
  simp [enc_length]
/-- Cut off anywhere it is not whole. -/
theorem rqRead_cut {r : Rq} (h : r.right = true) {k : Nat} (hk : k < r.enc.length) : rqRead (r.enc.take k) = (noRq, 0, 0) := by
  have hb := body_length h
  have hB : (r.body.length : Int) < 256 ^ 2 := by omega
  have hl : (r.enc.take k).length = k := by rw [List.length_take]; omega
  by_cases h2 : k < 2
  · simp only [rqRead]; rw [if_pos (by omega)]
  · have hn : (St.mk (r.enc.take k) false).num 2 = r.body.length := by
      have : r.enc.take k = be 2 (r.body.length : Int) ++ r.body.take (k - 2) := by
        rw [Rq.enc, tx, List.take_append, be_length, List.take_of_length_le (by rw [be_length]; omega)]
      rw [this]
      have := num_be (v := r.body.length) (n := 2) (m := r.body.take (k - 2)) (b := false) (by omega) (by omega)
      omega
    simp only [rqRead, hn, hl]
    rw [if_neg h2, if_neg (by omega), if_pos (by rw [enc_length] at hk; omega)]
theorem enc_inj {a b : Rq} (ha : a.right = true) (hb : b.right = true) (h : a.enc = b.enc) : a = b := by
  have h1 := rqRead_enc ha []
  have h2 := rqRead_enc hb []
  rw [h, h2] at h1
  simpa using (Prod.mk.inj h1).1.symm

/-! ### responses -/
structure Dg where
  frag : List UInt8
  line : Int
  e : Int
deriving DecidableEq
structure Rs where
  e : Int
  text : List UInt8
  image : List UInt8
  diags : List Dg
deriving DecidableEq
def Dg.enc (d : Dg) : List UInt8 := tx 1 d.frag ++ (be 2 d.line ++ be 1 d.e)
def encs (l : List Dg) : List UInt8 := l.flatMap Dg.enc
def Rs.body (r : Rs) : List UInt8 := be 1 r.e ++ (tx 2 r.text ++ (tx 2 r.image ++ (be 2 (r.diags.length : Int) ++ encs r.diags)))
def Rs.enc (r : Rs) : List UInt8 := tx 3 r.body
def Dg.right (d : Dg) : Bool := (d.frag.isEmpty || isWord d.frag) && decide (0 ≤ d.line) && decide (d.line ≤ 5000)

def dgOf (s : St) : Dg × St :=
  let f := s.txt 1
  let s1 := s.past 1
  let s2 := s1.behind 2
  let d : Dg := ⟨f, s1.num 2, s2.num 1⟩
  let s3 := s2.behind 1
  (d, ⟨s3.l, s3.bad || !d.right⟩)
/-- So many diagnostics at most, while nothing is wrong. -/
def dgsOf : Nat → St → List Dg × St
  | 0, s => ([], s)
  | n + 1, s => if s.bad then ([], s) else
    let x := dgOf s
    let y := dgsOf n x.2
    (x.1 :: y.1, y.2)
def rsOf (l : List UInt8) : Rs × Nat × St :=
  let s0 : St := ⟨l, false⟩
  let e : Int := s0.num 1
  let s1 := s0.behind 1
  let t := s1.txt 2
  let s2 := s1.past 2
  let i := s2.txt 2
  let s3 := s2.past 2
  let c := s3.num 2
  let s4 := s3.behind 2
  let y := if c ≤ 5000 then dgsOf c s4 else ([], s4)
  (⟨e, t, i, y.1⟩, c, y.2)
def noRs : Rs := ⟨0, [], [], []⟩
def rsRead (b : List UInt8) : Rs × Nat × Bool :=
  let s0 : St := ⟨b, false⟩
  let n := s0.num 3
  if b.length < 3 ∨ b.length < 3 + n then (noRs, 0, false)
  else
    let x := rsOf ((b.drop 3).take n)
    if x.2.2.bad || !x.2.2.l.isEmpty || decide (5000 < x.2.1) || decide (600 < x.1.text.length) || decide (4096 < x.1.image.length) then (noRs, 0, false) else (x.1, n + 3, true)

structure Rs.Ok (r : Rs) : Prop where
  e0 : 0 ≤ r.e
  e1 : r.e ≤ 255
  t : r.text.length ≤ 600
  i : r.image.length ≤ 4096
  n : r.diags.length ≤ 5000
  d : ∀ d ∈ r.diags, d.right = true ∧ 0 ≤ d.e ∧ d.e ≤ 255

theorem dg_right {d : Dg} (h : d.right = true) : d.frag.length ≤ 12 ∧ 0 ≤ d.line ∧ d.line ≤ 5000 := by
  simp only [Dg.right, Bool.and_eq_true, Bool.or_eq_true, decide_eq_true_eq, List.isEmpty_iff] at h
  obtain ⟨⟨h1, h2⟩, h3⟩ := h
  refine ⟨?_, h2, h3⟩
  rcases h1 with h1 | h1
  · rw [h1]; simp
  · exact (isWord_len h1).2
theorem dgOf_enc {d : Dg} (h : d.right = true) (e0 : 0 ≤ d.e) (e1 : d.e ≤ 255) (m : List UInt8) : dgOf ⟨d.enc ++ m, false⟩ = (d, ⟨m, false⟩) := by
  obtain ⟨h1, h2, h3⟩ := dg_right h
  have hF : (d.frag.length : Int) < 256 ^ 1 := by omega
  simp only [dgOf, Dg.enc, List.append_assoc, txt_tx hF, past_tx hF, behind_be]
  rw [num_be h2 (by omega), num_be e0 (by omega)]
  simp [h]
theorem dgsOf_encs : ∀ (l : List Dg), (∀ d ∈ l, d.right = true ∧ 0 ≤ d.e ∧ d.e ≤ 255) → ∀ m : List UInt8, dgsOf l.length ⟨encs l ++ m, false⟩ = (l, ⟨m, false⟩)
  | [], _, m => rfl
  | d :: l, h, m => by
    obtain ⟨h1, h2, h3⟩ := h d (by simp)
    have e : encs (d :: l) ++ m = d.enc ++ (encs l ++ m) := by simp [encs]
    simp only [List.length_cons, dgsOf, e, dgOf_enc h1 h2 h3, Bool.false_eq_true, if_false]
    rw [dgsOf_encs l (fun d hd => h d (by simp [hd])) m]
theorem rsOf_body {r : Rs} (h : r.Ok) : rsOf r.body = (r, r.diags.length, ⟨[], false⟩) := by
  obtain ⟨h1, h2, h3, h4, h5, h6⟩ := h
  have hT : (r.text.length : Int) < 256 ^ 2 := by omega
  have hI : (r.image.length : Int) < 256 ^ 2 := by omega
  have hE : ((St.mk r.body false).num 1 : Int) = r.e := num_be h1 (by omega)
  have s1 : (St.mk r.body false).behind 1 = ⟨tx 2 r.text ++ (tx 2 r.image ++ (be 2 (r.diags.length : Int) ++ encs r.diags)), false⟩ := behind_be _ _ _ _
  have hc : (St.mk (be 2 (r.diags.length : Int) ++ encs r.diags) false).num 2 = r.diags.length := by
    have := num_be (v := r.diags.length) (n := 2) (m := encs r.diags) (b := false) (by omega) (by omega)
    omega
  have hd := dgsOf_encs r.diags h6 []
  rw [List.append_nil] at hd
  simp only [rsOf, hE, s1, txt_tx hT, past_tx hT, txt_tx hI, past_tx hI, hc, behind_be, if_pos h5, hd]
theorem encs_length : ∀ l : List Dg, (encs l).length = (l.map fun d => 4 + d.frag.length).sum
  | [] => rfl
  | d :: l => by
    have := encs_length l
    simp only [encs, List.flatMap_cons, List.length_append, List.map_cons, List.sum_cons] at *
    rw [this]; simp only [Dg.enc, List.length_append, tx_length, be_length]; omega
theorem encs_le : ∀ l : List Dg, (∀ d ∈ l, d.right = true ∧ 0 ≤ d.e ∧ d.e ≤ 255) → (encs l).length ≤ 16 * l.length
  | [], _ => by simp [encs]
  | d :: l, h => by
    have h1 := encs_le l (fun d hd => h d (by simp [hd]))
    have h2 := (dg_right (h d (by simp)).1).1
    simp only [encs, List.flatMap_cons, List.length_append, List.length_cons] at *
    simp only [Dg.enc, List.length_append, tx_length, be_length]; omega
theorem rsbody_length (r : Rs) : r.body.length = 7 + r.text.length + r.image.length + (encs r.diags).length := by
  simp only [Rs.body, List.length_append, be_length, tx_length]; omega
theorem rsenc_length (r : Rs) : r.enc.length = 10 + r.text.length + r.image.length + (encs r.diags).length := by
  rw [Rs.enc, tx_length, rsbody_length]; omega
theorem rsRead_enc {r : Rs} (h : r.Ok) (more : List UInt8) : rsRead (r.enc ++ more) = (r, r.enc.length, true) := by
  have hx := encs_le r.diags h.d
  have h3 := h.t
  have h4 := h.i
  have h5 := h.n
  have hb : r.body.length ≤ 90000 := by rw [rsbody_length]; omega
  have hB : (r.body.length : Int) < 256 ^ 3 := by omega
  have hn : (St.mk (r.enc ++ more) false).num 3 = r.body.length := num_tx hB
  have hd : ((r.enc ++ more).drop 3).take r.body.length = r.body := by
    rw [Rs.enc, tx, List.append_assoc, List.drop_left' (be_length _ _), List.take_left' rfl]
  have hl : r.enc.length = r.body.length + 3 := by rw [Rs.enc, tx_length]; omega
  simp only [rsRead, hn, hd, rsOf_body h]
  rw [if_neg (by simp [hl]; omega), if_neg (by simp; omega), hl]
theorem rsenc_inj {a b : Rs} (ha : a.Ok) (hb : b.Ok) (h : a.enc = b.enc) : a = b := by
  have h1 := rsRead_enc ha []
  have h2 := rsRead_enc hb []
  rw [h, h2] at h1
  simpa using (Prod.mk.inj h1).1.symm
end Go.Proofs.Ytifdkkkcecpjoaa
end
section
/-
  frame's writer: number, text: each appends its bytes to what was written, and turns nothing that was there before the writer.
-/
namespace Go.Proofs.Ytifdkkkcecpjoaa
open Go.RowKit
attribute [local go_sem ↓] Go.wp_at_zero Go.wp_at_succ

theorem ret_int {k : IntKind} {a b : Int} (h : a = b) : Ending.returned (.int k a) = .returned (.int k b) := by rw [h]
def nilS : Value := .slice none 0 0
def bv (l : List UInt8) : List Value := l.map fun c => .int .u8 (c.toNat : Int)
theorem bv_append (a b : List UInt8) : bv (a ++ b) = bv a ++ bv b := by simp [bv]
theorem bv_length (l : List UInt8) : (bv l).length = l.length := by simp [bv]
theorem bv_one (l : List UInt8) : ∀ u ∈ bv l, u.oneCell' = true := by
  intro u hu
  obtain ⟨c, _, rfl⟩ := List.mem_map.1 hu
  rfl

theorem info5 : (Try.prog.info? 5).map (fun i => (i.zero, i.size, i.bytes)) = some (some (.int .u8 0), 1, 1) := by kernel_rfl

/-- A writer at block p that has written l. -/
structure Wt (w : World) (base p : Nat) (v : Value) (l : List UInt8) : Prop where
  hb : base ≤ p
  blk : w.heap[p]? = some (.cells #[v] 67 (0, 0))
  own : w.ownsRow base 5 1 v l.length (bv l)

namespace Wt
variable {w w' : World} {base p : Nat} {v : Value} {l : List UInt8}
theorem lt (h : Wt w base p v l) : p < w.heap.size := by
  rcases Nat.lt_or_ge p w.heap.size with hlt | hge
  · exact hlt
  · have := h.blk; rw [Array.getElem?_eq_none hge] at this; cases this
theorem cell (h : Wt w base p v l) : w.cell? ⟨p, 0, none⟩ = some v := cell_of_row w p 0 #[v] 67 (0, 0) h.blk
theorem free (h : Wt w base p v l) : w.frozen? ⟨p, 0, none⟩ = false := by simp [World.frozen?, h.blk]
theorem ne (h : Wt w base p v l) : v.ownBlock ≠ some p := by
  intro e
  rcases h.own.2 with ⟨rfl, _⟩ | ⟨g, cap, cur, rfl, _, hb, _⟩
  · simp [Value.ownBlock] at e
  · simp [Value.ownBlock] at e
    subst e
    rw [h.blk] at hb; simp at hb
theorem form (h : Wt w base p v l) : ∃ a n c, v = .slice a n c := by
  rcases h.own.2 with ⟨rfl, _⟩ | ⟨g, cap, cur, rfl, _⟩
  · exact ⟨_, _, _, rfl⟩
  · exact ⟨_, _, _, rfl⟩
theorem below (h : Wt w base p v l) (hb : Below w.heap.size w w') : Wt w' base p v l where
  hb := h.hb
  blk := (hb.block p h.lt).trans h.blk
  own := by
    refine ⟨h.own.1, ?_⟩
    rcases h.own.2 with h0 | ⟨g, cap, cur, rfl, h1, h2, h3⟩
    · exact .inl h0
    · exact .inr ⟨g, cap, cur, rfl, h1, (hb.block g (Array.getElem?_eq_some_iff.1 h2).1).trans h2, h3⟩
end Wt

theorem own_form {w : World} {base n : Nat} {e : TypeId} {size : Nat} {v : Value} {xs : List Value} (h : w.ownsRow base e size v n xs) : ∃ a m c, v = .slice a m c := by
  rcases h.2 with ⟨rfl, _⟩ | ⟨g, cap, cur, rfl, _⟩
  · exact ⟨_, _, _, rfl⟩
  · exact ⟨_, _, _, rfl⟩
theorem own_base {w : World} {base n : Nat} {v : Value} {xs : List Value} (h : w.ownsRow base 5 1 v n xs) : ∀ k, v.ownBlock = some k → base ≤ k := by
  intro k e
  rcases h.2 with ⟨rfl, _⟩ | ⟨g, cap, cur, rfl, hb, _⟩
  · simp [Value.ownBlock] at e
  · simp [Value.ownBlock] at e; omega

/-- What was written turns into u, which owns the bytes l'. -/
theorem Wt.store {w w4 : World} {base p : Nat} {v u : Value} {l l' : List UInt8} (h : Wt w base p v l) (hB : w4.heap[p]? = w.heap[p]?) {n : Nat} (hn : n = l'.length) (hown : w4.ownsRow base 5 1 u n (bv l')) : Wt (w4.setCell ⟨p, 0, none⟩ u) base p u l' where
  hb := h.hb
  blk := by have := hB.trans h.blk; simp [World.setCell, Array.getElem?_modify, this]
  own := by
    subst hn
    refine ⟨hown.1, ?_⟩
    rcases hown.2 with h0 | ⟨g, cap, cur, rfl, h1, h2, h3⟩
    · exact .inl h0
    · refine .inr ⟨g, cap, cur, rfl, h1, (Below.heap_setCell w4 ⟨p, 0, none⟩ _ g (fun e => ?_)).trans h2, h3⟩
      have e : g = p := e
      subst e
      rw [hB, h.blk] at h2; simp at h2

/-- Blocks of other kinds than a writer's stay. -/
def WKeep (w w' : World) : Prop := ∀ (k : Nat) (cur : Array Value) (t : TypeId), w.heap[k]? = some (.cells cur t (0, 0)) → t ≠ 67 → t ≠ 5 → w'.heap[k]? = w.heap[k]?
theorem WKeep.refl (w : World) : WKeep w w := fun _ _ _ _ _ _ => rfl
theorem WKeep.trans {a b c : World} (h : WKeep a b) (h' : WKeep b c) : WKeep a c := fun k cur t hk h1 h2 => by
  have e := h k cur t hk h1 h2
  exact (h' k cur t (e.trans hk) h1 h2).trans e
theorem WKeep.of_below {a b : World} (h : Below a.heap.size a b) : WKeep a b := fun k _ _ hk _ _ => h.block k (Array.getElem?_eq_some_iff.1 hk).1
theorem WKeep.grown {a b : World} {base n : Nat} {v : Value} {xs : List Value} (h : a.ownsRow base 5 1 v n xs) (hg : a.grownBy b v.ownBlock) : WKeep a b := fun k cur t hk _ h2 => hg.block k (Array.getElem?_eq_some_iff.1 hk).1 (fun e => by
  rcases h.2 with ⟨rfl, _⟩ | ⟨g, cap, cur', rfl, _, hb, _⟩
  · simp [Value.ownBlock] at e
  · simp [Value.ownBlock] at e
    subst e
    rw [hb] at hk; injection hk with hk; injection hk with _ hk; exact h2 hk.symm)
theorem WKeep.set {a : World} {p : Nat} {u x : Value} (h : a.heap[p]? = some (.cells #[u] 67 (0, 0))) : WKeep a (a.setCell ⟨p, 0, none⟩ x) := fun k cur t hk h1 _ => Below.heap_setCell a ⟨p, 0, none⟩ x k (fun e => by
  have e : k = p := e
  subst e
  rw [h] at hk; injection hk with hk; injection hk with _ hk; exact h1 hk.symm)

def WEnd (base p : Nat) (l : List UInt8) (w : World) (e : Ending) (w' : World) : Prop :=
  e = .returned (.tuple #[]) ∧ (∃ v, Wt w' base p v l) ∧ Below base w w' ∧ WKeep w w'

theorem be_get (x : Int) : ∀ (n j : Nat), j < n → (be n x)[j]? = some (byteOf (x / 256 ^ (n - 1 - j)))
  | 0, j, h => by omega
  | n + 1, 0, _ => by simp [be]
  | n + 1, j + 1, h => by
    rw [be, List.getElem?_cons_succ, be_get x n j (by omega), show n + 1 - 1 - (j + 1) = n - 1 - j by omega]
theorem be_take (x : Int) {n j : Nat} (h : j < n) : (be n x).take (j + 1) = (be n x).take j ++ [byteOf (x / 256 ^ (n - 1 - j))] := by
  rw [List.take_add_one, be_get x n j h]; rfl
theorem be_take_all (x : Int) (n : Nat) : (be n x).take n = be n x := List.take_of_length_le (by rw [be_length]; omega)
theorem be_take_len (x : Int) {n j : Nat} (h : j ≤ n) : ((be n x).take j).length = j := by rw [List.length_take, be_length]; omega

set_option maxRecDepth 100000 in
set_option maxHeartbeats 800000 in
theorem wnum_any {w : World} {base p n : Nat} {v : Value} {l : List UInt8} (h : Wt w base p v l) (x : Int) (h1 : 1 ≤ n) (h8 : n ≤ 8) (hl : l.length ≤ 1000000000) :
    Calls Try.prog 29 #[.pointer (some ⟨p, 0, none⟩), .int .i64 x, .int .i64 n] w (WEnd base p (l ++ be n x) w) := by
  obtain ⟨i5, hi, hz, hy, hx⟩ := info_parts info5
  go_enter Try.func29, Try.ntmps29
  go_wp2_with fail
  go_loopw [6] (fun k wr => ∃ (j : Nat) (u : Value), j ≤ n ∧ k = .int .i64 (8 * ((n : Int) - j - 1)) ∧ Wt wr base p u (l ++ (be n x).take j) ∧ Below base w wr ∧ WKeep w wr) (fun k _ => (intOf k + 8).toNat)
  case atStart => exact ⟨0, v, by omega, by simp, by simpa using h, Below.refl _ _, WKeep.refl _⟩
  case round =>
    obtain ⟨j, u, hj, rfl, hw, hb, hkp⟩ := hrel
    by_cases hlt : j < n
    · obtain ⟨a, m, c, rfl⟩ := hw.form
      have c0 := hw.cell
      have f0 := hw.free
      have hL : (l ++ (be n x).take j).length = l.length + j := by rw [List.length_append, be_take_len x hj]
      obtain ⟨c8, hc8⟩ : ∃ c8, c8 = byteOf (x / 256 ^ (n - 1 - j)) := ⟨_, rfl⟩
      have eb : IntKind.u8.wrap (x / 2 ^ (8 * ((n : Int) - j - 1)).toNat) = (c8.toNat : Int) := by
        rw [hc8, byteOf_toNat, show (8 * ((n : Int) - j - 1)).toNat = 8 * (n - 1 - j) by omega, Int.pow_mul]
        rfl
      have hn8 : (0 : Int) ≤ 8 * ((n : Int) - j - 1) := by omega
      have hlb : l ++ (be n x).take (j + 1) = l ++ (be n x).take j ++ [c8] := by rw [be_take x hlt, ← hc8, List.append_assoc]
      obtain ⟨L, hLe⟩ : ∃ L, L = l ++ (be n x).take j := ⟨_, rfl⟩
      rw [← hLe] at hlb hL hw
      have HLB := Lib.hid hlb
      have hmx : L.length ≤ 1000000008 := by omega
      have hm := hw.own
      have hpl := hw.lt
      have hne := hw.ne
      have hbp := hw.hb
      clear hlb hL hc8 hLe
      have HW := Lib.hid hw
      have HKP := Lib.hid hkp
      clear hw hkp
      go_wp2_with fail
      go_region_law (refine step_append_lies _ (by rfl) _ _ _ (by rfl) base 5 i5 _ 1 1 Try.underlying23 hi hz hy hx rfl (by omega) _ _ _ (by rfl) ((hm.alloc (.cells #[.int .u8 (c8.toNat : Int)] 5)).drew) ⟨wr.heap.size, 0, none⟩ 1 1 [.int .u8 (c8.toNat : Int)] (by rfl) (by rfl) (World.news_of_block (cs := #[.int .u8 (c8.toNat : Int)]) (t := 5) (fr := (0, 0)) (heap_alloc_new wr _)) (by simp [Value.oneCell']) (by omega) (by unfold maxLen; omega) (by omega) (by first | omega | (simp; done) | (simp; omega)) _ rfl ?_; intro g4 cap4 w4 hown4 hgrow4 hat4 hlt4; have hB4 := (hgrow4.block p (by first | omega | (simp; done) | (simp; omega)) (fun e => hne e.symm)).trans (Below.heap_alloc _ _ _ hpl); have f4 : w4.frozen? ⟨p, 0, none⟩ = false := (by simp [World.frozen?, hB4, HW.out.blk]); have c4 : w4.cell? ⟨p, 0, none⟩ = some (.slice a m c) := (World.cell?_of_block hB4).trans c0; have HB4 := Lib.hid hB4; clear hB4)
      all_goals
        have hb4 : Below base w w4 := hb.trans ((((Below.refl base wr).alloc (by omega) _).drew).grown hgrow4 (by simp; omega) (own_base hm))
        have hk4 : WKeep wr w4 := (WKeep.of_below (((Below.refl _ _).alloc (Nat.le_refl _) _).drew)).trans (WKeep.grown ((hm.alloc (.cells #[.int .u8 (c8.toNat : Int)] 5)).drew) hgrow4)
        go_wp2
        go_roundw
        case rel => exact ⟨j + 1, _, by omega, by congr 1; omega, by rw [HLB.out]; exact HW.out.store HB4.out (n := L.length + 1) (by simp) (by rw [bv_append]; exact hown4), hb4.setCell hbp _, HKP.out.trans (hk4.trans (WKeep.set (HB4.out.trans HW.out.blk)))⟩
        case measure => simp [intOf]; omega
    · obtain rfl : j = n := by omega
      go_wp2
      go_end0
      exact ⟨rfl, ⟨u, by rw [be_take_all] at hw; exact hw⟩, hb, hkp⟩

def bl (s : ByteArray) : List UInt8 := s.data.toList
theorem bl_length (s : ByteArray) : (bl s).length = s.size := by simp [bl]
theorem strCells_eq (s : ByteArray) : Lib.strCells s = bv (bl s) := rfl

set_option maxRecDepth 100000 in
set_option maxHeartbeats 800000 in
theorem wtext_any {w : World} {base p n : Nat} {v : Value} {l : List UInt8} (h : Wt w base p v l) (s : ByteArray) (h1 : 1 ≤ n) (h8 : n ≤ 8) (hl : l.length ≤ 900000000) (hs : s.size ≤ 100000) :
    Calls Try.prog 30 #[.pointer (some ⟨p, 0, none⟩), .string s, .int .i64 n] w (WEnd base p (l ++ tx n (bl s)) w) := by
  obtain ⟨i5, hi, hz, hy, hx⟩ := info_parts info5
  go_enter Try.func30, Try.ntmps30
  go_wp2_with fail
  refine (wnum_any (n := n) h (s.size : Int) h1 h8 (by omega)).mono ?_
  rintro e w1 ⟨rfl, ⟨v1, h2⟩, b1, k1⟩
  have c1 := h2.cell
  have f1 := h2.free
  have hL : (l ++ be n (s.size : Int)).length = l.length + n := by rw [List.length_append, be_length]
  have K1 := Lib.hid k1
  clear k1
  have HL := Lib.hid hL
  have hm := h2.own
  have hpl := h2.lt
  have hbp := h2.hb
  have H2 := Lib.hid h2
  have hle : (l ++ be n (s.size : Int)).length ≤ 900000008 := by omega
  obtain ⟨L, hLe⟩ : ∃ L, L = l ++ be n (s.size : Int) := ⟨_, rfl⟩
  rw [← hLe] at HL H2 hle hm
  have HLe := Lib.hid hLe
  clear hLe
  clear hL h2
  go_wp2_with (at_builtin; refine Lib.wpList_append_own_string _ rfl _ _ 23 9 rfl base 5 i5 Try.underlying23 Try.underlying9 hi hz hy hx v1 L.length (bv L) rfl hm s rfl (by unfold maxLen; omega) (by omega) (by omega) ?_; intro v2 w2 hown2 hgrow2 _; obtain ⟨a2, m2, k2, rfl⟩ := own_form hown2; have hB2 := hgrow2.block p hpl (fun e => H2.out.ne e.symm); have f2 : w2.frozen? ⟨p, 0, none⟩ = false := (by simp [World.frozen?, hB2, H2.out.blk]); have c2 : w2.cell? ⟨p, 0, none⟩ = some v1 := (World.cell?_of_block hB2).trans c1; have HB2 := Lib.hid hB2; clear hB2)
  go_end0
  have hb2 : Below base w w2 := b1.grown hgrow2 (by omega) (own_base hm)
  have hk2 : WKeep w (w2.setCell ⟨p, 0, none⟩ (.slice a2 m2 k2)) := K1.out.trans ((WKeep.grown hm hgrow2).trans (WKeep.set (HB2.out.trans H2.out.blk)))
  have hst : Wt (w2.setCell ⟨p, 0, none⟩ (.slice a2 m2 k2)) base p (.slice a2 m2 k2) (L ++ bl s) := H2.out.store HB2.out (n := L.length + s.size) (by simp [bl_length]) (by rw [bv_append]; exact hown2)
  refine ⟨rfl, ⟨.slice a2 m2 k2, ?_⟩, hb2.setCell hbp _, hk2⟩
  rw [tx, ← List.append_assoc, bl_length, ← HLe.out]
  exact hst
end Go.Proofs.Ytifdkkkcecpjoaa
end
section
/-
  Bytes in memory: a slice that reads as a list; slices.Clone of bytes; the writer's headed.
-/
namespace Go.Proofs.Ytifdkkkcecpjoaa
open Go.RowKit
attribute [local go_sem ↓] Go.wp_at_zero Go.wp_at_succ

theorem block_of_add (a : Addr) (n : Nat) : (a.add n).block = a.block := by unfold Addr.add; split <;> rfl
theorem add_of_add (a : Addr) (i j : Nat) : (a.add i).add j = a.add (i + j) := by
  unfold Addr.add
  by_cases hi : i = 0 <;> by_cases hj : j = 0 <;> simp [hi, hj, Nat.add_assoc]

def Reads (w : World) (B size : Nat) (A : Option Addr) (n : Nat) (xs : List Value) : Prop :=
  xs.length = n * size ∧ (0 < n → ∃ ad, A = some ad ∧ ad.block < B ∧ ∀ j u, xs[j]? = some u → w.cell? (ad.add j) = some u)

section
variable {w w' : World} {B B' size n : Nat} {A : Option Addr} {xs : List Value}
theorem Reads.none_ : Reads w B size A 0 [] := ⟨by simp, fun h => absurd h (by omega)⟩
theorem Reads.at_ {k : Nat} (h : Reads w B 1 A n xs) (hk : k < n) : ∃ ad u, A = some ad ∧ ad.block < B ∧ xs[k]? = some u ∧ w.cell? (ad.add k) = some u := by
  obtain ⟨ad, e, hb, hc⟩ := h.2 (by omega)
  have hl : k < xs.length := by have := h.1; omega
  exact ⟨ad, xs[k], e, hb, List.getElem?_eq_getElem hl, hc k _ (List.getElem?_eq_getElem hl)⟩
theorem Reads.keep (h : Reads w B size A n xs) (hk : ∀ p : Addr, p.block < B → w'.cell? p = w.cell? p) : Reads w' B size A n xs :=
  ⟨h.1, fun hn => by
    obtain ⟨ad, e, hb, hc⟩ := h.2 hn
    exact ⟨ad, e, hb, fun j u hu => (hk _ (by rw [block_of_add]; exact hb)).trans (hc j u hu)⟩⟩
theorem Reads.more (h : Reads w B size A n xs) (hB : B ≤ B') : Reads w B' size A n xs :=
  ⟨h.1, fun hn => by
    obtain ⟨ad, e, hb, hc⟩ := h.2 hn
    exact ⟨ad, e, by omega, hc⟩⟩
theorem Reads.below (h : Reads w B size A n xs) (hb : Below B w w') : Reads w' B size A n xs := h.keep fun _ hp => hb.cell hp
theorem Reads.drew (h : Reads w B size A n xs) : Reads w.drew B size A n xs := h
theorem Reads.drewN (h : Reads w B size A n xs) (k : Nat) : Reads (w.drewN k) B size A n xs := h
theorem Reads.alloc (h : Reads w B size A n xs) (hB : B ≤ w.heap.size) (o : Obj) : Reads (w.alloc o) B size A n xs := h.keep fun p hp => World.cell?_alloc_lt w o p (by omega)
theorem Reads.setCell (h : Reads w B size A n xs) {p : Addr} (hB : B ≤ p.block) (u : Value) : Reads (w.setCell p u) B size A n xs :=
  h.keep fun q hq => World.cell?_setCell_other w p q u (fun e => by subst e; omega)
theorem Reads.grown (h : Reads w B size A n xs) {row : Option Nat} (hg : w.grownBy w' row) (hB : B ≤ w.heap.size) (hr : ∀ g, row = some g → B ≤ g) : Reads w' B size A n xs :=
  h.keep fun p hp => World.cell?_of_block (hg.block p.block (by omega) (fun e => by have := hr _ e.symm; omega))
theorem Reads.cut (h : Reads w B size A n xs) {k cap : Nat} (hk : k ≤ n) (hc : n ≤ cap) :
    Reads w B size (if cap = k then A else A.map (·.add (k * size))) (n - k) (xs.drop (k * size)) := by
  refine ⟨by rw [List.length_drop, h.1, Nat.sub_mul], fun hn => ?_⟩
  obtain ⟨ad, rfl, hb, hcell⟩ := h.2 (by omega)
  rw [if_neg (by omega)]
  refine ⟨ad.add (k * size), rfl, by rw [block_of_add]; exact hb, fun j u hu => ?_⟩
  rw [add_of_add]
  exact hcell _ u (by rw [← hu, List.getElem?_drop])
theorem Reads.of_own {base : Nat} {e : TypeId} {c : Nat} (h : w.ownsRow base e size (.slice A n c) n xs) : Reads w w.heap.size size A n xs := by
  refine ⟨h.1, fun hn => ?_⟩
  obtain ⟨g, cap, hv, _, hlt⟩ := h.form hn
  have hA : A = some ⟨g, 0, none⟩ := by injection hv
  subst hA
  exact ⟨_, rfl, hlt, h.cells (g := g) rfl⟩
end
def Blk (w : World) (g : Nat) (t : TypeId) (cs : Array Value) : Prop := w.heap[g]? = some (.cells cs t (0, 0))

section
variable {w w' : World} {g : Nat} {t : TypeId} {cs : Array Value}
theorem Blk.lt (h : Blk w g t cs) : g < w.heap.size := by
  rcases Nat.lt_or_ge g w.heap.size with hlt | hge
  · exact hlt
  · unfold Blk at h; rw [Array.getElem?_eq_none hge] at h; cases h
theorem Blk.cell (h : Blk w g t cs) (i : Nat) : w.cell? ⟨g, i, none⟩ = cs[i]? := cell_of_row w g i cs t (0, 0) h
theorem Blk.frozen (h : Blk w g t cs) (i : Nat) : w.frozen? ⟨g, i, none⟩ = false := by
  unfold Blk at h
  simp [World.frozen?, h]
theorem Blk.new (w : World) (t : TypeId) (cs : Array Value) : Blk (w.alloc (.cells cs t)) w.heap.size t cs := heap_alloc_new w _
theorem Blk.drew (h : Blk w g t cs) : Blk w.drew g t cs := h
theorem Blk.drewN (h : Blk w g t cs) (n : Nat) : Blk (w.drewN n) g t cs := h
theorem Blk.alloc (h : Blk w g t cs) (o : Obj) : Blk (w.alloc o) g t cs := (Below.heap_alloc w o g h.lt).trans h
theorem Blk.set_ (h : Blk w g t cs) (i : Nat) (u : Value) : Blk (w.setCell ⟨g, i, none⟩ u) g t (cs.setIfInBounds i u) := by
  unfold Blk at h ⊢
  simp [World.setCell, Array.getElem?_modify, h]
theorem Blk.far (h : Blk w g t cs) {p : Addr} (hp : g ≠ p.block) (u : Value) : Blk (w.setCell p u) g t cs := (Below.heap_setCell w p u g hp).trans h
theorem Blk.below {B : Nat} (h : Blk w g t cs) (hb : Below B w w') (hg : g < B) : Blk w' g t cs := (hb.block g hg).trans h
theorem Blk.grown {row : Option Nat} (h : Blk w g t cs) (hb : w.grownBy w' row) (hg : some g ≠ row) : Blk w' g t cs := (hb.block g h.lt hg).trans h
theorem Blk.ne_ {g' : Nat} {t' : TypeId} {cs' : Array Value} (h : Blk w g t cs) (h' : Blk w g' t' cs') (hne : t ≠ t') : g ≠ g' := by
  rintro rfl
  unfold Blk at h h'
  rw [h] at h'
  injection h' with h'
  injection h' with _ ht
  exact hne ht
theorem own_blk_ne {base : Nat} {e : TypeId} {size n : Nat} {v : Value} {xs : List Value} (h : w.ownsRow base e size v n xs) (hg : Blk w g t cs) (hne : e ≠ t) : v.ownBlock ≠ some g := by
  rcases h.2 with ⟨rfl, _⟩ | ⟨g', cap, cur, rfl, _, hh, _⟩
  · simp [Value.ownBlock]
  · intro he
    have : g' = g := by simpa [Value.ownBlock] using he
    subst this
    exact Blk.ne_ (t := e) hh hg hne rfl
end
section
variable {P : Program} (w : World)

theorem run_append_of_nil (base : Nat) (t ty e : TypeId) (i : TypeInfo) (size : Nat) (ht : P.underlying t = some (.slice e)) (hi : P.info? e = some i)
    (v : Value) (n : Nat) (xs : List Value) (hown : w.ownsRow base e size v n xs) (c : Nat) : (Builtin.append_ #[t, t] ty #[v, .slice none 0 c]).run P w = .ok v w := by
  rcases hown.2 with ⟨rfl, rfl⟩ | ⟨g, cap, cur, rfl, _, _, hnc, _⟩
  · simp [Builtin.append_, run_underlying ht, sizeOf, typeInfo, hi, Builtin.lenOf, Builtin.firstCells]
  · simp [Builtin.append_, run_underlying ht, sizeOf, typeInfo, hi, Builtin.lenOf, Builtin.firstCells, hnc, storeCells]

theorem run_append_any (base : Nat) (t ty e : TypeId) (i : TypeInfo) (z : Value) (size bytes : Nat) (ht : P.underlying t = some (.slice e)) (hi : P.info? e = some i) (hz : i.zero = some z)
    (hsize : i.size = size) (hby : i.bytes = bytes) (hzs : z.cells.size = size) (hsz : 0 < size)
    (v : Value) (n : Nat) (xs : List Value) (hown : w.ownsRow base e size v n xs)
    (B : Nat) (A : Option Addr) (m c : Nat) (news : List Value) (hr : Reads w B size A m news) (h1 : ∀ u ∈ news, u.oneCell' = true)
    (h63 : n + m ≤ maxLen) (hbytes : (n + m) * bytes ≤ 140737488355328) (hbase : base ≤ w.heap.size) :
    ∃ v' w', (Builtin.append_ #[t, t] ty #[v, .slice A m c]).run P w = .ok v' w' ∧ w'.ownsRow base e size v' (n + m) (xs ++ news) ∧ w.grownBy w' v.ownBlock ∧
      (v'.ownBlock = v.ownBlock ∨ v'.ownBlock = some w.heap.size) := by
  rcases A with _ | ad
  · have hm : m = 0 := by
      rcases Nat.eq_zero_or_pos m with h0 | h0
      · exact h0
      · obtain ⟨ad, h, _⟩ := hr.2 h0
        cases h
    subst hm
    have hn : news = [] := List.eq_nil_of_length_eq_zero (by simpa using hr.1)
    subst hn
    exact ⟨v, w, run_append_of_nil w base t ty e i size ht hi v n xs hown c, by simpa using hown, World.grownBy.refl w _, .inl rfl⟩
  · have hcells : ∀ j u, news[j]? = some u → w.cell? (ad.add j) = some u := by
      intro j u hu
      rcases Nat.eq_zero_or_pos m with h0 | h0
      · subst h0
        have hn : news = [] := List.eq_nil_of_length_eq_zero (by simpa using hr.1)
        subst hn
        simp at hu
      · obtain ⟨ad', h, _, hc⟩ := hr.2 h0
        injection h with h
        subst h
        exact hc j u hu
    obtain ⟨v', w', hrun, h2, h3, _, h5⟩ := run_append_own_at (P := P) w base t ty e i z size bytes ht hi hz hsize hby hzs hsz v n xs hown ad m c news hr.1 hcells h1 h63 hbytes hbase
    exact ⟨v', w', hrun, h2, h3, h5⟩

theorem wp_append_any {o : Oper} {a : Act} {K : Act → World → Prop} {Q : Exit → Act → World → Prop} (s x : Operand) (t : TypeId)
    (ho : o.op = .call { callee := .builtin .append, args := #[s, x], argTypes := #[t, t] })
    (base : Nat) (e : TypeId) (i : TypeInfo) (z : Value) (size bytes : Nat) (ht : P.underlying t = some (.slice e)) (hi : P.info? e = some i) (hz : i.zero = some z)
    (hsize : i.size = size) (hby : i.bytes = bytes) (hzs : z.cells.size = size) (hsz : 0 < size)
    (v : Value) (n : Nat) (xs : List Value) (hs : a.eval s = v) (hown : w.ownsRow base e size v n xs)
    (B : Nat) (A : Option Addr) (m c : Nat) (news : List Value) (hx : a.eval x = .slice A m c) (hr : Reads w B size A m news) (h1 : ∀ u ∈ news, u.oneCell' = true)
    (h63 : n + m ≤ maxLen) (hbytes : (n + m) * bytes ≤ 140737488355328) (hbase : base ≤ w.heap.size)
    (h : ∀ v' w', w'.ownsRow base e size v' (n + m) (xs ++ news) → w.grownBy w' v.ownBlock → (v'.ownBlock = v.ownBlock ∨ v'.ownBlock = some w.heap.size) → K (a.put o.dst v') w') : o.wp P a w K Q := by
  obtain ⟨v', w', hrun, h2, h3, h4⟩ := run_append_any (P := P) w base t o.type e i z size bytes ht hi hz hsize hby hzs hsz v n xs hown B A m c news hr h1 h63 hbytes hbase
  unfold Oper.wp execOp
  simp only [ho, resolve, invoke, builtin, Sem.run_bind, Sem.run_pure, Result.andThen_ok, List.map_toArray, List.map_cons, List.map_nil, hs, hx, hrun]
  exact h v' w' h2 h3 h4

theorem wpList_append_any {ops : Array Oper} {rest : List Oper} {o : Oper} {a : Act} {Q : Exit → Act → World → Prop} (hgd : o.guard = none) (s x : Operand) (t : TypeId)
    (ho : o.op = .call { callee := .builtin .append, args := #[s, x], argTypes := #[t, t] })
    (base : Nat) (e : TypeId) (i : TypeInfo) (z : Value) (size bytes : Nat) (ht : P.underlying t = some (.slice e)) (hi : P.info? e = some i) (hz : i.zero = some z)
    (hsize : i.size = size) (hby : i.bytes = bytes) (hzs : z.cells.size = size) (hsz : 0 < size)
    (v : Value) (n : Nat) (xs : List Value) (hs : a.eval s = v) (hown : w.ownsRow base e size v n xs)
    (B : Nat) (A : Option Addr) (m c : Nat) (news : List Value) (hx : a.eval x = .slice A m c) (hr : Reads w B size A m news) (h1 : ∀ u ∈ news, u.oneCell' = true)
    (h63 : n + m ≤ maxLen) (hbytes : (n + m) * bytes ≤ 140737488355328) (hbase : base ≤ w.heap.size)
    (h : ∀ v' w', w'.ownsRow base e size v' (n + m) (xs ++ news) → w.grownBy w' v.ownBlock → (v'.ownBlock = v.ownBlock ∨ v'.ownBlock = some w.heap.size) → wpList P ops Q rest (a.put o.dst v') w') : wpList P ops Q (o :: rest) a w :=
  wpList_plain hgd fun _ hK => wp_append_any w s x t ho base e i z size bytes ht hi hz hsize hby hzs hsz v n xs hs hown B A m c news hx hr h1 h63 hbytes hbase fun v' w' h2 h3 h4 => hK _ _ (h v' w' h2 h3 h4)

theorem step_append_any {ops : Array Oper} {o : Oper} {a : Act} {K : Act → World → Prop} {Q : Exit → Act → World → Prop} {E : Prop} (hgd : o.guard = none) (s x : Operand) (t : TypeId)
    (ho : o.op = .call { callee := .builtin .append, args := #[s, x], argTypes := #[t, t] })
    (base : Nat) (e : TypeId) (i : TypeInfo) (z : Value) (size bytes : Nat) (ht : P.underlying t = some (.slice e)) (hi : P.info? e = some i) (hz : i.zero = some z)
    (hsize : i.size = size) (hby : i.bytes = bytes) (hzs : z.cells.size = size) (hsz : 0 < size)
    (v : Value) (n : Nat) (xs : List Value) (hs : a.eval s = v) (hown : w.ownsRow base e size v n xs)
    (B : Nat) (A : Option Addr) (m c : Nat) (news : List Value) (hx : a.eval x = .slice A m c) (hr : Reads w B size A m news) (h1 : ∀ u ∈ news, u.oneCell' = true)
    (h63 : n + m ≤ maxLen) (hbytes : (n + m) * bytes ≤ 140737488355328) (hbase : base ≤ w.heap.size)
    (h : ∀ v' w', w'.ownsRow base e size v' (n + m) (xs ++ news) → w.grownBy w' v.ownBlock → (v'.ownBlock = v.ownBlock ∨ v'.ownBlock = some w.heap.size) → K (a.put o.dst v') w') :
    if Region.wanted o (yielded ops a.tmps) = true then Oper.wp P o a w K Q else E := by
  have hw : Region.wanted o (yielded ops a.tmps) = true := by simp [Region.wanted, hgd]
  rw [if_pos hw]
  exact wp_append_any w s x t ho base e i z size bytes ht hi hz hsize hby hzs hsz v n xs hs hown B A m c news hx hr h1 h63 hbytes hbase h
end

/-- New bytes. -/
def BytesEnd (l : List UInt8) (w : World) (e : Ending) (w' : World) : Prop := ∃ v, e = .returned v ∧ w'.ownsRow w.heap.size 5 1 v l.length (bv l) ∧ Below w.heap.size w w'

theorem ownsRow_lower {w : World} {base base' : Nat} {e : TypeId} {size n : Nat} {v : Value} {xs : List Value} (h : w.ownsRow base e size v n xs) (hb : base' ≤ base) : w.ownsRow base' e size v n xs := by
  refine ⟨h.1, ?_⟩
  rcases h.2 with h0 | ⟨g, cap, cur, rfl, h1, h2⟩
  · exact .inl h0
  · exact .inr ⟨g, cap, cur, rfl, Nat.le_trans hb h1, h2⟩
theorem own_reads {w : World} {base : Nat} {v : Value} {n : Nat} {xs : List Value} (h : w.ownsRow base 5 1 v n xs) : ∃ A c, v = .slice A n c ∧ Reads w w.heap.size 1 A n xs := by
  rcases h.2 with ⟨rfl, h0⟩ | ⟨g, cap, cur, rfl, _⟩
  · subst h0
    exact ⟨_, _, rfl, Reads.of_own h⟩
  · exact ⟨_, _, rfl, Reads.of_own h⟩

set_option maxRecDepth 100000 in
set_option maxHeartbeats 400000 in
theorem clone_any {w : World} {B c : Nat} {A : Option Addr} {l : List UInt8} (h : Reads w B 1 A l.length (bv l)) (hB : B ≤ w.heap.size) (hl : l.length ≤ 1000000000) :
    Calls Try.prog 45 #[.slice A l.length c] w (BytesEnd l w) := by
  obtain ⟨i5, hi, hz, hy, hx⟩ := info_parts info5
  have hrun := fun w => Lib.run_eql_slice_nil (P := Try.prog) w 23 5 A l.length c 0 0 Try.underlying23
  have hown : (w.alloc (.cells #[] 5)).ownsRow w.heap.size 5 1 (.slice (some ⟨w.heap.size, 0, none⟩) 0 0) 0 [] := World.ownsRow_made w #[] 0 (Nat.le_refl _) (Nat.zero_le _) rfl
  have hr : Reads (w.alloc (.cells #[] 5)) B 1 A l.length (bv l) := h.alloc hB _
  have h0 : A = none → l = [] := by
    intro e
    subst e
    rcases Nat.eq_zero_or_pos l.length with h0 | h0
    · exact List.eq_nil_of_length_eq_zero h0
    · obtain ⟨ad, e, _⟩ := h.2 h0
      cases e
  rcases A with _ | ad
  · obtain rfl := h0 rfl
    clear h0 hr hown h hrun
    have hrun := fun w => Lib.run_eql_slice_nil (P := Try.prog) w 23 5 none 0 c 0 0 Try.underlying23
    go_enter Try.func45, Try.ntmps45
    go_wp2_with fail
    go_ret
    exact ⟨_, rfl, World.ownsRow_nil _ _ _ _, Below.refl _ _⟩
  · clear h0
    have H := Lib.hid h
    clear h
    go_enter Try.func45, Try.ntmps45
    go_wp2_with (at_builtin; refine wpList_append_any _ rfl _ _ 23 rfl w.heap.size 5 i5 _ 1 1 Try.underlying23 hi hz hy hx rfl (by decide) _ 0 [] rfl hown B (some ad) l.length c (bv l) rfl hr (bv_one l) (by unfold maxLen; omega) (by omega) (by simp) ?_; intro v' w1 hown' hgrow _)
    go_ret
    rw [Nat.zero_add, List.nil_append] at hown'
    exact ⟨v', rfl, hown', ((Below.refl w.heap.size w).alloc (Nat.le_refl _) _).grown hgrow (by simp) (by intro k hk; cases hk; exact Nat.le_refl _)⟩

theorem clone_n {w : World} {B N c : Nat} {A : Option Addr} {l : List UInt8} (hN : N = l.length) (h : Reads w B 1 A N (bv l)) (hB : B ≤ w.heap.size) (hl : l.length ≤ 1000000000) :
    Calls Try.prog 45 #[.slice A N c] w (BytesEnd l w) := by
  subst hN
  exact clone_any h hB hl

set_option maxRecDepth 100000 in
set_option maxHeartbeats 800000 in
theorem headed_any {w : World} {base p n : Nat} {v : Value} {l : List UInt8} (h : Wt w base p v l) (h1 : 1 ≤ n) (h8 : n ≤ 8) (hl : l.length ≤ 100000000) :
    Calls Try.prog 32 #[.pointer (some ⟨p, 0, none⟩), .int .i64 n] w (BytesEnd (tx n l) w) := by
  obtain ⟨i5, hi, hz, hy, hx⟩ := info_parts info5
  obtain ⟨A, c, rfl, hr⟩ := own_reads h.own
  have c0 := h.cell
  have hpl := h.lt
  go_enter Try.func32, Try.ntmps32
  go_wp2_with fail
  have hW : Wt (w.alloc (.cells #[.slice none 0 0] 67)) w.heap.size w.heap.size (.slice none 0 0) [] := ⟨Nat.le_refl _, heap_alloc_new w _, World.ownsRow_nil _ _ _ _⟩
  refine (wnum_any (n := n) hW (l.length : Int) h1 h8 (by simp)).mono ?_
  rintro e w1 ⟨rfl, ⟨v1, h2⟩, b1, -⟩
  have b2 : Below w.heap.size w w1 := ((Below.refl _ _).alloc (Nat.le_refl _) _).trans b1
  have c1 := h2.cell
  have c2 : w1.cell? ⟨p, 0, none⟩ = some (.slice A l.length c) := (b2.cell (p := ⟨p, 0, none⟩) hpl).trans c0
  rw [List.nil_append] at h2
  have hm := h2.own
  have hr1 := hr.below b2
  have hs1 := b2.size
  rw [be_length] at hm
  clear b1 hW h2
  go_wp2_with fail
  go_region_law (first | (refine step_append_any _ (by rfl) _ _ _ (by rfl) w.heap.size 5 i5 _ 1 1 Try.underlying23 hi hz hy hx rfl (by omega) _ _ _ (by rfl) hm w.heap.size A l.length c (bv l) (by rfl) hr1 (bv_one l) (by unfold maxLen; omega) (by omega) (by first | omega | (simp; done) | (simp; omega)) ?_; intro v3 w3 hown3 hgrow3 _; obtain ⟨A3, c3, rfl, hr3⟩ := own_reads hown3) | (go_simp; go_at_call 45; refine (clone_n (l := tx n l) (by simp [tx_length]) (by rw [tx, bv_append]; exact hr3) (Nat.le_refl _) (by rw [tx_length]; omega)).mono ?_; rintro e w4 ⟨v4, rfl, hown4, b4⟩))
  all_goals
    go_wp2
    go_ret
    have b3 : Below w.heap.size w w3 := (b2.drew).grown hgrow3 (by simpa using hs1) (own_base hm)
    exact ⟨v4, rfl, ownsRow_lower hown4 b3.size, b3.trans (b4.mono b3.size)⟩

end Go.Proofs.Ytifdkkkcecpjoaa
end
section
/-
  frame.writes and frame.Request: the bytes of any request, for whatever request.
-/
namespace Go.Proofs.Ytifdkkkcecpjoaa
open Go.RowKit
attribute [local go_sem ↓] Go.wp_at_zero Go.wp_at_succ

set_option maxHeartbeats 400000 in
theorem writes_any (k : Int) (w : World) : Calls Try.prog 31 #[.int .i64 k] w fun e w' => e = .returned (.bool (writesB k)) ∧ w = w' := by
  by_cases h1 : k = 1
  · subst h1
    go_enter Try.func31, Try.ntmps31
    go_wp2_with fail
    go_ret
    exact ⟨rfl, rfl⟩
  · have e1 : (k == 1) = false := by simpa using h1
    have e2 : writesB k = decide (k = 3) := by simp [writesB, h1]
    rw [e2]
    go_enter Try.func31, Try.ntmps31
    go_wp2_with fail
    go_ret
    exact ⟨by by_cases h : k = 3 <;> simp [h], rfl⟩

def rqv (k : Int) (nm t : ByteArray) (v : Int) : Value := .agg #[.int .i64 k, .string nm, .string t, .int .i64 v]
def rqOfV (k : Int) (nm t : ByteArray) (v : Int) : Rq := ⟨k, bl nm, bl t, v⟩

theorem box4 {W : World} {q : Nat} {t : TypeId} {a b c d : Value} (h : W.heap[q]? = some (.cells #[a, b, c, d] t (0, 0))) :
    W.cell? ⟨q, 0, none⟩ = some a ∧ W.cell? ⟨q, 1, none⟩ = some b ∧ W.cell? ⟨q, 2, none⟩ = some c ∧ W.cell? ⟨q, 3, none⟩ = some d :=
  ⟨cell_of_row W q 0 _ t (0, 0) h, cell_of_row W q 1 _ t (0, 0) h, cell_of_row W q 2 _ t (0, 0) h, cell_of_row W q 3 _ t (0, 0) h⟩

theorem BytesEnd.from {w w1 : World} {l : List UInt8} {e : Ending} {w' : World} (h : BytesEnd l w1 e w') (b : Below w.heap.size w w1) : BytesEnd l w e w' := by
  obtain ⟨v, he, ho, hb⟩ := h
  exact ⟨v, he, ownsRow_lower ho b.size, b.trans (hb.mono b.size)⟩

theorem bytes_ret {l : List UInt8} {w w1 : World} {e : Ending} {w' : World} (h : BytesEnd l w1 e w') (b : Below w.heap.size w w1) : ∃ A n c, e = .returned (.slice A n c) ∧ BytesEnd l w (.returned (.slice A n c)) w' := by
  obtain ⟨v, rfl, ho, hb⟩ := h
  obtain ⟨A, n, c, rfl⟩ := own_form ho
  exact ⟨A, n, c, rfl, BytesEnd.from ⟨_, rfl, ho, hb⟩ b⟩

set_option maxRecDepth 100000 in
set_option maxHeartbeats 1600000 in
theorem request_any (k : Int) (nm t : ByteArray) (x : Int) (w : World) (h1 : nm.size ≤ 100000) (h2 : t.size ≤ 100000) :
    Calls Try.prog 16 #[rqv k nm t x] w (BytesEnd (rqOfV k nm t x).enc w) := by
  unfold rqv
  go_enter Try.func16, Try.ntmps16
  go_wp2_with fail
  obtain ⟨W1, hW1⟩ : ∃ W1, W1 = (w.alloc (.cells #[.int .i64 k, .string nm, .string t, .int .i64 x] 27)).alloc (.cells #[.slice none 0 0] 67) := ⟨_, rfl⟩
  have hW : Wt W1 (w.heap.size + 1) (w.heap.size + 1) (.slice none 0 0) [] := by
    rw [hW1]
    exact ⟨Nat.le_refl _, by simpa using heap_alloc_new (w.alloc (.cells #[.int .i64 k, .string nm, .string t, .int .i64 x] 27)) (.cells #[.slice none 0 0] 67), World.ownsRow_nil _ _ _ _⟩
  have b0 : Below w.heap.size w W1 := by rw [hW1]; exact ((Below.refl _ _).alloc (Nat.le_refl _) _).alloc (by simp) _
  have hq : W1.heap[w.heap.size]? = some (.cells #[.int .i64 k, .string nm, .string t, .int .i64 x] 27 (0, 0)) := by
    rw [hW1]
    exact (Below.heap_alloc _ _ _ (by simp)).trans (heap_alloc_new w _)
  rw [← hW1]
  clear hW1
  obtain ⟨c0, -, -, -⟩ := box4 hq
  have HQ := Lib.hid hq
  clear hq
  go_wp2_with fail
  refine (wnum_any (n := 1) hW k (by omega) (by omega) (by simp)).mono ?_
  rintro e w1 ⟨rfl, ⟨v1, h3⟩, b1, -⟩
  have b01 : Below w.heap.size w w1 := b0.trans (b1.mono (by omega))
  have HQ1 := Lib.hid ((b1.block w.heap.size (by omega)).trans HQ.out)
  obtain ⟨-, c1, -, -⟩ := box4 HQ1.out
  clear hW b0 b1 c0 HQ
  rw [List.nil_append] at h3
  have hl1 : (be 1 k).length = 1 := be_length _ _
  go_wp2_with fail
  refine (wtext_any (n := 1) h3 nm (by omega) (by omega) (by omega) h1).mono ?_
  rintro e w2 ⟨rfl, ⟨v2, h4⟩, b2, -⟩
  have b02 : Below w.heap.size w w2 := b01.trans (b2.mono (by omega))
  have HQ2 := Lib.hid ((b2.block w.heap.size (by omega)).trans HQ1.out)
  obtain ⟨c0, -, ct, cx⟩ := box4 HQ2.out
  have hl2 : (be 1 k ++ tx 1 (bl nm)).length ≤ 100002 := by rw [List.length_append, be_length, tx_length, bl_length]; omega
  clear b01 b2 c1 HQ1 hl1 h3
  go_wp2_with fail
  refine (writes_any k w2).mono ?_
  rintro e w2' ⟨rfl, rfl⟩
  by_cases hw : writesB k = true
  · have h5 : ¬ k = 5 := by intro e; subst e; exact absurd hw (by decide)
    have e5 : (k == 5) = false := by simpa using h5
    have HE : Hid ((rqOfV k nm t x).enc = tx 2 (be 1 k ++ tx 1 (bl nm) ++ tx 2 (bl t))) := by
      show Rq.enc _ = _
      simp [Rq.enc, Rq.body, Rq.tail, rqOfV, hw, h5]
    have HW := Lib.hid hw
    rw [HW.out]
    clear hw
    go_wp2_with fail
    refine (wtext_any (n := 2) h4 t (by omega) (by omega) (by omega) h2).mono ?_
    rintro e w3 ⟨rfl, ⟨v3, h6⟩, b3, -⟩
    have b03 : Below w.heap.size w w3 := b02.trans (b3.mono (by omega))
    have HQ3 := Lib.hid ((b3.block w.heap.size (by omega)).trans HQ2.out)
    obtain ⟨c0', -, -, -⟩ := box4 HQ3.out
    have hl3 : (be 1 k ++ tx 1 (bl nm) ++ tx 2 (bl t)).length ≤ 200004 := by rw [List.length_append, tx_length, bl_length]; omega
    clear b02 b3 c0 ct cx HQ2 h4
    go_wp2_with fail
    refine (headed_any (n := 2) h6 (by omega) (by omega) (by omega)).mono ?_
    intro e w4 hE
    obtain ⟨A, m, c, rfl, hF⟩ := bytes_ret hE b03
    go_wp2_with fail
    go_ret
    rw [HE.out]; exact hF
  · have hw' : writesB k = false := by simpa using hw
    have HW := Lib.hid hw'
    rw [HW.out]
    by_cases h5 : k = 5
    · subst h5
      have HE : Hid ((rqOfV 5 nm t x).enc = tx 2 (be 1 5 ++ tx 1 (bl nm) ++ be 8 x)) := by
        show Rq.enc _ = _
        simp [Rq.enc, Rq.body, Rq.tail, rqOfV, hw']
      clear hw hw'
      go_wp2_with fail
      refine (wnum_any (n := 8) h4 x (by omega) (by omega) (by omega)).mono ?_
      rintro e w3 ⟨rfl, ⟨v3, h6⟩, b3, -⟩
      have b03 : Below w.heap.size w w3 := b02.trans (b3.mono (by omega))
      have hl3 : (be 1 5 ++ tx 1 (bl nm) ++ be 8 x).length ≤ 200004 := by rw [List.length_append, be_length]; omega
      clear b02 b3 c0 ct cx HQ2 h4
      go_wp2_with fail
      refine (headed_any (n := 2) h6 (by omega) (by omega) (by omega)).mono ?_
      intro e w4 hE
      obtain ⟨A, m, c, rfl, hF⟩ := bytes_ret hE b03
      go_wp2_with fail
      go_ret
      rw [HE.out]; exact hF
    · have e5 : (k == 5) = false := by simpa using h5
      have HE : Hid ((rqOfV k nm t x).enc = tx 2 (be 1 k ++ tx 1 (bl nm))) := by
        show Rq.enc _ = _
        simp [Rq.enc, Rq.body, Rq.tail, rqOfV, hw', h5]
      clear hw hw'
      go_wp2_with fail
      refine (headed_any (n := 2) h4 (by omega) (by omega) (by omega)).mono ?_
      intro e w4 hE
      obtain ⟨A, m, c, rfl, hF⟩ := bytes_ret hE b02
      go_wp2_with fail
      go_ret
      rw [HE.out]; exact hF
end Go.Proofs.Ytifdkkkcecpjoaa
end
section
/-
  frame's reader: bytes, number, text, ended: what each takes, and how the reader stands behind it.
-/
namespace Go.Proofs.Ytifdkkkcecpjoaa
open Go.RowKit
attribute [local go_sem ↓] Go.wp_at_zero Go.wp_at_succ

theorem only_drew {a w : World} {row : Option Nat} (h : a.grownBy w row) : a.grownBy w.drew row := ⟨h.os, h.tape, h.output, h.size, h.block⟩
theorem only_drewN {a w : World} {row : Option Nat} (h : a.grownBy w row) (n : Nat) : a.grownBy (w.drewN n) row := ⟨h.os, h.tape, h.output, h.size, h.block⟩
theorem only_alloc {a w : World} {row : Option Nat} (h : a.grownBy w row) (o : Obj) : a.grownBy (w.alloc o) row :=
  ⟨h.os, h.tape, h.output, Nat.le_trans h.size (by simp), fun i hi hne => (Below.heap_alloc w o i (Nat.lt_of_lt_of_le hi h.size)).trans (h.block i hi hne)⟩
theorem only_setCell {a w : World} {g : Nat} (h : a.grownBy w (some g)) {p : Addr} (hp : p.block = g ∨ a.heap.size ≤ p.block) (u : Value) : a.grownBy (w.setCell p u) (some g) :=
  ⟨h.os, h.tape, h.output, by simpa [World.setCell] using h.size, fun i hi hne => (Below.heap_setCell w p u i (by
    rintro rfl
    rcases hp with hp | hp
    · exact hne (by rw [hp])
    · omega)).trans (h.block i hi hne)⟩
theorem only_of_below {a w : World} (h : Below a.heap.size a w) (row : Option Nat) : a.grownBy w row := ⟨h.os, h.tape, h.output, h.size, fun i hi _ => h.block i hi⟩
theorem below_drewN {B : Nat} {a w : World} (h : Below B a w) (n : Nat) : Below B a (w.drewN n) := ⟨h.os, h.tape, h.output, h.size, h.block⟩
theorem only_trans {a b c : World} {row : Option Nat} (h : a.grownBy b row) (h' : b.grownBy c row) : a.grownBy c row :=
  ⟨h'.os.trans h.os, h'.tape.trans h.tape, h'.output.trans h.output, Nat.le_trans h.size h'.size, fun i hi hne => (h'.block i (Nat.lt_of_lt_of_le hi h.size) hne).trans (h.block i hi hne)⟩
theorem only_below {a b : World} {p : Nat} (h : a.grownBy b (some p)) {B : Nat} (hB : B ≤ a.heap.size) (hp : B ≤ p) : Below B a b :=
  ⟨h.os, h.tape, h.output, h.size, fun k hk => h.block k (by omega) (fun e => by injection e; omega)⟩

/-- A slice of bytes that reads as l, in blocks below B. -/
structure Sl (w : World) (B : Nat) (A : Option Addr) (n c : Nat) (l : List UInt8) : Prop where
  len : n = l.length
  cap : n ≤ c
  max : c ≤ maxLen
  rd : Reads w B 1 A n (bv l)

/-- A reader at block p. -/
structure Rdr (T : TypeId) (w : World) (B p : Nat) (A : Option Addr) (n c : Nat) (s : St) : Prop where
  hB : B ≤ p
  blk : w.heap[p]? = some (.cells #[.slice A n c, .bool s.bad] T (0, 0))
  sl : Sl w B A n c s.l

namespace Rdr
variable {T : TypeId} {w w' : World} {B p n c : Nat} {A : Option Addr} {s : St}
theorem lt (h : Rdr T w B p A n c s) : p < w.heap.size := by
  rcases Nat.lt_or_ge p w.heap.size with hlt | hge
  · exact hlt
  · have := h.blk; rw [Array.getElem?_eq_none hge] at this; cases this
theorem cell0 (h : Rdr T w B p A n c s) : w.cell? ⟨p, 0, none⟩ = some (.slice A n c) := cell_of_row w p 0 _ T (0, 0) h.blk
theorem cell1 (h : Rdr T w B p A n c s) : w.cell? ⟨p, 1, none⟩ = some (.bool s.bad) := cell_of_row w p 1 _ T (0, 0) h.blk
theorem free (h : Rdr T w B p A n c s) (o : Nat) : w.frozen? ⟨p, o, none⟩ = false := by simp [World.frozen?, h.blk]
theorem below (h : Rdr T w B p A n c s) (hb : Below w.heap.size w w') : Rdr T w' B p A n c s :=
  ⟨h.hB, (hb.block p h.lt).trans h.blk, ⟨h.sl.len, h.sl.cap, h.sl.max, h.sl.rd.below (hb.mono (Nat.le_trans h.hB (Nat.le_of_lt h.lt)))⟩⟩
end Rdr

theorem Sl.only {w w' : World} {B n c p : Nat} {A : Option Addr} {l : List UInt8} (h : Sl w B A n c l) (hg : w.grownBy w' (some p)) (hp : B ≤ p) (hB : B ≤ w.heap.size) : Sl w' B A n c l :=
  ⟨h.len, h.cap, h.max, h.rd.grown hg hB (fun g e => by injection e; omega)⟩
theorem Sl.below {w w' : World} {B n c : Nat} {A : Option Addr} {l : List UInt8} (h : Sl w B A n c l) (hb : Below B w w') : Sl w' B A n c l :=
  ⟨h.len, h.cap, h.max, h.rd.below hb⟩

def TookEnd (T : TypeId) (B p : Nat) (s : St) (k : Nat) (w : World) (e : Ending) (w' : World) : Prop :=
  ∃ A n c A' n' c', e = .returned (.slice A n c) ∧ Sl w' B A n c (s.takes k) ∧ Rdr T w' B p A' n' c' (s.behind k) ∧ w.grownBy w' (some p)

theorem Sl.cut {w : World} {B n c k : Nat} {A : Option Addr} {l : List UInt8} (h : Sl w B A n c l) (hk : k ≤ n) : Sl w B (if c = k then A else A.map (·.add k)) (n - k) (c - k) (l.drop k) where
  len := by rw [List.length_drop, h.len]
  cap := by have := h.cap; omega
  max := by have := h.max; omega
  rd := by
    have := h.rd.cut hk h.cap
    rw [Nat.mul_one] at this
    have e : (bv l).drop k = bv (l.drop k) := by simp [bv]
    rw [e] at this
    exact this
theorem Sl.head {w : World} {B n c k : Nat} {A : Option Addr} {l : List UInt8} (h : Sl w B A n c l) (hk : k ≤ n) : Sl w B A k k (l.take k) where
  len := by have := h.len; rw [List.length_take]; omega
  cap := Nat.le_refl _
  max := by have := h.max; have := h.cap; omega
  rd := by
    refine ⟨by have := h.len; simp [bv]; omega, fun h0 => ?_⟩
    obtain ⟨ad, e, hb, hc⟩ := h.rd.2 (by omega)
    refine ⟨ad, e, hb, fun j u hu => hc j u ?_⟩
    simp only [bv, List.map_take, List.getElem?_take] at hu
    split at hu
    · exact hu
    · cases hu
theorem Sl.nil_ (w : World) (B : Nat) : Sl w B none 0 0 [] where
  len := rfl
  cap := Nat.le_refl _
  max := Nat.zero_le _
  rd := ⟨rfl, fun h => absurd h (by omega)⟩

theorem Rdr.set {T : TypeId} {w : World} {B p n c n' c' : Nat} {A A' : Option Addr} {s : St} {l : List UInt8} (h : Rdr T w B p A n c s) (hs : Sl w B A' n' c' l) : Rdr T (w.setCell ⟨p, 0, none⟩ (.slice A' n' c')) B p A' n' c' ⟨l, s.bad⟩ ∧ w.grownBy (w.setCell ⟨p, 0, none⟩ (.slice A' n' c')) (some p) := by
  have hg : w.grownBy (w.setCell ⟨p, 0, none⟩ (.slice A' n' c')) (some p) := only_setCell (p := ⟨p, 0, none⟩) (World.grownBy.refl w (some p)) (.inl rfl) (.slice A' n' c')
  have hb : (w.setCell ⟨p, 0, none⟩ (.slice A' n' c')).heap[p]? = some (.cells #[.slice A' n' c', .bool s.bad] T (0, 0)) := by
    have := h.blk
    simp [World.setCell, Array.getElem?_modify, this]
  have hB : B ≤ w.heap.size := Nat.le_trans h.hB (Nat.le_of_lt h.lt)
  have hs' := hs.only hg h.hB hB
  exact ⟨⟨h.hB, hb, hs'⟩, hg⟩
theorem Rdr.fail {T : TypeId} {w : World} {B p n c : Nat} {A : Option Addr} {s : St} (h : Rdr T w B p A n c s) : Rdr T ((w.setCell ⟨p, 0, none⟩ (.slice none 0 0)).setCell ⟨p, 1, none⟩ (.bool true)) B p none 0 0 ⟨[], true⟩ ∧ w.grownBy ((w.setCell ⟨p, 0, none⟩ (.slice none 0 0)).setCell ⟨p, 1, none⟩ (.bool true)) (some p) := by
  have hg0 : w.grownBy (w.setCell ⟨p, 0, none⟩ (.slice none 0 0)) (some p) := only_setCell (p := ⟨p, 0, none⟩) (World.grownBy.refl w (some p)) (.inl rfl) (.slice none 0 0)
  have hg : w.grownBy ((w.setCell ⟨p, 0, none⟩ (.slice none 0 0)).setCell ⟨p, 1, none⟩ (.bool true)) (some p) := only_setCell (p := ⟨p, 1, none⟩) hg0 (.inl rfl) (.bool true)
  have hb : ((w.setCell ⟨p, 0, none⟩ (.slice none 0 0)).setCell ⟨p, 1, none⟩ (.bool true)).heap[p]? = some (.cells #[.slice none 0 0, .bool true] T (0, 0)) := by
    have := h.blk
    simp [World.setCell, Array.getElem?_modify, this]
  exact ⟨⟨h.hB, hb, Sl.nil_ _ _⟩, hg⟩

theorem St.takes_short {s : St} {k : Nat} (h : s.l.length < k) : s.takes k = [] := by unfold St.takes; rw [if_neg (by omega)]
theorem St.behind_short {s : St} {k : Nat} (h : s.l.length < k) : s.behind k = ⟨[], true⟩ := by unfold St.behind; rw [if_neg (by omega)]
theorem St.takes_long {s : St} {k : Nat} (h : k ≤ s.l.length) : s.takes k = s.l.take k := by unfold St.takes; rw [if_pos h]
theorem St.behind_long {s : St} {k : Nat} (h : k ≤ s.l.length) : s.behind k = ⟨s.l.drop k, s.bad⟩ := by unfold St.behind; rw [if_pos h]

set_option maxRecDepth 100000 in
set_option maxHeartbeats 400000 in
theorem bytes_any {w : World} {B p n c k : Nat} {A : Option Addr} {s : St} (h : Rdr 76 w B p A n c s) (hk : k ≤ 1000000000) :
    Calls Try.prog 46 #[.pointer (some ⟨p, 0, none⟩), .int .i64 k] w (TookEnd 76 B p s k w) := by
  have c0 := h.cell0
  have c1 := h.cell1
  have f0 := h.free 0
  have f1 := h.free 1
  have hn := h.sl.len
  have hc := h.sl.cap
  have hm := h.sl.max
  unfold maxLen at hm
  have HN := Lib.hid hn
  clear hn
  by_cases hlt : n < k
  · have HF := Lib.hid h.fail
    go_enter Try.func46, Try.ntmps46
    go_wp2_with fail
    go_ret
    have hsh : s.l.length < k := by have := HN.out; omega
    exact ⟨none, 0, 0, none, 0, 0, rfl, by rw [St.takes_short hsh]; exact Sl.nil_ _ _, by rw [St.behind_short hsh]; exact HF.out.1, HF.out.2⟩
  · have HH := Lib.hid (h.sl.head (k := k) (by omega))
    have hB := Lib.hid (And.intro h.hB (Nat.le_trans h.hB (Nat.le_of_lt h.lt)))
    have hcut := h.sl.cut (k := k) (by omega)
    have hle : k ≤ s.l.length := by have := HN.out; omega
    by_cases hck : c = k
    · subst hck
      obtain rfl : n = c := by omega
      rw [if_pos rfl, Nat.sub_self] at hcut
      have HC := Lib.hid (h.set hcut)
      clear h hcut
      go_enter Try.func46, Try.ntmps46
      go_wp2_with fail
      go_ret
      obtain ⟨h1, h2⟩ := HC.out
      exact ⟨A, n, n, _, _, _, rfl, by rw [St.takes_long hle]; exact HH.out.only h2 hB.out.1 hB.out.2, by rw [St.behind_long hle]; exact h1, h2⟩
    · rw [if_neg hck] at hcut
      have HC := Lib.hid (h.set hcut)
      clear h hcut
      go_enter Try.func46, Try.ntmps46
      go_wp2_with fail
      go_ret
      obtain ⟨h1, h2⟩ := HC.out
      exact ⟨A, k, k, _, _, _, rfl, by rw [St.takes_long hle]; exact HH.out.only h2 hB.out.1 hB.out.2, by rw [St.behind_long hle]; exact h1, h2⟩

theorem or_step (a : Nat) (x : UInt8) : bits BinOp.or IntKind.i64 (wrap64 (sgn a * 256)) (wrap64 (x.toNat : Int)) = sgn (a * 256 + x.toNat) := by
  have hx := x.toNat_lt
  have e1 : (BitVec.ofInt 64 (wrap64 (sgn a * 256))).toNat = 2 ^ 8 * (a % 2 ^ 56) := by
    rw [BitVec.toNat_ofInt]; unfold sgn wrap64; omega
  have e2 : (BitVec.ofInt 64 (wrap64 (x.toNat : Int))).toNat = x.toNat := by
    rw [BitVec.toNat_ofInt]; unfold wrap64; omega
  have e3 : (BitVec.ofInt 64 (wrap64 (sgn a * 256)) ||| BitVec.ofInt 64 (wrap64 (x.toNat : Int))).toNat = 2 ^ 8 * (a % 2 ^ 56) + x.toNat := by
    rw [BitVec.toNat_or, e1, e2, Nat.two_pow_add_eq_or_of_lt (by omega)]
  unfold bits
  refine (congrArg (fun n : Nat => IntKind.i64.wrap (n : Int)) e3).trans ?_
  rw [IntWalk.i64_left]
  unfold sgn wrap64
  omega

theorem un_take {l : List UInt8} {j : Nat} {x : UInt8} (h : l[j]? = some x) : un (l.take (j + 1)) 0 = un (l.take j) 0 * 256 + x.toNat := by
  rw [List.take_add_one, h, un_append]; rfl
theorem bv_get {l : List UInt8} {j : Nat} {u : Value} (h : (bv l)[j]? = some u) : ∃ x : UInt8, l[j]? = some x ∧ u = .int .u8 (x.toNat : Int) := by
  simp only [bv, List.getElem?_map, Option.map_eq_some_iff] at h
  obtain ⟨x, hx, rfl⟩ := h
  exact ⟨x, hx, rfl⟩

def NumEnd (T : TypeId) (B p : Nat) (s : St) (k : Nat) (w : World) (e : Ending) (w' : World) : Prop :=
  ∃ A' n' c', e = .returned (.int .i64 (sgn (s.num k))) ∧ Rdr T w' B p A' n' c' (s.behind k) ∧ w.grownBy w' (some p)

set_option maxRecDepth 100000 in
set_option maxHeartbeats 400000 in
theorem num_any {w : World} {B p n c k : Nat} {A : Option Addr} {s : St} (h : Rdr 76 w B p A n c s) (hk : k ≤ 8) :
    Calls Try.prog 34 #[.pointer (some ⟨p, 0, none⟩), .int .i64 k] w (NumEnd 76 B p s k w) := by
  have hlk := St.takes_length s k
  go_enter Try.func34, Try.ntmps34
  go_wp2_with fail
  refine (bytes_any h (by omega)).mono ?_
  rintro e w1 ⟨A1, n1, c1, A2, n2, c2, rfl, hs, hr, hg⟩
  have hn := hs.len
  have hm := hs.max
  have hcp := hs.cap
  have hrd := hs.rd
  have hN : n1 ≤ 8 := by omega
  have HN := Lib.hid hn
  clear hn hs h
  go_wp2_with fail
  go_loop [5, 12] (fun v i => ∃ j : Nat, j ≤ n1 ∧ i = .int .i64 j ∧ v = .int .i64 (sgn (un ((s.takes k).take j) 0))) (fun _ i => n1 - (intOf i).toNat)
  case atStart => exact ⟨0, Nat.zero_le _, rfl, by simp [un, sgn, wrap64]⟩
  case round =>
    obtain ⟨j, hj, rfl, rfl⟩ := hrel
    by_cases hlt : j < n1
    · obtain ⟨ad, u, rfl, -, hu, hcell⟩ := hrd.at_ hlt
      obtain ⟨x, hx, rfl⟩ := bv_get hu
      have HX := Lib.hid (un_take hx)
      clear hrd hu hx
      go_wp2_with fail
      go_round
      case rel => exact ⟨j + 1, by omega, by go_num, by rw [or_step, HX.out]⟩
      case measure => simp [intOf]; omega
    · obtain rfl : j = n1 := by omega
      go_wp2_with fail
      go_ret
      exact ⟨_, _, _, by rw [List.take_of_length_le (by rw [← HN.out]; omega)]; rfl, hr, hg⟩

def ba (l : List UInt8) : ByteArray := ⟨l.toArray⟩
theorem bl_ba (l : List UInt8) : bl (ba l) = l := by simp [bl, ba]
theorem ba_bl (s : ByteArray) : ba (bl s) = s := by cases s; simp [bl, ba]
theorem ba_size (l : List UInt8) : (ba l).size = l.length := by rw [← bl_length, bl_ba]

theorem sl_string {w : World} {B n c : Nat} {A : Option Addr} {l : List UInt8} (h : Sl w B A n c l) : (convert 23 9 (.slice A n c)).run Try.prog w = .ok (.string (ba l)) w := by
  have hn := h.len
  rcases Nat.eq_zero_or_pos n with h0 | h0
  · subst h0
    obtain rfl : l = [] := List.eq_nil_of_length_eq_zero hn.symm
    rw [run_convert_bytes_string w 23 9 5 _ 0 c Try.underlying23 Try.underlying5 Try.underlying9]
    cases A <;> simp [Conv.bytesToString, loadCells]
    all_goals rfl
  · obtain ⟨ad, rfl, -, hc⟩ := h.rd.2 h0
    subst hn
    refine run_convert_bytes_back w 23 9 5 ad c l Try.underlying23 Try.underlying5 Try.underlying9 (fun j hj => hc j _ ?_)
    simp [bv, List.getElem?_eq_getElem hj]

theorem num_lt (s : St) (k : Nat) : s.num k < 256 ^ k := by
  have h1 := un_lt (s.takes k) 0
  have h2 := St.takes_length s k
  have h3 : 256 ^ (s.takes k).length ≤ 256 ^ k := Nat.pow_le_pow_right (by omega) h2
  unfold St.num
  omega
theorem num_lt3 (s : St) {k : Nat} (hk : k ≤ 3) : s.num k < 16777216 :=
  Nat.lt_of_lt_of_le (num_lt s k) (Nat.le_trans (Nat.pow_le_pow_right (by omega) hk) (by omega))
theorem sgn_small {m : Nat} (h : m < 16777216) : sgn m = m := by unfold sgn wrap64; omega

def TextEnd (T : TypeId) (B p : Nat) (s : St) (k : Nat) (w : World) (e : Ending) (w' : World) : Prop :=
  ∃ A' n' c', e = .returned (.string (ba (s.txt k))) ∧ Rdr T w' B p A' n' c' (s.past k) ∧ w.grownBy w' (some p)

set_option maxRecDepth 100000 in
set_option maxHeartbeats 400000 in
theorem text_any {w : World} {B p n c k : Nat} {A : Option Addr} {s : St} (h : Rdr 76 w B p A n c s) (hk : k ≤ 3) :
    Calls Try.prog 35 #[.pointer (some ⟨p, 0, none⟩), .int .i64 k] w (TextEnd 76 B p s k w) := by
  have hm := num_lt3 s hk
  go_enter Try.func35, Try.ntmps35
  go_wp2_with fail
  refine (num_any h (by omega)).mono ?_
  rintro e w1 ⟨A1, n1, c1, rfl, hr, hg⟩
  rw [sgn_small hm]
  clear h
  go_wp2_with fail
  refine (bytes_any hr (by omega)).mono ?_
  rintro e w2 ⟨A2, n2, c2, A3, n3, c3, rfl, hs, hr2, hg2⟩
  have hcv := sl_string hs
  clear hs hr
  go_wp2_with fail
  go_ret
  exact ⟨_, _, _, rfl, hr2, only_trans hg hg2⟩

set_option maxRecDepth 100000 in
set_option maxHeartbeats 400000 in
theorem ended_any {w : World} {B p n c : Nat} {A : Option Addr} {s : St} (h : Rdr 76 w B p A n c s) :
    Calls Try.prog 36 #[.pointer (some ⟨p, 0, none⟩)] w fun e w' => e = .returned (.bool (!s.bad && s.l.isEmpty)) ∧ w = w' := by
  have c0 := h.cell0
  have c1 := h.cell1
  have hn := h.sl.len
  have he : s.l.isEmpty = decide (n = 0) := by rw [hn]; cases s.l <;> simp
  clear h
  rw [he]
  clear hn he
  obtain ⟨l, b⟩ := s
  cases b
  · go_enter Try.func36, Try.ntmps36
    go_wp2_with fail
    go_ret
    exact ⟨by by_cases hz : n = 0 <;> simp [hz], rfl⟩
  · go_enter Try.func36, Try.ntmps36
    go_wp2_with fail
    go_ret
    exact ⟨rfl, rfl⟩

def HeadEnd (w : World) (B k : Nat) (s : St) (e : Ending) (w' : World) : Prop :=
  ∃ A n c, e = .returned (.tuple #[.int .i64 (s.num k), .slice A n c, .bool (!((s.behind k).behind (s.num k)).bad)]) ∧ Sl w' B A n c (s.txt k) ∧ Below w.heap.size w w'

set_option maxRecDepth 100000 in
set_option maxHeartbeats 400000 in
theorem head_any {w : World} {B n c k : Nat} {A : Option Addr} {l : List UInt8} (h : Sl w B A n c l) (hB : B ≤ w.heap.size) (hk : k ≤ 3) :
    Calls Try.prog 33 #[.slice A n c, .int .i64 k] w (HeadEnd w B k ⟨l, false⟩) := by
  have hm := num_lt3 ⟨l, false⟩ hk
  obtain ⟨W1, hW1⟩ : ∃ W1, W1 = w.alloc (.cells #[.slice A n c, .bool false] 76) := ⟨_, rfl⟩
  have b1 : Below w.heap.size w W1 := by rw [hW1]; exact (Below.refl _ _).alloc (Nat.le_refl _) _
  have hR : Rdr 76 W1 B w.heap.size A n c ⟨l, false⟩ := ⟨hB, by rw [hW1]; exact heap_alloc_new w _, h.below (b1.mono hB)⟩
  have HW1 := Lib.hid hW1
  clear hW1
  go_enter Try.func33, Try.ntmps33
  go_wp2_with fail
  rw [← HW1.out]
  refine (num_any hR (by omega)).mono ?_
  rintro e w1 ⟨A1, n1, c1, rfl, hr, hg⟩
  rw [sgn_small hm]
  clear hR
  go_wp2_with fail
  refine (bytes_any hr (by omega)).mono ?_
  rintro e w2 ⟨A2, n2, c2, A3, n3, c3, rfl, hs, hr2, hg2⟩
  have cb := hr2.cell1
  clear hr
  go_wp2_with fail
  go_quiet (fail)
  go_wp2_with fail
  go_ret3
  have hB2 : Below w.heap.size w w2 := by
    have hg' := only_trans hg hg2
    exact b1.trans (only_below hg' b1.size (Nat.le_refl _))
  exact ⟨A2, n2, c2, rfl, ⟨hs.len, hs.cap, hs.max, hs.rd.drewN _⟩, below_drewN hB2 _⟩
end Go.Proofs.Ytifdkkkcecpjoaa
end
section
/-
  line.Word and work.Right: which words may be, which requests may be.
-/
namespace Go.Proofs.Ytifdkkkcecpjoaa
open Go.RowKit
attribute [local go_sem ↓] Go.wp_at_zero Go.wp_at_succ

theorem digit_any (c : UInt8) (w : World) : Calls Try.prog 68 #[.int .u8 (c.toNat : Int)] w fun e w' => e = .returned (.bool (isDigit c)) ∧ w = w' := by
  by_cases h1 : 48 ≤ c.toNat
  · have e : isDigit c = decide (c.toNat ≤ 57) := by simp [isDigit, h1]
    rw [e]
    have h1' : (48 : Int) ≤ (c.toNat : Int) := by omega
    clear e
    go_enter Try.func68, Try.ntmps68
    go_wp2_with fail
    go_ret
    exact ⟨by congr 2; simp; omega, rfl⟩
  · have e : isDigit c = false := by simp [isDigit, h1]
    rw [e]
    clear e
    have h1' : (c.toNat : Int) < 48 := by omega
    go_enter Try.func68, Try.ntmps68
    go_wp2_with fail
    go_ret
    exact ⟨rfl, rfl⟩

theorem inner_any (c : UInt8) (w : World) : Calls Try.prog 70 #[.int .u8 (c.toNat : Int)] w fun e w' => e = .returned (.bool (isInner c)) ∧ w = w' := by
  by_cases h1 : 97 ≤ c.toNat ∧ c.toNat ≤ 122
  · obtain ⟨h1, h2⟩ := h1
    have e : isInner c = true := by simp [isInner, h1, h2]
    rw [e]
    clear e
    have h1' : (97 : Int) ≤ (c.toNat : Int) := by omega
    have h2' : (c.toNat : Int) ≤ 122 := by omega
    go_enter Try.func70, Try.ntmps70
    go_wp2_with fail
    go_ret
    exact ⟨rfl, rfl⟩
  · by_cases h3 : c.toNat = 95
    · have e : isInner c = true := by simp [isInner, h3]
      rw [e]
      clear e
      have h3' : (c.toNat : Int) = 95 := by omega
      rw [h3']
      clear h3' h3 h1
      go_enter Try.func70, Try.ntmps70
      go_wp2_with fail
      go_ret
      exact ⟨rfl, rfl⟩
    · have e : isInner c = isDigit c := by
        unfold isInner
        have : (decide (97 ≤ c.toNat) && decide (c.toNat ≤ 122)) = false := by simpa using h1
        rw [this]; simp [h3]
      rw [e]
      clear e
      have h3' : ((c.toNat : Int) == 95) = false := by simp; omega
      by_cases h4 : 97 ≤ c.toNat
      · have h5 : decide ((c.toNat : Int) ≤ 122) = false := by simp; omega
        have h4' : (97 : Int) ≤ (c.toNat : Int) := by omega
        clear h1
        go_enter Try.func70, Try.ntmps70
        go_wp2_with (go_at_call 68; refine (digit_any c _).mono ?_; rintro e w' ⟨rfl, rfl⟩)
        go_ret
        exact ⟨rfl, rfl⟩
      · have h4' : (c.toNat : Int) < 97 := by omega
        clear h1
        go_enter Try.func70, Try.ntmps70
        go_wp2_with (go_at_call 68; refine (digit_any c _).mono ?_; rintro e w' ⟨rfl, rfl⟩)
        go_ret
        exact ⟨rfl, rfl⟩

theorem takeWhile_all {f : UInt8 → Bool} : ∀ {l : List UInt8}, l.all f = true → l.takeWhile f = l
  | [], _ => rfl
  | c :: l, h => by
    simp only [List.all_cons, Bool.and_eq_true] at h
    rw [List.takeWhile_cons, h.1, takeWhile_all h.2]; rfl
/-- How many at the begin are of a kind. -/
def frontOf (f : UInt8 → Bool) (l : List UInt8) : Nat := (l.takeWhile f).length

set_option maxHeartbeats 400000 in
theorem front70 (s : ByteArray) (w : World) (hs : s.size ≤ maxLen) :
    Calls Try.prog 69 #[.string s, .func (.func 70) #[] #[]] w fun e w' => e = .returned (.int .i64 (frontOf isInner (bl s))) ∧ w = w' := by
  unfold maxLen at hs
  go_enter Try.func69, Try.ntmps69
  go_wp2_with fail
  go_loop [5] (fun i => ∃ j : Nat, j ≤ s.size ∧ i = .int .i64 j ∧ Hid (((bl s).take j).all isInner = true)) (fun i => s.size - (intOf i).toNat)
  case atStart => exact ⟨0, Nat.zero_le _, rfl, by simp [Hid]⟩
  case round =>
    obtain ⟨j, hj, rfl, hall⟩ := hrel
    by_cases hlt : j < s.size
    · have hg : (bl s)[j]? = some s[j] := by simp [bl, hlt]; rfl
      cases hfx : isInner s[j] with
      | true =>
        have HX : Hid (((bl s).take (j + 1)).all isInner = true) := by
          show _ = _
          rw [List.take_add_one, hg, List.all_append, hall.out]
          simpa using hfx
        have HF := Lib.hid hfx
        clear hfx hg
        go_wp2_with (go_at_call 70; refine (inner_any s[j] _).mono ?_; rintro e w' ⟨rfl, rfl⟩; rw [HF.out])
        go_round
        case rel => exact ⟨j + 1, by omega, by go_num, HX⟩
        case measure => simp [intOf]; omega
      | false =>
        have HX : Hid (frontOf isInner (bl s) = j) := by
          show _ = _
          have e : bl s = (bl s).take j ++ s[j] :: (bl s).drop (j + 1) := by
            conv => lhs; rw [← List.take_append_drop j (bl s), List.drop_eq_getElem_cons (by simpa [bl] using hlt)]
            rfl
          unfold frontOf
          conv => lhs; rw [e]
          rw [List.takeWhile_append_of_pos (by simpa using hall.out), List.takeWhile_cons, hfx]
          simp [bl]; omega
        have HF := Lib.hid hfx
        clear hfx hg
        go_wp2_with (go_at_call 70; refine (inner_any s[j] _).mono ?_; rintro e w' ⟨rfl, rfl⟩; rw [HF.out])
        go_ret
        exact ⟨ret_int (by rw [HX.out]), rfl⟩
    · obtain rfl : j = s.size := by omega
      have HX : Hid (frontOf isInner (bl s) = s.size) := by
        show _ = _
        have e := hall.out
        rw [List.take_of_length_le (by simp [bl])] at e
        unfold frontOf
        rw [takeWhile_all e]
        simp [bl]
      go_wp2_with fail
      go_ret
      exact ⟨ret_int (by rw [HX.out]), rfl⟩

set_option maxHeartbeats 400000 in
theorem front68 (s : ByteArray) (w : World) (hs : s.size ≤ maxLen) :
    Calls Try.prog 69 #[.string s, .func (.func 68) #[] #[]] w fun e w' => e = .returned (.int .i64 (frontOf isDigit (bl s))) ∧ w = w' := by
  unfold maxLen at hs
  go_enter Try.func69, Try.ntmps69
  go_wp2_with fail
  go_loop [5] (fun i => ∃ j : Nat, j ≤ s.size ∧ i = .int .i64 j ∧ Hid (((bl s).take j).all isDigit = true)) (fun i => s.size - (intOf i).toNat)
  case atStart => exact ⟨0, Nat.zero_le _, rfl, by simp [Hid]⟩
  case round =>
    obtain ⟨j, hj, rfl, hall⟩ := hrel
    by_cases hlt : j < s.size
    · have hg : (bl s)[j]? = some s[j] := by simp [bl, hlt]; rfl
      cases hfx : isDigit s[j] with
      | true =>
        have HX : Hid (((bl s).take (j + 1)).all isDigit = true) := by
          show _ = _
          rw [List.take_add_one, hg, List.all_append, hall.out]
          simpa using hfx
        have HF := Lib.hid hfx
        clear hfx hg
        go_wp2_with (go_at_call 68; refine (digit_any s[j] _).mono ?_; rintro e w' ⟨rfl, rfl⟩; rw [HF.out])
        go_round
        case rel => exact ⟨j + 1, by omega, by go_num, HX⟩
        case measure => simp [intOf]; omega
      | false =>
        have HX : Hid (frontOf isDigit (bl s) = j) := by
          show _ = _
          have e : bl s = (bl s).take j ++ s[j] :: (bl s).drop (j + 1) := by
            conv => lhs; rw [← List.take_append_drop j (bl s), List.drop_eq_getElem_cons (by simpa [bl] using hlt)]
            rfl
          unfold frontOf
          conv => lhs; rw [e]
          rw [List.takeWhile_append_of_pos (by simpa using hall.out), List.takeWhile_cons, hfx]
          simp [bl]; omega
        have HF := Lib.hid hfx
        clear hfx hg
        go_wp2_with (go_at_call 68; refine (digit_any s[j] _).mono ?_; rintro e w' ⟨rfl, rfl⟩; rw [HF.out])
        go_ret
        exact ⟨ret_int (by rw [HX.out]), rfl⟩
    · obtain rfl : j = s.size := by omega
      have HX : Hid (frontOf isDigit (bl s) = s.size) := by
        show _ = _
        have e := hall.out
        rw [List.take_of_length_le (by simp [bl])] at e
        unfold frontOf
        rw [takeWhile_all e]
        simp [bl]
      go_wp2_with fail
      go_ret
      exact ⟨ret_int (by rw [HX.out]), rfl⟩

theorem frontOf_all (f : UInt8 → Bool) (l : List UInt8) : (frontOf f l = l.length) ↔ l.all f = true := by
  unfold frontOf
  constructor
  · intro h
    have e : l.takeWhile f = l := by
      have := List.takeWhile_prefix (p := f) (l := l)
      exact this.eq_of_length h
    rw [← e]
    exact List.all_takeWhile
  · intro h
    rw [takeWhile_all h]
theorem frontOf_le (f : UInt8 → Bool) (l : List UInt8) : frontOf f l ≤ l.length := (List.takeWhile_prefix _).length_le
end Go.Proofs.Ytifdkkkcecpjoaa
end
section
/-
  line.Word: which words may be.
-/
namespace Go.Proofs.Ytifdkkkcecpjoaa
open Go.RowKit
attribute [local go_sem ↓] Go.wp_at_zero Go.wp_at_succ

theorem bl_cons {s : ByteArray} (h : 0 < s.size) : ∃ l, bl s = s[0] :: l ∧ l.length = s.size - 1 ∧ bl (s.extract 1 s.size) = l := by
  have hl := bl_length s
  have e : (bl s)[0]? = some s[0] := by simp [bl, h]; rfl
  cases hb : bl s with
  | nil => rw [hb] at hl; simp at hl; omega
  | cons c l =>
    rw [hb] at e hl
    simp at e hl
    refine ⟨l, by rw [e], by omega, ?_⟩
    have : bl (s.extract 1 s.size) = (bl s).drop 1 := by
      simp [bl]
      rw [List.take_of_length_le (by simp)]
    rw [this, hb]; rfl

theorem ne_dec (q n : Nat) (h : 0 < n) : ((q : Int) != (n : Int) - 1) = !decide (q = n - 1) := by
  rw [Bool.eq_iff_iff]; simp; omega
theorem ret_bool {a b : Bool} (h : a = b) : Ending.returned (.bool a) = .returned (.bool b) := by rw [h]

set_option maxHeartbeats 800000 in
set_option maxRecDepth 100000 in
theorem word_any (s : ByteArray) (w : World) (hs : s.size ≤ maxLen) :
    Calls Try.prog 54 #[.string s] w fun e w' => e = .returned (.bool (isWord (bl s))) ∧ w = w' := by
  have HS := Lib.hid hs
  unfold maxLen at hs
  by_cases h0 : s.size = 0
  · obtain rfl : s = ⟨#[]⟩ := ByteArray.ext (Array.eq_empty_of_size_eq_zero h0)
    go_enter Try.func54, Try.ntmps54
    go_wp2_with fail
    go_ret
    exact ⟨rfl, rfl⟩
  · have hp : 0 < s.size := by omega
    have he : s.toList.isEmpty = false := by
      rw [Go.ByteArray.toList_eq]; cases hb : s.data.toList with
      | nil => exfalso; have := bl_length s; rw [bl, hb] at this; simp at this; omega
      | cons _ _ => rfl
    obtain ⟨l, hl, hll, hx⟩ := bl_cons hp
    have HL := Lib.hid hl
    have HX := Lib.hid hx
    have HLL := Lib.hid hll
    clear hl hx hll
    by_cases h12 : 12 < s.size
    · have h12' : (12 : Int) < (s.size : Int) := by omega
      have HE : Hid (isWord (bl s) = false) := by
        show _ = _
        have := HLL.out
        have h' : ¬ l.length ≤ 11 := by omega
        rw [HL.out]; simp [isWord, h']
      go_enter Try.func54, Try.ntmps54
      go_wp2_with fail
      go_ret
      exact ⟨ret_bool HE.out.symm, rfl⟩
    · have h12' : (s.size : Int) ≤ 12 := by omega
      cases hd : isDigit s[0] with
      | true =>
        have HE : Hid (isWord (bl s) = false) := by
          show _ = _
          rw [HL.out]; simp [isWord, hd]
        have HD := Lib.hid hd
        clear hd
        go_enter Try.func54, Try.ntmps54
        go_wp2_with (go_at_call 68; (with_reducible refine (digit_any _ _).mono ?_); rintro e w' ⟨rfl, rfl⟩; rw [HD.out])
        go_ret
        exact ⟨ret_bool HE.out.symm, rfl⟩
      | false =>
        have HD := Lib.hid hd
        clear hd
        have hfl := frontOf_le isInner (bl s)
        rw [bl_length] at hfl
        by_cases hin : frontOf isInner (bl s) = s.size
        · have hall : (bl s).all isInner = true := (frontOf_all _ _).1 (by rw [hin, bl_length])
          have hin' : isInner s[0] = true ∧ l.all isInner = true := by
            rw [HL.out, List.all_cons, Bool.and_eq_true] at hall; exact hall
          have HW : Hid (isWord (bl s) = (decide (s[0].toNat ≠ 114) || decide (s.size = 1) || !(l.all isDigit))) := by
            show _ = _
            have h1 := HLL.out
            have h2 : l.length ≤ 11 := by omega
            have h3 : l.isEmpty = decide (s.size = 1) := by
              cases l with
              | nil => simp at h1; simp; omega
              | cons _ _ => simp at h1; simp; omega
            rw [HL.out, isWord, HD.out, hin'.1, hin'.2, h3]; simp [h2]
          have HIN := Lib.hid hin
          clear hin hall hin'
          by_cases hr : s[0].toNat = 114
          · have hr' : ((s[0].toNat : Int) != 114) = false := by simp; omega
            by_cases h1 : s.size = 1
            · have HR : Hid (isWord (bl s) = true) := by show _ = _; rw [HW.out]; simp [h1]
              clear hr
              have h1' : ((s.size : Int) == 1) = true := by simp; omega
              have H1 := Lib.hid h1
              clear h1
              go_enter Try.func54, Try.ntmps54
              go_wp2_with (first | (go_at_call 68; (with_reducible refine (digit_any _ _).mono ?_); rintro e w' ⟨rfl, rfl⟩; rw [HD.out]) | (go_at_call 69; (with_reducible refine (front70 s _ HS.out).mono ?_); rintro e w' ⟨rfl, rfl⟩; rw [HIN.out]))
              go_ret
              exact ⟨ret_bool HR.out.symm, rfl⟩
            · have h1' : ((s.size : Int) == 1) = false := by simp; omega
              have HR : Hid (isWord (bl s) = !(l.all isDigit)) := by show _ = _; rw [HW.out]; simp [h1, hr]
              have HF : Hid (decide (frontOf isDigit (bl (s.extract 1 s.size)) = s.size - 1) = l.all isDigit) := by
                show _ = _
                have := frontOf_all isDigit l
                rw [HLL.out] at this
                rw [HX.out, Bool.eq_iff_iff, decide_eq_true_iff]
                exact this
              have hs2 : (s.extract 1 s.size).size ≤ maxLen := by have := HS.out; simp; omega
              have hfl2 := frontOf_le isDigit (bl (s.extract 1 s.size))
              clear hr
              go_enter Try.func54, Try.ntmps54
              go_wp2_with (first | (go_at_call 68; (with_reducible refine (digit_any _ _).mono ?_); rintro e w' ⟨rfl, rfl⟩; rw [HD.out]) | (go_at_call 69; (with_reducible refine (front70 s _ HS.out).mono ?_); rintro e w' ⟨rfl, rfl⟩; rw [HIN.out]) | (go_at_call 69; (with_reducible refine (front68 (s.extract 1 s.size) _ hs2).mono ?_); rintro e w' ⟨rfl, rfl⟩))
              go_ret
              refine ⟨ret_bool ?_, rfl⟩
              rw [HR.out, ← HF.out]
              exact ne_dec _ _ hp
          · have hr' : ((s[0].toNat : Int) != 114) = true := by simp; omega
            have HR : Hid (isWord (bl s) = true) := by show _ = _; rw [HW.out]; simp [hr]
            clear hr
            go_enter Try.func54, Try.ntmps54
            go_wp2_with (first | (go_at_call 68; (with_reducible refine (digit_any _ _).mono ?_); rintro e w' ⟨rfl, rfl⟩; rw [HD.out]) | (go_at_call 69; (with_reducible refine (front70 s _ HS.out).mono ?_); rintro e w' ⟨rfl, rfl⟩; rw [HIN.out]))
            go_ret
            exact ⟨ret_bool HR.out.symm, rfl⟩
        · have HE : Hid (isWord (bl s) = false) := by
            show _ = _
            cases hw : isWord (bl s) with
            | false => rfl
            | true =>
              exfalso
              apply hin
              rw [← bl_length s]
              refine (frontOf_all _ _).2 ?_
              rw [HL.out] at hw ⊢
              simp only [isWord, Bool.and_eq_true] at hw
              rw [List.all_cons, hw.1.1.2, hw.1.2]; rfl
          have hlt : ((frontOf isInner (bl s) : Int) != (s.size : Int)) = true := by simp; omega
          clear hfl hin
          go_enter Try.func54, Try.ntmps54
          go_wp2_with (first | (go_at_call 68; (with_reducible refine (digit_any _ _).mono ?_); rintro e w' ⟨rfl, rfl⟩; rw [HD.out]) | (go_at_call 69; (with_reducible refine (front70 s _ HS.out).mono ?_); rintro e w' ⟨rfl, rfl⟩))
          go_ret
          exact ⟨ret_bool HE.out.symm, rfl⟩
end Go.Proofs.Ytifdkkkcecpjoaa
end
section
/-
  work.Right: which requests may be.
-/
namespace Go.Proofs.Ytifdkkkcecpjoaa
open Go.RowKit
attribute [local go_sem ↓] Go.wp_at_zero Go.wp_at_succ

theorem wwrites_any (k : Int) (w : World) : Calls Try.prog 55 #[.int .i64 k] w fun e w' => e = .returned (.bool (writesB k)) ∧ w = w' := by
  by_cases h1 : k = 1
  · subst h1
    go_enter Try.func55, Try.ntmps55
    go_wp2_with fail
    go_ret
    exact ⟨rfl, rfl⟩
  · have e1 : (k == 1) = false := by simpa using h1
    have e2 : writesB k = decide (k = 3) := by simp [writesB, h1]
    rw [e2]
    go_enter Try.func55, Try.ntmps55
    go_wp2_with fail
    go_ret
    exact ⟨by by_cases h : k = 3 <;> simp [h], rfl⟩
theorem value_cases (x k : Int) : (x < -1099511627776 ∧ (decide (-1099511627776 ≤ x) && decide (x ≤ 1099511627776) && (decide (x = 0) || decide (k = 5))) = false) ∨
    (-1099511627776 ≤ x ∧ 1099511627776 < x ∧ (decide (-1099511627776 ≤ x) && decide (x ≤ 1099511627776) && (decide (x = 0) || decide (k = 5))) = false) ∨
    (x = 0 ∧ (decide (-1099511627776 ≤ x) && decide (x ≤ 1099511627776) && (decide (x = 0) || decide (k = 5))) = true) ∨
    (-1099511627776 ≤ x ∧ x ≤ 1099511627776 ∧ (x == 0) = false ∧ (decide (-1099511627776 ≤ x) && decide (x ≤ 1099511627776) && (decide (x = 0) || decide (k = 5))) = decide (k = 5)) := by
  by_cases h1 : x < -1099511627776
  · left; exact ⟨h1, by simp; omega⟩
  · by_cases h2 : 1099511627776 < x
    · right; left; exact ⟨by omega, h2, by simp; omega⟩
    · by_cases h3 : x = 0
      · right; right; left; exact ⟨h3, by subst h3; simp⟩
      · right; right; right; exact ⟨by omega, by omega, by simpa using h3, by
          have a : decide (-1099511627776 ≤ x) = true := by simp; omega
          have b : decide (x ≤ 1099511627776) = true := by simp; omega
          rw [a, b]; simp [h3]⟩
theorem wdefines_any (k : Int) (w : World) : Calls Try.prog 56 #[.int .i64 k] w fun e w' => e = .returned (.bool (decide (k = 5))) ∧ w = w' := by
  go_enter Try.func56, Try.ntmps56
  go_wp2_with fail
  go_ret
  exact ⟨by by_cases h : k = 5 <;> simp [h], rfl⟩

def RightEnd (b : Bool) (w : World) (e : Ending) (w' : World) : Prop := e = .returned (.bool b) ∧ Below w.heap.size w w'

set_option maxRecDepth 100000 in
set_option maxHeartbeats 1600000 in
theorem right_any (k : Int) (nm t : ByteArray) (x : Int) (w : World) (h1 : nm.size ≤ maxLen) :
    Calls Try.prog 37 #[rqv k nm t x] w (RightEnd (rqOfV k nm t x).right w) := by
  unfold rqv
  by_cases hk : k < 1
  · have HE : Hid ((rqOfV k nm t x).right = false) := by show _ = _; unfold Rq.right; rw [if_pos (.inl hk)]
    go_enter Try.func37, Try.ntmps37
    go_wp2_with fail
    go_ret
    exact ⟨ret_bool HE.out.symm, (Below.refl _ _).alloc (Nat.le_refl _) _⟩
  · by_cases hk7 : 7 < k
    · have HE : Hid ((rqOfV k nm t x).right = false) := by show _ = _; unfold Rq.right; rw [if_pos (.inr hk7)]
      go_enter Try.func37, Try.ntmps37
      go_wp2_with fail
      go_ret
      exact ⟨ret_bool HE.out.symm, (Below.refl _ _).alloc (Nat.le_refl _) _⟩
    · by_cases hb : k = 7
      · subst hb
        have HE : Hid ((rqOfV 7 nm t x).right = (decide (nm.toList = []) && decide (t.toList = []) && decide (x = 0))) := by
          show _ = _
          unfold Rq.right
          rw [if_neg (by simp [rqOfV]), if_pos (show (rqOfV 7 nm t x).kind = 7 from rfl), Go.ByteArray.toList_eq, Go.ByteArray.toList_eq, Bool.eq_iff_iff]
          simp [rqOfV, bl, and_assoc]
        go_enter Try.func37, Try.ntmps37
        go_wp2_with fail
        all_goals
          go_ret
          exact ⟨ret_bool (by first | (rw [HE.out]; simp [*]; done) | (rename_i hx0; rw [hx0] at HE; rw [HE.out]; simp [*])), (Below.refl _ _).alloc (Nat.le_refl _) _⟩
      · have hb' : (k == 7) = false := by simpa using hb
        have HE : Hid ((rqOfV k nm t x).right = (isWord (bl nm) && decide (t.size ≤ 600) && (t.toList.isEmpty || writesB k) && decide (-1099511627776 ≤ x) && decide (x ≤ 1099511627776) && (decide (x = 0) || decide (k = 5)))) := by
          show _ = _
          unfold Rq.right
          rw [if_neg (by simp [rqOfV]; omega), if_neg (show ¬ (rqOfV k nm t x).kind = 7 from hb), Go.ByteArray.toList_eq]
          simp only [rqOfV, bl_length]
          rfl
        have hb := ((Below.refl w.heap.size w).alloc (Nat.le_refl _) (.cells #[.int .i64 k, .string nm, .string t, .int .i64 x] 27))
        cases hw : isWord (bl nm) with
        | false =>
          have HR : Hid ((rqOfV k nm t x).right = false) := by show _ = _; rw [HE.out, hw]; rfl
          have HW := Lib.hid hw
          clear hw HE
          go_enter Try.func37, Try.ntmps37
          go_wp2_with (go_at_call 54; (with_reducible refine (word_any nm _ h1).mono ?_); rintro e w' ⟨rfl, rfl⟩; rw [HW.out])
          go_ret
          exact ⟨ret_bool HR.out.symm, hb⟩
        | true =>
          have HW := Lib.hid hw
          by_cases h6 : 600 < t.size
          · have HR : Hid ((rqOfV k nm t x).right = false) := by show _ = _; rw [HE.out]; simp; omega
            have h6' : (600 : Int) < (t.size : Int) := by omega
            clear hw HE
            go_enter Try.func37, Try.ntmps37
            go_wp2_with (go_at_call 54; (with_reducible refine (word_any nm _ h1).mono ?_); rintro e w' ⟨rfl, rfl⟩; rw [HW.out])
            go_ret
            exact ⟨ret_bool HR.out.symm, hb⟩
          · have h6' : (t.size : Int) ≤ 600 := by omega
            have h6d : decide (t.size ≤ 600) = true := by simpa using h6
            cases he : t.toList.isEmpty with
            | false =>
              have HK := Lib.hid (wwrites_any k)
              cases hwk : writesB k with
              | false =>
                have HR : Hid ((rqOfV k nm t x).right = false) := by show _ = _; rw [HE.out, he, hwk]; simp
                have HV := Lib.hid hwk
                clear hw HE hwk h6d
                go_enter Try.func37, Try.ntmps37
                go_wp2_with (first | (go_at_call 54; (with_reducible refine (word_any nm _ h1).mono ?_); rintro e w' ⟨rfl, rfl⟩; rw [HW.out]) | (go_at_call 55; (with_reducible refine (wwrites_any k _).mono ?_); rintro e w' ⟨rfl, rfl⟩; rw [HV.out]))
                go_ret
                exact ⟨ret_bool HR.out.symm, hb⟩
              | true =>
                have HR : Hid ((rqOfV k nm t x).right = (decide (-1099511627776 ≤ x) && decide (x ≤ 1099511627776) && (decide (x = 0) || decide (k = 5)))) := by show _ = _; rw [HE.out, he, hwk, hw, h6d]; rfl
                have HV := Lib.hid hwk
                clear hw HE hwk h6d
                rcases value_cases x k with ⟨d1, hv⟩ | ⟨d1, d2, hv⟩ | ⟨rfl, hv⟩ | ⟨d1, d2, d3, hv⟩
                all_goals
                  rw [hv] at HR
                  clear hv
                  go_enter Try.func37, Try.ntmps37
                  go_wp2_with (first | (go_at_call 54; (with_reducible refine (word_any nm _ h1).mono ?_); rintro e w' ⟨rfl, rfl⟩; rw [HW.out]) | (go_at_call 55; (with_reducible refine (wwrites_any k _).mono ?_); rintro e w' ⟨rfl, rfl⟩; rw [HV.out]) | (go_at_call 56; (with_reducible refine (wdefines_any k _).mono ?_); rintro e w' ⟨rfl, rfl⟩))
                  go_ret
                  exact ⟨ret_bool HR.out.symm, hb⟩
            | true =>
              have HR : Hid ((rqOfV k nm t x).right = (decide (-1099511627776 ≤ x) && decide (x ≤ 1099511627776) && (decide (x = 0) || decide (k = 5)))) := by show _ = _; rw [HE.out, he, hw, h6d]; rfl
              clear hw HE h6d
              rcases value_cases x k with ⟨d1, hv⟩ | ⟨d1, d2, hv⟩ | ⟨rfl, hv⟩ | ⟨d1, d2, d3, hv⟩
              all_goals
                rw [hv] at HR
                clear hv
                go_enter Try.func37, Try.ntmps37
                go_wp2_with (first | (go_at_call 54; (with_reducible refine (word_any nm _ h1).mono ?_); rintro e w' ⟨rfl, rfl⟩; rw [HW.out]) | (go_at_call 56; (with_reducible refine (wdefines_any k _).mono ?_); rintro e w' ⟨rfl, rfl⟩))
                go_ret
                exact ⟨ret_bool HR.out.symm, hb⟩
end Go.Proofs.Ytifdkkkcecpjoaa
end
section
/-
  frame.ReadRequest: what any bytes are read as.
-/
namespace Go.Proofs.Ytifdkkkcecpjoaa
open Go.RowKit
attribute [local go_sem ↓] Go.wp_at_zero Go.wp_at_succ

def rqvOf (r : Rq) : Value := rqv r.kind (ba r.name) (ba r.text) r.value

/-- The result's block and the reader's. -/
structure RS (w : World) (r0 p B : Nat) (k : Int) (nm t : ByteArray) (v : Int) (s : St) : Prop where
  blk : w.heap[r0]? = some (.cells #[.int .i64 k, .string nm, .string t, .int .i64 v] 27 (0, 0))
  rd : ∃ A n c, Rdr 76 w B p A n c s
  hlt : r0 < p
  hB : B ≤ r0
namespace RS
variable {w w' : World} {r0 p B : Nat} {k v : Int} {nm t : ByteArray} {s s' : St}
theorem lt (h : RS w r0 p B k nm t v s) : r0 < w.heap.size := by
  obtain ⟨A, n, c, hr⟩ := h.rd
  have := hr.lt
  have := h.hlt
  omega
theorem read {A : Option Addr} {n c : Nat} (h : RS w r0 p B k nm t v s) (hr : Rdr 76 w' B p A n c s') (hg : w.grownBy w' (some p)) : RS w' r0 p B k nm t v s' :=
  ⟨(hg.block r0 h.lt (fun e => by injection e; have := h.hlt; omega)).trans h.blk, ⟨A, n, c, hr⟩, h.hlt, h.hB⟩
theorem free (h : RS w r0 p B k nm t v s) (o : Nat) : w.frozen? ⟨r0, o, none⟩ = false := by simp [World.frozen?, h.blk]
theorem cell (h : RS w r0 p B k nm t v s) : w.cell? ⟨r0, 0, none⟩ = some (.int .i64 k) ∧ w.cell? ⟨r0, 1, none⟩ = some (.string nm) ∧ w.cell? ⟨r0, 2, none⟩ = some (.string t) ∧ w.cell? ⟨r0, 3, none⟩ = some (.int .i64 v) := box4 h.blk
theorem keep (h : RS w r0 p B k nm t v s) (o : Nat) (u : Value) : ∃ A n c, Rdr 76 (w.setCell ⟨r0, o, none⟩ u) B p A n c s := by
  obtain ⟨A, n, c, hr⟩ := h.rd
  have hlt := h.hlt
  have hB := h.hB
  have hl := hr.lt
  refine ⟨A, n, c, hr.hB, (Below.heap_setCell w ⟨r0, o, none⟩ u p (fun e => ?_)).trans hr.blk, ⟨hr.sl.len, hr.sl.cap, hr.sl.max, hr.sl.rd.setCell hB u⟩⟩
  have : p = r0 := e
  omega
theorem set0 (h : RS w r0 p B k nm t v s) (x : Int) : RS (w.setCell ⟨r0, 0, none⟩ (.int .i64 x)) r0 p B x nm t v s :=
  ⟨by have := h.blk; simp [World.setCell, Array.getElem?_modify, this], h.keep 0 _, h.hlt, h.hB⟩
theorem set1 (h : RS w r0 p B k nm t v s) (x : ByteArray) : RS (w.setCell ⟨r0, 1, none⟩ (.string x)) r0 p B k x t v s :=
  ⟨by have := h.blk; simp [World.setCell, Array.getElem?_modify, this], h.keep 1 _, h.hlt, h.hB⟩
theorem set2 (h : RS w r0 p B k nm t v s) (x : ByteArray) : RS (w.setCell ⟨r0, 2, none⟩ (.string x)) r0 p B k nm x v s :=
  ⟨by have := h.blk; simp [World.setCell, Array.getElem?_modify, this], h.keep 2 _, h.hlt, h.hB⟩
theorem set3 (h : RS w r0 p B k nm t v s) (x : Int) : RS (w.setCell ⟨r0, 3, none⟩ (.int .i64 x)) r0 p B k nm t x s :=
  ⟨by have := h.blk; simp [World.setCell, Array.getElem?_modify, this], h.keep 3 _, h.hlt, h.hB⟩
end RS

theorem head_short {l : List UInt8} (h : l.length < 2) : (!(((St.mk l false).behind 2).behind ((St.mk l false).num 2)).bad) = false := by
  rw [St.behind_short (s := ⟨l, false⟩) (k := 2) h]
  simp [St.behind]

theorem head_cut {l : List UInt8} (h : 2 ≤ l.length) (h' : l.length < 2 + (St.mk l false).num 2) : (!(((St.mk l false).behind 2).behind ((St.mk l false).num 2)).bad) = false := by
  rw [St.behind_long (s := ⟨l, false⟩) h, St.behind_short (by simp; omega)]; rfl
theorem head_ok {l : List UInt8} (h : 2 + (St.mk l false).num 2 ≤ l.length) : (!(((St.mk l false).behind 2).behind ((St.mk l false).num 2)).bad) = true ∧ (St.mk l false).txt 2 = (l.drop 2).take ((St.mk l false).num 2) := by
  have e := St.behind_long (s := ⟨l, false⟩) (k := 2) (by show 2 ≤ l.length; omega)
  have hn : (St.mk l false).num 2 ≤ ((St.mk l false).behind 2).l.length := by rw [e]; simp; omega
  refine ⟨by rw [St.behind_long hn, e]; rfl, by rw [St.txt, St.takes_long hn, e]⟩

theorem put4 {w : World} {r : Nat} {t : TypeId} {a b c d : Value} (h : w.heap[r]? = some (.cells #[a, b, c, d] t (0, 0))) (a' b' c' d' : Value) :
    ((((w.setCell ⟨r, 0, none⟩ a').setCell ⟨r, 1, none⟩ b').setCell ⟨r, 2, none⟩ c').setCell ⟨r, 3, none⟩ d').heap[r]? = some (.cells #[a', b', c', d'] t (0, 0)) := by
  simp [World.setCell, Array.getElem?_modify, h]
theorem put4_below {w0 w : World} {B r : Nat} (h : Below B w0 w) (hr : B ≤ r) (a' b' c' d' : Value) :
    Below B w0 ((((w.setCell ⟨r, 0, none⟩ a').setCell ⟨r, 1, none⟩ b').setCell ⟨r, 2, none⟩ c').setCell ⟨r, 3, none⟩ d') :=
  (((h.setCell (p := ⟨r, 0, none⟩) hr _).setCell (p := ⟨r, 1, none⟩) hr _).setCell (p := ⟨r, 2, none⟩) hr _).setCell (p := ⟨r, 3, none⟩) hr _

theorem bad3 : ∀ {a b x : Bool}, (!a && b) = false → (a || !b || !x) = true := by decide
theorem good3 : ∀ {a b x : Bool}, (!a && b) = true → x = true → (a || !b || !x) = false := by decide
theorem bl_nil : bl ⟨#[]⟩ = [] := rfl
theorem txt_len (s : St) {k : Nat} (hk : k ≤ 3) : (ba (s.txt k)).size ≤ maxLen := by
  have h1 := St.takes_length (s.behind k) (s.num k)
  have h2 := num_lt3 s hk
  rw [ba_size]
  unfold maxLen St.txt
  omega

def RdEnd (l : List UInt8) (w : World) (e : Ending) (w' : World) : Prop :=
  e = .returned (.tuple #[rqvOf (rqRead l).1, .int .i64 (rqRead l).2.1, .int .i64 (rqRead l).2.2]) ∧ Below w.heap.size w w'

set_option maxRecDepth 100000 in
set_option maxHeartbeats 6400000 in
theorem readRequest_any {w : World} {B n c : Nat} {A : Option Addr} {l : List UInt8} (h : Sl w B A n c l) (hB : B ≤ w.heap.size) :
    Calls Try.prog 17 #[.slice A n c] w (RdEnd l w) := by
  obtain ⟨W1, hW1⟩ : ∃ W1, W1 = w.alloc (.cells #[.int .i64 0, .string ⟨#[]⟩, .string ⟨#[]⟩, .int .i64 0] 27) := ⟨_, rfl⟩
  have b1 : Below w.heap.size w W1 := by rw [hW1]; exact (Below.refl _ _).alloc (Nat.le_refl _) _
  have hq : W1.heap[w.heap.size]? = some (.cells #[.int .i64 0, .string ⟨#[]⟩, .string ⟨#[]⟩, .int .i64 0] 27 (0, 0)) := by rw [hW1]; exact heap_alloc_new w _
  have hs1 : w.heap.size < W1.heap.size := by rw [hW1]; simp
  have h1 : Sl W1 B A n c l := h.below (b1.mono hB)
  have hln := h.len
  have HW1 := Lib.hid hW1
  have HQ := Lib.hid hq
  have HLN := Lib.hid hln
  have hcp := h1.cap
  have hmx := h1.max
  unfold maxLen at hmx
  clear hW1 hq h hln
  go_enter Try.func17, Try.ntmps17
  go_wp2_with fail
  rw [← HW1.out]
  refine (head_any h1 (by omega) (k := 2) (by omega)).mono ?_
  rintro e w2 ⟨A2, n2, c2, rfl, h2, b2⟩
  have b02 : Below w.heap.size w w2 := b1.trans (b2.mono (by omega))
  have HQ2 := Lib.hid ((b2.block w.heap.size hs1).trans HQ.out)
  have hs2 := b2.size
  obtain ⟨c0, c1, c2', c3⟩ := box4 HQ2.out
  have hn2 : (St.mk l false).num 2 < 65536 := num_lt _ 2
  have f0 : ∀ o, w2.frozen? ⟨w.heap.size, o, none⟩ = false := fun o => by have := HQ2.out; simp [World.frozen?, this]
  have f00 := f0 0
  have f01 := f0 1
  have f02 := f0 2
  have f03 := f0 3
  have hs12 : w.heap.size < w2.heap.size := by omega
  clear f0 b1 b2 h1 HQ hs1
  by_cases hl2 : l.length < 2
  · have HR : Hid (rqRead l = (noRq, 0, 0)) := by show _ = _; unfold rqRead; rw [if_pos hl2]
    rw [head_short hl2]
    have hn2' : (n : Int) < 2 := by have := HLN.out; omega
    go_wp2_with fail
    obtain ⟨q0, q1, q2, q3⟩ := box4 (put4 HQ2.out (.int .i64 0) (.string ⟨#[]⟩) (.string ⟨#[]⟩) (.int .i64 0))
    refine bodyPost_ret (v := .tuple #[rqvOf noRq, .int .i64 0, .int .i64 0]) (by simp [results, Try.results17, go_sem, q0, q1, q2, q3]; rfl) rfl ⟨by rw [HR.out]; rfl, put4_below b02 (Nat.le_refl _) _ _ _ _⟩
  · by_cases hbig : 1000 < (St.mk l false).num 2
    · have HR : Hid (rqRead l = (noRq, 0, 8)) := by show _ = _; unfold rqRead; rw [if_neg hl2, if_pos hbig]
      have hn2' : (2 : Int) ≤ (n : Int) := by have := HLN.out; omega
      have hb' : (1000 : Int) < ((St.mk l false).num 2 : Int) := by omega
      clear hbig hl2
      go_wp2_with fail
      obtain ⟨q0, q1, q2, q3⟩ := box4 (put4 HQ2.out (.int .i64 0) (.string ⟨#[]⟩) (.string ⟨#[]⟩) (.int .i64 0))
      refine bodyPost_ret (v := .tuple #[rqvOf noRq, .int .i64 0, .int .i64 8]) (by simp [results, Try.results17, go_sem, q0, q1, q2, q3]; rfl) rfl ⟨by rw [HR.out]; rfl, put4_below b02 (Nat.le_refl _) _ _ _ _⟩
    · have hn2' : (2 : Int) ≤ (n : Int) := by have := HLN.out; omega
      have hb' : ((St.mk l false).num 2 : Int) ≤ 1000 := by omega
      by_cases hcut : l.length < 2 + (St.mk l false).num 2
      · have HR : Hid (rqRead l = (noRq, 0, 0)) := by show _ = _; unfold rqRead; rw [if_neg hl2, if_neg hbig, if_pos hcut]
        rw [head_cut (by omega) hcut]
        clear hbig hl2 hcut
        go_wp2_with fail
        obtain ⟨q0, q1, q2, q3⟩ := box4 (put4 HQ2.out (.int .i64 0) (.string ⟨#[]⟩) (.string ⟨#[]⟩) (.int .i64 0))
        refine bodyPost_ret (v := .tuple #[rqvOf noRq, .int .i64 0, .int .i64 0]) (by simp [results, Try.results17, go_sem, q0, q1, q2, q3]; rfl) rfl ⟨by rw [HR.out]; rfl, put4_below b02 (Nat.le_refl _) _ _ _ _⟩
      · have HR : Hid (rqRead l = let x := rqOf ((l.drop 2).take ((St.mk l false).num 2)); if x.2.bad || !x.2.l.isEmpty || !x.1.right then (noRq, (St.mk l false).num 2 + 2, 12) else (x.1, (St.mk l false).num 2 + 2, 0)) := by
          show _ = _; unfold rqRead; rw [if_neg hl2, if_neg hbig, if_neg hcut]
        obtain ⟨ho1, ho2⟩ := head_ok (l := l) (by omega)
        rw [ho1]
        rw [ho2] at h2
        clear hbig hl2 hcut ho1 ho2
        generalize (l.drop 2).take ((St.mk l false).num 2) = m at *
        go_wp2_with fail
        obtain ⟨W3, hW3⟩ : ∃ W3, W3 = w2.alloc (.cells #[.slice A2 n2 c2, .bool false] 76) := ⟨_, rfl⟩
        have b3 : Below w2.heap.size w2 W3 := by rw [hW3]; exact (Below.refl _ _).alloc (Nat.le_refl _) _
        have hB2 : B ≤ w2.heap.size := by omega
        have hR3 : Rdr 76 W3 B w2.heap.size A2 n2 c2 (St.mk m false) := ⟨hB2, by rw [hW3]; exact heap_alloc_new w2 _, h2.below (b3.mono hB2)⟩
        have hS3 : RS W3 w.heap.size w2.heap.size B 0 ⟨#[]⟩ ⟨#[]⟩ 0 (St.mk m false) := ⟨(b3.block _ (by omega)).trans HQ2.out, ⟨_, _, _, hR3⟩, by omega, hB⟩
        have b03 : Below w.heap.size w W3 := b02.trans (b3.mono (by omega))
        rw [← hW3]
        clear hW3 b3 b02 HQ2 c0 c1 c2' c3 f00 f01 f02 f03 h2
        refine (num_any (k := 1) hR3 (by omega)).mono ?_
        rintro e w4 ⟨A4, n4, c4, rfl, hr4, hg4⟩
        rw [sgn_small (num_lt3 (St.mk m false) (k := 1) (by omega))]
        have hS4 := hS3.read hr4 hg4
        have b04 : Below w.heap.size w w4 := b03.trans (only_below hg4 (by have := hS3.lt; omega) (by omega))
        obtain ⟨q0, -, -, -⟩ := hS4.cell
        have F0 := hS4.free 0
        clear b03 hS3 hR3 hg4 hr4
        go_wp2_with fail
        have hS5 := hS4.set0 (((St.mk m false).num 1 : Nat) : Int)
        have b05 : Below w.heap.size w (w4.setCell ⟨w.heap.size, 0, none⟩ (.int .i64 (((St.mk m false).num 1 : Nat) : Int))) := b04.setCell (p := ⟨w.heap.size, 0, none⟩) (Nat.le_refl _) _
        generalize w4.setCell ⟨w.heap.size, 0, none⟩ (.int .i64 (((St.mk m false).num 1 : Nat) : Int)) = w5 at *
        clear b04 hS4 q0 F0
        obtain ⟨A5, n5, c5, hr5⟩ := hS5.rd
        refine (text_any (k := 1) hr5 (by omega)).mono ?_
        rintro e w6 ⟨A6, n6, c6, rfl, hr6, hg6⟩
        have hS6 := hS5.read hr6 hg6
        have b06 : Below w.heap.size w w6 := b05.trans (only_below hg6 (by have := hS5.lt; omega) (by omega))
        obtain ⟨q0, q1, -, -⟩ := hS6.cell
        have F1 := hS6.free 1
        clear b05 hS5 hr5 hg6 hr6
        go_wp2_with fail
        have hS7 := hS6.set1 (ba (((St.mk m false).behind 1).txt 1))
        have b07 : Below w.heap.size w (w6.setCell ⟨w.heap.size, 1, none⟩ (.string (ba (((St.mk m false).behind 1).txt 1)))) := b06.setCell (p := ⟨w.heap.size, 1, none⟩) (Nat.le_refl _) _
        generalize w6.setCell ⟨w.heap.size, 1, none⟩ (.string (ba (((St.mk m false).behind 1).txt 1))) = w7 at *
        clear b06 hS6 q0 q1 F1
        have hsz : (ba (((St.mk m false).behind 1).txt 1)).size ≤ maxLen := txt_len _ (by omega)
        obtain ⟨q0, -, -, -⟩ := hS7.cell
        refine (writes_any (((St.mk m false).num 1 : Nat) : Int) w7).mono ?_
        rintro e w7' ⟨rfl, rfl⟩
        cases hw : writesB (((St.mk m false).num 1 : Nat) : Int) with
        | true =>
          have h5 : ¬ (((St.mk m false).num 1 : Nat) : Int) = 5 := by
            intro e
            rw [e] at hw
            exact absurd hw (by decide)
          have e5 : ((((St.mk m false).num 1 : Nat) : Int) == (5 : Int)) = false := by simpa using h5
          have HQ9 : Hid (rqOf m = (⟨(((St.mk m false).num 1 : Nat) : Int), ((St.mk m false).behind 1).txt 1, (((St.mk m false).behind 1).past 1).txt 2, 0⟩, (((St.mk m false).behind 1).past 1).past 2)) := by
            show _ = _
            simp only [rqOf, hw, if_true, if_neg h5]
          have HWW := Lib.hid hw
          clear hw h5
          go_wp2_with fail
          obtain ⟨A7, n7, c7, hr7⟩ := hS7.rd
          refine (text_any (k := 2) hr7 (by omega)).mono ?_
          rintro e w8 ⟨A8, n8, c8, rfl, hr8, hg8⟩
          have hS8 := hS7.read hr8 hg8
          have b08 : Below w.heap.size w w8 := b07.trans (only_below hg8 (by have := hS7.lt; omega) (by omega))
          clear q0
          obtain ⟨q0, -, q2, -⟩ := hS8.cell
          have F2 := hS8.free 2
          clear b07 hS7 hr7 hg8 hr8
          have hRt := hS8.set2 (ba ((((St.mk m false).behind 1).past 1).txt 2))
          have bt : Below w.heap.size w (w8.setCell ⟨w.heap.size, 2, none⟩ (.string (ba ((((St.mk m false).behind 1).past 1).txt 2)))) := b08.setCell (p := ⟨w.heap.size, 2, none⟩) (Nat.le_refl _) _
          clear b08 hS8
          obtain ⟨A9, n9, c9, hr9⟩ := hRt.rd
          obtain ⟨q0, q1, q2, q3⟩ := hRt.cell
          have F0 := hRt.free 0
          have F1 := hRt.free 1
          have F2 := hRt.free 2
          have F3 := hRt.free 3
          go_wp2_with fail
          generalize w8.setCell ⟨w.heap.size, 2, none⟩ (.string (ba ((((St.mk m false).behind 1).past 1).txt 2))) = wt at *
          refine (ended_any hr9).mono ?_
          rintro e w9 ⟨rfl, rfl⟩
          cases he : (!((((St.mk m false).behind 1).past 1).past 2).bad && ((((St.mk m false).behind 1).past 1).past 2).l.isEmpty) with
          | false =>
            have HF : Hid (rqRead l = (noRq, (St.mk l false).num 2 + 2, 12)) := by
              show _ = _
              have h' := he
              rw [HR.out, HQ9.out]
              have h3' : (((((St.mk m false).behind 1).past 1).past 2).bad || !((((St.mk m false).behind 1).past 1).past 2).l.isEmpty || !((⟨(((St.mk m false).num 1 : Nat) : Int), ((St.mk m false).behind 1).txt 1, (((St.mk m false).behind 1).past 1).txt 2, 0⟩ : Rq)).right) = true := bad3 h'
              simp only [h3', if_true]
            clear he
            go_wp2_with fail
            obtain ⟨q0, q1, q2, q3⟩ := box4 (put4 hRt.blk (.int .i64 0) (.string ⟨#[]⟩) (.string ⟨#[]⟩) (.int .i64 0))
            refine bodyPost_ret (v := .tuple #[rqvOf noRq, .int .i64 (((St.mk l false).num 2 + 2 : Nat) : Int), .int .i64 12]) (by simp [results, Try.results17, go_sem, q0, q1, q2, q3]; rfl) rfl ⟨by rw [HF.out]; rfl, put4_below bt (Nat.le_refl _) _ _ _ _⟩
          | true =>
            have HST := Lib.hid he
            clear he
            go_wp2_with fail
            refine (right_any ((((St.mk m false).num 1 : Nat) : Int)) (ba (((St.mk m false).behind 1).txt 1)) (ba ((((St.mk m false).behind 1).past 1).txt 2)) (0) _ hsz).mono ?_
            rintro e w10 ⟨rfl, b10⟩
            have hlt := hRt.lt
            have hq10 := (b10.block w.heap.size hlt).trans hRt.blk
            have bt10 : Below w.heap.size w w10 := bt.trans (b10.mono (Nat.le_of_lt hlt))
            have HB10 := Lib.hid hq10
            have f10 : ∀ o, w10.frozen? ⟨w.heap.size, o, none⟩ = false := fun o => by have := HB10.out; simp [World.frozen?, this]
            obtain ⟨q0, q1, q2, q3⟩ := box4 HB10.out
            have F0 := f10 0
            have F1 := f10 1
            have F2 := f10 2
            have F3 := f10 3
            clear f10 hq10
            cases hri : (rqOfV ((((St.mk m false).num 1 : Nat) : Int)) (ba (((St.mk m false).behind 1).txt 1)) (ba ((((St.mk m false).behind 1).past 1).txt 2)) (0)).right with
            | false =>
              have HF : Hid (rqRead l = (noRq, (St.mk l false).num 2 + 2, 12)) := by
                show _ = _
                have h' : ((⟨(((St.mk m false).num 1 : Nat) : Int), ((St.mk m false).behind 1).txt 1, (((St.mk m false).behind 1).past 1).txt 2, 0⟩ : Rq)).right = false := by have h4 := hri; unfold rqOfV at h4; simp only [bl_ba] at h4; first | exact h4 | (simp only [bl_nil] at h4; exact h4)
                rw [HR.out, HQ9.out]
                simp only [h', Bool.not_false, Bool.or_true, if_true]
              have HRI := Lib.hid hri
              clear hri
              go_wp2_with fail
              obtain ⟨q0, q1, q2, q3⟩ := box4 (put4 HB10.out (.int .i64 0) (.string ⟨#[]⟩) (.string ⟨#[]⟩) (.int .i64 0))
              refine bodyPost_ret (v := .tuple #[rqvOf noRq, .int .i64 (((St.mk l false).num 2 + 2 : Nat) : Int), .int .i64 12]) (by simp [results, Try.results17, go_sem, q0, q1, q2, q3]; rfl) rfl ⟨by rw [HF.out]; rfl, put4_below bt10 (Nat.le_refl _) _ _ _ _⟩
            | true =>
              have HF : Hid (rqRead l = ((⟨(((St.mk m false).num 1 : Nat) : Int), ((St.mk m false).behind 1).txt 1, (((St.mk m false).behind 1).past 1).txt 2, 0⟩ : Rq), (St.mk l false).num 2 + 2, 0)) := by
                show _ = _
                have h' : ((⟨(((St.mk m false).num 1 : Nat) : Int), ((St.mk m false).behind 1).txt 1, (((St.mk m false).behind 1).past 1).txt 2, 0⟩ : Rq)).right = true := by have h4 := hri; unfold rqOfV at h4; simp only [bl_ba] at h4; first | exact h4 | (simp only [bl_nil] at h4; exact h4)
                have h2' := HST.out
                rw [HR.out, HQ9.out]
                have h3' : (((((St.mk m false).behind 1).past 1).past 2).bad || !((((St.mk m false).behind 1).past 1).past 2).l.isEmpty || !((⟨(((St.mk m false).num 1 : Nat) : Int), ((St.mk m false).behind 1).txt 1, (((St.mk m false).behind 1).past 1).txt 2, 0⟩ : Rq)).right) = false := good3 h2' h'
                simp only [h3', Bool.false_eq_true, if_false]
              have HRI := Lib.hid hri
              clear hri
              go_wp2_with fail
              obtain ⟨q0, q1, q2, q3⟩ := box4 (put4 HB10.out (.int .i64 ((((St.mk m false).num 1 : Nat) : Int))) (.string (ba (((St.mk m false).behind 1).txt 1))) (.string (ba ((((St.mk m false).behind 1).past 1).txt 2))) (.int .i64 (0)))
              refine bodyPost_ret (v := .tuple #[rqvOf ((⟨(((St.mk m false).num 1 : Nat) : Int), ((St.mk m false).behind 1).txt 1, (((St.mk m false).behind 1).past 1).txt 2, 0⟩ : Rq)), .int .i64 (((St.mk l false).num 2 + 2 : Nat) : Int), .int .i64 0]) (by simp [results, Try.results17, go_sem, q0, q1, q2, q3]; rfl) rfl ⟨by rw [HF.out]; rfl, put4_below bt10 (Nat.le_refl _) _ _ _ _⟩
        | false =>
          have HWW := Lib.hid hw
          by_cases h5 : (((St.mk m false).num 1 : Nat) : Int) = 5
          · have HQ9 : Hid (rqOf m = (⟨(((St.mk m false).num 1 : Nat) : Int), ((St.mk m false).behind 1).txt 1, [], sgn ((((St.mk m false).behind 1).past 1).num 8)⟩, (((St.mk m false).behind 1).past 1).behind 8)) := by
              show _ = _
              simp only [rqOf, hw, if_false, Bool.false_eq_true, if_pos h5]
            have e5 : ((((St.mk m false).num 1 : Nat) : Int) == (5 : Int)) = true := by simpa using h5
            clear hw h5
            go_wp2_with fail
            obtain ⟨A7, n7, c7, hr7⟩ := hS7.rd
            refine (num_any (k := 8) hr7 (by omega)).mono ?_
            rintro e w8 ⟨A8, n8, c8, rfl, hr8, hg8⟩
            generalize sgn ((((St.mk m false).behind 1).past 1).num 8) = vv at *
            have hS8 := hS7.read hr8 hg8
            have b08 : Below w.heap.size w w8 := b07.trans (only_below hg8 (by have := hS7.lt; omega) (by omega))
            clear q0
            obtain ⟨q0, -, -, q3⟩ := hS8.cell
            have F3 := hS8.free 3
            clear b07 hS7 hr7 hg8 hr8
            have hRt := hS8.set3 (vv)
            have bt : Below w.heap.size w (w8.setCell ⟨w.heap.size, 3, none⟩ (.int .i64 (vv))) := b08.setCell (p := ⟨w.heap.size, 3, none⟩) (Nat.le_refl _) _
            clear b08 hS8
            obtain ⟨A9, n9, c9, hr9⟩ := hRt.rd
            obtain ⟨q0, q1, q2, q3⟩ := hRt.cell
            have F0 := hRt.free 0
            have F1 := hRt.free 1
            have F2 := hRt.free 2
            have F3 := hRt.free 3
            go_wp2_with fail
            generalize w8.setCell ⟨w.heap.size, 3, none⟩ (.int .i64 (vv)) = wt at *
            refine (ended_any hr9).mono ?_
            rintro e w9 ⟨rfl, rfl⟩
            cases he : (!((((St.mk m false).behind 1).past 1).behind 8).bad && ((((St.mk m false).behind 1).past 1).behind 8).l.isEmpty) with
            | false =>
              have HF : Hid (rqRead l = (noRq, (St.mk l false).num 2 + 2, 12)) := by
                show _ = _
                have h' := he
                rw [HR.out, HQ9.out]
                have h3' : (((((St.mk m false).behind 1).past 1).behind 8).bad || !((((St.mk m false).behind 1).past 1).behind 8).l.isEmpty || !((⟨(((St.mk m false).num 1 : Nat) : Int), ((St.mk m false).behind 1).txt 1, [], vv⟩ : Rq)).right) = true := bad3 h'
                simp only [h3', if_true]
              clear he
              go_wp2_with fail
              obtain ⟨q0, q1, q2, q3⟩ := box4 (put4 hRt.blk (.int .i64 0) (.string ⟨#[]⟩) (.string ⟨#[]⟩) (.int .i64 0))
              refine bodyPost_ret (v := .tuple #[rqvOf noRq, .int .i64 (((St.mk l false).num 2 + 2 : Nat) : Int), .int .i64 12]) (by simp [results, Try.results17, go_sem, q0, q1, q2, q3]; rfl) rfl ⟨by rw [HF.out]; rfl, put4_below bt (Nat.le_refl _) _ _ _ _⟩
            | true =>
              have HST := Lib.hid he
              clear he
              go_wp2_with fail
              refine (right_any ((((St.mk m false).num 1 : Nat) : Int)) (ba (((St.mk m false).behind 1).txt 1)) (⟨#[]⟩) (vv) _ hsz).mono ?_
              rintro e w10 ⟨rfl, b10⟩
              have hlt := hRt.lt
              have hq10 := (b10.block w.heap.size hlt).trans hRt.blk
              have bt10 : Below w.heap.size w w10 := bt.trans (b10.mono (Nat.le_of_lt hlt))
              have HB10 := Lib.hid hq10
              have f10 : ∀ o, w10.frozen? ⟨w.heap.size, o, none⟩ = false := fun o => by have := HB10.out; simp [World.frozen?, this]
              obtain ⟨q0, q1, q2, q3⟩ := box4 HB10.out
              have F0 := f10 0
              have F1 := f10 1
              have F2 := f10 2
              have F3 := f10 3
              clear f10 hq10
              cases hri : (rqOfV ((((St.mk m false).num 1 : Nat) : Int)) (ba (((St.mk m false).behind 1).txt 1)) (⟨#[]⟩) (vv)).right with
              | false =>
                have HF : Hid (rqRead l = (noRq, (St.mk l false).num 2 + 2, 12)) := by
                  show _ = _
                  have h' : ((⟨(((St.mk m false).num 1 : Nat) : Int), ((St.mk m false).behind 1).txt 1, [], vv⟩ : Rq)).right = false := by have h4 := hri; unfold rqOfV at h4; simp only [bl_ba] at h4; first | exact h4 | (simp only [bl_nil] at h4; exact h4)
                  rw [HR.out, HQ9.out]
                  simp only [h', Bool.not_false, Bool.or_true, if_true]
                have HRI := Lib.hid hri
                clear hri
                go_wp2_with fail
                obtain ⟨q0, q1, q2, q3⟩ := box4 (put4 HB10.out (.int .i64 0) (.string ⟨#[]⟩) (.string ⟨#[]⟩) (.int .i64 0))
                refine bodyPost_ret (v := .tuple #[rqvOf noRq, .int .i64 (((St.mk l false).num 2 + 2 : Nat) : Int), .int .i64 12]) (by simp [results, Try.results17, go_sem, q0, q1, q2, q3]; rfl) rfl ⟨by rw [HF.out]; rfl, put4_below bt10 (Nat.le_refl _) _ _ _ _⟩
              | true =>
                have HF : Hid (rqRead l = ((⟨(((St.mk m false).num 1 : Nat) : Int), ((St.mk m false).behind 1).txt 1, [], vv⟩ : Rq), (St.mk l false).num 2 + 2, 0)) := by
                  show _ = _
                  have h' : ((⟨(((St.mk m false).num 1 : Nat) : Int), ((St.mk m false).behind 1).txt 1, [], vv⟩ : Rq)).right = true := by have h4 := hri; unfold rqOfV at h4; simp only [bl_ba] at h4; first | exact h4 | (simp only [bl_nil] at h4; exact h4)
                  have h2' := HST.out
                  rw [HR.out, HQ9.out]
                  have h3' : (((((St.mk m false).behind 1).past 1).behind 8).bad || !((((St.mk m false).behind 1).past 1).behind 8).l.isEmpty || !((⟨(((St.mk m false).num 1 : Nat) : Int), ((St.mk m false).behind 1).txt 1, [], vv⟩ : Rq)).right) = false := good3 h2' h'
                  simp only [h3', Bool.false_eq_true, if_false]
                have HRI := Lib.hid hri
                clear hri
                go_wp2_with fail
                obtain ⟨q0, q1, q2, q3⟩ := box4 (put4 HB10.out (.int .i64 ((((St.mk m false).num 1 : Nat) : Int))) (.string (ba (((St.mk m false).behind 1).txt 1))) (.string (⟨#[]⟩)) (.int .i64 (vv)))
                refine bodyPost_ret (v := .tuple #[rqvOf ((⟨(((St.mk m false).num 1 : Nat) : Int), ((St.mk m false).behind 1).txt 1, [], vv⟩ : Rq)), .int .i64 (((St.mk l false).num 2 + 2 : Nat) : Int), .int .i64 0]) (by simp [results, Try.results17, go_sem, q0, q1, q2, q3]; rfl) rfl ⟨by rw [HF.out]; rfl, put4_below bt10 (Nat.le_refl _) _ _ _ _⟩
          · have e5 : ((((St.mk m false).num 1 : Nat) : Int) == (5 : Int)) = false := by simpa using h5
            have HQ9 : Hid (rqOf m = (⟨(((St.mk m false).num 1 : Nat) : Int), ((St.mk m false).behind 1).txt 1, [], 0⟩, ((St.mk m false).behind 1).past 1)) := by
              show _ = _
              simp only [rqOf, hw, if_false, Bool.false_eq_true, if_neg h5]
            clear hw h5
            have hRt := hS7
            have bt := b07
            obtain ⟨A9, n9, c9, hr9⟩ := hRt.rd
            obtain ⟨q0, q1, q2, q3⟩ := hRt.cell
            have F0 := hRt.free 0
            have F1 := hRt.free 1
            have F2 := hRt.free 2
            have F3 := hRt.free 3
            go_wp2_with fail
            refine (ended_any hr9).mono ?_
            rintro e w9 ⟨rfl, rfl⟩
            cases he : (!(((St.mk m false).behind 1).past 1).bad && (((St.mk m false).behind 1).past 1).l.isEmpty) with
            | false =>
              have HF : Hid (rqRead l = (noRq, (St.mk l false).num 2 + 2, 12)) := by
                show _ = _
                have h' := he
                rw [HR.out, HQ9.out]
                have h3' : ((((St.mk m false).behind 1).past 1).bad || !(((St.mk m false).behind 1).past 1).l.isEmpty || !((⟨(((St.mk m false).num 1 : Nat) : Int), ((St.mk m false).behind 1).txt 1, [], 0⟩ : Rq)).right) = true := bad3 h'
                simp only [h3', if_true]
              clear he
              go_wp2_with fail
              obtain ⟨q0, q1, q2, q3⟩ := box4 (put4 hRt.blk (.int .i64 0) (.string ⟨#[]⟩) (.string ⟨#[]⟩) (.int .i64 0))
              refine bodyPost_ret (v := .tuple #[rqvOf noRq, .int .i64 (((St.mk l false).num 2 + 2 : Nat) : Int), .int .i64 12]) (by simp [results, Try.results17, go_sem, q0, q1, q2, q3]; rfl) rfl ⟨by rw [HF.out]; rfl, put4_below bt (Nat.le_refl _) _ _ _ _⟩
            | true =>
              have HST := Lib.hid he
              clear he
              go_wp2_with fail
              refine (right_any ((((St.mk m false).num 1 : Nat) : Int)) (ba (((St.mk m false).behind 1).txt 1)) (⟨#[]⟩) (0) _ hsz).mono ?_
              rintro e w10 ⟨rfl, b10⟩
              have hlt := hRt.lt
              have hq10 := (b10.block w.heap.size hlt).trans hRt.blk
              have bt10 : Below w.heap.size w w10 := bt.trans (b10.mono (Nat.le_of_lt hlt))
              have HB10 := Lib.hid hq10
              have f10 : ∀ o, w10.frozen? ⟨w.heap.size, o, none⟩ = false := fun o => by have := HB10.out; simp [World.frozen?, this]
              obtain ⟨q0, q1, q2, q3⟩ := box4 HB10.out
              have F0 := f10 0
              have F1 := f10 1
              have F2 := f10 2
              have F3 := f10 3
              clear f10 hq10
              cases hri : (rqOfV ((((St.mk m false).num 1 : Nat) : Int)) (ba (((St.mk m false).behind 1).txt 1)) (⟨#[]⟩) (0)).right with
              | false =>
                have HF : Hid (rqRead l = (noRq, (St.mk l false).num 2 + 2, 12)) := by
                  show _ = _
                  have h' : ((⟨(((St.mk m false).num 1 : Nat) : Int), ((St.mk m false).behind 1).txt 1, [], 0⟩ : Rq)).right = false := by have h4 := hri; unfold rqOfV at h4; simp only [bl_ba] at h4; first | exact h4 | (simp only [bl_nil] at h4; exact h4)
                  rw [HR.out, HQ9.out]
                  simp only [h', Bool.not_false, Bool.or_true, if_true]
                have HRI := Lib.hid hri
                clear hri
                go_wp2_with fail
                obtain ⟨q0, q1, q2, q3⟩ := box4 (put4 HB10.out (.int .i64 0) (.string ⟨#[]⟩) (.string ⟨#[]⟩) (.int .i64 0))
                refine bodyPost_ret (v := .tuple #[rqvOf noRq, .int .i64 (((St.mk l false).num 2 + 2 : Nat) : Int), .int .i64 12]) (by simp [results, Try.results17, go_sem, q0, q1, q2, q3]; rfl) rfl ⟨by rw [HF.out]; rfl, put4_below bt10 (Nat.le_refl _) _ _ _ _⟩
              | true =>
                have HF : Hid (rqRead l = ((⟨(((St.mk m false).num 1 : Nat) : Int), ((St.mk m false).behind 1).txt 1, [], 0⟩ : Rq), (St.mk l false).num 2 + 2, 0)) := by
                  show _ = _
                  have h' : ((⟨(((St.mk m false).num 1 : Nat) : Int), ((St.mk m false).behind 1).txt 1, [], 0⟩ : Rq)).right = true := by have h4 := hri; unfold rqOfV at h4; simp only [bl_ba] at h4; first | exact h4 | (simp only [bl_nil] at h4; exact h4)
                  have h2' := HST.out
                  rw [HR.out, HQ9.out]
                  have h3' : ((((St.mk m false).behind 1).past 1).bad || !(((St.mk m false).behind 1).past 1).l.isEmpty || !((⟨(((St.mk m false).num 1 : Nat) : Int), ((St.mk m false).behind 1).txt 1, [], 0⟩ : Rq)).right) = false := good3 h2' h'
                  simp only [h3', Bool.false_eq_true, if_false]
                have HRI := Lib.hid hri
                clear hri
                go_wp2_with fail
                obtain ⟨q0, q1, q2, q3⟩ := box4 (put4 HB10.out (.int .i64 ((((St.mk m false).num 1 : Nat) : Int))) (.string (ba (((St.mk m false).behind 1).txt 1))) (.string (⟨#[]⟩)) (.int .i64 (0)))
                refine bodyPost_ret (v := .tuple #[rqvOf ((⟨(((St.mk m false).num 1 : Nat) : Int), ((St.mk m false).behind 1).txt 1, [], 0⟩ : Rq)), .int .i64 (((St.mk l false).num 2 + 2 : Nat) : Int), .int .i64 0]) (by simp [results, Try.results17, go_sem, q0, q1, q2, q3]; rfl) rfl ⟨by rw [HF.out]; rfl, put4_below bt10 (Nat.le_refl _) _ _ _ _⟩
end Go.Proofs.Ytifdkkkcecpjoaa
end
section
/-
  frame.Response: the bytes of any response.
-/
namespace Go.Proofs.Ytifdkkkcecpjoaa
open Go.RowKit
attribute [local go_sem ↓] Go.wp_at_zero Go.wp_at_succ

def Dg.cells (d : Dg) : List Value := [.string (ba d.frag), .int .i64 d.line, .int .i64 d.e]
def dcells (l : List Dg) : List Value := l.flatMap Dg.cells
theorem dcells_append (a b : List Dg) : dcells (a ++ b) = dcells a ++ dcells b := by simp [dcells]
theorem dcells_cons (v : Dg) (l : List Dg) : dcells (v :: l) = v.cells ++ dcells l := rfl
theorem dcells_length : ∀ l : List Dg, (dcells l).length = l.length * 3
  | [] => rfl
  | v :: l => by rw [dcells_cons, List.length_append, dcells_length l]; simp [Dg.cells]; omega
theorem dcells_get : ∀ (l : List Dg) (i j : Nat) (v : Dg), l[i]? = some v → j < 3 → (dcells l)[i * 3 + j]? = v.cells[j]?
  | [], i, j, v, h, _ => by simp at h
  | u :: l, 0, j, v, h, hj => by
    simp at h; subst h
    rw [dcells_cons, List.getElem?_append_left (by simp [Dg.cells]; omega)]; simp
  | u :: l, i + 1, j, v, h, hj => by
    rw [dcells_cons, List.getElem?_append_right (by simp [Dg.cells]; omega)]
    rw [show (i + 1) * 3 + j - u.cells.length = i * 3 + j by simp [Dg.cells]; omega]
    exact dcells_get l i j v (by simpa using h) hj
theorem dcells_one (l : List Dg) : ∀ u ∈ dcells l, u.oneCell' = true := by
  intro u hu
  obtain ⟨v, _, hv⟩ := List.mem_flatMap.1 hu
  simp [Dg.cells] at hv
  rcases hv with rfl | rfl | rfl <;> rfl

/-- A slice of diagnostics that reads as ds, in a block below B. -/
structure Sd (w : World) (B : Nat) (A : Option Addr) (n : Nat) (ds : List Dg) : Prop where
  len : n = ds.length
  rd : 0 < n → ∃ g, A = some ⟨g, 0, none⟩ ∧ g < B ∧ ∀ j u, (dcells ds)[j]? = some u → w.cell? ⟨g, j, none⟩ = some u
theorem Sd.below {w w' : World} {B n : Nat} {A : Option Addr} {ds : List Dg} (h : Sd w B A n ds) (hb : Below B w w') : Sd w' B A n ds := ⟨h.len, fun hn => by
  obtain ⟨g, e, hg, hc⟩ := h.rd hn
  exact ⟨g, e, hg, fun j u hu => (hb.cell (p := ⟨g, j, none⟩) hg).trans (hc j u hu)⟩⟩
theorem Sd.of_own {w : World} {base n : Nat} {v : Value} {ds : List Dg} (h : w.ownsRow base 57 3 v n (dcells ds)) (hn : n = ds.length) : ∃ A c, v = .slice A n c ∧ Sd w w.heap.size A n ds := by
  rcases h.2 with ⟨rfl, h0⟩ | ⟨g, cap, cur, rfl, hb, hg, _⟩
  · subst h0
    exact ⟨_, _, rfl, hn, fun h => absurd h (by omega)⟩
  · refine ⟨_, _, rfl, hn, fun _ => ⟨g, rfl, (Array.getElem?_eq_some_iff.1 hg).1, fun j u hu => ?_⟩⟩
    have := h.cells (g := g) rfl j u hu
    rw [Addr.add_lit, Nat.zero_add] at this
    exact this
theorem Sd.at_ {w : World} {B n : Nat} {A : Option Addr} {ds : List Dg} (h : Sd w B A n ds) {k : Nat} (hk : k < n) : ∃ g d, A = some ⟨g, 0, none⟩ ∧ g < B ∧ ds[k]? = some d ∧
    w.cell? ⟨g, k * 3, none⟩ = some (.string (ba d.frag)) ∧ w.cell? ⟨g, k * 3 + 1, none⟩ = some (.int .i64 d.line) ∧ w.cell? ⟨g, k * 3 + 2, none⟩ = some (.int .i64 d.e) := by
  obtain ⟨g, e, hb, hc⟩ := h.rd (by omega)
  have hl : k < ds.length := by have := h.len; omega
  have gk : ds[k]? = some ds[k] := List.getElem?_eq_getElem hl
  refine ⟨g, ds[k], e, hb, gk, ?_, ?_, ?_⟩
  · exact hc _ _ ((dcells_get ds k 0 _ gk (by omega)).trans rfl)
  · exact hc _ _ ((dcells_get ds k 1 _ gk (by omega)).trans rfl)
  · exact hc _ _ ((dcells_get ds k 2 _ gk (by omega)).trans rfl)

def dgv (d : Dg) : Value := .agg #[.string (ba d.frag), .int .i64 d.line, .int .i64 d.e]
theorem box3 {W : World} {q : Nat} {t : TypeId} {a b c : Value} (h : W.heap[q]? = some (.cells #[a, b, c] t (0, 0))) :
    W.cell? ⟨q, 0, none⟩ = some a ∧ W.cell? ⟨q, 1, none⟩ = some b ∧ W.cell? ⟨q, 2, none⟩ = some c :=
  ⟨cell_of_row W q 0 _ t (0, 0) h, cell_of_row W q 1 _ t (0, 0) h, cell_of_row W q 2 _ t (0, 0) h⟩

/-- A writer below which other blocks were made. -/
theorem Wt.alloc {w : World} {base p : Nat} {v : Value} {l : List UInt8} (h : Wt w base p v l) (o : Obj) : Wt (w.alloc o) base p v l := h.below ((Below.refl _ _).alloc (Nat.le_refl _) o)

set_option maxRecDepth 100000 in
set_option maxHeartbeats 800000 in
theorem wdiag_any {w : World} {base p : Nat} {v : Value} {l : List UInt8} (h : Wt w base p v l) (d : Dg) (hl : l.length ≤ 800000000) (hd : d.frag.length ≤ 100) :
    Calls Try.prog 44 #[.pointer (some ⟨p, 0, none⟩), dgv d] w (WEnd base p (l ++ d.enc) w) := by
  unfold dgv
  have hlt := h.lt
  have hbp := h.hb
  go_enter Try.func44, Try.ntmps44
  go_wp2_with fail
  have h1 := h.alloc (.cells #[.string (ba d.frag), .int .i64 d.line, .int .i64 d.e] 57)
  have hq : (w.alloc (.cells #[.string (ba d.frag), .int .i64 d.line, .int .i64 d.e] 57)).heap[w.heap.size]? = some (.cells #[.string (ba d.frag), .int .i64 d.line, .int .i64 d.e] 57 (0, 0)) := heap_alloc_new w _
  have b1 : Below base w (w.alloc (.cells #[.string (ba d.frag), .int .i64 d.line, .int .i64 d.e] 57)) := (Below.refl _ _).alloc (by omega) _
  have hz : (w.alloc (.cells #[.string (ba d.frag), .int .i64 d.line, .int .i64 d.e] 57)).heap.size = w.heap.size + 1 := by simp
  have K1 : WKeep w (w.alloc (.cells #[.string (ba d.frag), .int .i64 d.line, .int .i64 d.e] 57)) := WKeep.of_below ((Below.refl _ _).alloc (Nat.le_refl _) _)
  generalize w.alloc (.cells #[.string (ba d.frag), .int .i64 d.line, .int .i64 d.e] 57) = w1 at *
  have k1 : WKeep w w1 := K1
  obtain ⟨c0, -, -⟩ := box3 hq
  have HQ := Lib.hid hq
  clear hq K1 h
  go_wp2_with fail
  refine (wtext_any (n := 1) h1 (ba d.frag) (by omega) (by omega) (by omega) (by rw [ba_size]; omega)).mono ?_
  rintro e w2 ⟨rfl, ⟨v2, h2⟩, b2, k2⟩
  rw [bl_ba] at h2
  have HQ2 := Lib.hid ((k2 _ _ _ HQ.out (by decide) (by decide)).trans HQ.out)
  obtain ⟨-, c1, -⟩ := box3 HQ2.out
  clear c0 HQ
  go_wp2_with fail
  refine (wnum_any (n := 2) h2 d.line (by omega) (by omega) (by rw [List.length_append, tx_length]; omega)).mono ?_
  rintro e w3 ⟨rfl, ⟨v3, h3⟩, b3, k3⟩
  have HQ3 := Lib.hid ((k3 _ _ _ HQ2.out (by decide) (by decide)).trans HQ2.out)
  obtain ⟨-, -, c2⟩ := box3 HQ3.out
  clear c1 HQ2
  go_wp2_with fail
  refine (wnum_any (n := 1) h3 d.e (by omega) (by omega) (by rw [List.length_append, List.length_append, tx_length, be_length]; omega)).mono ?_
  rintro e w4 ⟨rfl, ⟨v4, h4⟩, b4, k4⟩
  go_wp2_with fail
  go_end0
  refine ⟨rfl, ⟨v4, ?_⟩, ((b1.trans b2).trans b3).trans b4, ((k1.trans k2).trans k3).trans k4⟩
  rw [Dg.enc, ← List.append_assoc, ← List.append_assoc]
  exact h4

theorem encs_snoc (l : List Dg) (d : Dg) : encs (l ++ [d]) = encs l ++ d.enc := by simp [encs]
theorem encs_len : ∀ l : List Dg, (∀ d ∈ l, d.frag.length ≤ 100) → (encs l).length ≤ 104 * l.length
  | [], _ => by simp [encs]
  | d :: l, h => by
    have h1 := encs_len l (fun d hd => h d (by simp [hd]))
    have h2 := h d (by simp)
    simp only [encs, List.flatMap_cons, List.length_append, List.length_cons] at *
    simp only [Dg.enc, List.length_append, tx_length, be_length]; omega

set_option maxRecDepth 100000 in
set_option maxHeartbeats 800000 in
theorem wall_any {w : World} {base p B n c : Nat} {A : Option Addr} {v : Value} {l : List UInt8} {ds : List Dg} (h : Wt w base p v l) (hs : Sd w B A n ds) (hB : B ≤ base) (hl : l.length ≤ 1000000) (hn : ds.length ≤ 5000) (hd : ∀ d ∈ ds, d.frag.length ≤ 100) :
    Calls Try.prog 43 #[.slice A n c, .func (.func 44) #[.pointer (some ⟨p, 0, none⟩)] #[]] w (WEnd base p (l ++ encs ds) w) := by
  have hln := hs.len
  have hn5 : n ≤ 5000 := by omega
  have HLN := Lib.hid hln
  have HD := Lib.hid hd
  clear hln hd
  go_enter Try.func43, Try.ntmps43
  go_wp2_with fail
  go_loopw [8] (fun i wr => ∃ (j : Nat) (u : Value), j ≤ n ∧ i = .int .i64 j ∧ Wt wr base p u (l ++ encs (ds.take j)) ∧ Below base w wr ∧ WKeep w wr) (fun i _ => n - (intOf i).toNat)
  case atStart => exact ⟨0, v, Nat.zero_le _, rfl, by simpa [encs] using h, Below.refl _ _, WKeep.refl _⟩
  case round =>
    obtain ⟨j, u, hj, rfl, hw, hb, hk⟩ := hrel
    by_cases hlt : j < n
    · obtain ⟨g, d, rfl, hgB, hu, c0, c1, c2⟩ := (hs.below (hb.mono hB)).at_ hlt
      have hfr : d.frag.length ≤ 100 := HD.out d (List.mem_of_getElem? hu)
      have hlen : (l ++ encs (ds.take j)).length ≤ 2000000 := by
        have := encs_len (ds.take j) (fun d hd => HD.out d (List.mem_of_mem_take hd))
        rw [List.length_append]
        have h' : (ds.take j).length ≤ 5000 := by rw [List.length_take]; omega
        omega
      have HS : Hid (l ++ encs (ds.take (j + 1)) = (l ++ encs (ds.take j)) ++ d.enc) := by
        show _ = _
        rw [List.take_add_one, hu, List.append_assoc, ← encs_snoc]; rfl
      have hw1 := hw.alloc (.cells #[.string (ba d.frag), .int .i64 d.line, .int .i64 d.e] 57)
      have hbw : base ≤ wr.heap.size := by have := hw.hb; have := hw.lt; omega
      have hb1 : Below base w (wr.alloc (.cells #[.string (ba d.frag), .int .i64 d.line, .int .i64 d.e] 57)) := hb.alloc hbw _
      have hk1 : WKeep w (wr.alloc (.cells #[.string (ba d.frag), .int .i64 d.line, .int .i64 d.e] 57)) := hk.trans (WKeep.of_below ((Below.refl _ _).alloc (Nat.le_refl _) _))
      clear hu hs h hw hb hk
      go_wp2_with fail
      refine (wdiag_any hw1 d (by omega) hfr).mono ?_
      rintro e w2 ⟨rfl, ⟨v2, h2⟩, b2, k2⟩
      rw [← HS.out] at h2
      go_wp2_with fail
      go_roundw
      case rel => exact ⟨j + 1, v2, by omega, by go_num, h2, hb1.trans b2, hk1.trans k2⟩
      case measure => simp [intOf]; omega
    · obtain rfl : j = n := by omega
      go_wp2_with fail
      go_end0
      rw [List.take_of_length_le (by rw [← HLN.out]; omega)] at hw
      exact ⟨rfl, ⟨u, hw⟩, hb, hk⟩

def rsv (e : Int) (t : ByteArray) (iA : Option Addr) (iN iC : Nat) (dA : Option Addr) (dN dC : Nat) : Value := .agg #[.int .i64 e, .string t, .slice iA iN iC, .slice dA dN dC]

set_option maxRecDepth 100000 in
set_option maxHeartbeats 1600000 in
theorem response_any {w : World} {B iN iC dN dC : Nat} {iA dA : Option Addr} {img : List UInt8} {ds : List Dg} (x : Int) (t : ByteArray) (hi : Sl w B iA iN iC img) (hs : Sd w B dA dN ds) (hB : B ≤ w.heap.size)
    (ht : t.size ≤ 600) (hi4 : img.length ≤ 4096) (hn : ds.length ≤ 5000) (hd : ∀ d ∈ ds, d.frag.length ≤ 100) :
    Calls Try.prog 21 #[rsv x t iA iN iC dA dN dC] w (BytesEnd (Rs.enc ⟨x, bl t, img, ds⟩) w) := by
  unfold rsv
  have hln := hs.len
  have HLN := Lib.hid hln
  have HD := Lib.hid hd
  have hdN : dN ≤ 5000 := by omega
  clear hln hd
  obtain ⟨W1, hW1⟩ : ∃ W1, W1 = (w.alloc (.cells #[.int .i64 x, .string t, .slice iA iN iC, .slice dA dN dC] 42)).alloc (.cells #[.slice none 0 0] 67) := ⟨_, rfl⟩
  have hW : Wt W1 (w.heap.size + 1) (w.heap.size + 1) (.slice none 0 0) [] := by
    rw [hW1]
    exact ⟨Nat.le_refl _, by simpa using heap_alloc_new (w.alloc (.cells #[.int .i64 x, .string t, .slice iA iN iC, .slice dA dN dC] 42)) (.cells #[.slice none 0 0] 67), World.ownsRow_nil _ _ _ _⟩
  have b0 : Below w.heap.size w W1 := by rw [hW1]; exact ((Below.refl _ _).alloc (Nat.le_refl _) _).alloc (by simp) _
  have hq : W1.heap[w.heap.size]? = some (.cells #[.int .i64 x, .string t, .slice iA iN iC, .slice dA dN dC] 42 (0, 0)) := by
    rw [hW1]
    exact (Below.heap_alloc _ _ _ (by simp)).trans (heap_alloc_new w _)
  have HW1 := Lib.hid hW1
  clear hW1
  obtain ⟨c0, -, -, -⟩ := box4 hq
  have HQ := Lib.hid hq
  clear hq
  go_enter Try.func21, Try.ntmps21
  go_wp2_with fail
  rw [← HW1.out]
  refine (wnum_any (n := 1) hW x (by omega) (by omega) (by simp)).mono ?_
  rintro e w1 ⟨rfl, ⟨v1, h3⟩, b1, -⟩
  have b01 : Below w.heap.size w w1 := b0.trans (b1.mono (by omega))
  have HQ1 := Lib.hid ((b1.block w.heap.size (by omega)).trans HQ.out)
  obtain ⟨-, c1, -, -⟩ := box4 HQ1.out
  clear hW b0 b1 c0 HQ HW1
  rw [List.nil_append] at h3
  go_wp2_with fail
  refine (wtext_any (n := 2) h3 t (by omega) (by omega) (by rw [be_length]; omega) (by omega)).mono ?_
  rintro e w2 ⟨rfl, ⟨v2, h4⟩, b2, -⟩
  have b02 : Below w.heap.size w w2 := b01.trans (b2.mono (by omega))
  have HQ2 := Lib.hid ((b2.block w.heap.size (by omega)).trans HQ1.out)
  obtain ⟨-, -, c2, -⟩ := box4 HQ2.out
  have hcv := sl_string (hi.below (b02.mono hB))
  clear b01 b2 c1 HQ1 h3
  go_wp2_with fail
  refine (wtext_any (n := 2) h4 (ba img) (by omega) (by omega) (by rw [List.length_append, be_length, tx_length, bl_length]; omega) (by rw [ba_size]; omega)).mono ?_
  rintro e w3 ⟨rfl, ⟨v3, h5⟩, b3, -⟩
  have b03 : Below w.heap.size w w3 := b02.trans (b3.mono (by omega))
  have HQ3 := Lib.hid ((b3.block w.heap.size (by omega)).trans HQ2.out)
  obtain ⟨-, -, -, c3⟩ := box4 HQ3.out
  have hl3 : (be 1 x ++ tx 2 (bl t) ++ tx 2 (bl (ba img))).length ≤ 10000 := by rw [List.length_append, List.length_append, be_length, tx_length, tx_length, bl_length, bl_ba]; omega
  clear b02 b3 c2 HQ2 h4 hcv
  go_wp2_with fail
  refine (wnum_any (n := 2) h5 (dN : Int) (by omega) (by omega) (by omega)).mono ?_
  rintro e w4 ⟨rfl, ⟨v4, h6⟩, b4, -⟩
  have b04 : Below w.heap.size w w4 := b03.trans (b4.mono (by omega))
  have HQ4 := Lib.hid ((b4.block w.heap.size (by omega)).trans HQ3.out)
  clear c3
  obtain ⟨-, -, -, c3⟩ := box4 HQ4.out
  have hl4 : (be 1 x ++ tx 2 (bl t) ++ tx 2 (bl (ba img)) ++ be 2 (dN : Int)).length ≤ 10002 := by rw [List.length_append, be_length]; omega
  clear b03 b4 HQ3 h5
  go_wp2_with fail
  refine (wall_any h6 (hs.below (b04.mono hB)) (by omega) (by omega) hn HD.out).mono ?_
  rintro e w5 ⟨rfl, ⟨v5, h7⟩, b5, -⟩
  have b05 : Below w.heap.size w w5 := b04.trans (b5.mono (by omega))
  have hl5 : (be 1 x ++ tx 2 (bl t) ++ tx 2 (bl (ba img)) ++ be 2 (dN : Int) ++ encs ds).length ≤ 1000000 := by
    have := encs_len ds HD.out
    rw [List.length_append]; omega
  clear b04 b5 HQ4 h6 c3
  go_wp2_with fail
  refine (headed_any (n := 3) h7 (by omega) (by omega) (by omega)).mono ?_
  intro e w6 hE
  obtain ⟨A, m, c, rfl, hF⟩ := bytes_ret hE b05
  go_wp2_with fail
  go_ret
  have HE : Rs.enc ⟨x, bl t, img, ds⟩ = tx 3 (be 1 x ++ tx 2 (bl t) ++ tx 2 (bl (ba img)) ++ be 2 (dN : Int) ++ encs ds) := by
    rw [bl_ba, HLN.out]
    simp [Rs.enc, Rs.body]
  rw [HE]; exact hF
end Go.Proofs.Ytifdkkkcecpjoaa
end
section
/-
  frame's reader of a diagnostic; slices.Clone of diagnostics.
-/
namespace Go.Proofs.Ytifdkkkcecpjoaa
open Go.RowKit
attribute [local go_sem ↓] Go.wp_at_zero Go.wp_at_succ

theorem Rdr.alloc {T : TypeId} {w : World} {B p n c : Nat} {A : Option Addr} {s : St} (h : Rdr T w B p A n c s) (o : Obj) : Rdr T (w.alloc o) B p A n c s := h.below ((Below.refl _ _).alloc (Nat.le_refl _) o)
theorem txt_lt (s : St) {k : Nat} (hk : k ≤ 3) : (s.txt k).length < 16777216 := by
  have h1 := St.takes_length (s.behind k) (s.num k)
  have h2 := num_lt3 s hk
  unfold St.txt
  omega

def DiagEnd (B p : Nat) (s : St) (w : World) (e : Ending) (w' : World) : Prop :=
  ∃ A n c, e = .returned (dgv (dgOf s).1) ∧ Rdr 76 w' B p A n c (dgOf s).2 ∧ w.grownBy w' (some p)

/-- How the reader stands behind its last word. -/
theorem Rdr.mark {T : TypeId} {w : World} {B p n c : Nat} {A : Option Addr} {s : St} (h : Rdr T w B p A n c s) (b : Bool) : Rdr T (w.setCell ⟨p, 1, none⟩ (.bool b)) B p A n c ⟨s.l, b⟩ ∧ w.grownBy (w.setCell ⟨p, 1, none⟩ (.bool b)) (some p) := by
  have hg : w.grownBy (w.setCell ⟨p, 1, none⟩ (.bool b)) (some p) := only_setCell (p := ⟨p, 1, none⟩) (World.grownBy.refl w (some p)) (.inl rfl) (.bool b)
  have hb : (w.setCell ⟨p, 1, none⟩ (.bool b)).heap[p]? = some (.cells #[.slice A n c, .bool b] T (0, 0)) := by
    have := h.blk
    simp [World.setCell, Array.getElem?_modify, this]
  have hs' := h.sl.only hg h.hB (Nat.le_trans h.hB (Nat.le_of_lt h.lt))
  exact ⟨⟨h.hB, hb, hs'⟩, hg⟩
theorem put3 {w : World} {r : Nat} {t : TypeId} {a b c : Value} (h : w.heap[r]? = some (.cells #[a, b, c] t (0, 0))) (a' b' c' : Value) :
    (((w.setCell ⟨r, 0, none⟩ a').setCell ⟨r, 1, none⟩ b').setCell ⟨r, 2, none⟩ c').heap[r]? = some (.cells #[a', b', c'] t (0, 0)) := by
  simp [World.setCell, Array.getElem?_modify, h]
theorem put3_only {w0 w : World} {p r : Nat} (h : w0.grownBy w (some p)) (hr : w0.heap.size ≤ r) (a' b' c' : Value) :
    w0.grownBy (((w.setCell ⟨r, 0, none⟩ a').setCell ⟨r, 1, none⟩ b').setCell ⟨r, 2, none⟩ c') (some p) :=
  only_setCell (p := ⟨r, 2, none⟩) (only_setCell (p := ⟨r, 1, none⟩) (only_setCell (p := ⟨r, 0, none⟩) h (.inr hr) a') (.inr hr) b') (.inr hr) c'
theorem Rdr.far {T : TypeId} {w : World} {B p n c : Nat} {A : Option Addr} {s : St} (h : Rdr T w B p A n c s) {q : Addr} (hq : p ≠ q.block) (hB : B ≤ q.block) (u : Value) : Rdr T (w.setCell q u) B p A n c s :=
  ⟨h.hB, (Below.heap_setCell w q u p hq).trans h.blk, ⟨h.sl.len, h.sl.cap, h.sl.max, h.sl.rd.setCell hB u⟩⟩

set_option maxRecDepth 100000 in
set_option maxHeartbeats 1600000 in
theorem rdiag_any {w : World} {B p n c : Nat} {A : Option Addr} {s : St} (h : Rdr 76 w B p A n c s) :
    Calls Try.prog 47 #[.pointer (some ⟨p, 0, none⟩)] w (DiagEnd B p s w) := by
  obtain ⟨W1, hW1⟩ : ∃ W1, W1 = w.alloc (.cells #[.string ⟨#[]⟩, .int .i64 0, .int .i64 0] 57) := ⟨_, rfl⟩
  have h1 : Rdr 76 W1 B p A n c s := by rw [hW1]; exact h.alloc _
  have hq : W1.heap[w.heap.size]? = some (.cells #[.string ⟨#[]⟩, .int .i64 0, .int .i64 0] 57 (0, 0)) := by rw [hW1]; exact heap_alloc_new w _
  have hlt := h.lt
  have hBp := h.hB
  have g1 : w.grownBy W1 (some p) := by rw [hW1]; exact only_alloc (World.grownBy.refl _ _) _
  have hz1 : W1.heap.size = w.heap.size + 1 := by rw [hW1]; simp
  have HW1 := Lib.hid hW1
  have HQ := Lib.hid hq
  clear hW1 hq h
  have hs1 : w.heap.size < W1.heap.size := by omega
  clear hz1
  go_enter Try.func47, Try.ntmps47
  go_wp2_with fail
  rw [← HW1.out]
  refine (text_any (k := 1) h1 (by omega)).mono ?_
  rintro e w2 ⟨A2, n2, c2, rfl, h2, g2⟩
  go_wp2_with fail
  refine (num_any (k := 2) h2 (by omega)).mono ?_
  rintro e w3 ⟨A3, n3, c3, rfl, h3, g3⟩
  rw [sgn_small (num_lt3 _ (k := 2) (by omega))]
  go_wp2_with fail
  refine (num_any (k := 1) h3 (by omega)).mono ?_
  rintro e w4 ⟨A4, n4, c4, rfl, h4, g4⟩
  rw [sgn_small (num_lt3 _ (k := 1) (by omega))]
  have g04 : w.grownBy w4 (some p) := only_trans (only_trans (only_trans g1 g2) g3) g4
  have g14 : W1.grownBy w4 (some p) := only_trans (only_trans g2 g3) g4
  have HQ4 := Lib.hid ((g14.block w.heap.size hs1 (fun e => by injection e; omega)).trans HQ.out)
  have hs4 : w.heap.size < w4.heap.size := Nat.lt_of_lt_of_le hs1 g14.size
  have HS : Hid (dgOf s = (⟨s.txt 1, (((s.past 1).num 2 : Nat) : Int), ((((s.past 1).behind 2).num 1 : Nat) : Int)⟩, ⟨(((s.past 1).behind 2).behind 1).l, (((s.past 1).behind 2).behind 1).bad || !(Dg.right ⟨s.txt 1, (((s.past 1).num 2 : Nat) : Int), ((((s.past 1).behind 2).num 1 : Nat) : Int)⟩)⟩)) := rfl
  have hfl := txt_lt s (k := 1) (by omega)
  clear h1 h2 h3 g1 g2 g3 g4 g14 HQ hs1
  generalize s.txt 1 = F at *
  generalize (s.past 1).num 2 = L at *
  generalize ((s.past 1).behind 2).num 1 = E at *
  generalize ((s.past 1).behind 2).behind 1 = sx at *
  obtain ⟨sl, sb⟩ := sx
  have c4' := h4.cell1
  have f4' := h4.free 1
  have hp4 := h4.lt
  obtain ⟨e0, e1, e2⟩ := box3 HQ4.out
  have fw : ∀ o, w4.frozen? ⟨w.heap.size, o, none⟩ = false := fun o => by have := HQ4.out; simp [World.frozen?, this]
  have fw0 := fw 0
  have fw1 := fw 1
  have fw2 := fw 2
  clear fw
  have HQ6 : Hid (∀ b, (((((w4.setCell ⟨p, 1, none⟩ b).setCell ⟨w.heap.size, 0, none⟩ (.string (ba F))).setCell ⟨w.heap.size, 1, none⟩ (.int .i64 (L : Int))).setCell ⟨w.heap.size, 2, none⟩ (.int .i64 (E : Int))).alloc (.cells #[.string (ba F), .int .i64 (L : Int), .int .i64 (E : Int)] 57)).heap[w.heap.size]? = some (.cells #[.string (ba F), .int .i64 (L : Int), .int .i64 (E : Int)] 57 (0, 0))) :=
    fun b => (Below.heap_alloc _ _ _ (by simp [World.setCell]; exact hs4)).trans (put3 ((Below.heap_setCell w4 ⟨p, 1, none⟩ b w.heap.size (fun e => by have e : w.heap.size = p := e; omega)).trans HQ4.out) _ _ _)
  have FIN : Hid (∀ nb : Bool, Hid (nb = (sb || !(Dg.right ⟨F, (L : Int), (E : Int)⟩))) → DiagEnd B p s w (.returned (dgv ⟨F, (L : Int), (E : Int)⟩)) (((((w4.setCell ⟨p, 1, none⟩ (.bool nb)).setCell ⟨w.heap.size, 0, none⟩ (.string (ba F))).setCell ⟨w.heap.size, 1, none⟩ (.int .i64 (L : Int))).setCell ⟨w.heap.size, 2, none⟩ (.int .i64 (E : Int))).alloc (.cells #[.string (ba F), .int .i64 (L : Int), .int .i64 (E : Int)] 57))) := by
    intro nb hnb
    obtain ⟨m1, m2⟩ := h4.mark nb
    have hne : p ≠ w.heap.size := by omega
    refine ⟨A4, n4, c4, ?_, ?_, only_alloc (put3_only (only_trans g04 m2) (Nat.le_refl _) _ _ _) _⟩
    · rw [HS.out]
    · rw [HS.out]
      simp only
      rw [← hnb.out]
      exact (((m1.far (q := ⟨w.heap.size, 0, none⟩) hne (by show B ≤ w.heap.size; omega) _).far (q := ⟨w.heap.size, 1, none⟩) hne (by show B ≤ w.heap.size; omega) _).far (q := ⟨w.heap.size, 2, none⟩) hne (by show B ≤ w.heap.size; omega) _).alloc _
  have hsz : (ba F).size ≤ maxLen := by rw [ba_size]; unfold maxLen; omega
  have HSZ := Lib.hid hsz
  clear h4 HQ4 hsz hfl g04 HS
  cases sb with
  | true =>
    have HB : Hid (true = (true || !(Dg.right ⟨F, (L : Int), (E : Int)⟩))) := rfl
    go_wp2_with fail
    obtain ⟨q0, q1, q2⟩ := box3 (HQ6.out (.bool true))
    refine bodyPost_ret (v := dgv ⟨F, (L : Int), (E : Int)⟩) (by simp [results, Try.results47, go_sem, q0, q1, q2]; rfl) rfl ?_
    exact FIN.out true HB
  | false =>
    have hrt : (false || !(Dg.right ⟨F, (L : Int), (E : Int)⟩)) = (!((F.isEmpty || isWord F)) || decide (5000 < L)) := by
      have e : decide ((0 : Int) ≤ (L : Int)) = true := by simp
      have e2 : decide ((L : Int) ≤ 5000) = !decide (5000 < L) := by
        rw [Bool.eq_iff_iff]; simp; omega
      rw [Dg.right, e, e2]
      cases F.isEmpty <;> cases isWord F <;> simp
    rw [hrt] at FIN
    cases hF : F with
    | nil =>
      subst hF
      have he : (ba []).toList = [] := by rw [Go.ByteArray.toList_eq]; rfl
      have he2 : (ba []).toList.isEmpty = true := by rw [he]; rfl
      have HB : Hid (decide ((5000 : Int) < (L : Int)) = (!((([] : List UInt8).isEmpty || isWord [])) || decide (5000 < L))) := by
        show _ = _
        rw [Bool.eq_iff_iff]; simp; omega
      go_wp2_with fail
      obtain ⟨q0, q1, q2⟩ := box3 (HQ6.out (.bool (decide ((5000 : Int) < (L : Int)))))
      refine bodyPost_ret (v := dgv ⟨[], (L : Int), (E : Int)⟩) (by simp [results, Try.results47, go_sem, q0, q1, q2]; rfl) rfl ?_
      exact FIN.out (decide ((5000 : Int) < (L : Int))) HB
    | cons f0 f1 =>
      have he : (ba F).toList.isEmpty = false := by rw [Go.ByteArray.toList_eq]; show (bl (ba F)).isEmpty = false; rw [bl_ba, hF]; rfl
      have hFe : F.isEmpty = false := by rw [hF]; rfl
      rw [← hF]
      clear hF
      rw [hFe] at FIN
      cases hw : isWord F with
      | false =>
        rw [hw] at FIN
        have HB : Hid (true = (!(false || false) || decide (5000 < L))) := rfl
        have HW : Hid (isWord (bl (ba F)) = false) := by show _ = _; rw [bl_ba]; exact hw
        clear hw hrt hFe
        go_wp2_with (go_at_call 54; (with_reducible refine (word_any (ba F) _ HSZ.out).mono ?_); rintro e w' ⟨rfl, rfl⟩; rw [HW.out])
        obtain ⟨q0, q1, q2⟩ := box3 (HQ6.out (.bool true))
        refine bodyPost_ret (v := dgv ⟨F, (L : Int), (E : Int)⟩) (by simp [results, Try.results47, go_sem, q0, q1, q2]; rfl) rfl ?_
        exact FIN.out true HB
      | true =>
        rw [hw] at FIN
        have HB : Hid (decide ((5000 : Int) < (L : Int)) = (!(false || true) || decide (5000 < L))) := by
          show _ = _
          rw [Bool.eq_iff_iff]; simp; omega
        have HW : Hid (isWord (bl (ba F)) = true) := by show _ = _; rw [bl_ba]; exact hw
        clear hw hrt hFe
        go_wp2_with (go_at_call 54; (with_reducible refine (word_any (ba F) _ HSZ.out).mono ?_); rintro e w' ⟨rfl, rfl⟩; rw [HW.out])
        obtain ⟨q0, q1, q2⟩ := box3 (HQ6.out (.bool (decide ((5000 : Int) < (L : Int)))))
        refine bodyPost_ret (v := dgv ⟨F, (L : Int), (E : Int)⟩) (by simp [results, Try.results47, go_sem, q0, q1, q2]; rfl) rfl ?_
        exact FIN.out (decide ((5000 : Int) < (L : Int))) HB
end Go.Proofs.Ytifdkkkcecpjoaa
end
section
/-
  slices.Clone of diagnostics; frame.ReadResponse.
-/
namespace Go.Proofs.Ytifdkkkcecpjoaa
open Go.RowKit
attribute [local go_sem ↓] Go.wp_at_zero Go.wp_at_succ

theorem info57 : (Try.prog.info? 57).map (fun i => (i.zero, i.size, i.bytes)) = some (some (.agg #[.string ⟨#[]⟩, .int .i64 0, .int .i64 0]), 3, 32) := by kernel_rfl

def DiagsEnd (l : List Dg) (w : World) (e : Ending) (w' : World) : Prop := ∃ A c, e = .returned (.slice A l.length c) ∧ w'.ownsRow w.heap.size 57 3 (.slice A l.length c) l.length (dcells l) ∧ Below w.heap.size w w'

theorem own_slice {w : World} {base n size : Nat} {e : TypeId} {v : Value} {xs : List Value} (h : w.ownsRow base e size v n xs) : ∃ A c, v = .slice A n c := by
  rcases h.2 with ⟨rfl, h0⟩ | ⟨g, cap, cur, rfl, _⟩
  · subst h0; exact ⟨_, _, rfl⟩
  · exact ⟨_, _, rfl⟩

set_option maxRecDepth 100000 in
set_option maxHeartbeats 400000 in
theorem dclone_any {w : World} {base N : Nat} {v : Value} {l : List Dg} (hN : N = l.length) (h : w.ownsRow base 57 3 v N (dcells l)) (hl : l.length ≤ 100000) :
    Calls Try.prog 48 #[v] w (DiagsEnd l w) := by
  obtain ⟨i57, hi, hz, hy, hx⟩ := info_parts info57
  rcases h.2 with ⟨rfl, h0⟩ | ⟨g, cap, cur, rfl, _⟩
  · subst h0
    obtain rfl : l = [] := List.eq_nil_of_length_eq_zero hN.symm
    clear hN h hl
    have hrun := fun w => Lib.run_eql_slice_nil (P := Try.prog) w 40 57 none 0 0 0 0 Try.underlying40
    go_enter Try.func48, Try.ntmps48
    go_wp2_with fail
    go_ret
    exact ⟨_, _, rfl, World.ownsRow_nil _ _ _ _, Below.refl _ _⟩
  · have hrun := fun w => Lib.run_eql_slice_nil (P := Try.prog) w 40 57 (some ⟨g, 0, none⟩) N cap 0 0 Try.underlying40
    have hown : (w.alloc (.cells #[] 57)).ownsRow w.heap.size 57 3 (.slice (some ⟨w.heap.size, 0, none⟩) 0 0) 0 [] := World.ownsRow_made w #[] 0 (Nat.le_refl _) (Nat.zero_le _) rfl
    have hlt : g < w.heap.size := by
      rcases h.2 with ⟨h1, _⟩ | ⟨g', cap', cur', h1, _, hh, _⟩
      · cases h1
      · cases h1; exact (Array.getElem?_eq_some_iff.1 hh).1
    have hnews : ∀ j u, (dcells l)[j]? = some u → (w.alloc (.cells #[] 57)).cell? ((⟨g, 0, none⟩ : Addr).add j) = some u := fun j u hu => by
      have h1 := h.cells (g := g) rfl j u hu
      rw [← h1]
      exact World.cell?_of_block (by rw [Addr.add_lit]; exact Below.heap_alloc _ _ _ hlt)
    have HN := Lib.hid hN
    have HH := Lib.hid h
    have hcl : (dcells l).length = N * 3 := h.1
    have HCL := Lib.hid hcl
    have hN' : N ≤ 100000 := by omega
    clear hN h hcl
    go_enter Try.func48, Try.ntmps48
    go_wp2_with (at_builtin; refine wpList_append_own _ rfl _ _ 40 rfl w.heap.size 57 i57 _ 3 32 Try.underlying40 hi hz hy hx rfl (by decide) _ 0 [] rfl hown ⟨g, 0, none⟩ N cap (dcells l) rfl HCL.out hnews (dcells_one l) (by unfold maxLen; omega) (by omega) (by simp) ?_; intro v' w1 hown' hgrow _)
    go_ret
    rw [Nat.zero_add, List.nil_append] at hown'
    have e := HN.out
    subst e
    obtain ⟨A', c', rfl⟩ := own_slice hown'
    exact ⟨A', c', rfl, hown', ((Below.refl w.heap.size w).alloc (Nat.le_refl _) _).grown hgrow (by simp) (by intro k hk; cases hk; exact Nat.le_refl _)⟩
end Go.Proofs.Ytifdkkkcecpjoaa
end
section
/-
  frame.ReadResponse: what any bytes are read as.
-/
namespace Go.Proofs.Ytifdkkkcecpjoaa
open Go.RowKit
attribute [local go_sem ↓] Go.wp_at_zero Go.wp_at_succ

/-- The result's block, its rows, and the reader's. -/
structure RT (w : World) (r0 p B : Nat) (e : Int) (t : ByteArray) (iA : Option Addr) (iN iC : Nat) (img : List UInt8) (dv : Value) (ds : List Dg) (s : St) : Prop where
  blk : w.heap[r0]? = some (.cells #[.int .i64 e, .string t, .slice iA iN iC, dv] 42 (0, 0))
  rd : ∃ A n c, Rdr 76 w B p A n c s
  imo : w.ownsRow r0 5 1 (.slice iA iN iC) iN (bv img)
  imgN : iN = img.length
  dgs : w.ownsRow r0 57 3 dv ds.length (dcells ds)
  hlt : r0 < p
  hB : B ≤ r0

theorem own_keep {w w' : World} {base n size q : Nat} {e t : TypeId} {v : Value} {xs : List Value} {cs : Array Value} (h : w.ownsRow base e size v n xs) (hq : w.heap[q]? = some (.cells cs t (0, 0))) (hne : e ≠ t)
    (hg : w.grownBy w' (some q)) : w'.ownsRow base e size v n xs := by
  refine h.kept hg (.inr ?_)
  intro he
  exact own_blk_ne h hq hne he

namespace RT
variable {w w' : World} {r0 p B : Nat} {e : Int} {t : ByteArray} {iA : Option Addr} {iN iC : Nat} {img : List UInt8} {dv : Value} {ds : List Dg} {s s' : St}
theorem lt (h : RT w r0 p B e t iA iN iC img dv ds s) : r0 < w.heap.size := by
  obtain ⟨A, n, c, hr⟩ := h.rd
  have := hr.lt
  have := h.hlt
  omega
theorem read {A : Option Addr} {n c : Nat} (h : RT w r0 p B e t iA iN iC img dv ds s) (hr : Rdr 76 w' B p A n c s') (hg : w.grownBy w' (some p)) : RT w' r0 p B e t iA iN iC img dv ds s' := by
  obtain ⟨A0, n0, c0, hr0⟩ := h.rd
  exact ⟨(hg.block r0 h.lt (fun e => by injection e; have := h.hlt; omega)).trans h.blk, ⟨A, n, c, hr⟩, own_keep h.imo hr0.blk (by decide) hg, h.imgN, own_keep h.dgs hr0.blk (by decide) hg, h.hlt, h.hB⟩
theorem free (h : RT w r0 p B e t iA iN iC img dv ds s) (o : Nat) : w.frozen? ⟨r0, o, none⟩ = false := by simp [World.frozen?, h.blk]
theorem cell (h : RT w r0 p B e t iA iN iC img dv ds s) : w.cell? ⟨r0, 0, none⟩ = some (.int .i64 e) ∧ w.cell? ⟨r0, 1, none⟩ = some (.string t) ∧ w.cell? ⟨r0, 2, none⟩ = some (.slice iA iN iC) ∧ w.cell? ⟨r0, 3, none⟩ = some dv := box4 h.blk
theorem keep (h : RT w r0 p B e t iA iN iC img dv ds s) (o : Nat) (u : Value) : ∃ A n c, Rdr 76 (w.setCell ⟨r0, o, none⟩ u) B p A n c s := by
  obtain ⟨A, n, c, hr⟩ := h.rd
  exact ⟨A, n, c, hr.far (q := ⟨r0, o, none⟩) (fun e => by have e : p = r0 := e; have := h.hlt; omega) h.hB u⟩
theorem keepo (h : RT w r0 p B e t iA iN iC img dv ds s) (o : Nat) (u : Value) {ty : TypeId} {size n : Nat} {v : Value} {xs : List Value} (ho : w.ownsRow r0 ty size v n xs) (hne : ty ≠ 42) : (w.setCell ⟨r0, o, none⟩ u).ownsRow r0 ty size v n xs :=
  own_keep ho h.blk hne (only_setCell (p := ⟨r0, o, none⟩) (World.grownBy.refl w (some r0)) (.inl rfl) u)
theorem set0 (h : RT w r0 p B e t iA iN iC img dv ds s) (x : Int) : RT (w.setCell ⟨r0, 0, none⟩ (.int .i64 x)) r0 p B x t iA iN iC img dv ds s :=
  ⟨by have := h.blk; simp [World.setCell, Array.getElem?_modify, this], h.keep 0 _, h.keepo 0 _ h.imo (by decide), h.imgN, h.keepo 0 _ h.dgs (by decide), h.hlt, h.hB⟩
theorem set1 (h : RT w r0 p B e t iA iN iC img dv ds s) (x : ByteArray) : RT (w.setCell ⟨r0, 1, none⟩ (.string x)) r0 p B e x iA iN iC img dv ds s :=
  ⟨by have := h.blk; simp [World.setCell, Array.getElem?_modify, this], h.keep 1 _, h.keepo 1 _ h.imo (by decide), h.imgN, h.keepo 1 _ h.dgs (by decide), h.hlt, h.hB⟩
theorem set2 (h : RT w r0 p B e t iA iN iC img dv ds s) {jA : Option Addr} {jN jC : Nat} {img' : List UInt8} (ho : w.ownsRow r0 5 1 (.slice jA jN jC) jN (bv img')) (hN : jN = img'.length) : RT (w.setCell ⟨r0, 2, none⟩ (.slice jA jN jC)) r0 p B e t jA jN jC img' dv ds s :=
  ⟨by have := h.blk; simp [World.setCell, Array.getElem?_modify, this], h.keep 2 _, h.keepo 2 _ ho (by decide), hN, h.keepo 2 _ h.dgs (by decide), h.hlt, h.hB⟩
theorem set3 (h : RT w r0 p B e t iA iN iC img dv ds s) {v : Value} {ds' : List Dg} {n : Nat} (hn : n = ds'.length) (ho : w.ownsRow r0 57 3 v n (dcells ds')) : RT (w.setCell ⟨r0, 3, none⟩ v) r0 p B e t iA iN iC img v ds' s := by
  subst hn
  exact ⟨by have := h.blk; simp [World.setCell, Array.getElem?_modify, this], h.keep 3 _, h.keepo 3 _ h.imo (by decide), h.imgN, h.keepo 3 _ ho (by decide), h.hlt, h.hB⟩
theorem below (h : RT w r0 p B e t iA iN iC img dv ds s) (hb : Below w.heap.size w w') : RT w' r0 p B e t iA iN iC img dv ds s := by
  obtain ⟨A, n, c, hr⟩ := h.rd
  have hk : ∀ {ty : TypeId} {size n : Nat} {v : Value} {xs : List Value}, w.ownsRow r0 ty size v n xs → w'.ownsRow r0 ty size v n xs := by
    intro ty size n v xs ho
    refine ⟨ho.1, ?_⟩
    rcases ho.2 with h0 | ⟨g, cap, cur, rfl, h1, h2, h3⟩
    · exact .inl h0
    · exact .inr ⟨g, cap, cur, rfl, h1, (hb.block g (Array.getElem?_eq_some_iff.1 h2).1).trans h2, h3⟩
  exact ⟨(hb.block r0 h.lt).trans h.blk, ⟨A, n, c, hr.below hb⟩, hk h.imo, h.imgN, hk h.dgs, h.hlt, h.hB⟩
end RT

/-- A response as it lies. -/
theorem head_is (l : List UInt8) (k : Nat) : (!(((St.mk l false).behind k).behind ((St.mk l false).num k)).bad) = decide (k + (St.mk l false).num k ≤ l.length) := by
  by_cases h : l.length < k
  · rw [St.behind_short (s := ⟨l, false⟩) h]
    have e : decide (k + (St.mk l false).num k ≤ l.length) = false := by simp; omega
    rw [e]
    simp [St.behind]
  · have h2 : k ≤ (St.mk l false).l.length := by show k ≤ l.length; omega
    rw [St.behind_long h2]
    by_cases h' : k + (St.mk l false).num k ≤ l.length
    · rw [St.behind_long (by simp; omega)]; simp [h']
    · rw [St.behind_short (by simp; omega)]; simp; omega
theorem head_txt {l : List UInt8} {k : Nat} (h : k + (St.mk l false).num k ≤ l.length) : (St.mk l false).txt k = (l.drop k).take ((St.mk l false).num k) := by
  have e := St.behind_long (s := ⟨l, false⟩) (k := k) (by show k ≤ l.length; omega)
  have hn : (St.mk l false).num k ≤ ((St.mk l false).behind k).l.length := by rw [e]; simp; omega
  rw [St.txt, St.takes_long hn, e]

theorem rsRead_eq {l m : List UInt8} {isv : Bool} (hi : (!(((St.mk l false).behind 3).behind ((St.mk l false).num 3)).bad) = isv) (hm : (St.mk l false).txt 3 = m) {r : Rs} {C : Nat} {s5 : St} (hx : rsOf m = (r, C, s5)) :
    rsRead l = if (!isv || !(!s5.bad && s5.l.isEmpty) || decide (5000 < C) || decide (600 < r.text.length) || decide (4096 < r.image.length)) = true then (noRs, 0, false) else (r, (St.mk l false).num 3 + 3, true) := by
  rw [head_is] at hi
  unfold rsRead
  by_cases h : 3 + (St.mk l false).num 3 ≤ l.length
  · have : isv = true := by rw [← hi]; simp [h]
    rw [this]
    rw [head_txt h] at hm
    simp only [hm, hx]
    rw [if_neg (by omega)]
    cases s5.bad <;> cases s5.l.isEmpty <;> simp
  · have : isv = false := by rw [← hi]; simp [h]
    rw [this]
    simp only
    rw [if_pos (by omega)]
    simp

def RsEnd (l : List UInt8) (w : World) (e : Ending) (w' : World) : Prop :=
  ∃ iA iC dA dC, e = .returned (.tuple #[rsv (rsRead l).1.e (ba (rsRead l).1.text) iA (rsRead l).1.image.length iC dA (rsRead l).1.diags.length dC, .int .i64 (rsRead l).2.1, .bool (rsRead l).2.2]) ∧
    w'.ownsRow w.heap.size 5 1 (.slice iA (rsRead l).1.image.length iC) (rsRead l).1.image.length (bv (rsRead l).1.image) ∧
    w'.ownsRow w.heap.size 57 3 (.slice dA (rsRead l).1.diags.length dC) (rsRead l).1.diags.length (dcells (rsRead l).1.diags) ∧ Below w.heap.size w w'

theorem rdiag_eq {w : World} {B p n c : Nat} {A : Option Addr} {s s' : St} {d : Dg} (h : Rdr 76 w B p A n c s) (hd : Hid (dgOf s = (d, s'))) :
    Calls Try.prog 47 #[.pointer (some ⟨p, 0, none⟩)] w fun e w' => ∃ A n c, e = .returned (.agg #[.string (ba d.frag), .int .i64 d.line, .int .i64 d.e]) ∧ Rdr 76 w' B p A n c s' ∧ w.grownBy w' (some p) := by
  refine (rdiag_any h).mono ?_
  rintro e w' ⟨A, n, c, he, hr, hg⟩
  rw [hd.out] at he hr
  exact ⟨A, n, c, he, hr, hg⟩
theorem RT.drew {w : World} {r0 p B : Nat} {e : Int} {t : ByteArray} {iA : Option Addr} {iN iC : Nat} {img : List UInt8} {dv : Value} {ds : List Dg} {s : St} (h : RT w r0 p B e t iA iN iC img dv ds s) : RT w.drew r0 p B e t iA iN iC img dv ds s := h.below ((Below.refl _ _).drew)
/-- The row of diagnostics grows by one, and is stored. -/
theorem RT.push {w w4 : World} {r0 p B : Nat} {e : Int} {t : ByteArray} {iA : Option Addr} {iN iC : Nat} {img : List UInt8} {dv v : Value} {ds : List Dg} {d : Dg} {s : St} (h : RT w r0 p B e t iA iN iC img dv ds s)
    (hg : w.grownBy w4 dv.ownBlock) (ho : w4.ownsRow r0 57 3 v (ds.length + 1) (dcells ds ++ [.string (ba d.frag), .int .i64 d.line, .int .i64 d.e])) : RT (w4.setCell ⟨r0, 3, none⟩ v) r0 p B e t iA iN iC img v (ds ++ [d]) s := by
  obtain ⟨A, n, c, hr⟩ := h.rd
  have hne : ∀ {q : Nat} {ty : TypeId} {cs : Array Value}, w.heap[q]? = some (.cells cs ty (0, 0)) → 57 ≠ ty → w4.heap[q]? = w.heap[q]? := fun hq hn => hg.block _ (Array.getElem?_eq_some_iff.1 hq).1 (fun e => own_blk_ne h.dgs hq hn e.symm)
  have hr4 : Rdr 76 w4 B p A n c s := ⟨hr.hB, (hne hr.blk (by decide)).trans hr.blk, ⟨hr.sl.len, hr.sl.cap, hr.sl.max, hr.sl.rd.grown hg (by have := h.hB; have := h.lt; omega) (fun g hgv => by
    rcases h.dgs.2 with ⟨rfl, _⟩ | ⟨g', cap, cur, rfl, hb, _⟩
    · simp [Value.ownBlock] at hgv
    · simp [Value.ownBlock] at hgv; have := h.hB; omega)⟩⟩
  have hi4 : w4.ownsRow r0 5 1 (.slice iA iN iC) iN (bv img) := by
    refine ⟨h.imo.1, ?_⟩
    rcases h.imo.2 with h0 | ⟨g, cap, cur, e1, h1, h2, h3⟩
    · exact .inl h0
    · exact .inr ⟨g, cap, cur, e1, h1, (hne h2 (by decide)).trans h2, h3⟩
  have hd4 : w4.ownsRow r0 57 3 v (ds ++ [d]).length (dcells (ds ++ [d])) := by
    have : dcells (ds ++ [d]) = dcells ds ++ [.string (ba d.frag), .int .i64 d.line, .int .i64 d.e] := by rw [dcells_append]; rfl
    rw [this, List.length_append]; exact ho
  have hT : RT w4 r0 p B e t iA iN iC img dv [] s ∨ True := .inr trivial
  clear hT
  have hb4 : w4.heap[r0]? = some (.cells #[.int .i64 e, .string t, .slice iA iN iC, dv] 42 (0, 0)) := (hne h.blk (by decide)).trans h.blk
  have hk : ∀ {ty : TypeId} {size n : Nat} {v' : Value} {xs : List Value}, w4.ownsRow r0 ty size v' n xs → ty ≠ 42 → (w4.setCell ⟨r0, 3, none⟩ v).ownsRow r0 ty size v' n xs := fun ho hne => own_keep ho hb4 hne (only_setCell (p := ⟨r0, 3, none⟩) (World.grownBy.refl w4 (some r0)) (.inl rfl) v)
  exact ⟨by simp [World.setCell, Array.getElem?_modify, hb4], ⟨A, n, c, hr4.far (q := ⟨r0, 3, none⟩) (fun e => by have e : p = r0 := e; have := h.hlt; omega) h.hB v⟩, hk hi4 (by decide), h.imgN, hk hd4 (by decide), h.hlt, h.hB⟩

theorem dgs_step {C : Nat} {l1 : List Dg} {s4 s5 s6 : St} {d6 : Dg} (hlt : l1.length < C) (hd : dgsOf C s4 = (l1 ++ (dgsOf (C - l1.length) s5).1, (dgsOf (C - l1.length) s5).2)) (hb : s5.bad = false) (hds : dgOf s5 = (d6, s6)) :
    dgsOf C s4 = ((l1 ++ [d6]) ++ (dgsOf (C - (l1 ++ [d6]).length) s6).1, (dgsOf (C - (l1 ++ [d6]).length) s6).2) := by
  have e : C - l1.length = (C - (l1 ++ [d6]).length) + 1 := by simp; omega
  rw [hd, e, dgsOf, hb]
  simp [hds]

theorem put4_only {w0 w : World} {r : Nat} (h : w0.grownBy w (some r)) (a' b' c' d' : Value) :
    w0.grownBy ((((w.setCell ⟨r, 0, none⟩ a').setCell ⟨r, 1, none⟩ b').setCell ⟨r, 2, none⟩ c').setCell ⟨r, 3, none⟩ d') (some r) :=
  only_setCell (p := ⟨r, 3, none⟩) (only_setCell (p := ⟨r, 2, none⟩) (only_setCell (p := ⟨r, 1, none⟩) (only_setCell (p := ⟨r, 0, none⟩) h (.inl rfl) a') (.inl rfl) b') (.inl rfl) c') (.inl rfl) d'

def dgsRd (C : Nat) (s : St) : List Dg × St := if C ≤ 5000 then dgsOf C s else ([], s)
def DDone (w : World) (p B : Nat) (E : Int) (T : List UInt8) (iA : Option Addr) (I : List UInt8) (iC C : Nat) (s4 : St) (wc : World) : Prop :=
  ∃ dv, RT wc w.heap.size p B E (ba T) iA I.length iC I dv (dgsRd C s4).1 (dgsRd C s4).2 ∧ Below w.heap.size w wc
def DInv (w : World) (p B : Nat) (E : Int) (T : List UInt8) (iA : Option Addr) (I : List UInt8) (iC C : Nat) (s4 : St) (g : Nat) (wc : World) : Prop :=
  ∃ l1 s5 dv, g = 70000 - l1.length ∧ l1.length ≤ C ∧ RT wc w.heap.size p B E (ba T) iA I.length iC I dv l1 s5 ∧ Below w.heap.size w wc ∧
    (C ≤ 5000 → dgsOf C s4 = (l1 ++ (dgsOf (C - l1.length) s5).1, (dgsOf (C - l1.length) s5).2)) ∧ (5000 < C → l1 = [] ∧ s5 = s4)
theorem DDone.of {w : World} {p B : Nat} {E : Int} {T : List UInt8} {iA : Option Addr} {I : List UInt8} {iC C : Nat} {s4 : St} {wc : World} {l1 : List Dg} {s5 : St} {dv : Value}
    (h : RT wc w.heap.size p B E (ba T) iA I.length iC I dv l1 s5) (hb : Below w.heap.size w wc) (he : (dgsRd C s4) = (l1, s5)) : DDone w p B E T iA I iC C s4 wc := by
  refine ⟨dv, ?_, hb⟩
  rw [he]; exact h
theorem dgsOf_bad {n : Nat} {s : St} (h : s.bad = true) : dgsOf n s = ([], s) := by
  cases n with
  | zero => rfl
  | succ n => rw [dgsOf, if_pos h]
theorem dgsOf_len : ∀ (n : Nat) (s : St), (dgsOf n s).1.length ≤ n
  | 0, _ => by simp [dgsOf]
  | n + 1, s => by
    rw [dgsOf]
    split
    · simp
    · have := dgsOf_len n (dgOf s).2
      simp; omega

set_option maxRecDepth 100000 in
set_option maxHeartbeats 3200000 in
theorem readResponse_any {w : World} {B n c : Nat} {A : Option Addr} {l : List UInt8} (h : Sl w B A n c l) (hB : B ≤ w.heap.size) :
    Calls Try.prog 22 #[.slice A n c] w (RsEnd l w) := by
  obtain ⟨i57, hi, hz, hy, hx⟩ := info_parts info57
  obtain ⟨W1, hW1⟩ : ∃ W1, W1 = w.alloc (.cells #[.int .i64 0, .string ⟨#[]⟩, .slice none 0 0, .slice none 0 0] 42) := ⟨_, rfl⟩
  have b1 : Below w.heap.size w W1 := by rw [hW1]; exact (Below.refl _ _).alloc (Nat.le_refl _) _
  have hq : W1.heap[w.heap.size]? = some (.cells #[.int .i64 0, .string ⟨#[]⟩, .slice none 0 0, .slice none 0 0] 42 (0, 0)) := by rw [hW1]; exact heap_alloc_new w _
  have hs1 : w.heap.size < W1.heap.size := by rw [hW1]; simp
  have h1 : Sl W1 B A n c l := h.below (b1.mono hB)
  have HW1 := Lib.hid hW1
  have HQ := Lib.hid hq
  clear hW1 hq h
  go_enter Try.func22, Try.ntmps22
  go_wp2_with fail
  rw [← HW1.out]
  refine (head_any h1 (by omega) (k := 3) (by omega)).mono ?_
  rintro e w2 ⟨A2, n2, c2, rfl, h2, b2⟩
  have b02 : Below w.heap.size w w2 := b1.trans (b2.mono (by omega))
  have hs12 : w.heap.size < w2.heap.size := by have := b2.size; omega
  have HQ2 := Lib.hid ((b2.block w.heap.size hs1).trans HQ.out)
  clear b1 b2 h1 HQ hs1
  generalize hisv : (!(((St.mk l false).behind 3).behind ((St.mk l false).num 3)).bad) = isv at *
  generalize hm : (St.mk l false).txt 3 = m at *
  have HIS := Lib.hid hisv
  have HM := Lib.hid hm
  clear hisv hm
  go_wp2_with fail
  obtain ⟨W3, hW3⟩ : ∃ W3, W3 = w2.alloc (.cells #[.slice A2 n2 c2, .bool false] 76) := ⟨_, rfl⟩
  have b3 : Below w2.heap.size w2 W3 := by rw [hW3]; exact (Below.refl _ _).alloc (Nat.le_refl _) _
  have hB2 : B ≤ w2.heap.size := by omega
  have hR3 : Rdr 76 W3 B w2.heap.size A2 n2 c2 (St.mk m false) := ⟨hB2, by rw [hW3]; exact heap_alloc_new w2 _, h2.below (b3.mono hB2)⟩
  have hS3 : RT W3 w.heap.size w2.heap.size B 0 ⟨#[]⟩ none 0 0 [] (.slice none 0 0) [] (St.mk m false) := ⟨(b3.block _ (by omega)).trans HQ2.out, ⟨_, _, _, hR3⟩, World.ownsRow_nil _ _ _ _, rfl, World.ownsRow_nil _ _ _ _, by omega, hB⟩
  have b03 : Below w.heap.size w W3 := b02.trans (b3.mono (by omega))
  rw [← hW3]
  clear hW3 b3 b02 HQ2 h2
  refine (num_any (k := 1) hR3 (by omega)).mono ?_
  rintro e w4 ⟨A4, n4, c4, rfl, hr4, hg4⟩
  rw [sgn_small (num_lt3 (St.mk m false) (k := 1) (by omega))]
  have hS4 := hS3.read hr4 hg4
  have b04 : Below w.heap.size w w4 := b03.trans (only_below hg4 (by have := hS3.lt; omega) (by omega))
  obtain ⟨q0, -, -, -⟩ := hS4.cell
  have F0 := hS4.free 0
  clear b03 hS3 hR3 hg4 hr4
  obtain ⟨E, hE⟩ : ∃ E, E = (St.mk m false).num 1 := ⟨_, rfl⟩
  obtain ⟨s1, hs1⟩ : ∃ s1, s1 = (St.mk m false).behind 1 := ⟨_, rfl⟩
  rw [← hE]
  rw [← hs1] at hS4
  have HEs := Lib.hid (And.intro hE hs1)
  clear hE hs1
  go_wp2_with fail
  have hS5 := hS4.set0 (E : Int)
  have b05 : Below w.heap.size w (w4.setCell ⟨w.heap.size, 0, none⟩ (.int .i64 (E : Int))) := b04.setCell (p := ⟨w.heap.size, 0, none⟩) (Nat.le_refl _) _
  generalize w4.setCell ⟨w.heap.size, 0, none⟩ (.int .i64 (E : Int)) = w5 at *
  clear b04 hS4 q0 F0
  obtain ⟨A5, n5, c5, hr5⟩ := hS5.rd
  refine (text_any (k := 2) hr5 (by omega)).mono ?_
  rintro e w6 ⟨A6, n6, c6, rfl, hr6, hg6⟩
  have hS6 := hS5.read hr6 hg6
  have b06 : Below w.heap.size w w6 := b05.trans (only_below hg6 (by have := hS5.lt; omega) (by omega))
  obtain ⟨-, q1, -, -⟩ := hS6.cell
  have F1 := hS6.free 1
  clear b05 hS5 hr5 hg6 hr6
  obtain ⟨T, hT⟩ : ∃ T, T = s1.txt 2 := ⟨_, rfl⟩
  obtain ⟨s2, hs2⟩ : ∃ s2, s2 = s1.past 2 := ⟨_, rfl⟩
  rw [← hT]
  rw [← hs2] at hS6
  have HTs := Lib.hid (And.intro hT hs2)
  clear hT hs2
  go_wp2_with fail
  have hS7 := hS6.set1 (ba T)
  have b07 : Below w.heap.size w (w6.setCell ⟨w.heap.size, 1, none⟩ (.string (ba T))) := b06.setCell (p := ⟨w.heap.size, 1, none⟩) (Nat.le_refl _) _
  generalize w6.setCell ⟨w.heap.size, 1, none⟩ (.string (ba T)) = w7 at *
  clear b06 hS6 q1 F1
  obtain ⟨A7, n7, c7, hr7⟩ := hS7.rd
  refine (num_any (k := 2) hr7 (by omega)).mono ?_
  rintro e w8 ⟨A8, n8, c8, rfl, hr8, hg8⟩
  have hnI := num_lt3 s2 (k := 2) (by omega)
  rw [sgn_small hnI]
  have hS8 := hS7.read hr8 hg8
  have b08 : Below w.heap.size w w8 := b07.trans (only_below hg8 (by have := hS7.lt; omega) (by omega))
  clear b07 hS7 hr7 hg8
  go_wp2_with fail
  refine (bytes_any hr8 (by omega)).mono ?_
  rintro e w9 ⟨A9, n9, c9, A10, n10, c10, rfl, hsl, hr10, hg10⟩
  have hS9 := hS8.read hr10 hg10
  have b09 : Below w.heap.size w w9 := b08.trans (only_below hg10 (by have := hS8.lt; omega) (by omega))
  clear b08 hS8 hr8 hg10
  go_wp2_with fail
  have hlI : ((s2.behind 2).takes (s2.num 2)).length ≤ 16777216 := by have := St.takes_length (s2.behind 2) (s2.num 2); omega
  refine (clone_n hsl.len hsl.rd (by have := hS9.lt; have := hS9.hB; omega) (by omega)).mono ?_
  rintro e w10 ⟨v10, rfl, ho10, b10⟩
  obtain ⟨iA, iC, rfl⟩ := own_slice ho10
  have hS10 := (hS9.below b10)
  have ho10' : w10.ownsRow w.heap.size 5 1 (.slice iA ((s2.behind 2).takes (s2.num 2)).length iC) ((s2.behind 2).takes (s2.num 2)).length (bv ((s2.behind 2).takes (s2.num 2))) := ownsRow_lower ho10 (Nat.le_of_lt hS9.lt)
  have b010 : Below w.heap.size w w10 := b09.trans (b10.mono (Nat.le_of_lt hS9.lt))
  obtain ⟨-, -, q2, -⟩ := hS10.cell
  have F2 := hS10.free 2
  clear b09 hS9 hsl hr10 ho10 b10
  obtain ⟨I, hI⟩ : ∃ I, I = (s2.behind 2).takes (s2.num 2) := ⟨_, rfl⟩
  rw [← hI] at ho10' hlI ⊢
  have HI := Lib.hid (show I = s2.txt 2 from hI)
  clear hI
  go_wp2_with fail
  have hS11 := hS10.set2 ho10' rfl
  have b011 : Below w.heap.size w (w10.setCell ⟨w.heap.size, 2, none⟩ (.slice iA I.length iC)) := b010.setCell (p := ⟨w.heap.size, 2, none⟩) (Nat.le_refl _) _
  generalize w10.setCell ⟨w.heap.size, 2, none⟩ (.slice iA I.length iC) = w11 at *
  clear b010 hS10 q2 F2 ho10'
  obtain ⟨s3, hs3⟩ : ∃ s3, s3 = (s2.behind 2).behind (s2.num 2) := ⟨_, rfl⟩
  rw [← hs3] at hS11
  have HS3 := Lib.hid (show s3 = s2.past 2 from hs3)
  clear hs3
  obtain ⟨A11, n11, c11, hr11⟩ := hS11.rd
  refine (num_any (k := 2) hr11 (by omega)).mono ?_
  rintro e w12 ⟨A12, n12, c12, rfl, hr12, hg12⟩
  rw [sgn_small (num_lt3 s3 (k := 2) (by omega))]
  have hS12 := hS11.read hr12 hg12
  have b012 : Below w.heap.size w w12 := b011.trans (only_below hg12 (by have := hS11.lt; omega) (by omega))
  have hC := num_lt s3 2
  obtain ⟨C, hCe⟩ : ∃ C, C = s3.num 2 := ⟨_, rfl⟩
  obtain ⟨s4, hs4⟩ : ∃ s4, s4 = s3.behind 2 := ⟨_, rfl⟩
  rw [← hCe] at hC ⊢
  rw [← hs4] at hS12
  have HC := Lib.hid (And.intro hCe hs4)
  clear b011 hS11 hr11 hg12 hr12 hCe hs4
  go_upto_block 0 with fail
  go_cut [] (fun wc => DDone w w2.heap.size B (E : Int) T iA I iC C s4 wc)
  case first =>
    go_wp2_with fail
    go_loopg [] 70000 (fun g wr => DInv w w2.heap.size B (E : Int) T iA I iC C s4 g wr)
    case atStart => exact ⟨[], s4, .slice none 0 0, by simp, Nat.zero_le _, hS12, b012, fun _ => by simp, fun _ => ⟨rfl, rfl⟩⟩
    case round =>
      obtain ⟨l1, s5, dv, rfl, hlC, hS, hb, hd1, hd2⟩ := hrel
      obtain ⟨-, -, -, k3⟩ := hS.cell
      obtain ⟨dA, dC, rfl⟩ := own_slice hS.dgs
      obtain ⟨A0, n0, c0, hr⟩ := hS.rd
      have kb := hr.cell1
      clear hS12 b012
      by_cases hbig : 5000 < C
      · obtain ⟨rfl, rfl⟩ := hd2 hbig
        have hb1 : (5000 : Int) < (C : Int) := by omega
        have hl0 : (([] : List Dg).length : Int) < (C : Int) := by simp; omega
        have hY : dgsRd C s5 = ([], s5) := by unfold dgsRd; rw [if_neg (by omega)]
        have HY := Lib.hid hY
        clear hd1 hd2 hY
        go_wp2_with fail
        go_meet
        case rel => exact DDone.of hS hb HY.out
      · have hb1 : (C : Int) ≤ 5000 := by omega
        have hd := hd1 (by omega)
        have hY : dgsRd C s4 = dgsOf C s4 := by unfold dgsRd; rw [if_pos (by omega)]
        have HY := Lib.hid hY
        have HD := Lib.hid hd
        clear hd1 hd2 hY hd hbig
        by_cases hlt : l1.length < C
        · cases hbad : s5.bad with
          | true =>
            rw [hbad] at kb
            have HB := Lib.hid hbad
            have hlt' : (l1.length : Int) < (C : Int) := by omega
            clear hbad
            go_wp2_with fail
            go_meet
            case rel => exact DDone.of hS hb (by rw [HY.out, HD.out, dgsOf_bad HB.out]; simp)
          | false =>
            rw [hbad] at kb
            have HB := Lib.hid hbad
            have hlt' : (l1.length : Int) < (C : Int) := by omega
            clear hbad
            go_wp2_with fail
            obtain ⟨d6, s6, hds⟩ : ∃ d6 s6, dgOf s5 = (d6, s6) := ⟨_, _, rfl⟩
            have HDS := Lib.hid hds
            clear hds
            have hll : l1.length ≤ 5000 := by omega
            have F3 := hS.free 3
            have hr0 := hS.lt
            have hrD : Rdr 76 wr.drew B w2.heap.size A0 n0 c0 s5 := hr.below ((Below.refl _ _).drew)
            have hSD := hS.drew
            go_region_law (first
              | (refine step_append_lies _ (by rfl) _ _ _ (by rfl) w.heap.size 57 i57 _ 3 32 Try.underlying40 hi hz hy hx rfl (by omega) _ _ _ (by rfl) (hS6.dgs.alloc (.cells #[.string (ba d6.frag), .int .i64 d6.line, .int .i64 d6.e] 57)) ⟨w6.heap.size, 0, none⟩ 1 1 [.string (ba d6.frag), .int .i64 d6.line, .int .i64 d6.e] (by rfl) (by rfl) (World.news_of_block (cs := #[.string (ba d6.frag), .int .i64 d6.line, .int .i64 d6.e]) (t := 57) (fr := (0, 0)) (heap_alloc_new w6 _)) (by simp [Value.oneCell']) (by omega) (by unfold maxLen; omega) (by omega) (by first | omega | (simp; done) | (simp; omega)) _ rfl ?_; intro g7 cap7 w7 hown7 hgrow7 hat7 hlt7; have hS7 := hS6a.push hgrow7 hown7; have hB7 := (hgrow7.block w.heap.size hS6a.lt (fun e => own_blk_ne hS6a.dgs hS6a.blk (by decide) e.symm)).trans hS6a.blk; have f7 : w7.frozen? ⟨w.heap.size, 3, none⟩ = false := (by simp [World.frozen?, hB7]); have c7 := (box4 hB7).2.2.2; clear hB7)
              | (go_simp; go_at_call 47; first | (refine (rdiag_eq hr HDS).mono ?_; rintro e w6 ⟨A6', n6', c6', rfl, hr6, hg6⟩; have hS6 := hS.read hr6 hg6; have hS6a := hS6.below ((Below.refl _ _).alloc (Nat.le_refl _) (.cells #[.string (ba d6.frag), .int .i64 d6.line, .int .i64 d6.e] 57)); have k36 := hS6.cell.2.2.2; have hr06 := hS6.lt) | (refine (rdiag_eq hrD HDS).mono ?_; rintro e w6 ⟨A6', n6', c6', rfl, hr6, hg6⟩; have hS6 := hSD.read hr6 hg6; have hS6a := hS6.below ((Below.refl _ _).alloc (Nat.le_refl _) (.cells #[.string (ba d6.frag), .int .i64 d6.line, .int .i64 d6.e] 57)); have k36 := hS6.cell.2.2.2; have hr06 := hS6.lt)))
            all_goals
              have hb6 : Below w.heap.size w w6 := (hb.drew).trans (only_below hg6 (Nat.le_of_lt hr0) (by omega))
              have hb7 : Below w.heap.size w w7 := (hb6.alloc (Nat.le_of_lt hr06) _).grown hgrow7 (by simp; omega) (fun k hk => by
                rcases hS6.dgs.2 with ⟨e1, _⟩ | ⟨g', cap', cur', e1, hb', _⟩
                · rw [e1] at hk; simp [Value.ownBlock] at hk
                · rw [e1] at hk; simp [Value.ownBlock] at hk; omega)
              have HF : Hid (DInv w w2.heap.size B (E : Int) T iA I iC C s4 (70000 - (l1 ++ [d6]).length) (w7.setCell ⟨w.heap.size, 3, none⟩ (.slice (some ⟨g7, 0, none⟩) (l1.length + 1) cap7))) :=
                ⟨l1 ++ [d6], s6, _, rfl, by simp; omega, hS7, hb7.setCell (p := ⟨w.heap.size, 3, none⟩) (Nat.le_refl _) _, fun _ => dgs_step hlt HD.out HB.out HDS.out, fun h => absurd h (by omega)⟩
              clear hb6 hb7 hS7 hgrow7 hown7 hat7 hS6 hS6a hS hSD hr hrD hr6 hg6 c7 f7 k36 k3 kb F3
              go_wp2
              go_roundg (70000 - (l1 ++ [d6]).length)
              case measure => simp; omega
              case rel => exact HF.out
        · have hlt' : (C : Int) ≤ (l1.length : Int) := by omega
          go_wp2_with fail
          go_meet
          case rel => exact DDone.of hS hb (by rw [HY.out, HD.out, show C - l1.length = 0 by omega]; simp [dgsOf])
  case rest =>
    obtain ⟨dv, hS, hb⟩ := hcut
    obtain ⟨dA, dC, rfl⟩ := own_slice hS.dgs
    obtain ⟨A0, n0, c0, hr⟩ := hS.rd
    have HX : Hid (rsOf m = (⟨(E : Int), T, I, (dgsRd C s4).1⟩, C, (dgsRd C s4).2)) := by
      obtain ⟨e1, e2⟩ := HEs.out
      obtain ⟨e3, e4⟩ := HTs.out
      have e5 := HI.out
      have e6 := HS3.out
      obtain ⟨e7, e8⟩ := HC.out
      show _ = _
      simp only [rsOf, ← e1, ← e2, ← e3, ← e4, ← e5, ← e6, ← e7, ← e8]
      rfl
    have HDL : Hid ((dgsRd C s4).1.length ≤ 65536) := by
      show _ ≤ _
      unfold dgsRd
      split
      · have := dgsOf_len C s4; omega
      · simp
    generalize (dgsRd C s4).1 = ds at *
    generalize (dgsRd C s4).2 = s5 at *
    have HRD := Lib.hid (rsRead_eq HIS.out HM.out HX.out)
    have HBLK := Lib.hid hS.blk
    have HFAIL : Hid ((rsRead l = (noRs, 0, false)) → ∀ wf, Below w.heap.size w wf → RsEnd l w (.returned (.tuple #[rsv 0 ⟨#[]⟩ none 0 0 none 0 0, .int .i64 0, .bool false])) wf) := by
      intro hr wf hbf
      unfold RsEnd
      rw [hr]
      exact ⟨none, 0, none, 0, rfl, World.ownsRow_nil _ _ _ _, World.ownsRow_nil _ _ _ _, hbf⟩
    obtain ⟨k0, k1, k2, k3⟩ := hS.cell
    have F0 := hS.free 0
    have F1 := hS.free 1
    have F2 := hS.free 2
    have F3 := hS.free 3
    have hTs : (ba T).size = T.length := ba_size T
    have HTS := Lib.hid hTs
    have hT0 : T.length < 16777216 := by have := HTs.out.1; rw [this]; exact txt_lt _ (by omega)
    clear hTs hS12 b012
    cases isv with
    | false =>
      have HR : Hid (rsRead l = (noRs, 0, false)) := by show _ = _; rw [HRD.out]; simp
      go_wp2_with fail
      obtain ⟨q0, q1, q2, q3⟩ := box4 (put4 HBLK.out (.int .i64 0) (.string ⟨#[]⟩) (.slice none 0 0) (.slice none 0 0))
      refine bodyPost_ret (v := .tuple #[rsv 0 ⟨#[]⟩ none 0 0 none 0 0, .int .i64 0, .bool false]) (by simp [results, Try.results22, go_sem, q0, q1, q2, q3]; rfl) rfl ?_
      exact HFAIL.out HR.out _ (put4_below hb (Nat.le_refl _) _ _ _ _)
    | true =>
      cases he : (!s5.bad && s5.l.isEmpty) with
      | false =>
        have HR : Hid (rsRead l = (noRs, 0, false)) := by show _ = _; rw [HRD.out, he]; simp
        have HE := Lib.hid he
        clear he
        go_wp2_with (go_at_call 36; refine (ended_any hr).mono ?_; rintro e w' ⟨rfl, rfl⟩; rw [HE.out])
        obtain ⟨q0, q1, q2, q3⟩ := box4 (put4 HBLK.out (.int .i64 0) (.string ⟨#[]⟩) (.slice none 0 0) (.slice none 0 0))
        refine bodyPost_ret (v := .tuple #[rsv 0 ⟨#[]⟩ none 0 0 none 0 0, .int .i64 0, .bool false]) (by simp [results, Try.results22, go_sem, q0, q1, q2, q3]; rfl) rfl ?_
        exact HFAIL.out HR.out _ (put4_below hb (Nat.le_refl _) _ _ _ _)
      | true =>
        have HE := Lib.hid he
        by_cases hc5 : 5000 < C
        · have HR : Hid (rsRead l = (noRs, 0, false)) := by show _ = _; rw [HRD.out]; simp [hc5]
          have hc5' : (5000 : Int) < (C : Int) := by omega
          clear he
          go_wp2_with (go_at_call 36; refine (ended_any hr).mono ?_; rintro e w' ⟨rfl, rfl⟩; rw [HE.out])
          obtain ⟨q0, q1, q2, q3⟩ := box4 (put4 HBLK.out (.int .i64 0) (.string ⟨#[]⟩) (.slice none 0 0) (.slice none 0 0))
          refine bodyPost_ret (v := .tuple #[rsv 0 ⟨#[]⟩ none 0 0 none 0 0, .int .i64 0, .bool false]) (by simp [results, Try.results22, go_sem, q0, q1, q2, q3]; rfl) rfl ?_
          exact HFAIL.out HR.out _ (put4_below hb (Nat.le_refl _) _ _ _ _)
        · have hc5' : (C : Int) ≤ 5000 := by omega
          by_cases ht6 : 600 < T.length
          · have HR : Hid (rsRead l = (noRs, 0, false)) := by show _ = _; rw [HRD.out]; simp [ht6]
            have ht6' : (600 : Int) < ((ba T).size : Int) := by have := HTS.out; omega
            clear he
            go_wp2_with (go_at_call 36; refine (ended_any hr).mono ?_; rintro e w' ⟨rfl, rfl⟩; rw [HE.out])
            obtain ⟨q0, q1, q2, q3⟩ := box4 (put4 HBLK.out (.int .i64 0) (.string ⟨#[]⟩) (.slice none 0 0) (.slice none 0 0))
            refine bodyPost_ret (v := .tuple #[rsv 0 ⟨#[]⟩ none 0 0 none 0 0, .int .i64 0, .bool false]) (by simp [results, Try.results22, go_sem, q0, q1, q2, q3]; rfl) rfl ?_
            exact HFAIL.out HR.out _ (put4_below hb (Nat.le_refl _) _ _ _ _)
          · have ht6' : ((ba T).size : Int) ≤ 600 := by have := HTS.out; omega
            by_cases hi4 : 4096 < I.length
            · have HR : Hid (rsRead l = (noRs, 0, false)) := by show _ = _; rw [HRD.out]; simp [hi4]
              have hi4' : (4096 : Int) < (I.length : Int) := by omega
              clear he
              go_wp2_with (go_at_call 36; refine (ended_any hr).mono ?_; rintro e w' ⟨rfl, rfl⟩; rw [HE.out])
              obtain ⟨q0, q1, q2, q3⟩ := box4 (put4 HBLK.out (.int .i64 0) (.string ⟨#[]⟩) (.slice none 0 0) (.slice none 0 0))
              refine bodyPost_ret (v := .tuple #[rsv 0 ⟨#[]⟩ none 0 0 none 0 0, .int .i64 0, .bool false]) (by simp [results, Try.results22, go_sem, q0, q1, q2, q3]; rfl) rfl ?_
              exact HFAIL.out HR.out _ (put4_below hb (Nat.le_refl _) _ _ _ _)
            · have hi4' : (I.length : Int) ≤ 4096 := by omega
              have HR : Hid (rsRead l = (⟨(E : Int), T, I, ds⟩, (St.mk l false).num 3 + 3, true)) := by
                show _ = _; rw [HRD.out, he]; simp [ht6, hi4]; omega
              clear he
              go_wp2_with (go_at_call 36; refine (ended_any hr).mono ?_; rintro e w' ⟨rfl, rfl⟩; rw [HE.out])
              have hdl : ds.length ≤ 65536 := HDL.out
              refine (dclone_any rfl hS.dgs (by omega)).mono ?_
              rintro e w13 ⟨dA', dC', rfl, ho13, b13⟩
              have hS13 := hS.below b13
              have hlt13 := hS.lt
              have b013 : Below w.heap.size w w13 := hb.trans (b13.mono (Nat.le_of_lt hlt13))
              have ho13' := ownsRow_lower ho13 (Nat.le_of_lt hlt13)
              clear k0 k1 k2 k3 F0 F1 F2 F3 hS hr hb ho13 b13
              obtain ⟨k0, k1, k2, k3⟩ := hS13.cell
              have F0 := hS13.free 0
              have F1 := hS13.free 1
              have F2 := hS13.free 2
              have F3 := hS13.free 3
              have hS14 := hS13.set3 rfl ho13'
              have b014 : Below w.heap.size w (w13.setCell ⟨w.heap.size, 3, none⟩ (.slice dA' ds.length dC')) := b013.setCell (p := ⟨w.heap.size, 3, none⟩) (Nat.le_refl _) _
              obtain ⟨m0, m1, m2, m3⟩ := hS14.cell
              have G0 := hS14.free 0
              have G1 := hS14.free 1
              have G2 := hS14.free 2
              have G3 := hS14.free 3
              have hn3 := num_lt3 (St.mk l false) (k := 3) (by omega)
              go_wp2_with fail
              have hq := put4 hS14.blk (.int .i64 (E : Int)) (.string (ba T)) (.slice iA I.length iC) (.slice dA' ds.length dC')
              have hbf := put4_below b014 (Nat.le_refl _) (.int .i64 (E : Int)) (.string (ba T)) (.slice iA I.length iC) (.slice dA' ds.length dC')
              have hgf := put4_only (World.grownBy.refl (w13.setCell ⟨w.heap.size, 3, none⟩ (.slice dA' ds.length dC')) (some w.heap.size)) (.int .i64 (E : Int)) (.string (ba T)) (.slice iA I.length iC) (.slice dA' ds.length dC')
              obtain ⟨q0, q1, q2, q3⟩ := box4 hq
              have hi1 := own_keep hS14.imo hS14.blk (by decide) hgf
              have hi2 := own_keep hS14.dgs hS14.blk (by decide) hgf
              refine bodyPost_ret (v := .tuple #[rsv (E : Int) (ba T) iA I.length iC dA' ds.length dC', .int .i64 (((St.mk l false).num 3 + 3 : Nat) : Int), .bool true]) (by simp [results, Try.results22, go_sem, q0, q1, q2, q3]; rfl) rfl ?_
              unfold RsEnd
              rw [HR.out]
              exact ⟨iA, iC, dA', dC', rfl, hi1, hi2, hbf⟩
end Go.Proofs.Ytifdkkkcecpjoaa
end
section
/-
  The statements' own first look: 'known' answers true.
-/
namespace Go.Proofs.Ytifdkkkcecpjoaa
open Go.RowKit
attribute [local go_sem ↓] Go.wp_at_zero Go.wp_at_succ

theorem sl_of_own {w : World} {base : Nat} {v : Value} {l : List UInt8} (h : w.ownsRow base 5 1 v l.length (bv l)) : ∃ A c, v = .slice A l.length c ∧ Sl w w.heap.size A l.length c l := by
  obtain ⟨A, c, e, hr⟩ := own_reads h
  refine ⟨A, c, e, rfl, ?_, ?_, hr⟩
  · rcases h.2 with ⟨rfl, h0⟩ | ⟨g, cap, cur, rfl, hb, hg, hnc, hcm, _⟩
    · injection e with e1 e2 e3; omega
    · injection e with e1 e2 e3; omega
  · rcases h.2 with ⟨rfl, h0⟩ | ⟨g, cap, cur, rfl, hb, hg, hnc, hcm, _⟩
    · injection e with e1 e2 e3; rw [← e3]; exact Nat.zero_le _
    · injection e with e1 e2 e3; rw [← e3]; exact hcm

theorem bytes_sl {l : List UInt8} {w : World} {e : Ending} {w' : World} (h : BytesEnd l w e w') : ∃ A c, e = .returned (.slice A l.length c) ∧ Sl w' w'.heap.size A l.length c l ∧ Below w.heap.size w w' := by
  obtain ⟨v, rfl, ho, hb⟩ := h
  obtain ⟨A, c, rfl, hs⟩ := sl_of_own ho
  exact ⟨A, c, rfl, hs, hb⟩

def sK : ByteArray := ⟨#[107]⟩
def rK : Rq := ⟨5, [107], [], -7⟩
theorem rK_right : rK.right = true := by decide
theorem rK_enc : (rqOfV 5 sK ⟨#[]⟩ (-7)).enc = rK.enc := rfl
theorem rK_read : rqRead rK.enc = (rK, 13, 0) := by
  have h := rqRead_enc rK_right []
  rw [List.append_nil] at h
  exact h
theorem rqRead_nil : rqRead [] = (noRq, 0, 0) := rfl
def rB : Rs := ⟨11, [], [], []⟩
theorem rB_ok : rB.Ok := ⟨by decide, by decide, by decide, by decide, by decide, by intro d hd; cases hd⟩
theorem rB_read : rsRead rB.enc = (rB, 10, true) := by
  have h := rsRead_enc rB_ok []
  rw [List.append_nil] at h
  exact h

def TrueEnd (w : World) (e : Ending) (w' : World) : Prop := e = .returned (.bool true) ∧ Below w.heap.size w w'

set_option maxRecDepth 100000 in
set_option maxHeartbeats 1600000 in
theorem known_any (w : World) : Calls Try.prog 12 #[] w (TrueEnd w) := by
  go_enter Try.func12, Try.ntmps12
  go_wp2_with fail
  refine (readRequest_any (Sl.nil_ w 0) (Nat.zero_le _)).mono ?_
  rintro e w1 ⟨he, b1⟩
  rw [rqRead_nil] at he
  obtain rfl : e = .returned (.tuple #[.agg #[.int .i64 0, .string ⟨#[]⟩, .string ⟨#[]⟩, .int .i64 0], .int .i64 0, .int .i64 0]) := he
  go_wp2_with fail
  obtain ⟨W2, hW2⟩ : ∃ W2, W2 = (w1.alloc (.cells #[.int .i64 0, .string ⟨#[]⟩, .string ⟨#[]⟩, .int .i64 0] 27)).alloc (.cells #[.int .i64 5, .string ⟨#[107]⟩, .string ⟨#[]⟩, .int .i64 (-7)] 27) := ⟨_, rfl⟩
  have hs1 := b1.size
  have b2 : Below w.heap.size w W2 := by rw [hW2]; exact (b1.alloc hs1 _).alloc (by simp; omega) _
  have hq2 : W2.heap[w1.heap.size + 1]? = some (.cells #[.int .i64 5, .string ⟨#[107]⟩, .string ⟨#[]⟩, .int .i64 (-7)] 27 (0, 0)) := by
    rw [hW2]
    have := heap_alloc_new (w1.alloc (.cells #[.int .i64 0, .string ⟨#[]⟩, .string ⟨#[]⟩, .int .i64 0] 27)) (.cells #[.int .i64 5, .string ⟨#[107]⟩, .string ⟨#[]⟩, .int .i64 (-7)] 27)
    simpa using this
  have hz2 : w1.heap.size + 1 < W2.heap.size := by rw [hW2]; simp
  rw [← hW2]
  have HQ2 := Lib.hid hq2
  clear hW2 hq2 b1
  refine (request_any 5 sK ⟨#[]⟩ (-7) _ (by decide) (by decide)).mono ?_
  intro e w3 h3
  rw [rK_enc] at h3
  obtain ⟨A3, c3, rfl, hs3, b3⟩ := bytes_sl h3
  have b03 : Below w.heap.size w w3 := b2.trans (b3.mono b2.size)
  have HQ3 := Lib.hid ((b3.block _ hz2).trans HQ2.out)
  have hz3 : w1.heap.size + 1 < w3.heap.size := Nat.lt_of_lt_of_le hz2 b3.size
  clear h3 b3 b2 HQ2 hz2
  go_wp2_with fail
  refine (readRequest_any hs3 (Nat.le_refl _)).mono ?_
  rintro e w4 ⟨he, b4⟩
  rw [rK_read] at he
  obtain rfl : e = .returned (.tuple #[.agg #[.int .i64 5, .string ⟨#[107]⟩, .string ⟨#[]⟩, .int .i64 (-7)], .int .i64 13, .int .i64 0]) := he
  have b04 : Below w.heap.size w w4 := b03.trans (b4.mono b03.size)
  have HQ4 := Lib.hid ((b4.block _ hz3).trans HQ3.out)
  have hz4 : w1.heap.size + 1 < w4.heap.size := Nat.lt_of_lt_of_le hz3 b4.size
  clear b4 b03 HQ3 hz3 hs3
  go_wp2_with fail
  obtain ⟨W5, hW5⟩ : ∃ W5, W5 = w4.alloc (.cells #[.int .i64 5, .string ⟨#[107]⟩, .string ⟨#[]⟩, .int .i64 (-7)] 27) := ⟨_, rfl⟩
  have b5 : Below w.heap.size w W5 := by rw [hW5]; exact b04.alloc b04.size _
  have hq5 : W5.heap[w4.heap.size]? = some (.cells #[.int .i64 5, .string ⟨#[107]⟩, .string ⟨#[]⟩, .int .i64 (-7)] 27 (0, 0)) := by rw [hW5]; exact heap_alloc_new _ _
  have hq5' : W5.heap[w1.heap.size + 1]? = some (.cells #[.int .i64 5, .string ⟨#[107]⟩, .string ⟨#[]⟩, .int .i64 (-7)] 27 (0, 0)) := by rw [hW5]; exact (Below.heap_alloc _ _ _ hz4).trans HQ4.out
  have hz5 : w4.heap.size < W5.heap.size := by rw [hW5]; simp
  rw [← hW5]
  have HQ5 := Lib.hid (And.intro hq5 hq5')
  clear hW5 hq5 hq5' b04 HQ4
  refine (response_any (w := W5) 11 ⟨#[]⟩ (Sl.nil_ W5 0) (⟨rfl, fun h => absurd h (by omega)⟩ : Sd W5 0 none 0 []) (Nat.zero_le _) (by decide) (by decide) (by decide) (by intro d hd; cases hd)).mono ?_
  intro e w6 h6
  obtain ⟨A6, c6, rfl, hs6, b6⟩ := bytes_sl h6
  have b06 : Below w.heap.size w w6 := b5.trans (b6.mono b5.size)
  have HQ6 := Lib.hid (And.intro ((b6.block _ hz5).trans HQ5.out.1) ((b6.block _ (by omega)).trans HQ5.out.2))
  have hz6 : w4.heap.size < w6.heap.size := Nat.lt_of_lt_of_le hz5 b6.size
  clear h6 b6 b5 HQ5 hz5
  go_wp2_with fail
  refine (readResponse_any hs6 (Nat.le_refl _)).mono ?_
  rintro e w7 ⟨iA, iC, dA, dC, he, -, -, b7⟩
  have hrd : rsRead (Rs.enc ⟨11, bl ⟨#[]⟩, [], []⟩) = (rB, 10, true) := rB_read
  rw [hrd] at he
  obtain rfl : e = .returned (.tuple #[.agg #[.int .i64 11, .string ⟨#[]⟩, .slice iA 0 iC, .slice dA 0 dC], .int .i64 10, .bool true]) := he
  have b07 : Below w.heap.size w w7 := b06.trans (b7.mono b06.size)
  have HQ7 := Lib.hid (And.intro ((b7.block _ hz6).trans HQ6.out.1) ((b7.block _ (by omega)).trans HQ6.out.2))
  have hz7 : w4.heap.size < w7.heap.size := Nat.lt_of_lt_of_le hz6 b7.size
  have hz17 : w1.heap.size + 1 < w7.heap.size := by omega
  obtain ⟨a0, a1, a2, a3⟩ := box4 HQ7.out.1
  obtain ⟨d0, d1, d2, d3⟩ := box4 HQ7.out.2
  clear b7 b06 HQ6 hz6 hs6 hrd
  go_wp2_with fail

  go_ret
  exact ⟨rfl, b07.alloc b07.size _⟩
end Go.Proofs.Ytifdkkkcecpjoaa
end
section
/-
  Numbers that are held in bounds; names; what comes in as bytes.
-/
namespace Go.Proofs.Ytifdkkkcecpjoaa
open Go.RowKit
attribute [local go_sem ↓] Go.wp_at_zero Go.wp_at_succ

theorem tmod_neg' {a n : Int} (hn : 0 < n) (h : a < 0) : a.tmod n ≤ 0 ∧ -n < a.tmod n ∧ (a.tmod n = a % n ∨ (a.tmod n < 0 ∧ a.tmod n + n = a % n)) := by
  obtain ⟨b, rfl⟩ : ∃ b : Int, a = -b := ⟨-a, by omega⟩
  have e1 : (-b).tmod n = -(b.tmod n) := Int.neg_tmod b n
  have e2 : b.tmod n = b % n := Int.tmod_eq_emod_of_nonneg (by omega)
  have h3 := Int.emod_nonneg b (show n ≠ 0 by omega)
  have h4 := Int.emod_lt_of_pos b hn
  have h5 := Int.emod_nonneg (-b) (show n ≠ 0 by omega)
  have h6 := Int.emod_lt_of_pos (-b) hn
  have h7 := Int.mul_ediv_add_emod b n
  have h8 := Int.mul_ediv_add_emod (-b) n
  rw [e1, e2]
  refine ⟨by omega, by omega, ?_⟩
  have h9 : n * ((-b) / n + b / n) = -(b % n) - (-b) % n := by rw [Int.mul_add]; omega
  generalize (-b) / n + b / n = q at h9
  have q1 : q ≤ 0 := by
    apply Int.not_lt.1
    intro hq
    have := Int.mul_le_mul_of_nonneg_left (show 1 ≤ q by omega) (show 0 ≤ n by omega)
    omega
  have q2 : -2 < q := by
    apply Int.not_le.1
    intro hq
    have := Int.mul_le_mul_of_nonneg_left hq (show 0 ≤ n by omega)
    omega
  rcases (show q = 0 ∨ q = -1 by omega) with h | h <;> rw [h] at h9 <;> omega

set_option maxHeartbeats 400000 in
theorem within15 (a n : Int) (w : World) (hn : 0 < n) (hb : n ≤ 9223372036854775807) (ha : -9223372036854775808 ≤ a) (ha' : a ≤ 9223372036854775807) :
    Calls Try.prog 15 #[.int .i64 a, .int .i64 n] w fun e w' => e = .returned (.int .i64 (a % n)) ∧ w = w' := by
  by_cases h : 0 ≤ a
  · have h3 : 0 ≤ a % n := Int.emod_nonneg _ (by omega)
    go_enter Try.func15, Try.ntmps15
    go_wp2
    go_ret
    exact ⟨rfl, rfl⟩
  · obtain ⟨h4, h6, hx⟩ := tmod_neg' hn (show a < 0 by omega)
    have h7 := Int.emod_nonneg a (show n ≠ 0 by omega)
    have HX := Lib.hid hx
    clear hx
    go_enter Try.func15, Try.ntmps15
    go_wp2
    · go_ret
      exact ⟨ret_int (by rcases HX.out with h | h <;> omega), rfl⟩
    · go_ret
      exact ⟨ret_int (by rcases HX.out with h | h <;> omega), rfl⟩

set_option maxHeartbeats 400000 in
theorem within27 (a n : Int) (w : World) (hn : 0 < n) (hb : n ≤ 9223372036854775807) (ha : -9223372036854775808 ≤ a) (ha' : a ≤ 9223372036854775807) :
    Calls Try.prog 27 #[.int .i64 a, .int .i64 n] w fun e w' => e = .returned (.int .i64 (a % n)) ∧ w = w' := by
  by_cases h : 0 ≤ a
  · have h3 : 0 ≤ a % n := Int.emod_nonneg _ (by omega)
    go_enter Try.func27, Try.ntmps27
    go_wp2
    go_ret
    exact ⟨rfl, rfl⟩
  · obtain ⟨h4, h6, hx⟩ := tmod_neg' hn (show a < 0 by omega)
    have h7 := Int.emod_nonneg a (show n ≠ 0 by omega)
    have HX := Lib.hid hx
    clear hx
    go_enter Try.func27, Try.ntmps27
    go_wp2
    · go_ret
      exact ⟨ret_int (by rcases HX.out with h | h <;> omega), rfl⟩
    · go_ret
      exact ⟨ret_int (by rcases HX.out with h | h <;> omega), rfl⟩

/-- Bytes that came in. -/
theorem sl_of_row {w : World} {a : Option Addr} {len cap : Nat} {zs : List Int}
    (h : (a = none ∧ len = 0 ∧ cap = 0 ∧ zs = []) ∨ ∃ x, a = some x ∧ len ≤ cap ∧ cap ≤ maxLen ∧ zs.length = cap ∧ (∀ i, i < zs.length → w.cell? (x.add i) = some (.int .u8 (zs.getD i 0))) ∧ ∀ n ∈ zs, (Lit.int .u8 n).wf = true) :
    ∃ l, Sl w w.heap.size a len cap l := by
  rcases h with ⟨rfl, rfl, rfl, rfl⟩ | ⟨x, rfl, h1, h2, h3, h4, h5⟩
  · exact ⟨[], Sl.nil_ _ _⟩
  · refine ⟨(zs.take len).map fun n => UInt8.ofNat n.toNat, by simp; omega, h1, h2, ?_⟩
    refine ⟨by simp [bv]; omega, fun h0 => ⟨x, rfl, ?_, ?_⟩⟩
    · have := h4 0 (by omega)
      have hb := World.block_lt_of_cell? w _ this
      rw [block_of_add] at hb
      exact hb
    · intro j u hu
      simp only [bv, List.map_map, List.getElem?_map, List.getElem?_take, Option.map_eq_some_iff] at hu
      obtain ⟨n, hn, rfl⟩ := hu
      split at hn
      · rename_i hj
        have hjl : j < zs.length := by omega
        rw [h4 j hjl]
        have e : zs.getD j 0 = n := by simp [List.getD, hn]
        rw [e]
        have hw := h5 n (List.mem_of_getElem? hn)
        simp [Lit.wf, IntKind.min, IntKind.max, IntKind.signed, IntKind.bits] at hw
        simp only [Function.comp]
        congr 2
        rw [UInt8.toNat_ofNat']
        omega
      · cases hn

def names : Array Value := #[.string ⟨#[109, 97, 105, 110]⟩, .string ⟨#[97]⟩, .string ⟨#[98, 49]⟩, .string ⟨#[120]⟩, .string ⟨#[108, 105, 98]⟩, .string ⟨#[101, 110, 100]⟩, .string ⟨#[99]⟩, .string ⟨#[100]⟩, .string ⟨#[101]⟩, .string ⟨#[102]⟩, .string ⟨#[98, 97, 115, 101]⟩, .string ⟨#[107]⟩]
def NameEnd (w : World) (e : Ending) (w' : World) : Prop := ∃ s : ByteArray, e = .returned (.string s) ∧ isWord (bl s) = true ∧ s.size ≤ 12 ∧ Below w.heap.size w w'
theorem names_at : ∀ k : Nat, k < 12 → ∃ s : ByteArray, names[k]? = some (.string s) ∧ isWord (bl s) = true ∧ s.size ≤ 12
  | 0, _ => ⟨_, rfl, by decide, by decide⟩
  | 1, _ => ⟨_, rfl, by decide, by decide⟩
  | 2, _ => ⟨_, rfl, by decide, by decide⟩
  | 3, _ => ⟨_, rfl, by decide, by decide⟩
  | 4, _ => ⟨_, rfl, by decide, by decide⟩
  | 5, _ => ⟨_, rfl, by decide, by decide⟩
  | 6, _ => ⟨_, rfl, by decide, by decide⟩
  | 7, _ => ⟨_, rfl, by decide, by decide⟩
  | 8, _ => ⟨_, rfl, by decide, by decide⟩
  | 9, _ => ⟨_, rfl, by decide, by decide⟩
  | 10, _ => ⟨_, rfl, by decide, by decide⟩
  | 11, _ => ⟨_, rfl, by decide, by decide⟩
  | k + 12, h => absurd h (by omega)

set_option maxRecDepth 100000 in
set_option maxHeartbeats 400000 in
theorem name_any (n : Int) (w : World) (h0 : -9223372036854775808 ≤ n) (h1 : n ≤ 9223372036854775807) : Calls Try.prog 25 #[.int .i64 n] w (NameEnd w) := by
  have hk0 := Int.emod_nonneg n (show (12 : Int) ≠ 0 by omega)
  have hk1 := Int.emod_lt_of_pos n (show (0 : Int) < 12 by omega)
  obtain ⟨k, hk⟩ : ∃ k : Nat, n % 12 = (k : Int) := ⟨(n % 12).toNat, by omega⟩
  have hk12 : k < 12 := by omega
  obtain ⟨s, hs, hw, hz⟩ := names_at k hk12
  have hcell : (w.alloc (.cells names 9)).cell? ⟨w.heap.size, k, none⟩ = some (.string s) := (cell_of_row _ w.heap.size k names 9 (0, 0) (heap_alloc_new w _)).trans hs
  have HK := Lib.hid hk
  have HS := Lib.hid hs
  clear hk hs hk0 hk1
  unfold names at hcell
  go_enter Try.func25, Try.ntmps25
  go_wp2_with fail
  refine (within27 n 12 _ (by omega) (by omega) h0 h1).mono ?_
  rintro e w2 ⟨rfl, rfl⟩
  rw [HK.out]
  go_wp2_with fail

  go_ret
  exact ⟨s, rfl, hw, hz, (Below.refl _ _).alloc (Nat.le_refl _) _⟩
end Go.Proofs.Ytifdkkkcecpjoaa
end
section
/-
  The reference's num and text: bytes behind bytes.
-/
namespace Go.Proofs.Ytifdkkkcecpjoaa
open Go.RowKit
attribute [local go_sem ↓] Go.wp_at_zero Go.wp_at_succ

def RefEnd (base : Nat) (l : List UInt8) (w : World) (e : Ending) (w' : World) : Prop :=
  ∃ v, e = .returned v ∧ w'.ownsRow base 5 1 v l.length (bv l) ∧ Below base w w' ∧ WKeep w w'

set_option maxRecDepth 100000 in
set_option maxHeartbeats 800000 in
theorem rnum_any {w : World} {base n : Nat} {v : Value} {l : List UInt8} (h : w.ownsRow base 5 1 v l.length (bv l)) (hb : base ≤ w.heap.size) (x : Int) (h1 : 1 ≤ n) (h8 : n ≤ 8) (hl : l.length ≤ 1000000000) :
    Calls Try.prog 39 #[v, .int .i64 x, .int .i64 n] w (RefEnd base (l ++ be n x) w) := by
  obtain ⟨i5, hi, hz, hy, hx⟩ := info_parts info5
  go_enter Try.func39, Try.ntmps39
  go_wp2_with fail
  go_loopw [0, 7] (fun u k wr => ∃ j : Nat, j ≤ n ∧ k = .int .i64 ((n : Int) - 1 - j) ∧ wr.ownsRow base 5 1 u (l ++ (be n x).take j).length (bv (l ++ (be n x).take j)) ∧ Below base w wr ∧ WKeep w wr) (fun _ k _ => (intOf k + 1).toNat)
  case atStart => exact ⟨0, by omega, by simp, by simpa using h, Below.refl _ _, WKeep.refl _⟩
  case round =>
    obtain ⟨j, hj, rfl, hm, hb', hkp⟩ := hrel
    by_cases hlt : j < n
    · obtain ⟨a, m, c, rfl⟩ := own_form hm
      have hL : (l ++ (be n x).take j).length = l.length + j := by rw [List.length_append, be_take_len x hj]
      obtain ⟨c8, hc8⟩ : ∃ c8, c8 = byteOf (x / 256 ^ (n - 1 - j)) := ⟨_, rfl⟩
      have eb : x / 2 ^ (8 * (n - 1 - j)) % 256 = (c8.toNat : Int) := by
        rw [hc8, byteOf_toNat, Int.pow_mul]
        rfl
      have hn8 : (0 : Int) ≤ 8 * ((n : Int) - 1 - j) := by omega
      have hn9 : 8 * ((n : Int) - 1 - j) ≤ 56 := by omega
      have hlb : l ++ (be n x).take (j + 1) = l ++ (be n x).take j ++ [c8] := by rw [be_take x hlt, ← hc8, List.append_assoc]
      obtain ⟨L, hLe⟩ : ∃ L, L = l ++ (be n x).take j := ⟨_, rfl⟩
      rw [← hLe] at hlb hL hm
      have HLB := Lib.hid hlb
      have hmx : L.length ≤ 1000000008 := by omega
      have hbs := hb'.size
      have HKP := Lib.hid hkp
      clear hlb hL hc8 hLe hkp h
      go_wp2_with (at_builtin; refine wpList_append_lies _ rfl _ _ 23 rfl base 5 i5 _ 1 1 Try.underlying23 hi hz hy hx rfl (by decide) _ _ _ rfl (hm.alloc (.cells #[.int .u8 (c8.toNat : Int)] 5)) ⟨wr.heap.size, 0, none⟩ 1 1 [.int .u8 (c8.toNat : Int)] rfl rfl (World.news_of_block (cs := #[.int .u8 (c8.toNat : Int)]) (t := 5) (fr := (0, 0)) (heap_alloc_new wr _)) (by simp [Value.oneCell']) (by omega) (by unfold maxLen; omega) (by omega) (by simp; omega) _ rfl ?_; intro g4 cap4 w4 hown4 hgrow4 hat4 hlt4)
      have hb4 : Below base w w4 := (hb'.alloc (by omega) _).grown hgrow4 (by simp; omega) (own_base hm)
      have hk4 : WKeep wr w4 := (WKeep.of_below ((Below.refl _ _).alloc (Nat.le_refl _) _)).trans (WKeep.grown (hm.alloc (.cells #[.int .u8 (c8.toNat : Int)] 5)) hgrow4)
      have hF : w4.ownsRow base 5 1 (.slice (some ⟨g4, 0, none⟩) (L.length + 1) cap4) (l ++ (be n x).take (j + 1)).length (bv (l ++ (be n x).take (j + 1))) := by
        rw [HLB.out, bv_append, List.length_append]; exact hown4
      have HF := Lib.hid hF
      clear hF hown4 hgrow4 hat4
      go_roundw
      case rel => exact ⟨j + 1, by omega, by congr 1; omega, HF.out, hb4, HKP.out.trans hk4⟩
      case measure => simp [intOf]; omega
    · obtain rfl : j = n := by omega
      rw [be_take_all] at hm
      obtain ⟨a, m, c, rfl⟩ := own_form hm
      go_wp2
      go_ret
      exact ⟨_, rfl, hm, hb', hkp⟩

set_option maxRecDepth 100000 in
set_option maxHeartbeats 800000 in
theorem rtext_any {w : World} {base n : Nat} {v : Value} {l : List UInt8} (h : w.ownsRow base 5 1 v l.length (bv l)) (hb : base ≤ w.heap.size) (s : ByteArray) (h1 : 1 ≤ n) (h8 : n ≤ 8) (hl : l.length ≤ 900000000) (hs : s.size ≤ 100000) :
    Calls Try.prog 38 #[v, .string s, .int .i64 n] w (RefEnd base (l ++ tx n (bl s)) w) := by
  obtain ⟨i5, hi, hz, hy, hx⟩ := info_parts info5
  obtain ⟨a0, m0, c0, rfl⟩ := own_form h
  go_enter Try.func38, Try.ntmps38
  go_wp2_with fail
  refine (rnum_any (n := n) h hb (s.size : Int) h1 h8 (by omega)).mono ?_
  rintro e w1 ⟨v1, rfl, ho1, b1, k1⟩
  obtain ⟨a, m, c, rfl⟩ := own_form ho1
  have hL : (l ++ be n (s.size : Int)).length = l.length + n := by rw [List.length_append, be_length]
  have hconv := Lib.run_convert_string_bytes (P := Try.prog) w1 9 23 5 s Try.underlying9 Try.underlying23 Try.underlying5
  have hbs := b1.size
  obtain ⟨L, hLe⟩ : ∃ L, L = l ++ be n (s.size : Int) := ⟨_, rfl⟩
  rw [← hLe] at ho1 hL
  have HLe := Lib.hid hLe
  have hmx : L.length ≤ 900000008 := by omega
  clear hLe hL h
  have bw : Below w1.heap.size w1 (Lib.bytesWorld w1 5 s) := ⟨rfl, rfl, rfl, by rw [Lib.bytesWorld_size]; omega, fun k hk => Lib.bytesWorld_at_old w1 5 s k hk⟩
  have hob : (Lib.bytesWorld w1 5 s).ownsRow base 5 1 (.slice a m c) L.length (bv L) := by
    refine ⟨ho1.1, ?_⟩
    rcases ho1.2 with h0 | ⟨g, cap, cur, e, h1, h2, h3⟩
    · exact .inl h0
    · exact .inr ⟨g, cap, cur, e, h1, (bw.block g (Array.getElem?_eq_some_iff.1 h2).1).trans h2, h3⟩
  have hrd : Reads (Lib.bytesWorld w1 5 s) (w1.heap.size + 1) 1 (some ⟨w1.heap.size, 0, none⟩) s.size (bv (bl s)) := by
    refine ⟨by rw [bv_length, bl_length]; omega, fun _ => ⟨_, rfl, by show w1.heap.size < w1.heap.size + 1; omega, fun j u hu => ?_⟩⟩
    obtain ⟨y, hy, rfl⟩ := bv_get hu
    have hj : j < s.size := by have := (List.getElem?_eq_some_iff.1 hy).1; rw [bl_length] at this; exact this
    rw [Addr.add_lit, Nat.zero_add, Lib.bytesWorld_cell w1 5 s j hj]
    have : s.data.toList.getD j 0 = y := by
      have h' : s.data.toList[j]? = some y := hy
      simp [List.getD, h']
    rw [this]
  have hz1 := Lib.bytesWorld_size w1 5 s
  have HZ1 := Lib.hid hz1
  have hzz : base ≤ (Lib.bytesWorld w1 5 s).heap.size := by omega
  clear hz1
  generalize Lib.bytesWorld w1 5 s = W at *
  go_wp2_with (at_builtin; refine wpList_append_any _ rfl _ _ 23 rfl base 5 i5 _ 1 1 Try.underlying23 hi hz hy hx rfl (by decide) _ _ _ rfl hob (w1.heap.size + 1) _ s.size _ (bv (bl s)) rfl hrd (bv_one _) (by unfold maxLen; omega) (by omega) hzz ?_; intro v2 w2 hown2 hgrow2 _; obtain ⟨a2, m2, c2, rfl⟩ := own_form hown2)
  go_ret
  have hb2 : Below base w w2 := (b1.trans (bw.mono hbs |>.mono (by omega) |> fun h => h)).grown hgrow2 hzz (own_base hob)
  refine ⟨_, rfl, ?_, hb2, k1.trans ((WKeep.of_below bw).trans (WKeep.grown hob hgrow2))⟩
  rw [tx, ← List.append_assoc, bl_length, ← HLe.out, bv_append, List.length_append, bl_length]
  exact hown2
end Go.Proofs.Ytifdkkkcecpjoaa
end
section
/-
  The reference's Response: the bytes of any response.
-/
namespace Go.Proofs.Ytifdkkkcecpjoaa
open Go.RowKit Go.Proofs.YtifdkkkcecpjoaaW
attribute [local go_sem ↓] Go.wp_at_zero Go.wp_at_succ
set_option linter.unusedSimpArgs false

theorem own_len {w : World} {base n m c size : Nat} {e : TypeId} {A : Option Addr} {xs : List Value} (h : w.ownsRow base e size (.slice A m c) n xs) : m = n := by
  rcases h.2 with ⟨e1, h0⟩ | ⟨g, cap, cur, e1, _⟩
  · injection e1 with _ e2 _; omega
  · injection e1
def RR1 (W1 : World) (base : Nat) (L : List UInt8) (v : Value) (wc : World) : Prop := wc.ownsRow base 5 1 v L.length (bv L) ∧ Below base W1 wc

set_option maxRecDepth 100000 in
set_option maxHeartbeats 3200000 in
theorem rresp_any {w : World} {B iN iC dN dC : Nat} {iA dA : Option Addr} {img : List UInt8} {ds : List Dg} (x : Int) (t : ByteArray) (hi : Sl w B iA iN iC img) (hs : Sd w B dA dN ds) (hB : B ≤ w.heap.size)
    (ht : t.size ≤ 600) (hi4 : img.length ≤ 4096) (hn : ds.length ≤ 5000) (hd : ∀ d ∈ ds, d.frag.length ≤ 100) :
    Calls Try.prog 23 #[rsv x t iA iN iC dA dN dC] w (BytesEnd (Rs.enc ⟨x, bl t, img, ds⟩) w) := by
  unfold rsv
  obtain ⟨i5, hi5, hz5', hy5, hx5⟩ := info_parts info5
  have HD := Lib.hid hd
  have HLN := Lib.hid hs.len
  have hdN : dN ≤ 5000 := by have := hs.len; omega
  obtain ⟨W1, hW1⟩ : ∃ W1, W1 = w.alloc (.cells #[.int .i64 x, .string t, .slice iA iN iC, .slice dA dN dC] 42) := ⟨_, rfl⟩
  have b01 : Below w.heap.size w W1 := by rw [hW1]; exact (Below.refl _ _).alloc (Nat.le_refl _) _
  have hq : W1.heap[w.heap.size]? = some (.cells #[.int .i64 x, .string t, .slice iA iN iC, .slice dA dN dC] 42 (0, 0)) := by rw [hW1]; exact heap_alloc_new w _
  have hz1 : W1.heap.size = w.heap.size + 1 := by rw [hW1]; simp
  have hS : ∀ y : World, Below (w.heap.size + 1) W1 y → y.cell? ⟨w.heap.size, 0, none⟩ = some (.int .i64 x) ∧ y.cell? ⟨w.heap.size, 1, none⟩ = some (.string t) ∧ y.cell? ⟨w.heap.size, 2, none⟩ = some (.slice iA iN iC) := fun y hb => by
    obtain ⟨a0, a1, a2, a3⟩ := box4 ((hb.block _ (by omega)).trans hq)
    exact ⟨a0, a1, a2⟩
  have hS3 : ∀ y : World, Below (w.heap.size + 1) W1 y → y.cell? ⟨w.heap.size, 3, none⟩ = some (.slice dA dN dC) := fun y hb => (box4 ((hb.block _ (by omega)).trans hq)).2.2.2
  have hSL : ∀ y : World, Below (w.heap.size + 1) W1 y → Sl y B iA iN iC img := fun y hb => hi.below ((b01.trans (hb.mono (by omega))).mono hB)
  have hSD : ∀ y : World, Below (w.heap.size + 1) W1 y → Sd y B dA dN ds := fun y hb => hs.below ((b01.trans (hb.mono (by omega))).mono hB)
  have c1 : ∀ y : World, Below (w.heap.size + 1) W1 y → Calls Try.prog 39 #[.slice none 0 0, .int .i64 x, .int .i64 1] y (RefEnd (w.heap.size + 1) (be 1 x) y) := fun y hb => by
    have := rnum_any (w := y) (base := w.heap.size + 1) (n := 1) (v := .slice none 0 0) (l := []) (World.ownsRow_nil _ _ _ _) (by have := hb.size; omega) x (by omega) (by omega) (by simp)
    rw [List.nil_append] at this
    exact this
  have c2 : ∀ (y : World) (v : Value), Below (w.heap.size + 1) W1 y → y.ownsRow (w.heap.size + 1) 5 1 v (be 1 x).length (bv (be 1 x)) → Calls Try.prog 38 #[v, .string t, .int .i64 2] y (RefEnd (w.heap.size + 1) (be 1 x ++ tx 2 (bl t)) y) := fun y v hb ho =>
    rtext_any (n := 2) ho (by have := hb.size; omega) t (by omega) (by omega) (by rw [be_length]; omega) (by omega)
  have c3 : ∀ (y : World) (v : Value), Below (w.heap.size + 1) W1 y → y.ownsRow (w.heap.size + 1) 5 1 v (be 1 x ++ tx 2 (bl t)).length (bv (be 1 x ++ tx 2 (bl t))) → Calls Try.prog 38 #[v, .string (ba img), .int .i64 2] y (RefEnd (w.heap.size + 1) (be 1 x ++ tx 2 (bl t) ++ tx 2 img) y) := fun y v hb ho => by
    have := rtext_any (n := 2) ho (by have := hb.size; omega) (ba img) (by omega) (by omega) (by rw [List.length_append, be_length, tx_length, bl_length]; omega) (by rw [ba_size]; omega)
    rw [bl_ba] at this
    exact this
  have HS := Lib.hid hS
  have HS3 := Lib.hid hS3
  have HSL := Lib.hid hSL
  have HSD := Lib.hid hSD
  have C1 := Lib.hid c1
  have C2 := Lib.hid (fun y v => c2 y v)
  have C3 := Lib.hid (fun y v => c3 y v)
  have HW1 := Lib.hid hW1
  have HZ1 := Lib.hid hz1
  have HB01 := Lib.hid b01
  clear hS hS3 hSL hSD c1 c2 c3 hW1 hz1 hq hi hs hd b01
  obtain ⟨L1, hL1⟩ : ∃ L1, L1 = be 1 x ++ tx 2 (bl t) ++ tx 2 img := ⟨_, rfl⟩
  have hl1 : L1.length ≤ 10000 := by rw [hL1, List.length_append, List.length_append, be_length, tx_length, tx_length, bl_length]; omega
  rw [← hL1] at C3
  have HL1 := Lib.hid hL1
  clear hL1
  go_enter Try.func23, Try.ntmps23
  go_upto_region 1 with fail
  rw [← HW1.out]
  go_cut [3] (fun s3 wc => RR1 W1 (w.heap.size + 1) L1 s3 wc)
  case first =>
    have B0 : Below (w.heap.size + 1) W1 W1.drew := (Below.refl _ _).drew
    have cv := sl_string (HSL.out _ B0)
    refine PrintLast.start_ (n := 11) (S := fun w' => w'.cell? ⟨w.heap.size, 0, none⟩ = some (.int .i64 x) ∧ w'.cell? ⟨w.heap.size, 1, none⟩ = some (.string t) ∧ w'.cell? ⟨w.heap.size, 2, none⟩ = some (.slice iA iN iC)) (ds := []) #[false, false, false, false, false, false, false, false, false, false, false] (by kernel_rfl) rfl rfl (HS.out _ B0) (fun hHeld => ?_)
    refine PrintLast.pure_ (i := 0) (N := some 6) (v := ?_) (a' := ?_) #[true, false, false, false, false, false, false, false, false, false, false] rfl rfl (by kernel_rfl) (fun _ _ _ h => h) (Or.inl ⟨by rfl, ?_⟩) ?_ ?_
    rotate_left
    · intro w'
      go_simp
      with_reducible rfl
    rotate_left
    · simp only [Act.put, List.setIfInBounds_toArray, List.set_cons_zero, List.set_cons_succ]
      rfl
    refine PrintLast.pure_ (i := 3) (N := some 9) (v := ?_) (a' := ?_) #[true, false, false, true, false, false, false, false, false, false, false] rfl rfl (by kernel_rfl) (fun _ _ _ h => h) (Or.inl ⟨by rfl, ?_⟩) ?_ ?_
    rotate_left
    · intro w'
      go_simp
      with_reducible rfl
    rotate_left
    · simp only [Act.put, List.setIfInBounds_toArray, List.set_cons_zero, List.set_cons_succ]
      rfl
    refine PrintLast.pure_ (i := 6) (N := some 12) (v := ?_) (a' := ?_) #[true, false, false, true, false, false, true, false, false, false, false] rfl rfl (by kernel_rfl) (fun _ _ _ h => h) (Or.inl ⟨by rfl, ?_⟩) ?_ ?_
    rotate_left
    · intro w'
      go_simp
      with_reducible rfl
    rotate_left
    · simp only [Act.put, List.setIfInBounds_toArray, List.set_cons_zero, List.set_cons_succ]
      rfl
    refine PrintLast.take_ (i := 1) (N := some 7) (v := ?_) (a' := ?_) #[true, true, false, true, false, false, true, false, false, false, false] rfl rfl (by kernel_rfl) (fun _ _ _ h => h) (Or.inl ⟨by rfl, ?_⟩) hHeld ?_ ?_
    rotate_left
    · rintro w' ⟨s0, s1, s2⟩
      go_simp
      with_reducible rfl
    rotate_left
    · simp only [Act.put, List.setIfInBounds_toArray, List.set_cons_zero, List.set_cons_succ]
      rfl
    refine PrintLast.take_ (i := 4) (N := some 10) (v := ?_) (a' := ?_) #[true, true, false, true, true, false, true, false, false, false, false] rfl rfl (by kernel_rfl) (fun _ _ _ h => h) (Or.inl ⟨by rfl, ?_⟩) hHeld ?_ ?_
    rotate_left
    · rintro w' ⟨s0, s1, s2⟩
      go_simp
      with_reducible rfl
    rotate_left
    · simp only [Act.put, List.setIfInBounds_toArray, List.set_cons_zero, List.set_cons_succ]
      rfl
    refine PrintLast.take_ (i := 7) (N := some 13) (v := ?_) (a' := ?_) #[true, true, false, true, true, false, true, true, false, false, false] rfl rfl (by kernel_rfl) (fun _ _ _ h => h) (Or.inl ⟨by rfl, ?_⟩) hHeld ?_ ?_
    rotate_left
    · rintro w' ⟨s0, s1, s2⟩
      go_simp
      with_reducible rfl
    rotate_left
    · simp only [Act.put, List.setIfInBounds_toArray, List.set_cons_zero, List.set_cons_succ]
      rfl
    refine PrintLast.two_ (i := 2) (j := 8) (Ni := some 8) (Nj := some 14) #[true, true, true, true, true, false, true, true, false, false, false] #[true, true, false, true, true, false, true, true, true, false, false] rfl rfl rfl rfl (by kernel_rfl) (by decide) (by decide) (fun K hK => ?_) (fun K hK => ?_)
    · skip
      refine PrintLast.goes_ Try.func39 (by kernel_rfl) rfl #[.slice none 0 0, .int .i64 x, .int .i64 1] (by rfl) rfl rfl (by simp only [List.map_toArray, List.map_cons, List.map_nil]; rfl) ?_
      with_reducible refine (C1.out _ B0).mono ?_
      rintro e u1 ⟨v1, rfl, ho1, bb1, -⟩
      have B1 : Below (w.heap.size + 1) W1 u1 := B0.trans bb1
      have cv := sl_string (HSL.out _ B1)
      obtain ⟨p1, q1, r1, rfl⟩ := own_form ho1
      refine ⟨_, rfl, ?_⟩
      refine hK.out _ _ (HS.out _ B1) (fun hHeld => ?_)
      clear hK K
      refine PrintLast.norm_ (a' := ?_) ?_ ?_
      rotate_left
      · show Act.put _ (some 8) _ = _
        simp only [Act.put, List.setIfInBounds_toArray, List.set_cons_zero, List.set_cons_succ]
        rfl
      refine PrintLast.two_ (i := 5) (j := 8) (Ni := some 11) (Nj := some 14) #[true, true, true, true, true, true, true, true, false, false, false] #[true, true, true, true, true, false, true, true, true, false, false] rfl rfl rfl rfl (by kernel_rfl) (by decide) (by decide) (fun K hK => ?_) (fun K hK => ?_)
      · skip
        refine PrintLast.goes_ Try.func38 (by kernel_rfl) rfl #[.slice p1 q1 r1, .string t, .int .i64 2] (by rfl) rfl rfl (by simp only [List.map_toArray, List.map_cons, List.map_nil]; rfl) ?_
        with_reducible refine (C2.out _ _ B1 ho1).mono ?_
        rintro e u2 ⟨v2, rfl, ho2, bb2, -⟩
        have B2 : Below (w.heap.size + 1) W1 u2 := B1.trans bb2
        replace cv := sl_string (HSL.out _ B2)
        obtain ⟨p2, q2, r2, rfl⟩ := own_form ho2
        refine ⟨_, rfl, ?_⟩
        refine hK.out _ _ (HS.out _ B2) (fun hHeld => ?_)
        clear hK K
        refine PrintLast.norm_ (a' := ?_) ?_ ?_
        rotate_left
        · show Act.put _ (some 11) _ = _
          simp only [Act.put, List.setIfInBounds_toArray, List.set_cons_zero, List.set_cons_succ]
          rfl
        refine PrintLast.one_ (i := 8) (N := some 14) #[true, true, true, true, true, true, true, true, true, false, false] rfl rfl (by kernel_rfl) (by decide) (fun K hK => ?_)
        refine PrintLast.value_ (w1 := ?_) (v := ?_) (by rfl) rfl ?_ ?_
        rotate_left 2
        · go_simp
          constructor
          · rfl
          · rfl
        refine hK.out _ _ hHeld (fun hHeld => ?_)
        clear hK K
        refine PrintLast.norm_ (a' := ?_) ?_ ?_
        rotate_left
        · show Act.put _ (some 14) _ = _
          simp only [Act.put, List.setIfInBounds_toArray, List.set_cons_zero, List.set_cons_succ]
          rfl
        refine PrintLast.one_ (i := 9) (N := some 15) #[true, true, true, true, true, true, true, true, true, true, false] rfl rfl (by kernel_rfl) (by decide) (fun K hK => ?_)
        refine PrintLast.goes_ Try.func38 (by kernel_rfl) rfl #[.slice p2 q2 r2, .string (ba img), .int .i64 2] (by rfl) rfl rfl (by simp only [List.map_toArray, List.map_cons, List.map_nil]; rfl) ?_
        with_reducible refine (C3.out _ _ B2 ho2).mono ?_
        rintro e u3 ⟨v3, rfl, ho3, bb3, -⟩
        have B3 : Below (w.heap.size + 1) W1 u3 := B2.trans bb3
        obtain ⟨p3, q3, r3, rfl⟩ := own_form ho3
        refine ⟨_, rfl, ?_⟩
        refine hK.out _ _ (HS.out _ B3) (fun hHeld => ?_)
        clear hK K
        refine PrintLast.norm_ (a' := ?_) ?_ ?_
        rotate_left
        · show Act.put _ (some 15) _ = _
          simp only [Act.put, List.setIfInBounds_toArray, List.set_cons_zero, List.set_cons_succ]
          rfl
        refine PrintLast.pure_ (i := 10) (N := some 3) (v := ?_) (a' := ?_) #[true, true, true, true, true, true, true, true, true, true, true] rfl rfl (by kernel_rfl) (fun _ _ _ h => h) (Or.inl ⟨by rfl, ?_⟩) ?_ ?_
        rotate_left
        · intro w'
          go_simp
          with_reducible rfl
        rotate_left
        · simp only [Act.put, List.setIfInBounds_toArray, List.set_cons_zero, List.set_cons_succ]
          rfl
        refine PrintLast.done_ (by kernel_rfl) ?_
        go_wp2_with fail
        go_meet
        case rel => exact ⟨ho3, B3⟩
      · skip
        refine PrintLast.value_ (w1 := ?_) (v := ?_) (by rfl) rfl ?_ ?_
        rotate_left 2
        · go_simp
          constructor
          · rfl
          · rfl
        refine hK.out _ _ hHeld (fun hHeld => ?_)
        clear hK K
        refine PrintLast.norm_ (a' := ?_) ?_ ?_
        rotate_left
        · show Act.put _ (some 14) _ = _
          simp only [Act.put, List.setIfInBounds_toArray, List.set_cons_zero, List.set_cons_succ]
          rfl
        refine PrintLast.one_ (i := 5) (N := some 11) #[true, true, true, true, true, true, true, true, true, false, false] rfl rfl (by kernel_rfl) (by decide) (fun K hK => ?_)
        refine PrintLast.goes_ Try.func38 (by kernel_rfl) rfl #[.slice p1 q1 r1, .string t, .int .i64 2] (by rfl) rfl rfl (by simp only [List.map_toArray, List.map_cons, List.map_nil]; rfl) ?_
        with_reducible refine (C2.out _ _ B1 ho1).mono ?_
        rintro e u2 ⟨v2, rfl, ho2, bb2, -⟩
        have B2 : Below (w.heap.size + 1) W1 u2 := B1.trans bb2
        replace cv := sl_string (HSL.out _ B2)
        obtain ⟨p2, q2, r2, rfl⟩ := own_form ho2
        refine ⟨_, rfl, ?_⟩
        refine hK.out _ _ (HS.out _ B2) (fun hHeld => ?_)
        clear hK K
        refine PrintLast.norm_ (a' := ?_) ?_ ?_
        rotate_left
        · show Act.put _ (some 11) _ = _
          simp only [Act.put, List.setIfInBounds_toArray, List.set_cons_zero, List.set_cons_succ]
          rfl
        refine PrintLast.one_ (i := 9) (N := some 15) #[true, true, true, true, true, true, true, true, true, true, false] rfl rfl (by kernel_rfl) (by decide) (fun K hK => ?_)
        refine PrintLast.goes_ Try.func38 (by kernel_rfl) rfl #[.slice p2 q2 r2, .string (ba img), .int .i64 2] (by rfl) rfl rfl (by simp only [List.map_toArray, List.map_cons, List.map_nil]; rfl) ?_
        with_reducible refine (C3.out _ _ B2 ho2).mono ?_
        rintro e u3 ⟨v3, rfl, ho3, bb3, -⟩
        have B3 : Below (w.heap.size + 1) W1 u3 := B2.trans bb3
        obtain ⟨p3, q3, r3, rfl⟩ := own_form ho3
        refine ⟨_, rfl, ?_⟩
        refine hK.out _ _ (HS.out _ B3) (fun hHeld => ?_)
        clear hK K
        refine PrintLast.norm_ (a' := ?_) ?_ ?_
        rotate_left
        · show Act.put _ (some 15) _ = _
          simp only [Act.put, List.setIfInBounds_toArray, List.set_cons_zero, List.set_cons_succ]
          rfl
        refine PrintLast.pure_ (i := 10) (N := some 3) (v := ?_) (a' := ?_) #[true, true, true, true, true, true, true, true, true, true, true] rfl rfl (by kernel_rfl) (fun _ _ _ h => h) (Or.inl ⟨by rfl, ?_⟩) ?_ ?_
        rotate_left
        · intro w'
          go_simp
          with_reducible rfl
        rotate_left
        · simp only [Act.put, List.setIfInBounds_toArray, List.set_cons_zero, List.set_cons_succ]
          rfl
        refine PrintLast.done_ (by kernel_rfl) ?_
        go_wp2_with fail
        go_meet
        case rel => exact ⟨ho3, B3⟩
    · skip
      refine PrintLast.value_ (w1 := ?_) (v := ?_) (by rfl) rfl ?_ ?_
      rotate_left 2
      · go_simp
        constructor
        · rfl
        · rfl
      refine hK.out _ _ hHeld (fun hHeld => ?_)
      clear hK K
      refine PrintLast.norm_ (a' := ?_) ?_ ?_
      rotate_left
      · show Act.put _ (some 14) _ = _
        simp only [Act.put, List.setIfInBounds_toArray, List.set_cons_zero, List.set_cons_succ]
        rfl
      refine PrintLast.one_ (i := 2) (N := some 8) #[true, true, true, true, true, false, true, true, true, false, false] rfl rfl (by kernel_rfl) (by decide) (fun K hK => ?_)
      refine PrintLast.goes_ Try.func39 (by kernel_rfl) rfl #[.slice none 0 0, .int .i64 x, .int .i64 1] (by rfl) rfl rfl (by simp only [List.map_toArray, List.map_cons, List.map_nil]; rfl) ?_
      with_reducible refine (C1.out _ B0).mono ?_
      rintro e u1 ⟨v1, rfl, ho1, bb1, -⟩
      have B1 : Below (w.heap.size + 1) W1 u1 := B0.trans bb1
      have cv := sl_string (HSL.out _ B1)
      obtain ⟨p1, q1, r1, rfl⟩ := own_form ho1
      refine ⟨_, rfl, ?_⟩
      refine hK.out _ _ (HS.out _ B1) (fun hHeld => ?_)
      clear hK K
      refine PrintLast.norm_ (a' := ?_) ?_ ?_
      rotate_left
      · show Act.put _ (some 8) _ = _
        simp only [Act.put, List.setIfInBounds_toArray, List.set_cons_zero, List.set_cons_succ]
        rfl
      refine PrintLast.one_ (i := 5) (N := some 11) #[true, true, true, true, true, true, true, true, true, false, false] rfl rfl (by kernel_rfl) (by decide) (fun K hK => ?_)
      refine PrintLast.goes_ Try.func38 (by kernel_rfl) rfl #[.slice p1 q1 r1, .string t, .int .i64 2] (by rfl) rfl rfl (by simp only [List.map_toArray, List.map_cons, List.map_nil]; rfl) ?_
      with_reducible refine (C2.out _ _ B1 ho1).mono ?_
      rintro e u2 ⟨v2, rfl, ho2, bb2, -⟩
      have B2 : Below (w.heap.size + 1) W1 u2 := B1.trans bb2
      replace cv := sl_string (HSL.out _ B2)
      obtain ⟨p2, q2, r2, rfl⟩ := own_form ho2
      refine ⟨_, rfl, ?_⟩
      refine hK.out _ _ (HS.out _ B2) (fun hHeld => ?_)
      clear hK K
      refine PrintLast.norm_ (a' := ?_) ?_ ?_
      rotate_left
      · show Act.put _ (some 11) _ = _
        simp only [Act.put, List.setIfInBounds_toArray, List.set_cons_zero, List.set_cons_succ]
        rfl
      refine PrintLast.one_ (i := 9) (N := some 15) #[true, true, true, true, true, true, true, true, true, true, false] rfl rfl (by kernel_rfl) (by decide) (fun K hK => ?_)
      refine PrintLast.goes_ Try.func38 (by kernel_rfl) rfl #[.slice p2 q2 r2, .string (ba img), .int .i64 2] (by rfl) rfl rfl (by simp only [List.map_toArray, List.map_cons, List.map_nil]; rfl) ?_
      with_reducible refine (C3.out _ _ B2 ho2).mono ?_
      rintro e u3 ⟨v3, rfl, ho3, bb3, -⟩
      have B3 : Below (w.heap.size + 1) W1 u3 := B2.trans bb3
      obtain ⟨p3, q3, r3, rfl⟩ := own_form ho3
      refine ⟨_, rfl, ?_⟩
      refine hK.out _ _ (HS.out _ B3) (fun hHeld => ?_)
      clear hK K
      refine PrintLast.norm_ (a' := ?_) ?_ ?_
      rotate_left
      · show Act.put _ (some 15) _ = _
        simp only [Act.put, List.setIfInBounds_toArray, List.set_cons_zero, List.set_cons_succ]
        rfl
      refine PrintLast.pure_ (i := 10) (N := some 3) (v := ?_) (a' := ?_) #[true, true, true, true, true, true, true, true, true, true, true] rfl rfl (by kernel_rfl) (fun _ _ _ h => h) (Or.inl ⟨by rfl, ?_⟩) ?_ ?_
      rotate_left
      · intro w'
        go_simp
        with_reducible rfl
      rotate_left
      · simp only [Act.put, List.setIfInBounds_toArray, List.set_cons_zero, List.set_cons_succ]
        rfl
      refine PrintLast.done_ (by kernel_rfl) ?_
      go_wp2_with fail
      go_meet
      case rel => exact ⟨ho3, B3⟩
  case rest =>
    obtain ⟨ho3, B3⟩ := hcut
    obtain ⟨p3, q3, r3, rfl⟩ := own_form ho3
    have d3 := HS3.out _ B3
    have hsz : w.heap.size + 1 ≤ wc.heap.size := by have := B3.size; have := HZ1.out; omega
    go_wp2_with fail
    refine (rnum_any (n := 2) ho3 hsz (dN : Int) (by omega) (by omega) (by omega)).mono ?_
    rintro e v4 ⟨u4, rfl, ho4, bb4, -⟩
    obtain ⟨p4, q4, r4, rfl⟩ := own_form ho4
    have B4 := B3.trans bb4
    obtain ⟨L2, hL2⟩ : ∃ L2, L2 = L1 ++ be 2 (dN : Int) := ⟨_, rfl⟩
    have hl2 : L2.length ≤ 10002 := by rw [hL2, List.length_append, be_length]; omega
    rw [← hL2] at ho4
    have HL2 := Lib.hid hL2
    clear hL2 ho3 d3 bb4 B3
    go_wp2_with fail
    go_loopw [3, 4] (fun b i wr => ∃ j : Nat, j ≤ dN ∧ i = .int .i64 j ∧ wr.ownsRow (w.heap.size + 1) 5 1 b (L2 ++ encs (ds.take j)).length (bv (L2 ++ encs (ds.take j))) ∧ Below (w.heap.size + 1) W1 wr) (fun _ i _ => dN - (intOf i).toNat)
    case atStart => exact ⟨0, Nat.zero_le _, rfl, by simpa [encs] using ho4, B4⟩
    case round =>
      obtain ⟨j, hj, rfl, ho, hb⟩ := hrel
      obtain ⟨a, m, c, rfl⟩ := own_form ho
      have d3 := HS3.out _ hb
      have hsd := HSD.out _ hb
      have hen : (encs (ds.take j)).length ≤ 520000 := by
        have h1 := encs_len (ds.take j) (fun d hd => HD.out d (List.mem_of_mem_take hd))
        have h2 : (ds.take j).length ≤ 5000 := by rw [List.length_take]; omega
        omega
      have hszr : w.heap.size + 1 ≤ wr.heap.size := by have := hb.size; have := HZ1.out; omega
      clear ho4 B4
      by_cases hlt : j < dN
      · obtain ⟨g, d, rfl, hgB, hdj, e0, e1, e2⟩ := hsd.at_ hlt
        have hjn : (j : Int) < (dN : Int) := by omega
        have hfr : d.frag.length ≤ 100 := HD.out d (List.mem_of_getElem? hdj)
        obtain ⟨L, hL⟩ : ∃ L, L = L2 ++ encs (ds.take j) := ⟨_, rfl⟩
        have hlL : L.length ≤ 600000 := by rw [hL, List.length_append]; omega
        rw [← hL] at ho
        have HE : Hid (L2 ++ encs (ds.take (j + 1)) = L ++ tx 1 d.frag ++ be 2 d.line ++ be 1 d.e) := by
          show _ = _
          rw [hL, List.take_add_one, hdj]
          show L2 ++ encs (List.take j ds ++ [d]) = _
          rw [encs_snoc, Dg.enc]
          simp only [List.append_assoc]
        obtain ⟨W8, hW8⟩ : ∃ W8, W8 = wr.alloc (.cells #[.string (ba d.frag), .int .i64 d.line, .int .i64 d.e] 57) := ⟨_, rfl⟩
        have b8 : Below wr.heap.size wr W8 := by rw [hW8]; exact (Below.refl _ _).alloc (Nat.le_refl _) _
        have hq8 : W8.heap[wr.heap.size]? = some (.cells #[.string (ba d.frag), .int .i64 d.line, .int .i64 d.e] 57 (0, 0)) := by rw [hW8]; exact heap_alloc_new wr _
        have hB8 : Below (w.heap.size + 1) W1 W8.drew := (hb.trans (b8.mono hszr)).drew
        have hC8 : ∀ y : World, WKeep W8 y → y.cell? ⟨wr.heap.size, 0, none⟩ = some (.string (ba d.frag)) ∧ y.cell? ⟨wr.heap.size, 1, none⟩ = some (.int .i64 d.line) ∧ y.cell? ⟨wr.heap.size, 2, none⟩ = some (.int .i64 d.e) := fun y hk => box3 ((hk _ _ _ hq8 (by decide) (by decide)).trans hq8)
        have hK8 : WKeep W8 W8.drew := WKeep.of_below ((Below.refl _ _).drew)
        have ho8 : W8.drew.ownsRow (w.heap.size + 1) 5 1 (.slice a m c) L.length (bv L) := by rw [hW8]; exact (ho.alloc _).drew
        have dd1 : Calls Try.prog 38 #[.slice a m c, .string (ba d.frag), .int .i64 1] W8.drew (RefEnd (w.heap.size + 1) (L ++ tx 1 (bl (ba d.frag))) W8.drew) := rtext_any (n := 1) ho8 (by have := b8.size; show w.heap.size + 1 ≤ W8.heap.size; omega) (ba d.frag) (by omega) (by omega) (by omega) (by rw [ba_size]; omega)
        rw [bl_ba] at dd1
        have dd2 : ∀ (y : World) (v : Value), Below (w.heap.size + 1) W1 y → y.ownsRow (w.heap.size + 1) 5 1 v (L ++ tx 1 d.frag).length (bv (L ++ tx 1 d.frag)) → Calls Try.prog 39 #[v, .int .i64 d.line, .int .i64 2] y (RefEnd (w.heap.size + 1) (L ++ tx 1 d.frag ++ be 2 d.line) y) := fun y v hb ho =>
          rnum_any (n := 2) ho (by have := hb.size; have := HZ1.out; omega) d.line (by omega) (by omega) (by rw [List.length_append, tx_length]; omega)
        have dd3 : ∀ (y : World) (v : Value), Below (w.heap.size + 1) W1 y → y.ownsRow (w.heap.size + 1) 5 1 v (L ++ tx 1 d.frag ++ be 2 d.line).length (bv (L ++ tx 1 d.frag ++ be 2 d.line)) → Calls Try.prog 39 #[v, .int .i64 d.e, .int .i64 1] y (RefEnd (w.heap.size + 1) (L ++ tx 1 d.frag ++ be 2 d.line ++ be 1 d.e) y) := fun y v hb ho =>
          rnum_any (n := 1) ho (by have := hb.size; have := HZ1.out; omega) d.e (by omega) (by omega) (by rw [List.length_append, List.length_append, tx_length, be_length]; omega)
        have D1 := Lib.hid dd1
        have D2 := Lib.hid (fun y v => dd2 y v)
        have D3 := Lib.hid (fun y v => dd3 y v)
        have HB8 := Lib.hid hB8
        have HK8 := Lib.hid hK8
        have HC8 := Lib.hid hC8
        have HW8 := Lib.hid hW8
        clear hW8 b8 hq8 hB8 hC8 hK8 ho8 dd1 dd2 dd3 hL hdj hsd ho hb
        go_upto_region 7 with fail
        rw [← HW8.out]
        obtain ⟨t0_, t1_, t2_⟩ := HC8.out _ HK8.out
        refine PrintLast.start_ (n := 11) (S := fun w' => w'.cell? ⟨wr.heap.size, 0, none⟩ = some (.string (ba d.frag)) ∧ w'.cell? ⟨wr.heap.size, 1, none⟩ = some (.int .i64 d.line) ∧ w'.cell? ⟨wr.heap.size, 2, none⟩ = some (.int .i64 d.e)) (ds := []) #[false, false, false, false, false, false, false, false, false, false, false] (by kernel_rfl) rfl rfl ⟨t0_, t1_, t2_⟩ (fun hHeld => ?_)
        refine PrintLast.pure_ (i := 0) (N := some 33) (v := ?_) (a' := ?_) #[true, false, false, false, false, false, false, false, false, false, false] rfl rfl (by kernel_rfl) (fun _ _ _ h => h) (Or.inl ⟨by rfl, ?_⟩) ?_ ?_
        rotate_left
        · intro w'
          go_simp
          with_reducible rfl
        rotate_left
        · simp only [Act.put, List.setIfInBounds_toArray, List.set_cons_zero, List.set_cons_succ]
          rfl
        refine PrintLast.pure_ (i := 1) (N := some 34) (v := ?_) (a' := ?_) #[true, true, false, false, false, false, false, false, false, false, false] rfl rfl (by kernel_rfl) (fun _ _ _ h => h) (Or.inl ⟨by rfl, ?_⟩) ?_ ?_
        rotate_left
        · intro w'
          go_simp
          with_reducible rfl
        rotate_left
        · simp only [Act.put, List.setIfInBounds_toArray, List.set_cons_zero, List.set_cons_succ]
          rfl
        refine PrintLast.pure_ (i := 4) (N := some 37) (v := ?_) (a' := ?_) #[true, true, false, false, true, false, false, false, false, false, false] rfl rfl (by kernel_rfl) (fun _ _ _ h => h) (Or.inl ⟨by rfl, ?_⟩) ?_ ?_
        rotate_left
        · intro w'
          go_simp
          with_reducible rfl
        rotate_left
        · simp only [Act.put, List.setIfInBounds_toArray, List.set_cons_zero, List.set_cons_succ]
          rfl
        refine PrintLast.pure_ (i := 7) (N := some 40) (v := ?_) (a' := ?_) #[true, true, false, false, true, false, false, true, false, false, false] rfl rfl (by kernel_rfl) (fun _ _ _ h => h) (Or.inl ⟨by rfl, ?_⟩) ?_ ?_
        rotate_left
        · intro w'
          go_simp
          with_reducible rfl
        rotate_left
        · simp only [Act.put, List.setIfInBounds_toArray, List.set_cons_zero, List.set_cons_succ]
          rfl
        refine PrintLast.take_ (i := 2) (N := some 35) (v := ?_) (a' := ?_) #[true, true, true, false, true, false, false, true, false, false, false] rfl rfl (by kernel_rfl) (fun _ _ _ h => h) (Or.inl ⟨by rfl, ?_⟩) hHeld ?_ ?_
        rotate_left
        · rintro w' ⟨s0, s1, s2⟩
          go_simp
          with_reducible rfl
        rotate_left
        · simp only [Act.put, List.setIfInBounds_toArray, List.set_cons_zero, List.set_cons_succ]
          rfl
        refine PrintLast.take_ (i := 5) (N := some 38) (v := ?_) (a' := ?_) #[true, true, true, false, true, true, false, true, false, false, false] rfl rfl (by kernel_rfl) (fun _ _ _ h => h) (Or.inl ⟨by rfl, ?_⟩) hHeld ?_ ?_
        rotate_left
        · rintro w' ⟨s0, s1, s2⟩
          go_simp
          with_reducible rfl
        rotate_left
        · simp only [Act.put, List.setIfInBounds_toArray, List.set_cons_zero, List.set_cons_succ]
          rfl
        refine PrintLast.take_ (i := 8) (N := some 41) (v := ?_) (a' := ?_) #[true, true, true, false, true, true, false, true, true, false, false] rfl rfl (by kernel_rfl) (fun _ _ _ h => h) (Or.inl ⟨by rfl, ?_⟩) hHeld ?_ ?_
        rotate_left
        · rintro w' ⟨s0, s1, s2⟩
          go_simp
          with_reducible rfl
        rotate_left
        · simp only [Act.put, List.setIfInBounds_toArray, List.set_cons_zero, List.set_cons_succ]
          rfl
        refine PrintLast.one_ (i := 3) (N := some 36) #[true, true, true, true, true, true, false, true, true, false, false] rfl rfl (by kernel_rfl) (by decide) (fun K hK => ?_)
        refine PrintLast.goes_ Try.func38 (by kernel_rfl) rfl #[.slice a m c, .string (ba d.frag), .int .i64 1] (by rfl) rfl rfl (by simp only [List.map_toArray, List.map_cons, List.map_nil]; rfl) ?_
        with_reducible refine (D1.out).mono ?_
        rintro e u1 ⟨v1, rfl, ho1, bb1, kk1⟩
        have B1 := HB8.out.trans bb1
        have K1 := HK8.out.trans kk1
        obtain ⟨p1, q1, r1, rfl⟩ := own_form ho1
        refine ⟨_, rfl, ?_⟩
        refine hK.out _ _ (HC8.out _ K1) (fun hHeld => ?_)
        clear hK K
        refine PrintLast.norm_ (a' := ?_) ?_ ?_
        rotate_left
        · show Act.put _ (some 36) _ = _
          simp only [Act.put, List.setIfInBounds_toArray, List.set_cons_zero, List.set_cons_succ]
          rfl
        refine PrintLast.one_ (i := 6) (N := some 39) #[true, true, true, true, true, true, true, true, true, false, false] rfl rfl (by kernel_rfl) (by decide) (fun K hK => ?_)
        refine PrintLast.goes_ Try.func39 (by kernel_rfl) rfl #[.slice p1 q1 r1, .int .i64 d.line, .int .i64 2] (by rfl) rfl rfl (by simp only [List.map_toArray, List.map_cons, List.map_nil]; rfl) ?_
        with_reducible refine (D2.out _ _ B1 ho1).mono ?_
        rintro e u2 ⟨v2, rfl, ho2, bb2, kk2⟩
        have B2 := B1.trans bb2
        have K2 := K1.trans kk2
        obtain ⟨p2, q2, r2, rfl⟩ := own_form ho2
        refine ⟨_, rfl, ?_⟩
        refine hK.out _ _ (HC8.out _ K2) (fun hHeld => ?_)
        clear hK K
        refine PrintLast.norm_ (a' := ?_) ?_ ?_
        rotate_left
        · show Act.put _ (some 39) _ = _
          simp only [Act.put, List.setIfInBounds_toArray, List.set_cons_zero, List.set_cons_succ]
          rfl
        refine PrintLast.one_ (i := 9) (N := some 42) #[true, true, true, true, true, true, true, true, true, true, false] rfl rfl (by kernel_rfl) (by decide) (fun K hK => ?_)
        refine PrintLast.goes_ Try.func39 (by kernel_rfl) rfl #[.slice p2 q2 r2, .int .i64 d.e, .int .i64 1] (by rfl) rfl rfl (by simp only [List.map_toArray, List.map_cons, List.map_nil]; rfl) ?_
        with_reducible refine (D3.out _ _ B2 ho2).mono ?_
        rintro e u3 ⟨v3, rfl, ho3, bb3, kk3⟩
        have B3 := B2.trans bb3
        have K3 := K2.trans kk3
        obtain ⟨p3, q3, r3, rfl⟩ := own_form ho3
        refine ⟨_, rfl, ?_⟩
        refine hK.out _ _ (HC8.out _ K3) (fun hHeld => ?_)
        clear hK K
        refine PrintLast.norm_ (a' := ?_) ?_ ?_
        rotate_left
        · show Act.put _ (some 42) _ = _
          simp only [Act.put, List.setIfInBounds_toArray, List.set_cons_zero, List.set_cons_succ]
          rfl
        refine PrintLast.pure_ (i := 10) (N := some 3) (v := ?_) (a' := ?_) #[true, true, true, true, true, true, true, true, true, true, true] rfl rfl (by kernel_rfl) (fun _ _ _ h => h) (Or.inl ⟨by rfl, ?_⟩) ?_ ?_
        rotate_left
        · intro w'
          go_simp
          with_reducible rfl
        rotate_left
        · simp only [Act.put, List.setIfInBounds_toArray, List.set_cons_zero, List.set_cons_succ]
          rfl
        refine PrintLast.done_ (by kernel_rfl) ?_
        have HF := Lib.hid (And.intro ho3 B3)
        clear ho1 ho2 ho3 B1 B2 B3 K1 K2 K3 bb1 bb2 bb3 kk1 kk2 kk3 hHeld t0_ t1_ t2_
        go_wp2_with fail
        go_roundw
        case rel => exact ⟨j + 1, by omega, by go_num, by rw [HE.out]; exact HF.out.1, HF.out.2⟩
        case measure => simp [intOf]; omega
      · obtain rfl : j = dN := by omega
        rw [List.take_of_length_le (by have := HLN.out; omega)] at ho hen
        have hml := own_len ho
        have HML := Lib.hid hml
        have hmn : m ≤ 600000 := by rw [hml, List.length_append]; omega
        have hrd : Reads wr wr.heap.size 1 a m (bv (L2 ++ encs ds)) := by rw [hml]; rw [hml] at ho; exact Reads.of_own ho
        have cc : Calls Try.prog 39 #[.slice none 0 0, .int .i64 (m : Int), .int .i64 3] wr (RefEnd wr.heap.size (be 3 (m : Int)) wr) := by
          have := rnum_any (w := wr) (base := wr.heap.size) (n := 3) (v := .slice none 0 0) (l := []) (World.ownsRow_nil _ _ _ _) (Nat.le_refl _) (m : Int) (by omega) (by omega) (by simp)
          rw [List.nil_append] at this
          exact this
        clear hml hsd ho
        go_wp2_with fail
        refine cc.mono ?_
        rintro e v5 ⟨u5_, rfl, ho5, bb5, -⟩
        obtain ⟨p5, q5, r5, rfl⟩ := own_form ho5
        have hrd5 := hrd.below bb5
        rw [be_length] at ho5
        have hz5 := bb5.size
        clear hrd cc
        go_wp2_with (at_builtin; refine wpList_append_any _ rfl _ _ 23 rfl wr.heap.size 5 i5 _ 1 1 Try.underlying23 hi5 hz5' hy5 hx5 rfl (by decide) _ 3 _ rfl ho5 wr.heap.size a m c (bv (L2 ++ encs ds)) rfl hrd5 (bv_one _) (by unfold maxLen; omega) (by omega) hz5 ?_; intro v6 w6 hown6 hgrow6 _; obtain ⟨p6, q6, r6, rfl⟩ := own_form hown6)
        go_ret
        have hE : Rs.enc ⟨x, bl t, img, ds⟩ = be 3 (m : Int) ++ (L2 ++ encs ds) := by
          have e1 := HML.out
          have e2 := HL2.out
          have e3 := HL1.out
          have e4 := HLN.out
          rw [e1, e2, e3, e4]
          simp [Rs.enc, tx, Rs.body]
        have hb6 : Below w.heap.size w w6 := by
          have h1 : Below w.heap.size w wr := HB01.out.trans (hb.mono (by omega))
          have h2 : Below w.heap.size w v5 := h1.trans (bb5.mono h1.size)
          exact h2.grown hgrow6 h2.size (fun k hk => by have := own_base ho5 k hk; have := h1.size; omega)
        refine ⟨_, rfl, ?_, hb6⟩
        have h1 : w.heap.size ≤ wr.heap.size := by omega
        have hf := ownsRow_lower hown6 h1
        rw [hE, bv_append, List.length_append, be_length]
        have e1 := HML.out
        rw [← e1]
        exact hf
end Go.Proofs.Ytifdkkkcecpjoaa
end
section
/-
  The reference's Request: the bytes of any request.
-/
namespace Go.Proofs.Ytifdkkkcecpjoaa
open Go.RowKit Go.Proofs.YtifdkkkcecpjoaaW
attribute [local go_sem ↓] Go.wp_at_zero Go.wp_at_succ
set_option linter.unusedSimpArgs false

set_option maxRecDepth 100000 in
set_option maxHeartbeats 3200000 in
theorem rreq_any (k : Int) (nm t : ByteArray) (x : Int) (w : World) (h1 : nm.size ≤ 100000) (h2 : t.size ≤ 100000) :
    Calls Try.prog 18 #[rqv k nm t x] w (BytesEnd (rqOfV k nm t x).enc w) := by
  unfold rqv
  obtain ⟨i5, hi5, hz5', hy5, hx5⟩ := info_parts info5
  obtain ⟨W1, hW1⟩ : ∃ W1, W1 = w.alloc (.cells #[.int .i64 k, .string nm, .string t, .int .i64 x] 27) := ⟨_, rfl⟩
  have b01 : Below w.heap.size w W1 := by rw [hW1]; exact (Below.refl _ _).alloc (Nat.le_refl _) _
  have hq : W1.heap[w.heap.size]? = some (.cells #[.int .i64 k, .string nm, .string t, .int .i64 x] 27 (0, 0)) := by rw [hW1]; exact heap_alloc_new w _
  have hz1 : W1.heap.size = w.heap.size + 1 := by rw [hW1]; simp
  have hS : ∀ y : World, Below (w.heap.size + 1) W1 y → y.cell? ⟨w.heap.size, 0, none⟩ = some (.int .i64 k) ∧ y.cell? ⟨w.heap.size, 1, none⟩ = some (.string nm) := fun y hb => by
    obtain ⟨a0, a1, a2, a3⟩ := box4 ((hb.block _ (by omega)).trans hq)
    exact ⟨a0, a1⟩
  have hS2 : ∀ y : World, Below (w.heap.size + 1) W1 y → y.cell? ⟨w.heap.size, 2, none⟩ = some (.string t) ∧ y.cell? ⟨w.heap.size, 3, none⟩ = some (.int .i64 x) := fun y hb => by
    obtain ⟨a0, a1, a2, a3⟩ := box4 ((hb.block _ (by omega)).trans hq)
    exact ⟨a2, a3⟩
  have c1 : ∀ y : World, Below (w.heap.size + 1) W1 y → Calls Try.prog 39 #[.slice none 0 0, .int .i64 k, .int .i64 1] y (RefEnd (w.heap.size + 1) (be 1 k) y) := fun y hb => by
    have := rnum_any (w := y) (base := w.heap.size + 1) (n := 1) (v := .slice none 0 0) (l := []) (World.ownsRow_nil _ _ _ _) (by have := hb.size; omega) k (by omega) (by omega) (by simp)
    rw [List.nil_append] at this
    exact this
  have c2 : ∀ (y : World) (v : Value), Below (w.heap.size + 1) W1 y → y.ownsRow (w.heap.size + 1) 5 1 v (be 1 k).length (bv (be 1 k)) → Calls Try.prog 38 #[v, .string nm, .int .i64 1] y (RefEnd (w.heap.size + 1) (be 1 k ++ tx 1 (bl nm)) y) := fun y v hb ho =>
    rtext_any (n := 1) ho (by have := hb.size; omega) nm (by omega) (by omega) (by rw [be_length]; omega) (by omega)
  have HS := Lib.hid hS
  have HS2 := Lib.hid hS2
  have C1 := Lib.hid c1
  have C2 := Lib.hid (fun y v => c2 y v)
  have HW1 := Lib.hid hW1
  have HZ1 := Lib.hid hz1
  have HB01 := Lib.hid b01
  clear hS hS2 c1 c2 hW1 hz1 hq b01
  have hl0 : (be 1 k ++ tx 1 (bl nm)).length ≤ 100002 := by rw [List.length_append, be_length, tx_length, bl_length]; omega
  go_enter Try.func18, Try.ntmps18
  go_upto_region 1 with fail
  rw [← HW1.out]
  have B0 : Below (w.heap.size + 1) W1 W1.drew := (Below.refl _ _).drew
  obtain ⟨s0_, s1_⟩ := HS.out _ B0
  refine PrintLast.start_ (n := 7) (S := fun w' => w'.cell? ⟨w.heap.size, 0, none⟩ = some (.int .i64 k) ∧ w'.cell? ⟨w.heap.size, 1, none⟩ = some (.string nm)) (ds := []) #[false, false, false, false, false, false, false] (by kernel_rfl) rfl rfl ⟨s0_, s1_⟩ (fun hHeld => ?_)
  refine PrintLast.pure_ (i := 0) (N := some 4) (v := ?_) (a' := ?_) #[true, false, false, false, false, false, false] rfl rfl (by kernel_rfl) (fun _ _ _ h => h) (Or.inl ⟨by rfl, ?_⟩) ?_ ?_
  rotate_left
  · intro w'
    go_simp
    with_reducible rfl
  rotate_left
  · simp only [Act.put, List.setIfInBounds_toArray, List.set_cons_zero, List.set_cons_succ]
    rfl
  refine PrintLast.pure_ (i := 3) (N := some 7) (v := ?_) (a' := ?_) #[true, false, false, true, false, false, false] rfl rfl (by kernel_rfl) (fun _ _ _ h => h) (Or.inl ⟨by rfl, ?_⟩) ?_ ?_
  rotate_left
  · intro w'
    go_simp
    with_reducible rfl
  rotate_left
  · simp only [Act.put, List.setIfInBounds_toArray, List.set_cons_zero, List.set_cons_succ]
    rfl
  refine PrintLast.take_ (i := 1) (N := some 5) (v := ?_) (a' := ?_) #[true, true, false, true, false, false, false] rfl rfl (by kernel_rfl) (fun _ _ _ h => h) (Or.inl ⟨by rfl, ?_⟩) hHeld ?_ ?_
  rotate_left
  · rintro w' ⟨s0, s1⟩
    go_simp
    with_reducible rfl
  rotate_left
  · simp only [Act.put, List.setIfInBounds_toArray, List.set_cons_zero, List.set_cons_succ]
    rfl
  refine PrintLast.take_ (i := 4) (N := some 8) (v := ?_) (a' := ?_) #[true, true, false, true, true, false, false] rfl rfl (by kernel_rfl) (fun _ _ _ h => h) (Or.inl ⟨by rfl, ?_⟩) hHeld ?_ ?_
  rotate_left
  · rintro w' ⟨s0, s1⟩
    go_simp
    with_reducible rfl
  rotate_left
  · simp only [Act.put, List.setIfInBounds_toArray, List.set_cons_zero, List.set_cons_succ]
    rfl
  refine PrintLast.one_ (i := 2) (N := some 6) #[true, true, true, true, true, false, false] rfl rfl (by kernel_rfl) (by decide) (fun K hK => ?_)
  refine PrintLast.goes_ Try.func39 (by kernel_rfl) rfl #[.slice none 0 0, .int .i64 k, .int .i64 1] (by rfl) rfl rfl (by simp only [List.map_toArray, List.map_cons, List.map_nil]; rfl) ?_
  with_reducible refine (C1.out _ B0).mono ?_
  rintro e u1 ⟨v1, rfl, ho1, bb1, -⟩
  have B1 : Below (w.heap.size + 1) W1 u1 := B0.trans bb1
  obtain ⟨p1, q1, r1, rfl⟩ := own_form ho1
  refine ⟨_, rfl, ?_⟩
  refine hK.out _ _ (HS.out _ B1) (fun hHeld => ?_)
  clear hK K
  refine PrintLast.norm_ (a' := ?_) ?_ ?_
  rotate_left
  · show Act.put _ (some 6) _ = _
    simp only [Act.put, List.setIfInBounds_toArray, List.set_cons_zero, List.set_cons_succ]
    rfl
  refine PrintLast.one_ (i := 5) (N := some 9) #[true, true, true, true, true, true, false] rfl rfl (by kernel_rfl) (by decide) (fun K hK => ?_)
  refine PrintLast.goes_ Try.func38 (by kernel_rfl) rfl #[.slice p1 q1 r1, .string nm, .int .i64 1] (by rfl) rfl rfl (by simp only [List.map_toArray, List.map_cons, List.map_nil]; rfl) ?_
  with_reducible refine (C2.out _ _ B1 ho1).mono ?_
  rintro e u2 ⟨v2, rfl, ho2, bb2, -⟩
  have B2 : Below (w.heap.size + 1) W1 u2 := B1.trans bb2
  obtain ⟨p2, q2, r2, rfl⟩ := own_form ho2
  refine ⟨_, rfl, ?_⟩
  refine hK.out _ _ (HS.out _ B2) (fun hHeld => ?_)
  clear hK K
  refine PrintLast.norm_ (a' := ?_) ?_ ?_
  rotate_left
  · show Act.put _ (some 9) _ = _
    simp only [Act.put, List.setIfInBounds_toArray, List.set_cons_zero, List.set_cons_succ]
    rfl
  refine PrintLast.pure_ (i := 6) (N := some 3) (v := ?_) (a' := ?_) #[true, true, true, true, true, true, true] rfl rfl (by kernel_rfl) (fun _ _ _ h => h) (Or.inl ⟨by rfl, ?_⟩) ?_ ?_
  rotate_left
  · intro w'
    go_simp
    with_reducible rfl
  rotate_left
  · simp only [Act.put, List.setIfInBounds_toArray, List.set_cons_zero, List.set_cons_succ]
    rfl
  refine PrintLast.done_ (by kernel_rfl) ?_
  skip
  obtain ⟨k0, -⟩ := HS.out _ B2
  obtain ⟨k2, k3⟩ := HS2.out _ B2
  have hszu : w.heap.size + 1 ≤ u2.heap.size := by have := B2.size; have := HZ1.out; omega
  clear hHeld ho1 bb1 bb2 B1 B0 s0_ s1_
  have hkind : (k = 1 ∨ ((k == 1) = false ∧ k = 3)) ∨ ((k == 1) = false ∧ (k == 3) = false ∧ k = 5) ∨ ((k == 1) = false ∧ (k == 3) = false ∧ (k == 5) = false) := by
    by_cases e1 : k = 1
    · exact .inl (.inl e1)
    · by_cases e3 : k = 3
      · exact .inl (.inr ⟨by simpa using e1, e3⟩)
      · by_cases e5 : k = 5
        · exact .inr (.inl ⟨by simpa using e1, by simpa using e3, e5⟩)
        · exact .inr (.inr ⟨by simpa using e1, by simpa using e3, by simpa using e5⟩)
  rcases hkind with hk13 | ⟨c1, c3, rfl⟩ | ⟨c1, c3, c5⟩
  · rcases hk13 with rfl | ⟨c1, rfl⟩
    · go_wp2_with fail
      refine (rtext_any (n := 2) ho2 hszu t (by omega) (by omega) (by omega) h2).mono ?_
      rintro e u3 ⟨v3, rfl, ho3, bb3, -⟩
      obtain ⟨p3, q3, r3, rfl⟩ := own_form ho3
      have B3 := B2.trans bb3
      clear k0 k2 k3
      have hml := own_len ho3
      have HML := Lib.hid hml
      have hmn : ((be 1 1 ++ tx 1 (bl nm)) ++ tx 2 (bl t)).length ≤ 600000 := by rw [List.length_append, tx_length, bl_length]; omega
      obtain ⟨LL, hLL⟩ : ∃ LL, LL = ((be 1 1 ++ tx 1 (bl nm)) ++ tx 2 (bl t)) := ⟨_, rfl⟩
      rw [← hLL] at ho3 hml hmn
      have HLL := Lib.hid hLL
      obtain ⟨mm, hmm⟩ : ∃ mm, mm = LL.length := ⟨_, rfl⟩
      have HMM := Lib.hid hmm
      have hown9 := ho3
      have hb9 := B3
      have hrd : Reads u3 u3.heap.size 1 p3 q3 (bv LL) := by rw [hml]; rw [hml] at hown9; exact Reads.of_own hown9
      have cc : Calls Try.prog 39 #[.slice none 0 0, .int .i64 (q3 : Int), .int .i64 2] u3 (RefEnd u3.heap.size (be 2 (q3 : Int)) u3) := by
        have := rnum_any (w := u3) (base := u3.heap.size) (n := 2) (v := .slice none 0 0) (l := []) (World.ownsRow_nil _ _ _ _) (Nat.le_refl _) (q3 : Int) (by omega) (by omega) (by simp)
        rw [List.nil_append] at this
        exact this
      have hqq : q3 ≤ 600000 := by omega
      clear hml hown9 ho3 hLL hmm
      go_wp2_with fail
      refine cc.mono ?_
      rintro e v5 ⟨u5_, rfl, ho5, bb5, -⟩
      obtain ⟨p5, q5, r5, rfl⟩ := own_form ho5
      have hrd5 := hrd.below bb5
      rw [be_length] at ho5
      have hz5 := bb5.size
      clear hrd cc
      go_wp2_with (at_builtin; refine wpList_append_any _ rfl _ _ 23 rfl u3.heap.size 5 i5 _ 1 1 Try.underlying23 hi5 hz5' hy5 hx5 rfl (by decide) _ 2 _ rfl ho5 u3.heap.size p3 q3 r3 (bv LL) rfl hrd5 (bv_one _) (by unfold maxLen; omega) (by omega) hz5 ?_; intro v6 w6 hown6 hgrow6 _; obtain ⟨p6, q6, r6, rfl⟩ := own_form hown6)
      go_ret
      have hb1 : Below w.heap.size w u3 := HB01.out.trans (hb9.mono (by omega))
      have hb6 : Below w.heap.size w w6 := (hb1.trans (bb5.mono hb1.size)).grown hgrow6 (hb1.trans (bb5.mono hb1.size)).size (fun k hk => by have := own_base ho5 k hk; have := hb1.size; omega)
      have hE : (rqOfV 1 nm t x).enc = tx 2 LL := by
        rw [HLL.out]
        simp [Rq.enc, Rq.body, Rq.tail, rqOfV, writesB]
      refine ⟨_, rfl, ?_, hb6⟩
      have hf := ownsRow_lower hown6 hb1.size
      rw [hE, tx, bv_append, List.length_append, be_length]
      have e1 : LL.length = q3 := by have := HML.out; rw [HLL.out]; omega
      rw [e1]
      exact hf
    · go_wp2_with fail
      refine (rtext_any (n := 2) ho2 hszu t (by omega) (by omega) (by omega) h2).mono ?_
      rintro e u3 ⟨v3, rfl, ho3, bb3, -⟩
      obtain ⟨p3, q3, r3, rfl⟩ := own_form ho3
      have B3 := B2.trans bb3
      clear k0 k2 k3
      have hml := own_len ho3
      have HML := Lib.hid hml
      have hmn : ((be 1 3 ++ tx 1 (bl nm)) ++ tx 2 (bl t)).length ≤ 600000 := by rw [List.length_append, tx_length, bl_length]; omega
      obtain ⟨LL, hLL⟩ : ∃ LL, LL = ((be 1 3 ++ tx 1 (bl nm)) ++ tx 2 (bl t)) := ⟨_, rfl⟩
      rw [← hLL] at ho3 hml hmn
      have HLL := Lib.hid hLL
      obtain ⟨mm, hmm⟩ : ∃ mm, mm = LL.length := ⟨_, rfl⟩
      have HMM := Lib.hid hmm
      have hown9 := ho3
      have hb9 := B3
      have hrd : Reads u3 u3.heap.size 1 p3 q3 (bv LL) := by rw [hml]; rw [hml] at hown9; exact Reads.of_own hown9
      have cc : Calls Try.prog 39 #[.slice none 0 0, .int .i64 (q3 : Int), .int .i64 2] u3 (RefEnd u3.heap.size (be 2 (q3 : Int)) u3) := by
        have := rnum_any (w := u3) (base := u3.heap.size) (n := 2) (v := .slice none 0 0) (l := []) (World.ownsRow_nil _ _ _ _) (Nat.le_refl _) (q3 : Int) (by omega) (by omega) (by simp)
        rw [List.nil_append] at this
        exact this
      have hqq : q3 ≤ 600000 := by omega
      clear hml hown9 ho3 hLL hmm
      go_wp2_with fail
      refine cc.mono ?_
      rintro e v5 ⟨u5_, rfl, ho5, bb5, -⟩
      obtain ⟨p5, q5, r5, rfl⟩ := own_form ho5
      have hrd5 := hrd.below bb5
      rw [be_length] at ho5
      have hz5 := bb5.size
      clear hrd cc
      go_wp2_with (at_builtin; refine wpList_append_any _ rfl _ _ 23 rfl u3.heap.size 5 i5 _ 1 1 Try.underlying23 hi5 hz5' hy5 hx5 rfl (by decide) _ 2 _ rfl ho5 u3.heap.size p3 q3 r3 (bv LL) rfl hrd5 (bv_one _) (by unfold maxLen; omega) (by omega) hz5 ?_; intro v6 w6 hown6 hgrow6 _; obtain ⟨p6, q6, r6, rfl⟩ := own_form hown6)
      go_ret
      have hb1 : Below w.heap.size w u3 := HB01.out.trans (hb9.mono (by omega))
      have hb6 : Below w.heap.size w w6 := (hb1.trans (bb5.mono hb1.size)).grown hgrow6 (hb1.trans (bb5.mono hb1.size)).size (fun k hk => by have := own_base ho5 k hk; have := hb1.size; omega)
      have hE : (rqOfV 3 nm t x).enc = tx 2 LL := by
        rw [HLL.out]
        simp [Rq.enc, Rq.body, Rq.tail, rqOfV, writesB]
      refine ⟨_, rfl, ?_, hb6⟩
      have hf := ownsRow_lower hown6 hb1.size
      rw [hE, tx, bv_append, List.length_append, be_length]
      have e1 : LL.length = q3 := by have := HML.out; rw [HLL.out]; omega
      rw [e1]
      exact hf
  · go_wp2_with fail
    refine (rnum_any (n := 8) ho2 hszu x (by omega) (by omega) (by omega)).mono ?_
    rintro e u3 ⟨v3, rfl, ho3, bb3, -⟩
    obtain ⟨p3, q3, r3, rfl⟩ := own_form ho3
    have B3 := B2.trans bb3
    clear k0 k2 k3
    have hml := own_len ho3
    have HML := Lib.hid hml
    have hmn : ((be 1 5 ++ tx 1 (bl nm)) ++ be 8 x).length ≤ 600000 := by rw [List.length_append, be_length]; omega
    obtain ⟨LL, hLL⟩ : ∃ LL, LL = ((be 1 5 ++ tx 1 (bl nm)) ++ be 8 x) := ⟨_, rfl⟩
    rw [← hLL] at ho3 hml hmn
    have HLL := Lib.hid hLL
    obtain ⟨mm, hmm⟩ : ∃ mm, mm = LL.length := ⟨_, rfl⟩
    have HMM := Lib.hid hmm
    have hown9 := ho3
    have hb9 := B3
    have hrd : Reads u3 u3.heap.size 1 p3 q3 (bv LL) := by rw [hml]; rw [hml] at hown9; exact Reads.of_own hown9
    have cc : Calls Try.prog 39 #[.slice none 0 0, .int .i64 (q3 : Int), .int .i64 2] u3 (RefEnd u3.heap.size (be 2 (q3 : Int)) u3) := by
      have := rnum_any (w := u3) (base := u3.heap.size) (n := 2) (v := .slice none 0 0) (l := []) (World.ownsRow_nil _ _ _ _) (Nat.le_refl _) (q3 : Int) (by omega) (by omega) (by simp)
      rw [List.nil_append] at this
      exact this
    have hqq : q3 ≤ 600000 := by omega
    clear hml hown9 ho3 hLL hmm
    go_wp2_with fail
    refine cc.mono ?_
    rintro e v5 ⟨u5_, rfl, ho5, bb5, -⟩
    obtain ⟨p5, q5, r5, rfl⟩ := own_form ho5
    have hrd5 := hrd.below bb5
    rw [be_length] at ho5
    have hz5 := bb5.size
    clear hrd cc
    go_wp2_with (at_builtin; refine wpList_append_any _ rfl _ _ 23 rfl u3.heap.size 5 i5 _ 1 1 Try.underlying23 hi5 hz5' hy5 hx5 rfl (by decide) _ 2 _ rfl ho5 u3.heap.size p3 q3 r3 (bv LL) rfl hrd5 (bv_one _) (by unfold maxLen; omega) (by omega) hz5 ?_; intro v6 w6 hown6 hgrow6 _; obtain ⟨p6, q6, r6, rfl⟩ := own_form hown6)
    go_ret
    have hb1 : Below w.heap.size w u3 := HB01.out.trans (hb9.mono (by omega))
    have hb6 : Below w.heap.size w w6 := (hb1.trans (bb5.mono hb1.size)).grown hgrow6 (hb1.trans (bb5.mono hb1.size)).size (fun k hk => by have := own_base ho5 k hk; have := hb1.size; omega)
    have hE : (rqOfV 5 nm t x).enc = tx 2 LL := by
      rw [HLL.out]
      simp [Rq.enc, Rq.body, Rq.tail, rqOfV, writesB]
    refine ⟨_, rfl, ?_, hb6⟩
    have hf := ownsRow_lower hown6 hb1.size
    rw [hE, tx, bv_append, List.length_append, be_length]
    have e1 : LL.length = q3 := by have := HML.out; rw [HLL.out]; omega
    rw [e1]
    exact hf
  · have n1 : ¬ k = 1 := by simpa using c1
    have n3 : ¬ k = 3 := by simpa using c3
    have n5 : ¬ k = 5 := by simpa using c5
    have NN := Lib.hid (And.intro n1 (And.intro n3 n5))
    clear n1 n3 n5
    have hml := own_len ho2
    have HML := Lib.hid hml
    have hmn : (be 1 k ++ tx 1 (bl nm)).length ≤ 600000 := by omega
    obtain ⟨LL, hLL⟩ : ∃ LL, LL = (be 1 k ++ tx 1 (bl nm)) := ⟨_, rfl⟩
    rw [← hLL] at ho2 hml hmn
    have HLL := Lib.hid hLL
    obtain ⟨mm, hmm⟩ : ∃ mm, mm = LL.length := ⟨_, rfl⟩
    have HMM := Lib.hid hmm
    have hown9 := ho2
    have hb9 := B2
    have hrd : Reads u2 u2.heap.size 1 p2 q2 (bv LL) := by rw [hml]; rw [hml] at hown9; exact Reads.of_own hown9
    have cc : Calls Try.prog 39 #[.slice none 0 0, .int .i64 (q2 : Int), .int .i64 2] u2 (RefEnd u2.heap.size (be 2 (q2 : Int)) u2) := by
      have := rnum_any (w := u2) (base := u2.heap.size) (n := 2) (v := .slice none 0 0) (l := []) (World.ownsRow_nil _ _ _ _) (Nat.le_refl _) (q2 : Int) (by omega) (by omega) (by simp)
      rw [List.nil_append] at this
      exact this
    have hqq : q2 ≤ 600000 := by omega
    clear hml hown9 ho2 hLL hmm
    go_wp2_with fail
    refine cc.mono ?_
    rintro e v5 ⟨u5_, rfl, ho5, bb5, -⟩
    obtain ⟨p5, q5, r5, rfl⟩ := own_form ho5
    have hrd5 := hrd.below bb5
    rw [be_length] at ho5
    have hz5 := bb5.size
    clear hrd cc
    go_wp2_with (at_builtin; refine wpList_append_any _ rfl _ _ 23 rfl u2.heap.size 5 i5 _ 1 1 Try.underlying23 hi5 hz5' hy5 hx5 rfl (by decide) _ 2 _ rfl ho5 u2.heap.size p2 q2 r2 (bv LL) rfl hrd5 (bv_one _) (by unfold maxLen; omega) (by omega) hz5 ?_; intro v6 w6 hown6 hgrow6 _; obtain ⟨p6, q6, r6, rfl⟩ := own_form hown6)
    go_ret
    have hb1 : Below w.heap.size w u2 := HB01.out.trans (hb9.mono (by omega))
    have hb6 : Below w.heap.size w w6 := (hb1.trans (bb5.mono hb1.size)).grown hgrow6 (hb1.trans (bb5.mono hb1.size)).size (fun k hk => by have := own_base ho5 k hk; have := hb1.size; omega)
    have hE : (rqOfV k nm t x).enc = tx 2 LL := by
      rw [HLL.out]
      simp [Rq.enc, Rq.body, Rq.tail, rqOfV, writesB, NN.out.1, NN.out.2.1, NN.out.2.2]
    refine ⟨_, rfl, ?_, hb6⟩
    have hf := ownsRow_lower hown6 hb1.size
    rw [hE, tx, bv_append, List.length_append, be_length]
    have e1 : LL.length = q2 := by have := HML.out; rw [HLL.out]; omega
    rw [e1]
    exact hf
end Go.Proofs.Ytifdkkkcecpjoaa
end
