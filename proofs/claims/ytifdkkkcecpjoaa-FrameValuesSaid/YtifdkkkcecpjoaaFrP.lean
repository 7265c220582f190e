/-
  Plain facts on bytes: numbers written by so many bytes and read back, requests and responses as bytes, and back. No program is in sight here.
-/
import Derived.RowKit
import Derived.Lib.Hide
namespace Go.Proofs.Ytifdkkkcecpjoaa
open Go.RowKit

def byteOf (x : Int) : UInt8 := UInt8.ofNat (x % 256).toNat
theorem byteOf_toNat (x : Int) : ((byteOf x).toNat : Int) = x % 256 := by
  unfold byteOf
  have h0 := Int.emod_nonneg x (show (256 : Int) ≠ 0 by omega)
  have h1 := Int.emod_lt_of_pos x (show (0 : Int) < 256 by omega)
  rw [UInt8.toNat_ofNat']
  omega

/-- A number by so many bytes, the highest first. -/
def be : Nat → Int → List UInt8
  | 0, _ => []
  | n + 1, v => byteOf (v / 256 ^ n) :: be n v
theorem be_length : ∀ (n : Nat) (v : Int), (be n v).length = n
  | 0, _ => rfl
  | n + 1, v => by rw [be, List.length_cons, be_length n v]

/-- What bytes come to. -/
def un : List UInt8 → Nat → Nat
  | [], a => a
  | c :: l, a => un l (a * 256 + c.toNat)
theorem un_append (l m : List UInt8) (a : Nat) : un (l ++ m) a = un m (un l a) := by
  induction l generalizing a with
  | nil => rfl
  | cons c l ih => simp only [List.cons_append, un]; exact ih _
theorem un_lt : ∀ (l : List UInt8) (a : Nat), un l a < (a + 1) * 256 ^ l.length
  | [], a => by simp [un]
  | c :: l, a => by
    have h := un_lt l (a * 256 + c.toNat)
    have hc := c.toNat_lt
    have h2 : (a * 256 + c.toNat + 1) * 256 ^ l.length ≤ ((a + 1) * 256) * 256 ^ l.length := Nat.mul_le_mul_right _ (by omega)
    rw [un, List.length_cons, Nat.pow_succ]
    rw [Nat.mul_assoc, Nat.mul_comm 256] at h2
    exact Nat.lt_of_lt_of_le h h2
theorem un_be (v : Int) : ∀ (n : Nat) (a : Nat), (un (be n v) a : Int) = a * 256 ^ n + v % 256 ^ n
  | 0, a => by simp [be, un, Int.emod_one]
  | n + 1, a => by
    rw [be, un, un_be v n]
    have hb := byteOf_toNat (v / 256 ^ n)
    have hp : (0 : Int) < 256 ^ n := Int.pow_pos (by omega)
    have h1 : v % 256 ^ (n + 1) = (v / 256 ^ n) % 256 * 256 ^ n + v % 256 ^ n := by
      have e1 := Int.mul_ediv_add_emod v (256 ^ n)
      have e2 := Int.mul_ediv_add_emod (v / 256 ^ n) 256
      have e3 : v = 256 ^ (n + 1) * (v / 256 ^ n / 256) + ((v / 256 ^ n) % 256 * 256 ^ n + v % 256 ^ n) := by
        rw [Int.pow_succ]
        have : 256 ^ n * 256 * (v / 256 ^ n / 256) = 256 ^ n * (256 * (v / 256 ^ n / 256)) := by rw [Int.mul_assoc]
        rw [this, show 256 * (v / 256 ^ n / 256) = v / 256 ^ n - v / 256 ^ n % 256 by omega, Int.mul_sub, Int.mul_comm (v / 256 ^ n % 256)]
        omega
      have b1 := Int.emod_nonneg v (show (256 ^ n : Int) ≠ 0 by omega)
      have b2 := Int.emod_lt_of_pos v hp
      have b3 := Int.emod_nonneg (v / 256 ^ n) (show (256 : Int) ≠ 0 by omega)
      have b4 := Int.emod_lt_of_pos (v / 256 ^ n) (show (0 : Int) < 256 by omega)
      have m1 : v / 256 ^ n % 256 * 256 ^ n ≤ 255 * 256 ^ n := Int.mul_le_mul_of_nonneg_right (by omega) (by omega)
      have m2 : 0 ≤ v / 256 ^ n % 256 * 256 ^ n := Int.mul_nonneg b3 (by omega)
      have m3 : (256 : Int) ^ (n + 1) = 256 * 256 ^ n := by rw [Int.pow_succ, Int.mul_comm]
      conv => lhs; rw [e3]
      rw [Int.add_comm, Int.add_mul_emod_self_left, Int.emod_eq_of_lt (by omega) (by omega)]
    rw [h1]
    generalize v / 256 ^ n % 256 = q at *
    generalize v % 256 ^ n = z at *
    rw [Int.natCast_add, Int.natCast_mul, hb, Int.add_mul, Int.pow_succ, Int.mul_assoc, show ((256 : Nat) : Int) * 256 ^ n = 256 ^ n * 256 from Int.mul_comm _ _]
    omega
theorem un_be_small {v : Int} {n : Nat} (h0 : 0 ≤ v) (h1 : v < 256 ^ n) : (un (be n v) 0 : Int) = v := by
  rw [un_be, Int.emod_eq_of_lt h0 h1]; simp

/-- What is read: a number with a sign where it has eight bytes. -/
def sgn (n : Nat) : Int := wrap64 (n : Int)

/-- What a reader holds: what is left, whether something was wrong. -/
structure St where
  l : List UInt8
  bad : Bool
deriving DecidableEq

def St.takes (s : St) (n : Nat) : List UInt8 := if n ≤ s.l.length then s.l.take n else []
def St.behind (s : St) (n : Nat) : St := if n ≤ s.l.length then ⟨s.l.drop n, s.bad⟩ else ⟨[], true⟩
def St.num (s : St) (n : Nat) : Nat := un (s.takes n) 0
def St.txt (s : St) (n : Nat) : List UInt8 := (s.behind n).takes (s.num n)
def St.past (s : St) (n : Nat) : St := (s.behind n).behind (s.num n)

theorem St.takes_app {l m : List UInt8} {b : Bool} {n : Nat} (h : l.length = n) : (St.mk (l ++ m) b).takes n = l := by
  subst h; simp [St.takes]
theorem St.behind_app {l m : List UInt8} {b : Bool} {n : Nat} (h : l.length = n) : (St.mk (l ++ m) b).behind n = ⟨m, b⟩ := by
  subst h; simp [St.behind]
theorem St.takes_length_le (s : St) (n : Nat) : (s.takes n).length ≤ s.l.length := by
  unfold St.takes; split <;> simp; omega
theorem St.behind_length_le (s : St) (n : Nat) : (s.behind n).l.length ≤ s.l.length := by
  unfold St.behind; split <;> simp
theorem St.takes_length (s : St) (n : Nat) : (s.takes n).length ≤ n := by
  unfold St.takes; split <;> simp; omega

/-- Text ahead of which it stands how long it is. -/
def tx (n : Nat) (l : List UInt8) : List UInt8 := be n (l.length : Int) ++ l
theorem tx_length (n : Nat) (l : List UInt8) : (tx n l).length = n + l.length := by simp [tx, be_length]
theorem num_be {v : Int} {n : Nat} {m : List UInt8} {b : Bool} (h0 : 0 ≤ v) (h1 : v < 256 ^ n) : ((St.mk (be n v ++ m) b).num n : Int) = v := by
  rw [St.num, St.takes_app (be_length n v), un_be_small h0 h1]
theorem num_be8 {v : Int} {m : List UInt8} {b : Bool} (h0 : -9223372036854775808 ≤ v) (h1 : v ≤ 9223372036854775807) : sgn ((St.mk (be 8 v ++ m) b).num 8) = v := by
  rw [St.num, St.takes_app (be_length 8 v), sgn, un_be]
  unfold wrap64
  omega
theorem behind_be (n : Nat) (v : Int) (m : List UInt8) (b : Bool) : (St.mk (be n v ++ m) b).behind n = ⟨m, b⟩ := St.behind_app (be_length n v)
theorem num_tx {n : Nat} {l m : List UInt8} {b : Bool} (h : (l.length : Int) < 256 ^ n) : (St.mk (tx n l ++ m) b).num n = l.length := by
  have := num_be (m := l ++ m) (b := b) (show (0 : Int) ≤ l.length by omega) h
  rw [tx, List.append_assoc]; omega
theorem txt_tx {n : Nat} {l m : List UInt8} {b : Bool} (h : (l.length : Int) < 256 ^ n) : (St.mk (tx n l ++ m) b).txt n = l := by
  rw [St.txt, num_tx h, tx, List.append_assoc, behind_be, St.takes_app rfl]
theorem past_tx {n : Nat} {l m : List UInt8} {b : Bool} (h : (l.length : Int) < 256 ^ n) : (St.mk (tx n l ++ m) b).past n = ⟨m, b⟩ := by
  rw [St.past, num_tx h, tx, List.append_assoc, behind_be, St.behind_app rfl]

/-! ### words -/
def isDigit (c : UInt8) : Bool := decide (48 ≤ c.toNat) && decide (c.toNat ≤ 57)
def isInner (c : UInt8) : Bool := (decide (97 ≤ c.toNat) && decide (c.toNat ≤ 122)) || decide (c.toNat = 95) || isDigit c
def isWord : List UInt8 → Bool
  | [] => false
  | c :: l => decide (l.length ≤ 11) && !isDigit c && isInner c && l.all isInner && (decide (c.toNat ≠ 114) || l.isEmpty || !(l.all isDigit))

/-! ### requests -/
structure Rq where
  kind : Int
  name : List UInt8
  text : List UInt8
  value : Int
deriving DecidableEq

def writesB (k : Int) : Bool := decide (k = 1) || decide (k = 3)
def Rq.right (r : Rq) : Bool :=
  if r.kind < 1 ∨ 7 < r.kind then false
  else if r.kind = 7 then decide (r = ⟨7, [], [], 0⟩)
  else isWord r.name && decide (r.text.length ≤ 600) && (r.text.isEmpty || writesB r.kind) && decide (-1099511627776 ≤ r.value) && decide (r.value ≤ 1099511627776) && (decide (r.value = 0) || decide (r.kind = 5))

def Rq.tail (r : Rq) : List UInt8 := (if writesB r.kind then tx 2 r.text else []) ++ (if r.kind = 5 then be 8 r.value else [])
def Rq.body (r : Rq) : List UInt8 := be 1 r.kind ++ (tx 1 r.name ++ r.tail)
def Rq.enc (r : Rq) : List UInt8 := tx 2 r.body

/-- What the body of a request reads as, and how the reader stands behind it. -/
def rqOf (l : List UInt8) : Rq × St :=
  let s0 : St := ⟨l, false⟩
  let k : Int := s0.num 1
  let s1 := s0.behind 1
  let n := s1.txt 1
  let s2 := s1.past 1
  let t := if writesB k then s2.txt 2 else []
  let s3 := if writesB k then s2.past 2 else s2
  let v := if k = 5 then sgn (s3.num 8) else 0
  let s4 := if k = 5 then s3.behind 8 else s3
  (⟨k, n, t, v⟩, s4)
def noRq : Rq := ⟨0, [], [], 0⟩
/-- A request read: it, how many bytes were used, an error's number. -/
def rqRead (b : List UInt8) : Rq × Nat × Nat :=
  let n := (St.mk b false).num 2
  if b.length < 2 then (noRq, 0, 0)
  else if 1000 < n then (noRq, 0, 8)
  else if b.length < 2 + n then (noRq, 0, 0)
  else
    let x := rqOf ((b.drop 2).take n)
    if x.2.bad || !x.2.l.isEmpty || !x.1.right then (noRq, n + 2, 12) else (x.1, n + 2, 0)

theorem isWord_len {l : List UInt8} (h : isWord l = true) : 1 ≤ l.length ∧ l.length ≤ 12 := by
  cases l with
  | nil => simp [isWord] at h
  | cons c l =>
    simp only [isWord, Bool.and_eq_true, decide_eq_true_eq] at h
    simp only [List.length_cons]; omega

theorem right_of {r : Rq} (h : r.right = true) : 1 ≤ r.kind ∧ r.kind ≤ 7 ∧ r.name.length ≤ 12 ∧ r.text.length ≤ 600 ∧ (writesB r.kind = false → r.text = []) ∧ -1099511627776 ≤ r.value ∧ r.value ≤ 1099511627776 ∧ (r.kind ≠ 5 → r.value = 0) := by
  unfold Rq.right at h
  split at h
  · cases h
  · split at h
    · have h' := of_decide_eq_true h
      rw [h']; simp
    · simp only [Bool.and_eq_true, Bool.or_eq_true, decide_eq_true_eq, List.isEmpty_iff] at h
      obtain ⟨⟨⟨⟨⟨h1, h2⟩, h3⟩, h4⟩, h5⟩, h6⟩ := h
      have := isWord_len h1
      refine ⟨by omega, by omega, by omega, h2, fun hw => ?_, h4, h5, fun hk => ?_⟩
      · rcases h3 with h3 | h3
        · exact h3
        · rw [hw] at h3; cases h3
      · rcases h6 with h6 | h6
        · exact h6
        · exact absurd h6 hk

theorem rqOf_body {r : Rq} (h : r.right = true) : rqOf r.body = (r, ⟨[], false⟩) := by
  obtain ⟨k1, k7, hn, ht, htw, hv0, hv1, hvk⟩ := right_of h
  have hk : ((St.mk r.body false).num 1 : Int) = r.kind := num_be (by omega) (by omega)
  have hN : (r.name.length : Int) < 256 ^ 1 := by omega
  have hT : (r.text.length : Int) < 256 ^ 2 := by omega
  have s1 : (St.mk r.body false).behind 1 = ⟨tx 1 r.name ++ r.tail, false⟩ := behind_be _ _ _ _
  simp only [rqOf, hk, s1, txt_tx hN, past_tx hN]
  obtain ⟨k, n, t, v⟩ := r
  simp only [Rq.tail] at *
  by_cases hw : writesB k = true
  · have h5 : ¬ k = 5 := by
      intro e; subst e; exact absurd hw (by decide)
    simp only [hw, if_true, if_neg h5]
    rw [txt_tx hT, past_tx hT, hvk h5]
  · have hw' : writesB k = false := by simpa using hw
    rw [hw']
    obtain rfl : t = [] := htw hw'
    by_cases h5 : k = 5
    · subst h5
      simp only [Bool.false_eq_true, if_false, if_true, List.nil_append]
      have e := num_be8 (v := v) (m := []) (b := false) (by omega) (by omega)
      have e2 := behind_be 8 v [] false
      rw [List.append_nil] at e e2
      rw [e, e2]
    · simp only [Bool.false_eq_true, if_false, if_neg h5, List.nil_append]
      rw [hvk h5]
theorem body_length {r : Rq} (h : r.right = true) : r.body.length ≤ 616 := by
  obtain ⟨k1, k7, hn, ht, htw, hv0, hv1, hvk⟩ := right_of h
  simp only [Rq.body, Rq.tail, List.length_append, be_length, tx_length]
  have a : (if writesB r.kind then tx 2 r.text else []).length ≤ 602 := by split <;> simp [tx_length]; omega
  by_cases h5 : r.kind = 5
  · have hw : writesB r.kind = false := by rw [h5]; decide
    rw [hw, if_pos h5, be_length]; simp; omega
  · rw [if_neg h5]; simp; omega
theorem enc_length (r : Rq) : r.enc.length = r.body.length + 2 := by rw [Rq.enc, tx_length]; omega
/-- There and back, whatever is behind. -/
theorem rqRead_enc {r : Rq} (h : r.right = true) (more : List UInt8) : rqRead (r.enc ++ more) = (r, r.enc.length, 0) := by
  have hb := body_length h
  have hB : (r.body.length : Int) < 256 ^ 2 := by omega
  have hn : (St.mk (r.enc ++ more) false).num 2 = r.body.length := num_tx hB
  have hd : ((r.enc ++ more).drop 2).take r.body.length = r.body := by
    rw [Rq.enc, tx, List.append_assoc, List.drop_left' (be_length _ _), List.take_left' rfl]
  simp only [rqRead, hn, hd, rqOf_body h, h]
  rw [if_neg (by simp [enc_length]; omega), if_neg (by omega), if_neg (by simp [enc_length]; omega)]
  simp [enc_length]
/-- Cut off anywhere it is not whole. -/
theorem rqRead_cut {r : Rq} (h : r.right = true) {k : Nat} (hk : k < r.enc.length) : rqRead (r.enc.take k) = (noRq, 0, 0) := by
  have hb := body_length h
  have hB : (r.body.length : Int) < 256 ^ 2 := by omega
  have hl : (r.enc.take k).length = k := by rw [List.length_take]; omega
  by_cases h2 : k < 2
  · simp only [rqRead]; rw [if_pos (by omega)]
  · have hn : (St.mk (r.enc.take k) false).num 2 = r.body.length := by
      have : r.enc.take k = be 2 (r.body.length : Int) ++ r.body.take (k - 2) := by
        rw [Rq.enc, tx, List.take_append, be_length, List.take_of_length_le (by rw [be_length]; omega)]
      rw [this]
      have := num_be (v := r.body.length) (n := 2) (m := r.body.take (k - 2)) (b := false) (by omega) (by omega)
      omega
    simp only [rqRead, hn, hl]
    rw [if_neg h2, if_neg (by omega), if_pos (by rw [enc_length] at hk; omega)]
theorem enc_inj {a b : Rq} (ha : a.right = true) (hb : b.right = true) (h : a.enc = b.enc) : a = b := by
  have h1 := rqRead_enc ha []
  have h2 := rqRead_enc hb []
  rw [h, h2] at h1
  simpa using (Prod.mk.inj h1).1.symm

/-! ### responses -/
structure Dg where
  frag : List UInt8
  line : Int
  e : Int
deriving DecidableEq
structure Rs where
  e : Int
  text : List UInt8
  image : List UInt8
  diags : List Dg
deriving DecidableEq
def Dg.enc (d : Dg) : List UInt8 := tx 1 d.frag ++ (be 2 d.line ++ be 1 d.e)
def encs (l : List Dg) : List UInt8 := l.flatMap Dg.enc
def Rs.body (r : Rs) : List UInt8 := be 1 r.e ++ (tx 2 r.text ++ (tx 2 r.image ++ (be 2 (r.diags.length : Int) ++ encs r.diags)))
def Rs.enc (r : Rs) : List UInt8 := tx 3 r.body
def Dg.right (d : Dg) : Bool := (d.frag.isEmpty || isWord d.frag) && decide (0 ≤ d.line) && decide (d.line ≤ 5000)

def dgOf (s : St) : Dg × St :=
  let f := s.txt 1
  let s1 := s.past 1
  let s2 := s1.behind 2
  let d : Dg := ⟨f, s1.num 2, s2.num 1⟩
  let s3 := s2.behind 1
  (d, ⟨s3.l, s3.bad || !d.right⟩)
/-- So many diagnostics at most, while nothing is wrong. -/
def dgsOf : Nat → St → List Dg × St
  | 0, s => ([], s)
  | n + 1, s => if s.bad then ([], s) else
    let x := dgOf s
    let y := dgsOf n x.2
    (x.1 :: y.1, y.2)
def rsOf (l : List UInt8) : Rs × Nat × St :=
  let s0 : St := ⟨l, false⟩
  let e : Int := s0.num 1
  let s1 := s0.behind 1
  let t := s1.txt 2
  let s2 := s1.past 2
  let i := s2.txt 2
  let s3 := s2.past 2
  let c := s3.num 2
  let s4 := s3.behind 2
  let y := if c ≤ 5000 then dgsOf c s4 else ([], s4)
  (⟨e, t, i, y.1⟩, c, y.2)
def noRs : Rs := ⟨0, [], [], []⟩
def rsRead (b : List UInt8) : Rs × Nat × Bool :=
  let s0 : St := ⟨b, false⟩
  let n := s0.num 3
  if b.length < 3 ∨ b.length < 3 + n then (noRs, 0, false)
  else
    let x := rsOf ((b.drop 3).take n)
    if x.2.2.bad || !x.2.2.l.isEmpty || decide (5000 < x.2.1) || decide (600 < x.1.text.length) || decide (4096 < x.1.image.length) then (noRs, 0, false) else (x.1, n + 3, true)

structure Rs.Ok (r : Rs) : Prop where
  e0 : 0 ≤ r.e
  e1 : r.e ≤ 255
  t : r.text.length ≤ 600
  i : r.image.length ≤ 4096
  n : r.diags.length ≤ 5000
  d : ∀ d ∈ r.diags, d.right = true ∧ 0 ≤ d.e ∧ d.e ≤ 255

theorem dg_right {d : Dg} (h : d.right = true) : d.frag.length ≤ 12 ∧ 0 ≤ d.line ∧ d.line ≤ 5000 := by
  simp only [Dg.right, Bool.and_eq_true, Bool.or_eq_true, decide_eq_true_eq, List.isEmpty_iff] at h
  obtain ⟨⟨h1, h2⟩, h3⟩ := h
  refine ⟨?_, h2, h3⟩
  rcases h1 with h1 | h1
  · rw [h1]; simp
  · exact (isWord_len h1).2
theorem dgOf_enc {d : Dg} (h : d.right = true) (e0 : 0 ≤ d.e) (e1 : d.e ≤ 255) (m : List UInt8) : dgOf ⟨d.enc ++ m, false⟩ = (d, ⟨m, false⟩) := by
  obtain ⟨h1, h2, h3⟩ := dg_right h
  have hF : (d.frag.length : Int) < 256 ^ 1 := by omega
  simp only [dgOf, Dg.enc, List.append_assoc, txt_tx hF, past_tx hF, behind_be]
  rw [num_be h2 (by omega), num_be e0 (by omega)]
  simp [h]
theorem dgsOf_encs : ∀ (l : List Dg), (∀ d ∈ l, d.right = true ∧ 0 ≤ d.e ∧ d.e ≤ 255) → ∀ m : List UInt8, dgsOf l.length ⟨encs l ++ m, false⟩ = (l, ⟨m, false⟩)
  | [], _, m => rfl
  | d :: l, h, m => by
    obtain ⟨h1, h2, h3⟩ := h d (by simp)
    have e : encs (d :: l) ++ m = d.enc ++ (encs l ++ m) := by simp [encs]
    simp only [List.length_cons, dgsOf, e, dgOf_enc h1 h2 h3, Bool.false_eq_true, if_false]
    rw [dgsOf_encs l (fun d hd => h d (by simp [hd])) m]
theorem rsOf_body {r : Rs} (h : r.Ok) : rsOf r.body = (r, r.diags.length, ⟨[], false⟩) := by
  obtain ⟨h1, h2, h3, h4, h5, h6⟩ := h
  have hT : (r.text.length : Int) < 256 ^ 2 := by omega
  have hI : (r.image.length : Int) < 256 ^ 2 := by omega
  have hE : ((St.mk r.body false).num 1 : Int) = r.e := num_be h1 (by omega)
  have s1 : (St.mk r.body false).behind 1 = ⟨tx 2 r.text ++ (tx 2 r.image ++ (be 2 (r.diags.length : Int) ++ encs r.diags)), false⟩ := behind_be _ _ _ _
  have hc : (St.mk (be 2 (r.diags.length : Int) ++ encs r.diags) false).num 2 = r.diags.length := by
    have := num_be (v := r.diags.length) (n := 2) (m := encs r.diags) (b := false) (by omega) (by omega)
    omega
  have hd := dgsOf_encs r.diags h6 []
  rw [List.append_nil] at hd
  simp only [rsOf, hE, s1, txt_tx hT, past_tx hT, txt_tx hI, past_tx hI, hc, behind_be, if_pos h5, hd]
theorem encs_length : ∀ l : List Dg, (encs l).length = (l.map fun d => 4 + d.frag.length).sum
  | [] => rfl
  | d :: l => by
    have := encs_length l
    simp only [encs, List.flatMap_cons, List.length_append, List.map_cons, List.sum_cons] at *
    rw [this]; simp only [Dg.enc, List.length_append, tx_length, be_length]; omega
theorem encs_le : ∀ l : List Dg, (∀ d ∈ l, d.right = true ∧ 0 ≤ d.e ∧ d.e ≤ 255) → (encs l).length ≤ 16 * l.length
  | [], _ => by simp [encs]
  | d :: l, h => by
    have h1 := encs_le l (fun d hd => h d (by simp [hd]))
    have h2 := (dg_right (h d (by simp)).1).1
    simp only [encs, List.flatMap_cons, List.length_append, List.length_cons] at *
    simp only [Dg.enc, List.length_append, tx_length, be_length]; omega
theorem rsbody_length (r : Rs) : r.body.length = 7 + r.text.length + r.image.length + (encs r.diags).length := by
  simp only [Rs.body, List.length_append, be_length, tx_length]; omega
theorem rsenc_length (r : Rs) : r.enc.length = 10 + r.text.length + r.image.length + (encs r.diags).length := by
  rw [Rs.enc, tx_length, rsbody_length]; omega
theorem rsRead_enc {r : Rs} (h : r.Ok) (more : List UInt8) : rsRead (r.enc ++ more) = (r, r.enc.length, true) := by
  have hx := encs_le r.diags h.d
  have h3 := h.t
  have h4 := h.i
  have h5 := h.n
  have hb : r.body.length ≤ 90000 := by rw [rsbody_length]; omega
  have hB : (r.body.length : Int) < 256 ^ 3 := by omega
  have hn : (St.mk (r.enc ++ more) false).num 3 = r.body.length := num_tx hB
  have hd : ((r.enc ++ more).drop 3).take r.body.length = r.body := by
    rw [Rs.enc, tx, List.append_assoc, List.drop_left' (be_length _ _), List.take_left' rfl]
  have hl : r.enc.length = r.body.length + 3 := by rw [Rs.enc, tx_length]; omega
  simp only [rsRead, hn, hd, rsOf_body h]
  rw [if_neg (by simp [hl]; omega), if_neg (by simp; omega), hl]
theorem rsenc_inj {a b : Rs} (ha : a.Ok) (hb : b.Ok) (h : a.enc = b.enc) : a = b := by
  have h1 := rsRead_enc ha []
  have h2 := rsRead_enc hb []
  rw [h, h2] at h1
  simpa using (Prod.mk.inj h1).1.symm
end Go.Proofs.Ytifdkkkcecpjoaa
