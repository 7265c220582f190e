/-
  The store's contracts once more, each at the answer that is known, and small facts for the laws' loops.
-/
import Derived.Test.YtghddmlndafefaaStG
namespace Go.Proofs.Ytghddmlndafefaa
open Go.RowKit Go.Maps

theorem wf_bounds {a : Int} (h : (Lit.int .i64 a).wf = true) : -9223372036854775808 ≤ a ∧ a ≤ 9223372036854775807 := by
  have e1 : IntKind.i64.min = -9223372036854775808 := by decide
  have e2 : IntKind.i64.max = 9223372036854775807 := by decide
  simp [Lit.wf, e1, e2] at h
  omega

def RetI (n : Int) (w : World) (e : Ending) (w' : World) : Prop := e = .returned (.int .i64 n) ∧ w = w'
def RetB (b : Bool) (w : World) (e : Ending) (w' : World) : Prop := e = .returned (.bool b) ∧ w = w'
def RetSB (v : ByteArray) (b : Bool) (w : World) (e : Ending) (w' : World) : Prop := e = .returned (.tuple #[.string v, .bool b]) ∧ w = w'

section
variable {base : Nat} {s : Sto} {D PD : DataW Value} {w : World}
theorem now_as (h : Holds w base s D PD) (n : Int) (hn : s.now = n) : Calls Try.prog 19 #[.pointer (some ⟨s.sb, 0, none⟩)] w (RetI n w) := by
  subst hn; exact now_any h
theorem count_as (h : Holds w base s D PD) (n : Int) (hn : s.L.length = n) : Calls Try.prog 23 #[.pointer (some ⟨s.sb, 0, none⟩)] w (IntBelow n w) := by
  subst hn; exact count_any h
theorem read_as (h : Holds w base s D PD) (key : ByteArray) (hk : key.size ≤ maxLen) (at_ : Int) (v : ByteArray) (b : Bool) (hr : readOf (vis (ofKey s.L key) at_) = (v, b)) :
    Calls Try.prog 21 #[.pointer (some ⟨s.sb, 0, none⟩), .string key, .int .i64 at_] w (RetSB v b w) := by
  have := read_any h key hk at_
  unfold readEnd at this
  rw [hr] at this
  exact this
theorem changed_as (h : Holds w base s D PD) (key : ByteArray) (hk : key.size ≤ maxLen) (since : Int) (b : Bool) (hr : changedOf (ofKey s.L key) since = b) :
    Calls Try.prog 22 #[.pointer (some ⟨s.sb, 0, none⟩), .string key, .int .i64 since] w (RetB b w) := by
  subst hr; exact changed_any h key hk since
end

/-- A store without pins that was written to from its beginning on: so many commits, these versions. -/
def stoAt (s0 : Sto) (n : Nat) (L : List Ver) : Sto := { s0 with now := n, L := L }

theorem letter_size (k : Nat) : (letter k).size ≤ maxLen := by
  have : (letter k).size ≤ 5 := by simp [letter]; omega
  unfold maxLen; omega
theorem size_small {x : ByteArray} (h : x.size ≤ 100) : x.size ≤ maxLen := by unfold maxLen; omega
end Go.Proofs.Ytghddmlndafefaa
